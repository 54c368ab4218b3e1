/-
  For all rooms and all steps the law LanesAdds answers true and leaves all memory as it was.
-/
import Derived.Test.YtbbiennjigpheaaSx
import Derived.Test.YtbbiennjigpheaaLanH
import Derived.Test.YtbbiennjigpheaaLanS
import Derived.Test.YtbbiennjigpheaaRows
import Derived.WalkKit
import Derived.ProofKit
import Derived.OpenShut
namespace Go.Proofs.Ytbbiennjigpheaa.lanesAdds
open Go.ChangeShapes Go.WideShapes Go.ChangeAt Go.RowKit Go.Sx
set_option linter.unusedVariables false
set_option linter.unusedSimpArgs false
set_option maxRecDepth 100000

structure ST where
  len : Nat
  cap : Nat
  N : Nat
  k : Nat → Int
  c : Nat → Int
  id : Nat → Int
  sz : Nat → Int
  dr : Nat → Bool
  l0 : Nat → Int
  l1 : Nat → Int
  l2 : Nat → Int
  l3 : Nat → Int
  l4 : Nat → Int
  l5 : Nat → Int
  l6 : Nat → Int
  l7 : Nat → Int
def roT (a : ST) : Option Reg := some ⟨false, .tab a.N [.int .i64 a.k, .int .i64 a.c, .int .i64 a.id, .int .i64 a.sz, .bool a.dr, .int .i64 a.l0, .int .i64 a.l1, .int .i64 a.l2, .int .i64 a.l3, .int .i64 a.l4, .int .i64 a.l5, .int .i64 a.l6, .int .i64 a.l7]⟩
def Tw (a : ST) : Prop := a.len ≤ a.cap ∧ a.len ≤ a.N ∧ a.cap ≤ 9223372036854775807
theorem den_as {a b c d e f g h : Int} {A : Option Addr} {n cap : Nat} : #[SV.den (envOf [A]) (a8C ⟨a, b, c, d, e, f, g, h⟩), SV.den (envOf [A]) (.one (.a (.slc 0 13 0 n cap)))] = #[.agg #[.int .i64 a, .int .i64 b, .int .i64 c, .int .i64 d, .int .i64 e, .int .i64 f, .int .i64 g, .int .i64 h], .slice A n cap] := by
  show #[Value.agg _, SA.den (envOf [A]) (.slc 0 13 0 n cap)] = _
  rw [den_slc (A := A) rfl]; rfl
structure LX where
  i : Nat
  put : Int
  out : Int
  l : Ln
structure LW where
  c : Nat
  put : Int
  out : Int
  l : Ln
abbrev laA (st : ST) : LA where
  ι := LX
  inv := fun x => x.i ≤ st.len ∧ (0 ≤ x.put ∧ x.put ≤ x.i) ∧ 0 ≤ x.out ∧ x.put = x.out + sumN x.l 8
  T := fun x => ⟨83, [(5, .one (.a (.ptr 1 0))), (7, int_ .i64 x.put), (8, int_ .i64 x.out), (30, .one (.a (.slc 0 13 0 st.len st.cap))), (31, int_ .i64 st.len), (32, int_ .i64 x.i)], [roT st, some ⟨true, .obj 15 (lnP x.l) (boxI lnK)⟩]⟩
  μ := fun x => st.len - x.i
  ren := fun S => [0, S.ix 5]
abbrev laW (st : ST) : LA where
  ι := LW
  inv := fun x => x.c ≤ 8 ∧ (0 ≤ x.put ∧ x.put ≤ 100) ∧ 0 ≤ x.out ∧ x.put = x.out + sumN x.l 8
  T := fun x => ⟨83, [(5, .one (.a (.ptr 1 0))), (7, int_ .i64 x.put), (8, int_ .i64 x.out), (14, int_ .i64 (sumN x.l x.c)), (15, int_ .i64 x.c)], [roT st, some ⟨true, .obj 15 (lnP x.l) (boxI lnK)⟩]⟩
  μ := fun x => 8 - x.c
  ren := fun S => [0, S.ix 5]
noncomputable def cxL (st : ST) : Cx Try.prog := { ps := [hdS, eightS, lenS], es := [newS, putS, pickS, clrS], is := [], n0 := 1, loops := fun i => match i with | 9 => some (.inv (laA st)) | 24 => some (.inv (laW st)) | _ => none, cuts := fun _ => none }
attribute [local irreducible] enter roomsOK putE putL pk popL sumN lenV clrL new0 pkC pkI pkB
set_option maxHeartbeats 8000000 in
theorem runs (a : A8) (st : ST) (hw : Tw st) : Runs (cxL st) Try.f5 [a8C a, .one (.a (.slc 0 13 0 st.len st.cap))] [roT st] yes := by
  obtain ⟨w1, w2, w3⟩ := hw
  repeat' (first | with_reducible exact trivial | with_reducible exact rfl | with_reducible exact Nat.le_refl _ | with_reducible exact (fun _ _ => rfl) | ((conv => whnf); first | (refine fun (x : LX) => ?_) | (refine fun (y : LW) => ?_) | (exact fun h => absurd h (by decide)) | (intro h9; (have h8 := of_decide_eq_true (p := type_of% h9) (by decide)); clear h8 h9) | (refine fun _ => ?_) | refine ⟨?_, ?_⟩ | exact trivial | exact Nat.le_refl _ | exact lex_q (by kernel_rfl) | exact lex_t (by kernel_rfl) | exact lex_h (by kernel_rfl) | fail))
  all_goals (try exact absurd (by assumption : (!true) = true) (by decide))
  all_goals (try (have hi := (by assumption : (laA st).inv x); dsimp only [laA] at hi; obtain ⟨i1, ⟨i2, i3⟩, i4, i5⟩ := hi))
  all_goals (try omega)
  · (conv => whnf); refine enter_mk (la := laA st) ⟨0, 0, 0, new0 a⟩ ?_ (by (repeat' (first | ((conv => whnf); first | refine ⟨?_, ?_⟩ | exact trivial | fail) | (dsimp only; done) | ((try dsimp only); first | with_reducible exact rfl | exact Nat.le_refl _ | with_reducible exact (fun _ _ => rfl)))); all_goals ((first | rfl | (show st.len - (x.i + 1) < st.len - x.i; omega) | (show 8 - (y.c + 1) < 8 - y.c; omega) | (dsimp only; rw [w64' (by omega) (by omega)]; done) | (dsimp only; rw [w64' (by omega) (by omega)]; omega))))
    exact ⟨Nat.zero_le _, ⟨Int.le_refl _, Int.le_refl _⟩, Int.le_refl _, by show (0 : Int) = 0 + sumN (new0 a) 8; rw [sum_new]; rfl⟩
  · have e : putE x.l (st.c (0 + (x.i : Int).toNat)) ⟨st.id (0 + (x.i : Int).toNat), st.sz (0 + (x.i : Int).toNat), st.dr (0 + (x.i : Int).toNat)⟩ = 0 := by assumption
    have e2 := sum_put e
    (conv => whnf); refine enter_mk (la := laA st) ⟨x.i + 1, x.put + 1, x.out, putL x.l (st.c (0 + (x.i : Int).toNat)) ⟨st.id (0 + (x.i : Int).toNat), st.sz (0 + (x.i : Int).toNat), st.dr (0 + (x.i : Int).toNat)⟩⟩ ?_ (by (repeat' (first | ((conv => whnf); first | refine ⟨?_, ?_⟩ | exact trivial | fail) | (dsimp only; done) | ((try dsimp only); first | with_reducible exact rfl | exact Nat.le_refl _ | with_reducible exact (fun _ _ => rfl)))); all_goals ((first | rfl | (show st.len - (x.i + 1) < st.len - x.i; omega) | (show 8 - (y.c + 1) < 8 - y.c; omega) | (dsimp only; rw [w64' (by omega) (by omega)]; done) | (dsimp only; rw [w64' (by omega) (by omega)]; omega))))
    exact ⟨by show x.i + 1 ≤ st.len; omega, ⟨by show 0 ≤ x.put + 1; omega, by show x.put + 1 ≤ ((x.i + 1 : Nat) : Int); omega⟩, i4, by show x.put + 1 = x.out + sumN (putL x.l (st.c (0 + (x.i : Int).toNat)) ⟨st.id (0 + (x.i : Int).toNat), st.sz (0 + (x.i : Int).toNat), st.dr (0 + (x.i : Int).toNat)⟩) 8; omega⟩
  · have e : putE x.l (st.c (0 + (x.i : Int).toNat)) ⟨st.id (0 + (x.i : Int).toNat), st.sz (0 + (x.i : Int).toNat), st.dr (0 + (x.i : Int).toNat)⟩ ≠ 0 := by assumption
    have e2 := sum_put' e
    (conv => whnf); refine enter_mk (la := laA st) ⟨x.i + 1, x.put, x.out, putL x.l (st.c (0 + (x.i : Int).toNat)) ⟨st.id (0 + (x.i : Int).toNat), st.sz (0 + (x.i : Int).toNat), st.dr (0 + (x.i : Int).toNat)⟩⟩ ?_ (by (repeat' (first | ((conv => whnf); first | refine ⟨?_, ?_⟩ | exact trivial | fail) | (dsimp only; done) | ((try dsimp only); first | with_reducible exact rfl | exact Nat.le_refl _ | with_reducible exact (fun _ _ => rfl)))); all_goals ((first | rfl | (show st.len - (x.i + 1) < st.len - x.i; omega) | (show 8 - (y.c + 1) < 8 - y.c; omega) | (dsimp only; rw [w64' (by omega) (by omega)]; done) | (dsimp only; rw [w64' (by omega) (by omega)]; omega))))
    exact ⟨by show x.i + 1 ≤ st.len; omega, ⟨i2, by show x.put ≤ ((x.i + 1 : Nat) : Int); omega⟩, i4, by show x.put = x.out + sumN (putL x.l (st.c (0 + (x.i : Int).toNat)) ⟨st.id (0 + (x.i : Int).toNat), st.sz (0 + (x.i : Int).toNat), st.dr (0 + (x.i : Int).toNat)⟩) 8; omega⟩
  · have e : putE x.l (st.c (0 + (x.i : Int).toNat)) ⟨st.id (0 + (x.i : Int).toNat), st.sz (0 + (x.i : Int).toNat), st.dr (0 + (x.i : Int).toNat)⟩ = 0 := by assumption
    have e2 := sum_put e
    (conv => whnf); refine enter_mk (la := laA st) ⟨x.i + 1, x.put + 1, x.out, putL x.l (st.c (0 + (x.i : Int).toNat)) ⟨st.id (0 + (x.i : Int).toNat), st.sz (0 + (x.i : Int).toNat), st.dr (0 + (x.i : Int).toNat)⟩⟩ ?_ (by (repeat' (first | ((conv => whnf); first | refine ⟨?_, ?_⟩ | exact trivial | fail) | (dsimp only; done) | ((try dsimp only); first | with_reducible exact rfl | exact Nat.le_refl _ | with_reducible exact (fun _ _ => rfl)))); all_goals ((first | rfl | (show st.len - (x.i + 1) < st.len - x.i; omega) | (show 8 - (y.c + 1) < 8 - y.c; omega) | (dsimp only; rw [w64' (by omega) (by omega)]; done) | (dsimp only; rw [w64' (by omega) (by omega)]; omega))))
    exact ⟨by show x.i + 1 ≤ st.len; omega, ⟨by show 0 ≤ x.put + 1; omega, by show x.put + 1 ≤ ((x.i + 1 : Nat) : Int); omega⟩, i4, by show x.put + 1 = x.out + sumN (putL x.l (st.c (0 + (x.i : Int).toNat)) ⟨st.id (0 + (x.i : Int).toNat), st.sz (0 + (x.i : Int).toNat), st.dr (0 + (x.i : Int).toNat)⟩) 8; omega⟩
  · have e : putE x.l (st.c (0 + (x.i : Int).toNat)) ⟨st.id (0 + (x.i : Int).toNat), st.sz (0 + (x.i : Int).toNat), st.dr (0 + (x.i : Int).toNat)⟩ ≠ 0 := by assumption
    have e2 := sum_put' e
    (conv => whnf); refine enter_mk (la := laA st) ⟨x.i + 1, x.put, x.out, putL x.l (st.c (0 + (x.i : Int).toNat)) ⟨st.id (0 + (x.i : Int).toNat), st.sz (0 + (x.i : Int).toNat), st.dr (0 + (x.i : Int).toNat)⟩⟩ ?_ (by (repeat' (first | ((conv => whnf); first | refine ⟨?_, ?_⟩ | exact trivial | fail) | (dsimp only; done) | ((try dsimp only); first | with_reducible exact rfl | exact Nat.le_refl _ | with_reducible exact (fun _ _ => rfl)))); all_goals ((first | rfl | (show st.len - (x.i + 1) < st.len - x.i; omega) | (show 8 - (y.c + 1) < 8 - y.c; omega) | (dsimp only; rw [w64' (by omega) (by omega)]; done) | (dsimp only; rw [w64' (by omega) (by omega)]; omega))))
    exact ⟨by show x.i + 1 ≤ st.len; omega, ⟨i2, by show x.put ≤ ((x.i + 1 : Nat) : Int); omega⟩, i4, by show x.put = x.out + sumN (putL x.l (st.c (0 + (x.i : Int).toNat)) ⟨st.id (0 + (x.i : Int).toNat), st.sz (0 + (x.i : Int).toNat), st.dr (0 + (x.i : Int).toNat)⟩) 8; omega⟩
  · have e : pkB (pk x.l ⟨st.l0 (0 + (x.i : Int).toNat), st.l1 (0 + (x.i : Int).toNat), st.l2 (0 + (x.i : Int).toNat), st.l3 (0 + (x.i : Int).toNat), st.l4 (0 + (x.i : Int).toNat), st.l5 (0 + (x.i : Int).toNat), st.l6 (0 + (x.i : Int).toNat), st.l7 (0 + (x.i : Int).toNat)⟩) = true := by assumption
    have e2 := sum_pop e
    have e3 := sum_pos (popL x.l (pk x.l ⟨st.l0 (0 + (x.i : Int).toNat), st.l1 (0 + (x.i : Int).toNat), st.l2 (0 + (x.i : Int).toNat), st.l3 (0 + (x.i : Int).toNat), st.l4 (0 + (x.i : Int).toNat), st.l5 (0 + (x.i : Int).toNat), st.l6 (0 + (x.i : Int).toNat), st.l7 (0 + (x.i : Int).toNat)⟩))
    (conv => whnf); refine enter_mk (la := laA st) ⟨x.i + 1, x.put, x.out + 1, popL x.l (pk x.l ⟨st.l0 (0 + (x.i : Int).toNat), st.l1 (0 + (x.i : Int).toNat), st.l2 (0 + (x.i : Int).toNat), st.l3 (0 + (x.i : Int).toNat), st.l4 (0 + (x.i : Int).toNat), st.l5 (0 + (x.i : Int).toNat), st.l6 (0 + (x.i : Int).toNat), st.l7 (0 + (x.i : Int).toNat)⟩)⟩ ?_ (by (repeat' (first | ((conv => whnf); first | refine ⟨?_, ?_⟩ | exact trivial | fail) | (dsimp only; done) | ((try dsimp only); first | with_reducible exact rfl | exact Nat.le_refl _ | with_reducible exact (fun _ _ => rfl)))); all_goals ((first | rfl | (show st.len - (x.i + 1) < st.len - x.i; omega) | (show 8 - (y.c + 1) < 8 - y.c; omega) | (dsimp only; rw [w64' (by omega) (by omega)]; done) | (dsimp only; rw [w64' (by omega) (by omega)]; omega))))
    exact ⟨by show x.i + 1 ≤ st.len; omega, ⟨i2, by show x.put ≤ ((x.i + 1 : Nat) : Int); omega⟩, by show 0 ≤ x.out + 1; omega, by show x.put = x.out + 1 + sumN (popL x.l (pk x.l ⟨st.l0 (0 + (x.i : Int).toNat), st.l1 (0 + (x.i : Int).toNat), st.l2 (0 + (x.i : Int).toNat), st.l3 (0 + (x.i : Int).toNat), st.l4 (0 + (x.i : Int).toNat), st.l5 (0 + (x.i : Int).toNat), st.l6 (0 + (x.i : Int).toNat), st.l7 (0 + (x.i : Int).toNat)⟩)) 8; omega⟩
  · have e : pkB (pk x.l ⟨st.l0 (0 + (x.i : Int).toNat), st.l1 (0 + (x.i : Int).toNat), st.l2 (0 + (x.i : Int).toNat), st.l3 (0 + (x.i : Int).toNat), st.l4 (0 + (x.i : Int).toNat), st.l5 (0 + (x.i : Int).toNat), st.l6 (0 + (x.i : Int).toNat), st.l7 (0 + (x.i : Int).toNat)⟩) = false := by assumption
    have e2 := sum_pop' e
    (conv => whnf); refine enter_mk (la := laA st) ⟨x.i + 1, x.put, x.out, popL x.l (pk x.l ⟨st.l0 (0 + (x.i : Int).toNat), st.l1 (0 + (x.i : Int).toNat), st.l2 (0 + (x.i : Int).toNat), st.l3 (0 + (x.i : Int).toNat), st.l4 (0 + (x.i : Int).toNat), st.l5 (0 + (x.i : Int).toNat), st.l6 (0 + (x.i : Int).toNat), st.l7 (0 + (x.i : Int).toNat)⟩)⟩ ?_ (by (repeat' (first | ((conv => whnf); first | refine ⟨?_, ?_⟩ | exact trivial | fail) | (dsimp only; done) | ((try dsimp only); first | with_reducible exact rfl | exact Nat.le_refl _ | with_reducible exact (fun _ _ => rfl)))); all_goals ((first | rfl | (show st.len - (x.i + 1) < st.len - x.i; omega) | (show 8 - (y.c + 1) < 8 - y.c; omega) | (dsimp only; rw [w64' (by omega) (by omega)]; done) | (dsimp only; rw [w64' (by omega) (by omega)]; omega))))
    exact ⟨by show x.i + 1 ≤ st.len; omega, ⟨i2, by show x.put ≤ ((x.i + 1 : Nat) : Int); omega⟩, i4, by show x.put = x.out + sumN (popL x.l (pk x.l ⟨st.l0 (0 + (x.i : Int).toNat), st.l1 (0 + (x.i : Int).toNat), st.l2 (0 + (x.i : Int).toNat), st.l3 (0 + (x.i : Int).toNat), st.l4 (0 + (x.i : Int).toNat), st.l5 (0 + (x.i : Int).toNat), st.l6 (0 + (x.i : Int).toNat), st.l7 (0 + (x.i : Int).toNat)⟩)) 8; rw [e2]; exact i5⟩
  · have e3 := sum_pos x.l
    (conv => whnf); refine enter_mk (la := laA st) ⟨x.i + 1, x.put, x.out + sumN x.l 8, clrL x.l⟩ ?_ (by (repeat' (first | ((conv => whnf); first | refine ⟨?_, ?_⟩ | exact trivial | fail) | (dsimp only; done) | ((try dsimp only); first | with_reducible exact rfl | exact Nat.le_refl _ | with_reducible exact (fun _ _ => rfl)))); all_goals ((first | (show x.out + sumN x.l 8 = IntKind.i64.wrap (x.out + sumN x.l 8); rw [w64' (by omega) (by omega)]; done) | first | rfl | (show st.len - (x.i + 1) < st.len - x.i; omega) | (show 8 - (y.c + 1) < 8 - y.c; omega) | (dsimp only; rw [w64' (by omega) (by omega)]; done) | (dsimp only; rw [w64' (by omega) (by omega)]; omega))))
    exact ⟨by show x.i + 1 ≤ st.len; omega, ⟨i2, by show x.put ≤ ((x.i + 1 : Nat) : Int); omega⟩, by show 0 ≤ x.out + sumN x.l 8; omega, by show x.put = x.out + sumN x.l 8 + sumN (clrL x.l) 8; rw [sum_clr]; omega⟩
  · (conv => whnf); refine enter_mk (la := laW st) ⟨0, x.put, x.out, x.l⟩ ?_ (by (repeat' (first | ((conv => whnf); first | refine ⟨?_, ?_⟩ | exact trivial | fail) | (dsimp only; done) | ((try dsimp only); first | with_reducible exact rfl | exact Nat.le_refl _ | with_reducible exact (fun _ _ => rfl)))); all_goals ((first | exact (sum_0 _).symm | exact sum_0 _ | first | rfl | (show st.len - (x.i + 1) < st.len - x.i; omega) | (show 8 - (y.c + 1) < 8 - y.c; omega) | (dsimp only; rw [w64' (by omega) (by omega)]; done) | (dsimp only; rw [w64' (by omega) (by omega)]; omega))))
    exact ⟨Nat.zero_le _, ⟨i2, by show x.put ≤ 100; omega⟩, i4, i5⟩
  · have hj := (by assumption : (laW st).inv y)
    dsimp only [laW] at hj
    obtain ⟨j1, ⟨j2, j3⟩, j4, j5⟩ := hj
    have j6 := sum_mono y.l y.c j1
    have j7 := sum_mono y.l (y.c + 1) (by omega)
    have j8 := sum_len y.l (c := y.c) (by omega)
    (conv => whnf); refine enter_mk (la := laW st) ⟨y.c + 1, y.put, y.out, y.l⟩ ?_ (by (repeat' (first | ((conv => whnf); first | refine ⟨?_, ?_⟩ | exact trivial | fail) | (dsimp only; done) | ((try dsimp only); first | with_reducible exact rfl | exact Nat.le_refl _ | with_reducible exact (fun _ _ => rfl)))); all_goals ((first | (show sumN y.l (y.c + 1) = IntKind.i64.wrap (sumN y.l y.c + lenV y.l y.c); rw [w64' (by omega) (by omega)]; omega) | first | rfl | (show st.len - (x.i + 1) < st.len - x.i; omega) | (show 8 - (y.c + 1) < 8 - y.c; omega) | (dsimp only; rw [w64' (by omega) (by omega)]; done) | (dsimp only; rw [w64' (by omega) (by omega)]; omega))))
    exact ⟨by show y.c + 1 ≤ 8; omega, ⟨j2, j3⟩, j4, j5⟩
  · have hj := (by assumption : (laW st).inv y)
    dsimp only [laW] at hj
    obtain ⟨j1, ⟨j2, j3⟩, j4, j5⟩ := hj
    have j9 : y.c = 8 := by omega
    have e3 := sum_pos y.l
    rw [j9, w64' (by omega) (by omega)]
    exact (decide_eq_true j5).symm

theorem own : ownKnob Try.prog.godebug = none := by kernel_rfl

set_option maxRecDepth 100000 in
theorem lifted (os : Os) (started : os.Started) (H : Type) (enc : TypeId × Value → H) :
    ReturnsInHanded {} Try.checked os 5 .any (Rows.lanesAddsSpec.pre6 enc Try.prog Try.f5 Rows.lanesAddsRow.domain false) (Rows.lanesAddsSpec.post enc Try.prog Try.f5 false true false false) := by
  refine returnsInHanded_of_change (C := Try.checked) own started (by kernel_rfl) Try.func5
    (ChangeSpec.witness6 (enc := enc) (C := Try.checked) false ⟨#[], #[.agg #[.int .i64 0, .int .i64 0, .int .i64 0, .int .i64 0, .int .i64 0, .int .i64 0, .int .i64 0, .int .i64 0], .slice none 0 0], []⟩ 8 (by kernel_rfl) (by kernel_rfl) (by kernel_rfl) (by kernel_rfl)) ?_
  intro W base args ds gs before hval0 hW hcnd _
  have hval : ∀ (j : Nat) t v, Try.f5.params[j]? = some t → args[j]? = some v → Value.okWide Try.prog W .any base t v := hval0
  have hW' := hW
  obtain ⟨p, q, hA0, hV, rfl, hfz, hnd⟩ := hW
  have hA : DataW.TrodAll enc Try.prog W 0 (fun _ => true) true Try.f5.params.toList args.toList ds p := hA0
  rw [Try.params5] at hA hval
  obtain ⟨v0, vs0, d0, ds0, p0, q0, hargs0, rfl, rfl, h0, r0⟩ := trodAll_cons hA
  obtain ⟨v1, vs1, d1, ds1, p1, q1, hargs1, rfl, rfl, h1, r1⟩ := trodAll_cons r0
  obtain ⟨rfl, rfl, rfl⟩ := trodAll_nil r1
  obtain ⟨rfl, rfl⟩ := trodVars_none hV
  obtain rfl : args = #[v0, v1] := by cases args; simp_all
  obtain ⟨cs0, hv0, hl0, hc0⟩ := agg_open (d := 6) (row := [some .i64, some .i64, some .i64, some .i64, some .i64, some .i64, some .i64, some .i64]) (by kernel_rfl) (by kernel_rfl) (hval 0 28 v0 rfl rfl) h0
  have g0_0 := listIs_of hl0 hc0
  clear hl0 hc0
  obtain ⟨_, cs0_1, rfl, ⟨b0_0, rfl, w0_0⟩, g0_1⟩ := listIs_cons g0_0
  obtain ⟨_, cs0_2, rfl, ⟨b0_1, rfl, w0_1⟩, g0_2⟩ := listIs_cons g0_1
  obtain ⟨_, cs0_3, rfl, ⟨b0_2, rfl, w0_2⟩, g0_3⟩ := listIs_cons g0_2
  obtain ⟨_, cs0_4, rfl, ⟨b0_3, rfl, w0_3⟩, g0_4⟩ := listIs_cons g0_3
  obtain ⟨_, cs0_5, rfl, ⟨b0_4, rfl, w0_4⟩, g0_5⟩ := listIs_cons g0_4
  obtain ⟨_, cs0_6, rfl, ⟨b0_5, rfl, w0_5⟩, g0_6⟩ := listIs_cons g0_5
  obtain ⟨_, cs0_7, rfl, ⟨b0_6, rfl, w0_6⟩, g0_7⟩ := listIs_cons g0_6
  obtain ⟨_, cs0_8, rfl, ⟨b0_7, rfl, w0_7⟩, g0_8⟩ := listIs_cons g0_7
  obtain rfl := listIs_nil g0_8
  subst hv0
  obtain ⟨A1, n1, c1, s1⟩ := slice_open (d := 6) (row := [some .i64, some .i64, some .i64, some .i64, none, some .i64, some .i64, some .i64, some .i64, some .i64, some .i64, some .i64, some .i64]) Try.underlying22 (by kernel_rfl) (by kernel_rfl) (hval 1 22 v1 rfl rfl) h1
  refine Calls.mono (law_calls mixed Try.func5 (runs ⟨b0_0, b0_1, b0_2, b0_3, b0_4, b0_5, b0_6, b0_7⟩ ⟨n1, c1, n1, fun r => intC W A1 (r * 13 + 0), fun r => intC W A1 (r * 13 + 1), fun r => intC W A1 (r * 13 + 2), fun r => intC W A1 (r * 13 + 3), fun r => boolC W A1 (r * 13 + 4), fun r => intC W A1 (r * 13 + 5), fun r => intC W A1 (r * 13 + 6), fun r => intC W A1 (r * 13 + 7), fun r => intC W A1 (r * 13 + 8), fun r => intC W A1 (r * 13 + 9), fun r => intC W A1 (r * 13 + 10), fun r => intC W A1 (r * 13 + 11), fun r => intC W A1 (r * 13 + 12)⟩ ⟨s1.le, Nat.le_refl _, s1.max⟩) (e := envOf [A1]) (rel_in1 s1.reg) (Nat.le_refl 1) (by rw [s1.val]; exact den_as.symm)) fun e W' ⟨he, hb⟩ => ?_
  subst he
  exact ⟨_, rfl, law_post hW' rfl rfl (by kernel_rfl) (by decide +kernel) rfl Try.underlying4 hb⟩

theorem over : Rows.lanesAddsRow.holds Try.pinned (OpenSpec.ofChange Rows.lanesAddsSpec) :=
  OpenClaim.holds_of_wide 5 Try.f5 rfl rfl rfl rfl rfl rfl rfl ⟨rfl, rfl, rfl, rfl, rfl⟩ rfl rfl rfl rfl rfl (by kernel_rfl) Try.func5 (by kernel_rfl)
    (of_decide_eq_true (by kernel_rfl)) (by unfold Func.isWrapper; first | (rw [if_pos (by decide +kernel)]; kernel_rfl) | (rw [if_neg (by decide +kernel)]; exact ⟨rfl, rfl⟩))
    (fun os started H enc _ => lifted os started H enc)

/-- LanesAdds -/
theorem proved : Rows.LanesAddsSaid := over
#print axioms proved
end Go.Proofs.Ytbbiennjigpheaa.lanesAdds
