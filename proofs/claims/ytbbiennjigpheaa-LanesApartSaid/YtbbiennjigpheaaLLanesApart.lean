/-
  For all steps and classes the law LanesApart answers true and leaves all memory as it was.
-/
import Derived.Test.YtbbiennjigpheaaSx
import Derived.Test.YtbbiennjigpheaaLanU
import Derived.Test.YtbbiennjigpheaaRows
import Derived.WalkKit
import Derived.ProofKit
import Derived.OpenShut
namespace Go.Proofs.Ytbbiennjigpheaa.lanesApart
open Go.ChangeShapes Go.WideShapes Go.ChangeAt Go.RowKit Go.Sx
set_option linter.unusedVariables false
set_option linter.unusedSimpArgs false
set_option maxRecDepth 100000

structure ST where
  len : Nat
  cap : Nat
  N : Nat
  k : Nat → Int
  c : Nat → Int
  id : Nat → Int
  sz : Nat → Int
  dr : Nat → Bool
  l0 : Nat → Int
  l1 : Nat → Int
  l2 : Nat → Int
  l3 : Nat → Int
  l4 : Nat → Int
  l5 : Nat → Int
  l6 : Nat → Int
  l7 : Nat → Int
def roT (a : ST) : Option Reg := some ⟨false, .tab a.N [.int .i64 a.k, .int .i64 a.c, .int .i64 a.id, .int .i64 a.sz, .bool a.dr, .int .i64 a.l0, .int .i64 a.l1, .int .i64 a.l2, .int .i64 a.l3, .int .i64 a.l4, .int .i64 a.l5, .int .i64 a.l6, .int .i64 a.l7]⟩
def Tw (a : ST) : Prop := a.len ≤ a.cap ∧ a.len ≤ a.N ∧ a.cap ≤ 9223372036854775807
theorem den_s {A : Option Addr} {n cap : Nat} {k : Int} : #[SV.den (envOf [A]) (.one (.a (.slc 0 13 0 n cap))), SV.den (envOf [A]) (int_ .i64 k)] = #[.slice A n cap, .int .i64 k] := by
  show #[SA.den (envOf [A]) (.slc 0 13 0 n cap), _] = _
  rw [den_slc (A := A) rfl]; rfl
structure LC where
  i : Nat
  a : Ln
  b : Ln
structure LX where
  i : Nat
  a : Ln
  b : Ln
def cl (k : Int) : Int := bits .and .i64 k 7
theorem cl_eq (k : Int) : bits .and .i64 k 7 = cl k := rfl
theorem cl_in (k : Int) : 0 ≤ cl k ∧ cl k < 8 := by unfold cl; rw [and7]; omega
theorem sz_in (k : Int) : 0 ≤ bits .and .i64 k 1023 ∧ bits .and .i64 k 1023 ≤ 1023 := by rw [and1023]; omega
abbrev laC (k : Int) (st : ST) (n : Int) : LA where
  ι := LC
  inv := fun x => ((x.i : Int) = n ∧ x.i < st.len ∧ st.len ≤ 60) ∧ Both x.a x.b (cl k).toNat
  T := fun x => ⟨124, [(1, int_ .i64 (bits .and .i64 k 7)), (5, .one (.a (.ptr 1 0))), (7, .one (.a (.ptr 2 0))), (14, .one (.a (.ptr 3 0))), (44, .one (.a (.slc 0 13 0 st.len st.cap))), (45, int_ .i64 st.len), (46, int_ .i64 x.i)], [roT st, some ⟨true, .obj 15 (lnP x.a) (boxI lnK)⟩, some ⟨true, .obj 15 (lnP x.b) (boxI lnK)⟩, some ⟨true, .flat [i_ (oneA (cl k)).a0, i_ (oneA (cl k)).a1, i_ (oneA (cl k)).a2, i_ (oneA (cl k)).a3, i_ (oneA (cl k)).a4, i_ (oneA (cl k)).a5, i_ (oneA (cl k)).a6, i_ (oneA (cl k)).a7]⟩]⟩
  μ := fun _ => 0
  ren := fun S => [0, S.ix 5, S.ix 7, S.ix 14]
abbrev laA (k : Int) (st : ST) : LA where
  ι := LX
  inv := fun x => (x.i ≤ st.len ∧ st.len ≤ 60) ∧ Both x.a x.b (cl k).toNat
  T := fun x => ⟨124, [(1, int_ .i64 (bits .and .i64 k 7)), (5, .one (.a (.ptr 1 0))), (7, .one (.a (.ptr 2 0))), (44, .one (.a (.slc 0 13 0 st.len st.cap))), (45, int_ .i64 st.len), (46, int_ .i64 x.i)], [roT st, some ⟨true, .obj 15 (lnP x.a) (boxI lnK)⟩, some ⟨true, .obj 15 (lnP x.b) (boxI lnK)⟩]⟩
  μ := fun x => st.len - x.i
  ren := fun S => [0, S.ix 5, S.ix 7]
noncomputable def cxL (k : Int) (st : ST) : Cx Try.prog := { ps := [hdS, eightS, lenS, lostS], es := [newS, putS, pickS], is := [], n0 := 1, loops := fun i => match i with | 11 => some (.inv (laA k st)) | _ => none, cuts := fun _ => none, cutsAt := fun i => match i with | 21 => some (46, laC k st) | _ => none }
theorem it_eq {a b : It} (h : a = b) : (!(decide (a.id = b.id) && (decide (a.sz = b.sz) && (a.dr == b.dr && true)))) = false := by subst h; simp
theorem bo_eq {a b : Bool} (h : a = b) : (!(a == b)) = false := by subst h; simp
theorem eq31 : EqOK Try.prog 31 := by unfold EqOK; kernel_rfl
theorem one_at {c : Int} {k : Nat} (h : c = (k : Int)) : oneA c = oneA (k : Int) := by rw [h]
attribute [local irreducible] enter roomsOK putE putL pk popL sumN new0 pkC pkI pkB lenV lostV
set_option maxHeartbeats 8000000 in
theorem runs (k : Int) (st : ST) (hw : Tw st) : Runs (cxL k st) Try.f4 [.one (.a (.slc 0 13 0 st.len st.cap)), int_ .i64 k] [roT st] yes := by
  obtain ⟨w1, w2, w3⟩ := hw
  have h100 : roomsOK (eightC 5) := rooms_eight (by decide)
  repeat' (first | with_reducible exact trivial | with_reducible exact rfl | with_reducible exact Nat.le_refl _ | with_reducible exact (fun _ _ => rfl) | ((conv => whnf); first | (refine fun (x : LX) => ?_) | (refine fun (y : LC) => ?_) | (exact fun h => absurd h (by decide)) | (intro h9; (have h8 := of_decide_eq_true (p := type_of% h9) (by decide)); clear h8 h9) | (refine fun _ => ?_) | refine ⟨?_, ?_⟩ | exact trivial | exact Nat.le_refl _ | exact lex_q (by kernel_rfl) | exact lex_t (by kernel_rfl) | exact lex_h (by kernel_rfl) | fail))
  all_goals (try exact absurd (by assumption : (!true) = true) (by decide))
  all_goals (try exact absurd h100 (by assumption))
  all_goals (try (have hi := (by assumption : (laA k st).inv x); dsimp only [laA] at hi; obtain ⟨⟨i1, i2⟩, i3⟩ := hi))
  all_goals (try (have hj := (by assumption : (laC k st (x.i : Int)).inv y); dsimp only [laC] at hj; obtain ⟨⟨j0, j1, j2⟩, j3⟩ := hj))
  all_goals (try omega)
  all_goals (try exact (cl_in k).1)
  all_goals (try exact (cl_in k).2)
  · (conv => whnf); refine enter_mk (la := laA k st) ⟨0, new0 (eightC 5), new0 (eightC 5)⟩ ?_ (by (repeat' (first | ((conv => whnf); first | refine ⟨?_, ?_⟩ | exact trivial | fail) | (dsimp only; done) | ((try dsimp only); first | with_reducible exact rfl | exact Nat.le_refl _ | with_reducible exact (fun _ _ => rfl)))); all_goals ((first | rfl | (show st.len - (x.i + 1) < st.len - x.i; omega) | (show st.len - (y.i + 1) < st.len - x.i; omega) | (dsimp only; rw [w64' (by omega) (by omega)]; done) | (dsimp only; rw [w64' (by omega) (by omega)]; omega) | (dsimp only; omega))))
    exact ⟨⟨Nat.zero_le _, by omega⟩, both_new _⟩
  all_goals (try exact absurd (putE_same (c := (bits .and .i64 (st.c (0 + (x.i : Int).toNat)) 7)) (x := ⟨(x.i : Int), bits .and .i64 (st.sz (0 + (x.i : Int).toNat)) 1023, st.dr (0 + (x.i : Int).toNat)⟩) i3 (by have := cl_in k; omega) (congrArg Int.toNat (by assumption : (bits .and .i64 (st.c (0 + (x.i : Int).toNat)) 7) = cl k))) (by assumption))
  · (conv => whnf)
    have hk : cl k = ((0 : Nat) : Int) := by assumption
    (conv => whnf); refine enter_mk (la := laC k st (x.i : Int)) ⟨x.i, putL x.a (bits .and .i64 (st.c (0 + (x.i : Int).toNat)) 7) ⟨(x.i : Int), bits .and .i64 (st.sz (0 + (x.i : Int).toNat)) 1023, st.dr (0 + (x.i : Int).toNat)⟩, putL x.b (bits .and .i64 (st.c (0 + (x.i : Int).toNat)) 7) ⟨(x.i : Int), bits .and .i64 (st.sz (0 + (x.i : Int).toNat)) 1023, st.dr (0 + (x.i : Int).toNat)⟩⟩ ?_ (by (repeat' (first | ((conv => whnf); first | refine ⟨?_, ?_⟩ | exact trivial | fail) | (dsimp only; done) | ((try dsimp only); first | with_reducible exact rfl | exact Nat.le_refl _ | with_reducible exact (fun _ _ => rfl)))); all_goals ((first | rfl | (rw [hk]; rfl) | (dsimp only; omega))))
    exact ⟨⟨rfl, by show x.i < st.len; omega, i2⟩, both_put i3 (by have := cl_in k; omega) (congrArg Int.toNat (by assumption : (bits .and .i64 (st.c (0 + (x.i : Int).toNat)) 7) = cl k)) (sz_in (st.sz (0 + (x.i : Int).toNat)))⟩
  · (conv => whnf)
    have hk : cl k = ((1 : Nat) : Int) := by assumption
    (conv => whnf); refine enter_mk (la := laC k st (x.i : Int)) ⟨x.i, putL x.a (bits .and .i64 (st.c (0 + (x.i : Int).toNat)) 7) ⟨(x.i : Int), bits .and .i64 (st.sz (0 + (x.i : Int).toNat)) 1023, st.dr (0 + (x.i : Int).toNat)⟩, putL x.b (bits .and .i64 (st.c (0 + (x.i : Int).toNat)) 7) ⟨(x.i : Int), bits .and .i64 (st.sz (0 + (x.i : Int).toNat)) 1023, st.dr (0 + (x.i : Int).toNat)⟩⟩ ?_ (by (repeat' (first | ((conv => whnf); first | refine ⟨?_, ?_⟩ | exact trivial | fail) | (dsimp only; done) | ((try dsimp only); first | with_reducible exact rfl | exact Nat.le_refl _ | with_reducible exact (fun _ _ => rfl)))); all_goals ((first | rfl | (rw [hk]; rfl) | (dsimp only; omega))))
    exact ⟨⟨rfl, by show x.i < st.len; omega, i2⟩, both_put i3 (by have := cl_in k; omega) (congrArg Int.toNat (by assumption : (bits .and .i64 (st.c (0 + (x.i : Int).toNat)) 7) = cl k)) (sz_in (st.sz (0 + (x.i : Int).toNat)))⟩
  · (conv => whnf)
    have hk : cl k = ((2 : Nat) : Int) := by assumption
    (conv => whnf); refine enter_mk (la := laC k st (x.i : Int)) ⟨x.i, putL x.a (bits .and .i64 (st.c (0 + (x.i : Int).toNat)) 7) ⟨(x.i : Int), bits .and .i64 (st.sz (0 + (x.i : Int).toNat)) 1023, st.dr (0 + (x.i : Int).toNat)⟩, putL x.b (bits .and .i64 (st.c (0 + (x.i : Int).toNat)) 7) ⟨(x.i : Int), bits .and .i64 (st.sz (0 + (x.i : Int).toNat)) 1023, st.dr (0 + (x.i : Int).toNat)⟩⟩ ?_ (by (repeat' (first | ((conv => whnf); first | refine ⟨?_, ?_⟩ | exact trivial | fail) | (dsimp only; done) | ((try dsimp only); first | with_reducible exact rfl | exact Nat.le_refl _ | with_reducible exact (fun _ _ => rfl)))); all_goals ((first | rfl | (rw [hk]; rfl) | (dsimp only; omega))))
    exact ⟨⟨rfl, by show x.i < st.len; omega, i2⟩, both_put i3 (by have := cl_in k; omega) (congrArg Int.toNat (by assumption : (bits .and .i64 (st.c (0 + (x.i : Int).toNat)) 7) = cl k)) (sz_in (st.sz (0 + (x.i : Int).toNat)))⟩
  · (conv => whnf)
    have hk : cl k = ((3 : Nat) : Int) := by assumption
    (conv => whnf); refine enter_mk (la := laC k st (x.i : Int)) ⟨x.i, putL x.a (bits .and .i64 (st.c (0 + (x.i : Int).toNat)) 7) ⟨(x.i : Int), bits .and .i64 (st.sz (0 + (x.i : Int).toNat)) 1023, st.dr (0 + (x.i : Int).toNat)⟩, putL x.b (bits .and .i64 (st.c (0 + (x.i : Int).toNat)) 7) ⟨(x.i : Int), bits .and .i64 (st.sz (0 + (x.i : Int).toNat)) 1023, st.dr (0 + (x.i : Int).toNat)⟩⟩ ?_ (by (repeat' (first | ((conv => whnf); first | refine ⟨?_, ?_⟩ | exact trivial | fail) | (dsimp only; done) | ((try dsimp only); first | with_reducible exact rfl | exact Nat.le_refl _ | with_reducible exact (fun _ _ => rfl)))); all_goals ((first | rfl | (rw [hk]; rfl) | (dsimp only; omega))))
    exact ⟨⟨rfl, by show x.i < st.len; omega, i2⟩, both_put i3 (by have := cl_in k; omega) (congrArg Int.toNat (by assumption : (bits .and .i64 (st.c (0 + (x.i : Int).toNat)) 7) = cl k)) (sz_in (st.sz (0 + (x.i : Int).toNat)))⟩
  · (conv => whnf)
    have hk : cl k = ((4 : Nat) : Int) := by assumption
    (conv => whnf); refine enter_mk (la := laC k st (x.i : Int)) ⟨x.i, putL x.a (bits .and .i64 (st.c (0 + (x.i : Int).toNat)) 7) ⟨(x.i : Int), bits .and .i64 (st.sz (0 + (x.i : Int).toNat)) 1023, st.dr (0 + (x.i : Int).toNat)⟩, putL x.b (bits .and .i64 (st.c (0 + (x.i : Int).toNat)) 7) ⟨(x.i : Int), bits .and .i64 (st.sz (0 + (x.i : Int).toNat)) 1023, st.dr (0 + (x.i : Int).toNat)⟩⟩ ?_ (by (repeat' (first | ((conv => whnf); first | refine ⟨?_, ?_⟩ | exact trivial | fail) | (dsimp only; done) | ((try dsimp only); first | with_reducible exact rfl | exact Nat.le_refl _ | with_reducible exact (fun _ _ => rfl)))); all_goals ((first | rfl | (rw [hk]; rfl) | (dsimp only; omega))))
    exact ⟨⟨rfl, by show x.i < st.len; omega, i2⟩, both_put i3 (by have := cl_in k; omega) (congrArg Int.toNat (by assumption : (bits .and .i64 (st.c (0 + (x.i : Int).toNat)) 7) = cl k)) (sz_in (st.sz (0 + (x.i : Int).toNat)))⟩
  · (conv => whnf)
    have hk : cl k = ((5 : Nat) : Int) := by assumption
    (conv => whnf); refine enter_mk (la := laC k st (x.i : Int)) ⟨x.i, putL x.a (bits .and .i64 (st.c (0 + (x.i : Int).toNat)) 7) ⟨(x.i : Int), bits .and .i64 (st.sz (0 + (x.i : Int).toNat)) 1023, st.dr (0 + (x.i : Int).toNat)⟩, putL x.b (bits .and .i64 (st.c (0 + (x.i : Int).toNat)) 7) ⟨(x.i : Int), bits .and .i64 (st.sz (0 + (x.i : Int).toNat)) 1023, st.dr (0 + (x.i : Int).toNat)⟩⟩ ?_ (by (repeat' (first | ((conv => whnf); first | refine ⟨?_, ?_⟩ | exact trivial | fail) | (dsimp only; done) | ((try dsimp only); first | with_reducible exact rfl | exact Nat.le_refl _ | with_reducible exact (fun _ _ => rfl)))); all_goals ((first | rfl | (rw [hk]; rfl) | (dsimp only; omega))))
    exact ⟨⟨rfl, by show x.i < st.len; omega, i2⟩, both_put i3 (by have := cl_in k; omega) (congrArg Int.toNat (by assumption : (bits .and .i64 (st.c (0 + (x.i : Int).toNat)) 7) = cl k)) (sz_in (st.sz (0 + (x.i : Int).toNat)))⟩
  · (conv => whnf)
    have hk : cl k = ((6 : Nat) : Int) := by assumption
    (conv => whnf); refine enter_mk (la := laC k st (x.i : Int)) ⟨x.i, putL x.a (bits .and .i64 (st.c (0 + (x.i : Int).toNat)) 7) ⟨(x.i : Int), bits .and .i64 (st.sz (0 + (x.i : Int).toNat)) 1023, st.dr (0 + (x.i : Int).toNat)⟩, putL x.b (bits .and .i64 (st.c (0 + (x.i : Int).toNat)) 7) ⟨(x.i : Int), bits .and .i64 (st.sz (0 + (x.i : Int).toNat)) 1023, st.dr (0 + (x.i : Int).toNat)⟩⟩ ?_ (by (repeat' (first | ((conv => whnf); first | refine ⟨?_, ?_⟩ | exact trivial | fail) | (dsimp only; done) | ((try dsimp only); first | with_reducible exact rfl | exact Nat.le_refl _ | with_reducible exact (fun _ _ => rfl)))); all_goals ((first | rfl | (rw [hk]; rfl) | (dsimp only; omega))))
    exact ⟨⟨rfl, by show x.i < st.len; omega, i2⟩, both_put i3 (by have := cl_in k; omega) (congrArg Int.toNat (by assumption : (bits .and .i64 (st.c (0 + (x.i : Int).toNat)) 7) = cl k)) (sz_in (st.sz (0 + (x.i : Int).toNat)))⟩
  · (conv => whnf)
    have hk : cl k = ((7 : Nat) : Int) := by assumption
    (conv => whnf); refine enter_mk (la := laC k st (x.i : Int)) ⟨x.i, putL x.a (bits .and .i64 (st.c (0 + (x.i : Int).toNat)) 7) ⟨(x.i : Int), bits .and .i64 (st.sz (0 + (x.i : Int).toNat)) 1023, st.dr (0 + (x.i : Int).toNat)⟩, putL x.b (bits .and .i64 (st.c (0 + (x.i : Int).toNat)) 7) ⟨(x.i : Int), bits .and .i64 (st.sz (0 + (x.i : Int).toNat)) 1023, st.dr (0 + (x.i : Int).toNat)⟩⟩ ?_ (by (repeat' (first | ((conv => whnf); first | refine ⟨?_, ?_⟩ | exact trivial | fail) | (dsimp only; done) | ((try dsimp only); first | with_reducible exact rfl | exact Nat.le_refl _ | with_reducible exact (fun _ _ => rfl)))); all_goals ((first | rfl | (rw [hk]; rfl) | (dsimp only; omega))))
    exact ⟨⟨rfl, by show x.i < st.len; omega, i2⟩, both_put i3 (by have := cl_in k; omega) (congrArg Int.toNat (by assumption : (bits .and .i64 (st.c (0 + (x.i : Int).toNat)) 7) = cl k)) (sz_in (st.sz (0 + (x.i : Int).toNat)))⟩
  · exact eq31
  · obtain ⟨p1, p2, p3⟩ := both_pick (cl_in k) j3
    exact absurd ((it_eq p1).symm.trans (by assumption)) Bool.false_ne_true
  · obtain ⟨p1, p2, p3⟩ := both_pick (cl_in k) j3
    exact absurd ((bo_eq p2).symm.trans (by assumption)) Bool.false_ne_true
  · (conv => whnf)
    obtain ⟨p1, p2, p3⟩ := both_pick (cl_in k) j3
    (conv => whnf); refine enter_mk (la := laA k st) ⟨y.i + 1, popL y.a (pk y.a (oneA (cl k))), popL y.b (pk y.b (oneA (cl k)))⟩ ?_ (by (repeat' (first | ((conv => whnf); first | refine ⟨?_, ?_⟩ | exact trivial | fail) | (dsimp only; done) | ((try dsimp only); first | with_reducible exact rfl | exact Nat.le_refl _ | with_reducible exact (fun _ _ => rfl)))); all_goals ((first | rfl | (show st.len - (x.i + 1) < st.len - x.i; omega) | (show st.len - (y.i + 1) < st.len - x.i; omega) | (dsimp only; rw [w64' (by omega) (by omega)]; done) | (dsimp only; rw [w64' (by omega) (by omega)]; omega) | (dsimp only; omega))))
    exact ⟨⟨by show y.i + 1 ≤ st.len; omega, j2⟩, p3⟩
  · (conv => whnf)
    (conv => whnf); refine enter_mk (la := laA k st) ⟨x.i + 1, putL x.a (bits .and .i64 (st.c (0 + (x.i : Int).toNat)) 7) ⟨(x.i : Int), bits .and .i64 (st.sz (0 + (x.i : Int).toNat)) 1023, st.dr (0 + (x.i : Int).toNat)⟩, putL x.b (bits .and .i64 (st.c (0 + (x.i : Int).toNat)) 7) ⟨(x.i : Int), bits .and .i64 (st.sz (0 + (x.i : Int).toNat)) 1023, st.dr (0 + (x.i : Int).toNat)⟩⟩ ?_ (by (repeat' (first | ((conv => whnf); first | refine ⟨?_, ?_⟩ | exact trivial | fail) | (dsimp only; done) | ((try dsimp only); first | with_reducible exact rfl | exact Nat.le_refl _ | with_reducible exact (fun _ _ => rfl)))); all_goals ((first | rfl | (show st.len - (x.i + 1) < st.len - x.i; omega) | (show st.len - (y.i + 1) < st.len - x.i; omega) | (dsimp only; rw [w64' (by omega) (by omega)]; done) | (dsimp only; rw [w64' (by omega) (by omega)]; omega) | (dsimp only; omega))))
    exact ⟨⟨by show x.i + 1 ≤ st.len; omega, i2⟩, both_put i3 (by have := cl_in k; omega) (congrArg Int.toNat (by assumption : (bits .and .i64 (st.c (0 + (x.i : Int).toNat)) 7) = cl k)) (sz_in (st.sz (0 + (x.i : Int).toNat)))⟩
  · (conv => whnf)
    have hk : cl k = ((0 : Nat) : Int) := by assumption
    (conv => whnf); refine enter_mk (la := laC k st (x.i : Int)) ⟨x.i, putL x.a (bits .and .i64 (st.c (0 + (x.i : Int).toNat)) 7) ⟨(x.i : Int), bits .and .i64 (st.sz (0 + (x.i : Int).toNat)) 1023, st.dr (0 + (x.i : Int).toNat)⟩, x.b⟩ ?_ (by (repeat' (first | ((conv => whnf); first | refine ⟨?_, ?_⟩ | exact trivial | fail) | (dsimp only; done) | ((try dsimp only); first | with_reducible exact rfl | exact Nat.le_refl _ | with_reducible exact (fun _ _ => rfl)))); all_goals ((first | rfl | (rw [hk]; rfl) | (dsimp only; omega))))
    exact ⟨⟨rfl, by show x.i < st.len; omega, i2⟩, both_ne i3 (fun hh => (by assumption : ¬ (bits .and .i64 (st.c (0 + (x.i : Int).toNat)) 7) = cl k) (by have h1 := cl_in k; have h2 := cl_in (st.c (0 + (x.i : Int).toNat)); rw [cl_eq] at *; omega)) (sz_in (st.sz (0 + (x.i : Int).toNat)))⟩
  · (conv => whnf)
    have hk : cl k = ((1 : Nat) : Int) := by assumption
    (conv => whnf); refine enter_mk (la := laC k st (x.i : Int)) ⟨x.i, putL x.a (bits .and .i64 (st.c (0 + (x.i : Int).toNat)) 7) ⟨(x.i : Int), bits .and .i64 (st.sz (0 + (x.i : Int).toNat)) 1023, st.dr (0 + (x.i : Int).toNat)⟩, x.b⟩ ?_ (by (repeat' (first | ((conv => whnf); first | refine ⟨?_, ?_⟩ | exact trivial | fail) | (dsimp only; done) | ((try dsimp only); first | with_reducible exact rfl | exact Nat.le_refl _ | with_reducible exact (fun _ _ => rfl)))); all_goals ((first | rfl | (rw [hk]; rfl) | (dsimp only; omega))))
    exact ⟨⟨rfl, by show x.i < st.len; omega, i2⟩, both_ne i3 (fun hh => (by assumption : ¬ (bits .and .i64 (st.c (0 + (x.i : Int).toNat)) 7) = cl k) (by have h1 := cl_in k; have h2 := cl_in (st.c (0 + (x.i : Int).toNat)); rw [cl_eq] at *; omega)) (sz_in (st.sz (0 + (x.i : Int).toNat)))⟩
  · (conv => whnf)
    have hk : cl k = ((2 : Nat) : Int) := by assumption
    (conv => whnf); refine enter_mk (la := laC k st (x.i : Int)) ⟨x.i, putL x.a (bits .and .i64 (st.c (0 + (x.i : Int).toNat)) 7) ⟨(x.i : Int), bits .and .i64 (st.sz (0 + (x.i : Int).toNat)) 1023, st.dr (0 + (x.i : Int).toNat)⟩, x.b⟩ ?_ (by (repeat' (first | ((conv => whnf); first | refine ⟨?_, ?_⟩ | exact trivial | fail) | (dsimp only; done) | ((try dsimp only); first | with_reducible exact rfl | exact Nat.le_refl _ | with_reducible exact (fun _ _ => rfl)))); all_goals ((first | rfl | (rw [hk]; rfl) | (dsimp only; omega))))
    exact ⟨⟨rfl, by show x.i < st.len; omega, i2⟩, both_ne i3 (fun hh => (by assumption : ¬ (bits .and .i64 (st.c (0 + (x.i : Int).toNat)) 7) = cl k) (by have h1 := cl_in k; have h2 := cl_in (st.c (0 + (x.i : Int).toNat)); rw [cl_eq] at *; omega)) (sz_in (st.sz (0 + (x.i : Int).toNat)))⟩
  · (conv => whnf)
    have hk : cl k = ((3 : Nat) : Int) := by assumption
    (conv => whnf); refine enter_mk (la := laC k st (x.i : Int)) ⟨x.i, putL x.a (bits .and .i64 (st.c (0 + (x.i : Int).toNat)) 7) ⟨(x.i : Int), bits .and .i64 (st.sz (0 + (x.i : Int).toNat)) 1023, st.dr (0 + (x.i : Int).toNat)⟩, x.b⟩ ?_ (by (repeat' (first | ((conv => whnf); first | refine ⟨?_, ?_⟩ | exact trivial | fail) | (dsimp only; done) | ((try dsimp only); first | with_reducible exact rfl | exact Nat.le_refl _ | with_reducible exact (fun _ _ => rfl)))); all_goals ((first | rfl | (rw [hk]; rfl) | (dsimp only; omega))))
    exact ⟨⟨rfl, by show x.i < st.len; omega, i2⟩, both_ne i3 (fun hh => (by assumption : ¬ (bits .and .i64 (st.c (0 + (x.i : Int).toNat)) 7) = cl k) (by have h1 := cl_in k; have h2 := cl_in (st.c (0 + (x.i : Int).toNat)); rw [cl_eq] at *; omega)) (sz_in (st.sz (0 + (x.i : Int).toNat)))⟩
  · (conv => whnf)
    have hk : cl k = ((4 : Nat) : Int) := by assumption
    (conv => whnf); refine enter_mk (la := laC k st (x.i : Int)) ⟨x.i, putL x.a (bits .and .i64 (st.c (0 + (x.i : Int).toNat)) 7) ⟨(x.i : Int), bits .and .i64 (st.sz (0 + (x.i : Int).toNat)) 1023, st.dr (0 + (x.i : Int).toNat)⟩, x.b⟩ ?_ (by (repeat' (first | ((conv => whnf); first | refine ⟨?_, ?_⟩ | exact trivial | fail) | (dsimp only; done) | ((try dsimp only); first | with_reducible exact rfl | exact Nat.le_refl _ | with_reducible exact (fun _ _ => rfl)))); all_goals ((first | rfl | (rw [hk]; rfl) | (dsimp only; omega))))
    exact ⟨⟨rfl, by show x.i < st.len; omega, i2⟩, both_ne i3 (fun hh => (by assumption : ¬ (bits .and .i64 (st.c (0 + (x.i : Int).toNat)) 7) = cl k) (by have h1 := cl_in k; have h2 := cl_in (st.c (0 + (x.i : Int).toNat)); rw [cl_eq] at *; omega)) (sz_in (st.sz (0 + (x.i : Int).toNat)))⟩
  · (conv => whnf)
    have hk : cl k = ((5 : Nat) : Int) := by assumption
    (conv => whnf); refine enter_mk (la := laC k st (x.i : Int)) ⟨x.i, putL x.a (bits .and .i64 (st.c (0 + (x.i : Int).toNat)) 7) ⟨(x.i : Int), bits .and .i64 (st.sz (0 + (x.i : Int).toNat)) 1023, st.dr (0 + (x.i : Int).toNat)⟩, x.b⟩ ?_ (by (repeat' (first | ((conv => whnf); first | refine ⟨?_, ?_⟩ | exact trivial | fail) | (dsimp only; done) | ((try dsimp only); first | with_reducible exact rfl | exact Nat.le_refl _ | with_reducible exact (fun _ _ => rfl)))); all_goals ((first | rfl | (rw [hk]; rfl) | (dsimp only; omega))))
    exact ⟨⟨rfl, by show x.i < st.len; omega, i2⟩, both_ne i3 (fun hh => (by assumption : ¬ (bits .and .i64 (st.c (0 + (x.i : Int).toNat)) 7) = cl k) (by have h1 := cl_in k; have h2 := cl_in (st.c (0 + (x.i : Int).toNat)); rw [cl_eq] at *; omega)) (sz_in (st.sz (0 + (x.i : Int).toNat)))⟩
  · (conv => whnf)
    have hk : cl k = ((6 : Nat) : Int) := by assumption
    (conv => whnf); refine enter_mk (la := laC k st (x.i : Int)) ⟨x.i, putL x.a (bits .and .i64 (st.c (0 + (x.i : Int).toNat)) 7) ⟨(x.i : Int), bits .and .i64 (st.sz (0 + (x.i : Int).toNat)) 1023, st.dr (0 + (x.i : Int).toNat)⟩, x.b⟩ ?_ (by (repeat' (first | ((conv => whnf); first | refine ⟨?_, ?_⟩ | exact trivial | fail) | (dsimp only; done) | ((try dsimp only); first | with_reducible exact rfl | exact Nat.le_refl _ | with_reducible exact (fun _ _ => rfl)))); all_goals ((first | rfl | (rw [hk]; rfl) | (dsimp only; omega))))
    exact ⟨⟨rfl, by show x.i < st.len; omega, i2⟩, both_ne i3 (fun hh => (by assumption : ¬ (bits .and .i64 (st.c (0 + (x.i : Int).toNat)) 7) = cl k) (by have h1 := cl_in k; have h2 := cl_in (st.c (0 + (x.i : Int).toNat)); rw [cl_eq] at *; omega)) (sz_in (st.sz (0 + (x.i : Int).toNat)))⟩
  · (conv => whnf)
    have hk : cl k = ((7 : Nat) : Int) := by assumption
    (conv => whnf); refine enter_mk (la := laC k st (x.i : Int)) ⟨x.i, putL x.a (bits .and .i64 (st.c (0 + (x.i : Int).toNat)) 7) ⟨(x.i : Int), bits .and .i64 (st.sz (0 + (x.i : Int).toNat)) 1023, st.dr (0 + (x.i : Int).toNat)⟩, x.b⟩ ?_ (by (repeat' (first | ((conv => whnf); first | refine ⟨?_, ?_⟩ | exact trivial | fail) | (dsimp only; done) | ((try dsimp only); first | with_reducible exact rfl | exact Nat.le_refl _ | with_reducible exact (fun _ _ => rfl)))); all_goals ((first | rfl | (rw [hk]; rfl) | (dsimp only; omega))))
    exact ⟨⟨rfl, by show x.i < st.len; omega, i2⟩, both_ne i3 (fun hh => (by assumption : ¬ (bits .and .i64 (st.c (0 + (x.i : Int).toNat)) 7) = cl k) (by have h1 := cl_in k; have h2 := cl_in (st.c (0 + (x.i : Int).toNat)); rw [cl_eq] at *; omega)) (sz_in (st.sz (0 + (x.i : Int).toNat)))⟩
  · exact eq31
  · obtain ⟨p1, p2, p3⟩ := both_pick (cl_in k) j3
    exact absurd ((it_eq p1).symm.trans (by assumption)) Bool.false_ne_true
  · obtain ⟨p1, p2, p3⟩ := both_pick (cl_in k) j3
    exact absurd ((bo_eq p2).symm.trans (by assumption)) Bool.false_ne_true
  · (conv => whnf)
    obtain ⟨p1, p2, p3⟩ := both_pick (cl_in k) j3
    (conv => whnf); refine enter_mk (la := laA k st) ⟨y.i + 1, popL y.a (pk y.a (oneA (cl k))), popL y.b (pk y.b (oneA (cl k)))⟩ ?_ (by (repeat' (first | ((conv => whnf); first | refine ⟨?_, ?_⟩ | exact trivial | fail) | (dsimp only; done) | ((try dsimp only); first | with_reducible exact rfl | exact Nat.le_refl _ | with_reducible exact (fun _ _ => rfl)))); all_goals ((first | rfl | (show st.len - (x.i + 1) < st.len - x.i; omega) | (show st.len - (y.i + 1) < st.len - x.i; omega) | (dsimp only; rw [w64' (by omega) (by omega)]; done) | (dsimp only; rw [w64' (by omega) (by omega)]; omega) | (dsimp only; omega))))
    exact ⟨⟨by show y.i + 1 ≤ st.len; omega, j2⟩, p3⟩
  · (conv => whnf)
    (conv => whnf); refine enter_mk (la := laA k st) ⟨x.i + 1, putL x.a (bits .and .i64 (st.c (0 + (x.i : Int).toNat)) 7) ⟨(x.i : Int), bits .and .i64 (st.sz (0 + (x.i : Int).toNat)) 1023, st.dr (0 + (x.i : Int).toNat)⟩, x.b⟩ ?_ (by (repeat' (first | ((conv => whnf); first | refine ⟨?_, ?_⟩ | exact trivial | fail) | (dsimp only; done) | ((try dsimp only); first | with_reducible exact rfl | exact Nat.le_refl _ | with_reducible exact (fun _ _ => rfl)))); all_goals ((first | rfl | (show st.len - (x.i + 1) < st.len - x.i; omega) | (show st.len - (y.i + 1) < st.len - x.i; omega) | (dsimp only; rw [w64' (by omega) (by omega)]; done) | (dsimp only; rw [w64' (by omega) (by omega)]; omega) | (dsimp only; omega))))
    exact ⟨⟨by show x.i + 1 ≤ st.len; omega, i2⟩, both_ne i3 (fun hh => (by assumption : ¬ (bits .and .i64 (st.c (0 + (x.i : Int).toNat)) 7) = cl k) (by have h1 := cl_in k; have h2 := cl_in (st.c (0 + (x.i : Int).toNat)); rw [cl_eq] at *; omega)) (sz_in (st.sz (0 + (x.i : Int).toNat)))⟩
  · obtain ⟨q1, q2⟩ := both_len (cl_in k) i3
    exact (decide_eq_true q2).symm
  · obtain ⟨q1, q2⟩ := both_len (cl_in k) i3
    exact absurd q1 (by assumption)

theorem own : ownKnob Try.prog.godebug = none := by kernel_rfl

set_option maxRecDepth 100000 in
theorem lifted (os : Os) (started : os.Started) (H : Type) (enc : TypeId × Value → H) :
    ReturnsInHanded {} Try.checked os 4 .any (Rows.lanesApartSpec.pre6 enc Try.prog Try.f4 Rows.lanesApartRow.domain false) (Rows.lanesApartSpec.post enc Try.prog Try.f4 false true false false) := by
  refine returnsInHanded_of_change (C := Try.checked) own started (by kernel_rfl) Try.func4
    (ChangeSpec.witness6 (enc := enc) (C := Try.checked) false ⟨#[], #[.slice none 0 0, .int .i64 0], []⟩ 8 (by kernel_rfl) (by kernel_rfl) (by kernel_rfl) (by kernel_rfl)) ?_
  intro W base args ds gs before hval0 hW hcnd _
  have hval : ∀ (j : Nat) t v, Try.f4.params[j]? = some t → args[j]? = some v → Value.okWide Try.prog W .any base t v := hval0
  have hW' := hW
  obtain ⟨p, q, hA0, hV, rfl, hfz, hnd⟩ := hW
  have hA : DataW.TrodAll enc Try.prog W 0 (fun _ => true) true Try.f4.params.toList args.toList ds p := hA0
  rw [Try.params4] at hA hval
  obtain ⟨v0, vs0, d0, ds0, p0, q0, hargs0, rfl, rfl, h0, r0⟩ := trodAll_cons hA
  obtain ⟨v1, vs1, d1, ds1, p1, q1, hargs1, rfl, rfl, h1, r1⟩ := trodAll_cons r0
  obtain ⟨rfl, rfl, rfl⟩ := trodAll_nil r1
  obtain ⟨rfl, rfl⟩ := trodVars_none hV
  obtain rfl : args = #[v0, v1] := by cases args; simp_all
  obtain ⟨A0, n0, c0, s0⟩ := slice_open (d := 6) (row := [some .i64, some .i64, some .i64, some .i64, none, some .i64, some .i64, some .i64, some .i64, some .i64, some .i64, some .i64, some .i64]) Try.underlying22 (by kernel_rfl) (by kernel_rfl) (hval 0 22 v0 rfl rfl) h0
  obtain ⟨a1, rfl, rfl, rfl, w1⟩ := open_int Try.underlying3 (hval 1 3 v1 rfl rfl) h1
  refine Calls.mono (law_calls mixed Try.func4 (runs a1 ⟨n0, c0, n0, fun r => intC W A0 (r * 13 + 0), fun r => intC W A0 (r * 13 + 1), fun r => intC W A0 (r * 13 + 2), fun r => intC W A0 (r * 13 + 3), fun r => boolC W A0 (r * 13 + 4), fun r => intC W A0 (r * 13 + 5), fun r => intC W A0 (r * 13 + 6), fun r => intC W A0 (r * 13 + 7), fun r => intC W A0 (r * 13 + 8), fun r => intC W A0 (r * 13 + 9), fun r => intC W A0 (r * 13 + 10), fun r => intC W A0 (r * 13 + 11), fun r => intC W A0 (r * 13 + 12)⟩ ⟨s0.le, Nat.le_refl _, s0.max⟩) (e := envOf [A0]) (rel_in1 s0.reg) (Nat.le_refl 1) (by rw [s0.val]; exact den_s.symm)) fun e W' ⟨he, hb⟩ => ?_
  subst he
  exact ⟨_, rfl, law_post hW' rfl rfl (by kernel_rfl) (by decide +kernel) rfl Try.underlying4 hb⟩

theorem over : Rows.lanesApartRow.holds Try.pinned (OpenSpec.ofChange Rows.lanesApartSpec) :=
  OpenClaim.holds_of_wide 4 Try.f4 rfl rfl rfl rfl rfl rfl rfl ⟨rfl, rfl, rfl, rfl, rfl⟩ rfl rfl rfl rfl rfl (by kernel_rfl) Try.func4 (by kernel_rfl)
    (of_decide_eq_true (by kernel_rfl)) (by unfold Func.isWrapper; first | (rw [if_pos (by decide +kernel)]; kernel_rfl) | (rw [if_neg (by decide +kernel)]; exact ⟨rfl, rfl⟩))
    (fun os started H enc _ => lifted os started H enc)

/-- LanesApart -/
theorem proved : Rows.LanesApartSaid := over
#print axioms proved
end Go.Proofs.Ytbbiennjigpheaa.lanesApart
