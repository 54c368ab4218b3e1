/-
  For all rooms and all steps the law LanesRuns answers true and leaves all memory as it was.
-/
import Derived.Test.YtbbiennjigpheaaSx
import Derived.Test.YtbbiennjigpheaaLanX
import Derived.Test.YtbbiennjigpheaaRows
import Derived.WalkKit
import Derived.ProofKit
import Derived.OpenShut
namespace Go.Proofs.Ytbbiennjigpheaa.lanesRuns
open Go.ChangeShapes Go.WideShapes Go.ChangeAt Go.RowKit Go.Sx
set_option linter.unusedVariables false
set_option linter.unusedSimpArgs false
set_option maxRecDepth 100000

structure ST where
  len : Nat
  cap : Nat
  N : Nat
  k : Nat → Int
  c : Nat → Int
  id : Nat → Int
  sz : Nat → Int
  dr : Nat → Bool
  l0 : Nat → Int
  l1 : Nat → Int
  l2 : Nat → Int
  l3 : Nat → Int
  l4 : Nat → Int
  l5 : Nat → Int
  l6 : Nat → Int
  l7 : Nat → Int
def roT (a : ST) : Option Reg := some ⟨false, .tab a.N [.int .i64 a.k, .int .i64 a.c, .int .i64 a.id, .int .i64 a.sz, .bool a.dr, .int .i64 a.l0, .int .i64 a.l1, .int .i64 a.l2, .int .i64 a.l3, .int .i64 a.l4, .int .i64 a.l5, .int .i64 a.l6, .int .i64 a.l7]⟩
def Tw (a : ST) : Prop := a.len ≤ a.cap ∧ a.len ≤ a.N ∧ a.cap ≤ 9223372036854775807
theorem den_as {a b c d e f g h : Int} {A : Option Addr} {n cap : Nat} : #[SV.den (envOf [A]) (a8C ⟨a, b, c, d, e, f, g, h⟩), SV.den (envOf [A]) (.one (.a (.slc 0 13 0 n cap)))] = #[.agg #[.int .i64 a, .int .i64 b, .int .i64 c, .int .i64 d, .int .i64 e, .int .i64 f, .int .i64 g, .int .i64 h], .slice A n cap] := by
  show #[Value.agg _, SA.den (envOf [A]) (.slc 0 13 0 n cap)] = _
  rw [den_slc (A := A) rfl]; rfl
def aS (a : AX) : SV := .one (.a (.slc 4 4 0 a.n a.cap))
def aR (a : AX) : Option Reg := some ⟨true, .tab a.N [.int .i64 a.c, .int .i64 a.id, .int .i64 a.sz, .bool a.dr]⟩
def lost0 (r : Nat) : Int := [0, 0, 0, 0, 0, 0, 0, 0].getD r 0
def seen0 (r : Nat) : Bool := [false, false, false, false, false, false, false, false].getD r false
def roR (R : A8) : Option Reg := some ⟨true, .tab 8 [.int .i64 R.f]⟩
def loR (f : Nat → Int) : Option Reg := some ⟨true, .tab 8 [.int .i64 f]⟩
def seR (f : Nat → Bool) : Option Reg := some ⟨true, .tab 8 [.bool f]⟩
def obR (l : Ln) : Option Reg := some ⟨true, .obj 15 (lnP l) (boxI lnK)⟩
def skR (st : ST) (i : Nat) : Option Reg := some ⟨true, .flat [i_ (st.k (0 + ((i : Nat) : Int).toNat)), i_ (st.c (0 + ((i : Nat) : Int).toNat)), i_ (st.id (0 + ((i : Nat) : Int).toNat)), i_ (st.sz (0 + ((i : Nat) : Int).toNat)), b_ (st.dr (0 + ((i : Nat) : Int).toNat)), i_ (st.l0 (0 + ((i : Nat) : Int).toNat)), i_ (st.l1 (0 + ((i : Nat) : Int).toNat)), i_ (st.l2 (0 + ((i : Nat) : Int).toNat)), i_ (st.l3 (0 + ((i : Nat) : Int).toNat)), i_ (st.l4 (0 + ((i : Nat) : Int).toNat)), i_ (st.l5 (0 + ((i : Nat) : Int).toNat)), i_ (st.l6 (0 + ((i : Nat) : Int).toNat)), i_ (st.l7 (0 + ((i : Nat) : Int).toNat))]⟩
abbrev laO (R : A8) (st : ST) : LA where
  ι := M9
  inv := fun _ => roomsOK R
  T := fun c => ⟨371, [(1, .one (.a (.slc 0 13 0 st.len st.cap))), (2, .one (.a (.ptr 1 0))), (5, .one (.a (.ptr 2 0))), (6, .one (.a (i_ 0))), (39, a8C R), (40, int_ .i64 c.n)], [roT st, some ⟨true, .flat [i_ R.a0, i_ R.a1, i_ R.a2, i_ R.a3, i_ R.a4, i_ R.a5, i_ R.a6, i_ R.a7]⟩, obR (new0 R)]⟩
  μ := fun c => 8 - c.n
  ren := fun S => [0, S.ix 2, S.ix 5]
inductive N9 where
  | m0 | m1 | m2 | m3 | m4 | m5 | m6 | m7 | m8
def N9.n : N9 → Nat
  | .m0 => 0 | .m1 => 1 | .m2 => 2 | .m3 => 3 | .m4 => 4 | .m5 => 5 | .m6 => 6 | .m7 => 7 | .m8 => 8
abbrev laB9 (R : A8) (st : ST) : LA where
  ι := N9
  inv := fun c => ¬ roomsOK R ∧ okTo R c.n
  T := fun c => ⟨371, [(1, .one (.a (.slc 0 13 0 st.len st.cap))), (2, .one (.a (.ptr 1 0))), (5, nil_), (6, .one (.a (i_ 1))), (39, a8C R), (40, int_ .i64 c.n)], [roT st, some ⟨true, .flat [i_ R.a0, i_ R.a1, i_ R.a2, i_ R.a3, i_ R.a4, i_ R.a5, i_ R.a6, i_ R.a7]⟩]⟩
  μ := fun c => 8 - c.n
  ren := fun S => [0, S.ix 2]
noncomputable def laR (R : A8) (st : ST) (n : Int) : LA := match n with | .ofNat 0 => laO R st | _ => laB9 R st
abbrev laE (st : ST) : LA where
  ι := Unit
  inv := fun _ => True
  T := fun _ => ⟨371, [(5, nil_), (6, .one (.a (i_ 1))), (11, .one (.a .ff))], [roT st]⟩
  μ := fun _ => 0
  ren := fun _ => [0]
def itZ : List Col := [.int .i64 fun _ => 0, .int .i64 fun _ => 0, .int .i64 fun _ => 0, .bool fun _ => false]
abbrev laA (R : A8) (st : ST) : LA where
  ι := LS
  inv := fun x => (x.i ≤ st.len ∧ x.i ≤ 100) ∧ Inv R x x.i
  T := fun x => ⟨371, [(1, .one (.a (.slc 0 13 0 st.len st.cap))), (2, .one (.a (.ptr 1 0))), (5, .one (.a (.ptr 2 0))), (12, aS x.a), (13, .one (.a (.ptr 3 0))), (14, int_ .i64 x.i)], [roT st, roR R, obR x.l, loR x.lost, aR x.a]⟩
  μ := fun x => 100 - x.i
  ren := fun S => [0, S.ix 2, S.ix 5, S.ix 13, S.ix 12]
  gs := fun S => [.rows (S.ix 2) 1 8, .rows (S.ix 13) 1 8]
structure LB where
  m : Nat
  x : LS
abbrev laB (R : A8) (st : ST) (k : Int) : LA where
  ι := LB
  inv := fun y => (((y.x.i : Nat) : Int) = k ∧ y.x.i < st.len ∧ y.x.i < 100 ∧ y.m ≤ y.x.a.n) ∧ Inv R y.x y.x.i
  T := fun y => ⟨371, [(1, .one (.a (.slc 0 13 0 st.len st.cap))), (2, .one (.a (.ptr 1 0))), (5, .one (.a (.ptr 2 0))), (12, aS y.x.a), (13, .one (.a (.ptr 3 0))), (14, int_ .i64 y.x.i), (15, .one (.a (.ptr 5 0))), (16, int_ .i64 (cntI y.x.a.c (st.c (0 + (y.x.i : Int).toNat)) y.m)), (17, int_ .i64 (fz (fstI y.x.a.c (st.c (0 + (y.x.i : Int).toNat)) y.m))), (106, aS y.x.a), (107, int_ .i64 y.x.a.n), (108, int_ .i64 y.m)], [roT st, roR R, obR y.x.l, loR y.x.lost, aR y.x.a, skR st y.x.i]⟩
  μ := fun y => y.x.a.n - y.m
  ren := fun S => [0, S.ix 2, S.ix 5, S.ix 13, S.ix 12, S.ix 15]
def lfA (st : ST) (i : Nat) : A8 := ⟨st.l0 (0 + (i : Int).toNat), st.l1 (0 + (i : Int).toNat), st.l2 (0 + (i : Int).toNat), st.l3 (0 + (i : Int).toNat), st.l4 (0 + (i : Int).toNat), st.l5 (0 + (i : Int).toNat), st.l6 (0 + (i : Int).toNat), st.l7 (0 + (i : Int).toNat)⟩
structure LD where
  m : Nat
  x : LS
  q : Nat → Bool
abbrev laD (R : A8) (st : ST) (k : Int) : LA where
  ι := LD
  inv := fun y => (((y.x.i : Nat) : Int) = k ∧ y.x.i < st.len ∧ y.x.i < 100 ∧ y.m ≤ y.x.a.n) ∧ (∀ k : Nat, k < 8 → y.q k = (fstI y.x.a.c k y.m).isSome) ∧ Inv R y.x y.x.i
  T := fun y => ⟨371, [(1, .one (.a (.slc 0 13 0 st.len st.cap))), (2, .one (.a (.ptr 1 0))), (5, .one (.a (.ptr 2 0))), (12, aS y.x.a), (13, .one (.a (.ptr 3 0))), (14, int_ .i64 y.x.i), (15, .one (.a (.ptr 5 0))), (21, int_ .i64 (fz (bstI y.x.a.c y.x.a.sz (lfA st y.x.i) y.m))), (22, .one (.a (.ptr 6 0))), (200, aS y.x.a), (201, int_ .i64 y.x.a.n), (202, int_ .i64 y.m)], [roT st, roR R, obR y.x.l, loR y.x.lost, aR y.x.a, skR st y.x.i, seR y.q]⟩
  μ := fun y => 100 - y.m
  ren := fun S => [0, S.ix 2, S.ix 5, S.ix 13, S.ix 12, S.ix 15, S.ix 22]
  gs := fun S => [.rows (S.ix 22) 1 8]
structure LG where
  m : Nat
  x : LS
  q : Nat → Bool
def onR (a : AX) (m : Nat) : Option Reg := some ⟨true, .flat [i_ (a.c (0 + (m : Int).toNat)), i_ (a.id (0 + (m : Int).toNat)), i_ (a.sz (0 + (m : Int).toNat)), b_ (a.dr (0 + (m : Int).toNat))]⟩
abbrev laG (R : A8) (st : ST) (k k2 : Int) : LA where
  ι := LG
  inv := fun y => (((y.x.i : Nat) : Int) = k ∧ ((y.m : Nat) : Int) = k2 ∧ y.x.i < st.len ∧ y.x.i < 100 ∧ y.m < y.x.a.n) ∧ (∀ k : Nat, k < 8 → y.q k = (fstI y.x.a.c k y.m).isSome) ∧ Inv R y.x y.x.i
  T := fun y => ⟨371, [(1, .one (.a (.slc 0 13 0 st.len st.cap))), (2, .one (.a (.ptr 1 0))), (5, .one (.a (.ptr 2 0))), (12, aS y.x.a), (13, .one (.a (.ptr 3 0))), (14, int_ .i64 y.x.i), (15, .one (.a (.ptr 5 0))), (21, int_ .i64 (fz (bstI y.x.a.c y.x.a.sz (lfA st y.x.i) (y.m + 1)))), (22, .one (.a (.ptr 6 0))), (24, .one (.a (.ptr 7 0))), (200, aS y.x.a), (201, int_ .i64 y.x.a.n), (202, int_ .i64 y.m)], [roT st, roR R, obR y.x.l, loR y.x.lost, aR y.x.a, skR st y.x.i, seR y.q, onR y.x.a y.m]⟩
  μ := fun _ => 0
  ren := fun S => [0, S.ix 2, S.ix 5, S.ix 13, S.ix 12, S.ix 15, S.ix 22, S.ix 24]
structure LJ where
  x : LS
abbrev laJ (R : A8) (st : ST) (k : Int) : LA where
  ι := LJ
  inv := fun y => (((y.x.i : Nat) : Int) = k ∧ y.x.i < st.len ∧ y.x.i < 100) ∧ Inv R y.x (y.x.i + 1)
  T := fun y => ⟨371, [(1, .one (.a (.slc 0 13 0 st.len st.cap))), (2, .one (.a (.ptr 1 0))), (5, .one (.a (.ptr 2 0))), (12, aS y.x.a), (13, .one (.a (.ptr 3 0))), (14, int_ .i64 y.x.i)], [roT st, roR R, obR y.x.l, loR y.x.lost, aR y.x.a]⟩
  μ := fun _ => 0
  ren := fun S => [0, S.ix 2, S.ix 5, S.ix 13, S.ix 12]
  nl := [(12, 4, itZ)]
structure LC where
  m : Nat
  x : LS
abbrev laC (R : A8) (st : ST) (k : Int) : LA where
  ι := LC
  inv := fun y => (((y.x.i : Nat) : Int) = k ∧ y.x.i < st.len ∧ y.x.i < 100 ∧ y.m ≤ 10) ∧ Inv R y.x (y.x.i + 1)
  T := fun y => ⟨371, [(1, .one (.a (.slc 0 13 0 st.len st.cap))), (2, .one (.a (.ptr 1 0))), (5, .one (.a (.ptr 2 0))), (12, aS y.x.a), (13, .one (.a (.ptr 3 0))), (14, int_ .i64 y.x.i), (30, int_ .i64 (sumC y.x.l y.m)), (31, int_ .i64 ((y.m : Int) - 1))], [roT st, roR R, obR y.x.l, loR y.x.lost, aR y.x.a]⟩
  μ := fun y => 10 - y.m
  ren := fun S => [0, S.ix 2, S.ix 5, S.ix 13, S.ix 12]
noncomputable def cxL (R : A8) (st : ST) : Cx Try.prog := { ps := [hdS, eightS, headS, lenS, lostS, pickN, putN, clrN, lenN, lostN], es := [newS, putS, pickS, clrS], is := [], n0 := 1, loops := fun i => match i with | 5 => some (.here 6 (laR R st)) | 16 => some (.inv (laA R st)) | 22 => some (.here 14 (laB R st)) | 49 => some (.here 14 (laD R st)) | 72 => some (.here 14 (laC R st)) | _ => none, cuts := fun i => match i with | 9 => some (laE st) | _ => none, cutsAt := fun i => match i with | 70 => some (14, 14, fun k _ => laJ R st k) | 53 => some (14, 202, laG R st) | _ => none, held := fun i => match i with | 61 => some (false, .take 1 (.take 2 (.take 3 (.take 5 (.take 6 (.take 7 (.take 8 (.one 0 (.one 4 (.one 9 (.take 10 .done))))))))))) | _ => none }
theorem lost_0 (k : Nat) (hk : k < 8) : lost0 k = 0 := by
  rcases (by omega : k = 0 ∨ k = 1 ∨ k = 2 ∨ k = 3 ∨ k = 4 ∨ k = 5 ∨ k = 6 ∨ k = 7) with rfl | rfl | rfl | rfl | rfl | rfl | rfl | rfl <;> rfl
theorem seen_f (k : Nat) (hk : k < 8) : seen0 k = false := by
  rcases (by omega : k = 0 ∨ k = 1 ∨ k = 2 ∨ k = 3 ∨ k = 4 ∨ k = 5 ∨ k = 6 ∨ k = 7) with rfl | rfl | rfl | rfl | rfl | rfl | rfl | rfl <;> rfl
attribute [local irreducible] enter roomsOK putE putL pk popL sumN new0 pkC pkI pkB lenV lostV clrL cntI fstI bstI fz sumC hdO okTo
set_option maxHeartbeats 16000000 in
theorem runs (R : A8) (st : ST) (hw : Tw st) : Runs (cxL R st) Try.f6 [a8C R, .one (.a (.slc 0 13 0 st.len st.cap))] [roT st] yes := by
  obtain ⟨w1, w2, w3⟩ := hw
  repeat' (first | with_reducible exact trivial | with_reducible exact rfl | with_reducible exact Nat.le_refl _ | with_reducible exact (fun _ _ => rfl) | ((conv => whnf); first | ((refine fun (x : M9) => ?_); rcases x with x | x | x | x | x | x | x | x | x) | (refine fun (y : LS) => ?_) | (refine fun (z : LB) => ?_) | (refine fun (u : LD) => ?_) | (refine fun (v : LG) => ?_) | (refine fun (w : LJ) => ?_) | (refine fun (s : LC) => ?_) | ((refine fun (t : N9) => ?_); rcases t with t | t | t | t | t | t | t | t | t) | (exact fun h => absurd h (by decide)) | (intro h9; (have h8 := of_decide_eq_true (p := type_of% h9) (by decide)); clear h8 h9) | (refine fun _ => ?_) | refine ⟨?_, ?_⟩ | exact trivial | exact Nat.le_refl _ | exact lex_q (by kernel_rfl) | exact lex_t (by kernel_rfl) | exact lex_h (by kernel_rfl) | fail))
  · (conv => whnf); refine enter_mk (la := laO R st) M9.m0 ?_ (by (repeat' (first | ((conv => whnf); first | refine ⟨?_, ?_⟩ | exact trivial | fail) | (dsimp only; done) | ((try dsimp only); first | with_reducible exact rfl | exact Nat.le_refl _ | with_reducible exact (fun _ _ => rfl)))); all_goals ((first | rfl | decide)))
    exact (by assumption : roomsOK R)
  · decide
  · decide
  · exact absurd (by assumption : roomsOK R) (ok_bad (k := 0) (by decide) (.inl (by assumption)))
  · exact (decide_eq_true rfl).symm
  · exact absurd (by assumption : roomsOK R) (ok_bad (k := 0) (by decide) (.inr (by assumption)))
  · exact (decide_eq_true rfl).symm
  · (conv => whnf); refine enter_mk (la := laO R st) M9.m1 ?_ (by (repeat' (first | ((conv => whnf); first | refine ⟨?_, ?_⟩ | exact trivial | fail) | (dsimp only; done) | ((try dsimp only); first | with_reducible exact rfl | exact Nat.le_refl _ | with_reducible exact (fun _ _ => rfl)))); all_goals ((first | rfl | decide)))
    exact (by assumption : roomsOK R)
  · decide
  · decide
  · exact absurd (by assumption : roomsOK R) (ok_bad (k := 1) (by decide) (.inl (by assumption)))
  · exact (decide_eq_true rfl).symm
  · exact absurd (by assumption : roomsOK R) (ok_bad (k := 1) (by decide) (.inr (by assumption)))
  · exact (decide_eq_true rfl).symm
  · (conv => whnf); refine enter_mk (la := laO R st) M9.m2 ?_ (by (repeat' (first | ((conv => whnf); first | refine ⟨?_, ?_⟩ | exact trivial | fail) | (dsimp only; done) | ((try dsimp only); first | with_reducible exact rfl | exact Nat.le_refl _ | with_reducible exact (fun _ _ => rfl)))); all_goals ((first | rfl | decide)))
    exact (by assumption : roomsOK R)
  · decide
  · decide
  · exact absurd (by assumption : roomsOK R) (ok_bad (k := 2) (by decide) (.inl (by assumption)))
  · exact (decide_eq_true rfl).symm
  · exact absurd (by assumption : roomsOK R) (ok_bad (k := 2) (by decide) (.inr (by assumption)))
  · exact (decide_eq_true rfl).symm
  · (conv => whnf); refine enter_mk (la := laO R st) M9.m3 ?_ (by (repeat' (first | ((conv => whnf); first | refine ⟨?_, ?_⟩ | exact trivial | fail) | (dsimp only; done) | ((try dsimp only); first | with_reducible exact rfl | exact Nat.le_refl _ | with_reducible exact (fun _ _ => rfl)))); all_goals ((first | rfl | decide)))
    exact (by assumption : roomsOK R)
  · decide
  · decide
  · exact absurd (by assumption : roomsOK R) (ok_bad (k := 3) (by decide) (.inl (by assumption)))
  · exact (decide_eq_true rfl).symm
  · exact absurd (by assumption : roomsOK R) (ok_bad (k := 3) (by decide) (.inr (by assumption)))
  · exact (decide_eq_true rfl).symm
  · (conv => whnf); refine enter_mk (la := laO R st) M9.m4 ?_ (by (repeat' (first | ((conv => whnf); first | refine ⟨?_, ?_⟩ | exact trivial | fail) | (dsimp only; done) | ((try dsimp only); first | with_reducible exact rfl | exact Nat.le_refl _ | with_reducible exact (fun _ _ => rfl)))); all_goals ((first | rfl | decide)))
    exact (by assumption : roomsOK R)
  · decide
  · decide
  · exact absurd (by assumption : roomsOK R) (ok_bad (k := 4) (by decide) (.inl (by assumption)))
  · exact (decide_eq_true rfl).symm
  · exact absurd (by assumption : roomsOK R) (ok_bad (k := 4) (by decide) (.inr (by assumption)))
  · exact (decide_eq_true rfl).symm
  · (conv => whnf); refine enter_mk (la := laO R st) M9.m5 ?_ (by (repeat' (first | ((conv => whnf); first | refine ⟨?_, ?_⟩ | exact trivial | fail) | (dsimp only; done) | ((try dsimp only); first | with_reducible exact rfl | exact Nat.le_refl _ | with_reducible exact (fun _ _ => rfl)))); all_goals ((first | rfl | decide)))
    exact (by assumption : roomsOK R)
  · decide
  · decide
  · exact absurd (by assumption : roomsOK R) (ok_bad (k := 5) (by decide) (.inl (by assumption)))
  · exact (decide_eq_true rfl).symm
  · exact absurd (by assumption : roomsOK R) (ok_bad (k := 5) (by decide) (.inr (by assumption)))
  · exact (decide_eq_true rfl).symm
  · (conv => whnf); refine enter_mk (la := laO R st) M9.m6 ?_ (by (repeat' (first | ((conv => whnf); first | refine ⟨?_, ?_⟩ | exact trivial | fail) | (dsimp only; done) | ((try dsimp only); first | with_reducible exact rfl | exact Nat.le_refl _ | with_reducible exact (fun _ _ => rfl)))); all_goals ((first | rfl | decide)))
    exact (by assumption : roomsOK R)
  · decide
  · decide
  · exact absurd (by assumption : roomsOK R) (ok_bad (k := 6) (by decide) (.inl (by assumption)))
  · exact (decide_eq_true rfl).symm
  · exact absurd (by assumption : roomsOK R) (ok_bad (k := 6) (by decide) (.inr (by assumption)))
  · exact (decide_eq_true rfl).symm
  · (conv => whnf); refine enter_mk (la := laO R st) M9.m7 ?_ (by (repeat' (first | ((conv => whnf); first | refine ⟨?_, ?_⟩ | exact trivial | fail) | (dsimp only; done) | ((try dsimp only); first | with_reducible exact rfl | exact Nat.le_refl _ | with_reducible exact (fun _ _ => rfl)))); all_goals ((first | rfl | decide)))
    exact (by assumption : roomsOK R)
  · decide
  · decide
  · exact absurd (by assumption : roomsOK R) (ok_bad (k := 7) (by decide) (.inl (by assumption)))
  · exact (decide_eq_true rfl).symm
  · exact absurd (by assumption : roomsOK R) (ok_bad (k := 7) (by decide) (.inr (by assumption)))
  · exact (decide_eq_true rfl).symm
  · (conv => whnf); refine enter_mk (la := laO R st) M9.m8 ?_ (by (repeat' (first | ((conv => whnf); first | refine ⟨?_, ?_⟩ | exact trivial | fail) | (dsimp only; done) | ((try dsimp only); first | with_reducible exact rfl | exact Nat.le_refl _ | with_reducible exact (fun _ _ => rfl)))); all_goals ((first | rfl | decide)))
    exact (by assumption : roomsOK R)
  · (conv => whnf); refine enter_mk (la := laA R st) ⟨0, new0 R, lost0, ⟨0, _, _, _, _, _, _⟩⟩ ?_ (by (repeat' (first | ((conv => whnf); first | refine ⟨?_, ?_⟩ | exact trivial | fail) | (dsimp only; done) | ((try dsimp only); first | with_reducible exact rfl | exact Nat.le_refl _ | with_reducible exact (fun _ _ => rfl)))); all_goals ((first | rfl | exact fun r _ => rfl)))
    exact ⟨⟨Nat.zero_le _, Nat.zero_le _⟩, inv_new (by assumption : roomsOK R) lost0 lost_0 _ rfl (Nat.zero_le _) (by first | exact Nat.le_refl _ | exact Nat.zero_le _ | omega) (by first | decide | omega)⟩
  · have hh := (by assumption : (laA R st).inv y); dsimp only [laA] at hh; obtain ⟨⟨y1, y2⟩, yI⟩ := hh
    omega
  · have hh := (by assumption : (laA R st).inv y); dsimp only [laA] at hh; obtain ⟨⟨y1, y2⟩, yI⟩ := hh
    omega
  · have hh := (by assumption : (laA R st).inv y); dsimp only [laA] at hh; obtain ⟨⟨y1, y2⟩, yI⟩ := hh
    omega
  · have hh := (by assumption : (laA R st).inv y); dsimp only [laA] at hh; obtain ⟨⟨y1, y2⟩, yI⟩ := hh
    omega
  · have hh := (by assumption : (laA R st).inv y); dsimp only [laA] at hh; obtain ⟨⟨y1, y2⟩, yI⟩ := hh
    (conv => whnf); refine enter_mk (la := laB R st (y.i : Int)) ⟨0, y⟩ ?_ (by (repeat' (first | ((conv => whnf); first | refine ⟨?_, ?_⟩ | exact trivial | fail) | (dsimp only; done) | ((try dsimp only); first | with_reducible exact rfl | exact Nat.le_refl _ | with_reducible exact (fun _ _ => rfl)))); all_goals ((first | exact cnt_z _ _ | exact fst_z _ _ | rfl | decide | (dsimp only; rw [w64' (by omega) (by omega)]; done) | (dsimp only; rw [w64' (by omega) (by omega)]; omega) | (dsimp only; omega))))
    exact ⟨⟨rfl, by show y.i < st.len; omega, by show y.i < 100; omega, Nat.zero_le _⟩, yI⟩
  · have hh := (by assumption : (laB R st (y.i : Int)).inv z); dsimp only [laB] at hh; obtain ⟨⟨z0, z1, z2, z3⟩, zI⟩ := hh; have z4 := zI.n; have z5 := zI.cap; have z6 := zI.cN; have z7 := zI.mx; have zf := ff_lt (c := z.x.a.c) (C := (st.c (0 + (z.x.i : Int).toNat))) z.m
    omega
  · have hh := (by assumption : (laB R st (y.i : Int)).inv z); dsimp only [laB] at hh; obtain ⟨⟨z0, z1, z2, z3⟩, zI⟩ := hh; have z4 := zI.n; have z5 := zI.cap; have z6 := zI.cN; have z7 := zI.mx; have zf := ff_lt (c := z.x.a.c) (C := (st.c (0 + (z.x.i : Int).toNat))) z.m
    omega
  · have hh := (by assumption : (laB R st (y.i : Int)).inv z); dsimp only [laB] at hh; obtain ⟨⟨z0, z1, z2, z3⟩, zI⟩ := hh; have z4 := zI.n; have z5 := zI.cap; have z6 := zI.cN; have z7 := zI.mx; have zf := ff_lt (c := z.x.a.c) (C := (st.c (0 + (z.x.i : Int).toNat))) z.m
    omega
  · have hh := (by assumption : (laB R st (y.i : Int)).inv z); dsimp only [laB] at hh; obtain ⟨⟨z0, z1, z2, z3⟩, zI⟩ := hh; have z4 := zI.n; have z5 := zI.cap; have z6 := zI.cN; have z7 := zI.mx; have zf := ff_lt (c := z.x.a.c) (C := (st.c (0 + (z.x.i : Int).toNat))) z.m
    omega
  · have hh := (by assumption : (laB R st (y.i : Int)).inv z); dsimp only [laB] at hh; obtain ⟨⟨z0, z1, z2, z3⟩, zI⟩ := hh; have z4 := zI.n; have z5 := zI.cap; have z6 := zI.cN; have z7 := zI.mx; have zf := ff_lt (c := z.x.a.c) (C := (st.c (0 + (z.x.i : Int).toNat))) z.m
    have hc := cnt_le z.x.a.c (st.c (0 + (z.x.i : Int).toNat)) z.m
    (conv => whnf)
    (conv => whnf); refine enter_mk (la := laB R st (y.i : Int)) ⟨z.m + 1, z.x⟩ ?_ (by (repeat' (first | ((conv => whnf); first | refine ⟨?_, ?_⟩ | exact trivial | fail) | (dsimp only; done) | ((try dsimp only); first | with_reducible exact rfl | exact Nat.le_refl _ | with_reducible exact (fun _ _ => rfl)))); all_goals ((first | (show ((cntI z.x.a.c (st.c (0 + (z.x.i : Int).toNat)) (z.m + 1) : Nat) : Int) = IntKind.i64.wrap (((cntI z.x.a.c (st.c (0 + (z.x.i : Int).toNat)) z.m : Nat) : Int) + 1); rw [cnt_hit (by assumption), w64' (by omega) (by omega)]; omega) | (dsimp only; rw [fst_hit (by assumption) (by assumption)]; exact fz_some _) | (show z.x.a.n - (z.m + 1) < z.x.a.n - z.m; omega) | rfl | decide | (dsimp only; rw [w64' (by omega) (by omega)]; done) | (dsimp only; rw [w64' (by omega) (by omega)]; omega) | (dsimp only; omega))))
    exact ⟨⟨z0, z1, z2, by show z.m + 1 ≤ z.x.a.n; omega⟩, zI⟩
  · have hh := (by assumption : (laB R st (y.i : Int)).inv z); dsimp only [laB] at hh; obtain ⟨⟨z0, z1, z2, z3⟩, zI⟩ := hh; have z4 := zI.n; have z5 := zI.cap; have z6 := zI.cN; have z7 := zI.mx; have zf := ff_lt (c := z.x.a.c) (C := (st.c (0 + (z.x.i : Int).toNat))) z.m
    have hc := cnt_le z.x.a.c (st.c (0 + (z.x.i : Int).toNat)) z.m
    (conv => whnf)
    (conv => whnf); refine enter_mk (la := laB R st (y.i : Int)) ⟨z.m + 1, z.x⟩ ?_ (by (repeat' (first | ((conv => whnf); first | refine ⟨?_, ?_⟩ | exact trivial | fail) | (dsimp only; done) | ((try dsimp only); first | with_reducible exact rfl | exact Nat.le_refl _ | with_reducible exact (fun _ _ => rfl)))); all_goals ((first | (show ((cntI z.x.a.c (st.c (0 + (z.x.i : Int).toNat)) (z.m + 1) : Nat) : Int) = IntKind.i64.wrap (((cntI z.x.a.c (st.c (0 + (z.x.i : Int).toNat)) z.m : Nat) : Int) + 1); rw [cnt_hit (by assumption), w64' (by omega) (by omega)]; omega) | (dsimp only; rw [fst_old (by assumption)]; done) | (show z.x.a.n - (z.m + 1) < z.x.a.n - z.m; omega) | rfl | decide | (dsimp only; rw [w64' (by omega) (by omega)]; done) | (dsimp only; rw [w64' (by omega) (by omega)]; omega) | (dsimp only; omega))))
    exact ⟨⟨z0, z1, z2, by show z.m + 1 ≤ z.x.a.n; omega⟩, zI⟩
  · have hh := (by assumption : (laB R st (y.i : Int)).inv z); dsimp only [laB] at hh; obtain ⟨⟨z0, z1, z2, z3⟩, zI⟩ := hh; have z4 := zI.n; have z5 := zI.cap; have z6 := zI.cN; have z7 := zI.mx; have zf := ff_lt (c := z.x.a.c) (C := (st.c (0 + (z.x.i : Int).toNat))) z.m
    (conv => whnf)
    (conv => whnf); refine enter_mk (la := laB R st (y.i : Int)) ⟨z.m + 1, z.x⟩ ?_ (by (repeat' (first | ((conv => whnf); first | refine ⟨?_, ?_⟩ | exact trivial | fail) | (dsimp only; done) | ((try dsimp only); first | with_reducible exact rfl | exact Nat.le_refl _ | with_reducible exact (fun _ _ => rfl)))); all_goals ((first | (dsimp only; rw [cnt_miss (by assumption)]; done) | (dsimp only; rw [fst_miss (by assumption)]; done) | (show z.x.a.n - (z.m + 1) < z.x.a.n - z.m; omega) | rfl | decide | (dsimp only; rw [w64' (by omega) (by omega)]; done) | (dsimp only; rw [w64' (by omega) (by omega)]; omega) | (dsimp only; omega))))
    exact ⟨⟨z0, z1, z2, by show z.m + 1 ≤ z.x.a.n; omega⟩, zI⟩
  · exact ((by assumption : ¬ putE z.x.l (st.c (0 + (z.x.i : Int).toNat)) ⟨st.id (0 + (z.x.i : Int).toNat), st.sz (0 + (z.x.i : Int).toNat), st.dr (0 + (z.x.i : Int).toNat)⟩ = 1) (put_1 (.inl (by assumption)))).elim
  · have hh := (by assumption : (laB R st (y.i : Int)).inv z); dsimp only [laB] at hh; obtain ⟨⟨z0, z1, z2, z3⟩, zI⟩ := hh; have z4 := zI.n; have z5 := zI.cap; have z6 := zI.cN; have z7 := zI.mx; have zf := ff_lt (c := z.x.a.c) (C := (st.c (0 + (z.x.i : Int).toNat))) z.m
    have e : putE z.x.l (st.c (0 + (z.x.i : Int).toNat)) ⟨st.id (0 + (z.x.i : Int).toNat), st.sz (0 + (z.x.i : Int).toNat), st.dr (0 + (z.x.i : Int).toNat)⟩ = 1 := Decidable.not_not.1 (by assumption)
    (conv => whnf)
    (conv => whnf); refine enter_mk (la := laJ R st (z.x.i : Int)) ⟨⟨z.x.i, (putL z.x.l (st.c (0 + (z.x.i : Int).toNat)) ⟨st.id (0 + (z.x.i : Int).toNat), st.sz (0 + (z.x.i : Int).toNat), st.dr (0 + (z.x.i : Int).toNat)⟩), z.x.lost, z.x.a⟩⟩ ?_ (by (repeat' (first | ((conv => whnf); first | refine ⟨?_, ?_⟩ | exact trivial | fail) | (dsimp only; done) | ((try dsimp only); first | with_reducible exact rfl | exact Nat.le_refl _ | with_reducible exact (fun _ _ => rfl)))); all_goals ((first | rfl | decide | (dsimp only; rw [w64' (by omega) (by omega)]; done) | (dsimp only; rw [w64' (by omega) (by omega)]; omega) | (dsimp only; omega))))
    exact ⟨⟨rfl, by show z.x.i < st.len; omega, by show z.x.i < 100; omega⟩, zI.no (by rw [e]; decide) (by rw [e]; decide)⟩
  · exact ((by assumption : ¬ putE z.x.l (st.c (0 + (z.x.i : Int).toNat)) ⟨st.id (0 + (z.x.i : Int).toNat), st.sz (0 + (z.x.i : Int).toNat), st.dr (0 + (z.x.i : Int).toNat)⟩ = 1) (put_1 (.inr (by assumption)))).elim
  · have hh := (by assumption : (laB R st (y.i : Int)).inv z); dsimp only [laB] at hh; obtain ⟨⟨z0, z1, z2, z3⟩, zI⟩ := hh; have z4 := zI.n; have z5 := zI.cap; have z6 := zI.cN; have z7 := zI.mx; have zf := ff_lt (c := z.x.a.c) (C := (st.c (0 + (z.x.i : Int).toNat))) z.m
    have e : putE z.x.l (st.c (0 + (z.x.i : Int).toNat)) ⟨st.id (0 + (z.x.i : Int).toNat), st.sz (0 + (z.x.i : Int).toNat), st.dr (0 + (z.x.i : Int).toNat)⟩ = 1 := Decidable.not_not.1 (by assumption)
    (conv => whnf)
    (conv => whnf); refine enter_mk (la := laJ R st (z.x.i : Int)) ⟨⟨z.x.i, (putL z.x.l (st.c (0 + (z.x.i : Int).toNat)) ⟨st.id (0 + (z.x.i : Int).toNat), st.sz (0 + (z.x.i : Int).toNat), st.dr (0 + (z.x.i : Int).toNat)⟩), z.x.lost, z.x.a⟩⟩ ?_ (by (repeat' (first | ((conv => whnf); first | refine ⟨?_, ?_⟩ | exact trivial | fail) | (dsimp only; done) | ((try dsimp only); first | with_reducible exact rfl | exact Nat.le_refl _ | with_reducible exact (fun _ _ => rfl)))); all_goals ((first | rfl | decide | (dsimp only; rw [w64' (by omega) (by omega)]; done) | (dsimp only; rw [w64' (by omega) (by omega)]; omega) | (dsimp only; omega))))
    exact ⟨⟨rfl, by show z.x.i < st.len; omega, by show z.x.i < 100; omega⟩, zI.no (by rw [e]; decide) (by rw [e]; decide)⟩
  · exact ((by assumption : ¬ putE z.x.l (st.c (0 + (z.x.i : Int).toNat)) ⟨st.id (0 + (z.x.i : Int).toNat), st.sz (0 + (z.x.i : Int).toNat), st.dr (0 + (z.x.i : Int).toNat)⟩ = 40) (put_40 (fun hh => hh.elim (by assumption : ¬ st.sz (0 + (z.x.i : Int).toNat) < 0) (by assumption : ¬ 1600 < st.sz (0 + (z.x.i : Int).toNat))) (.inl (by assumption)))).elim
  · have hh := (by assumption : (laB R st (y.i : Int)).inv z); dsimp only [laB] at hh; obtain ⟨⟨z0, z1, z2, z3⟩, zI⟩ := hh; have z4 := zI.n; have z5 := zI.cap; have z6 := zI.cN; have z7 := zI.mx; have zf := ff_lt (c := z.x.a.c) (C := (st.c (0 + (z.x.i : Int).toNat))) z.m
    have e : putE z.x.l (st.c (0 + (z.x.i : Int).toNat)) ⟨st.id (0 + (z.x.i : Int).toNat), st.sz (0 + (z.x.i : Int).toNat), st.dr (0 + (z.x.i : Int).toNat)⟩ = 40 := Decidable.not_not.1 (by assumption)
    (conv => whnf)
    (conv => whnf); refine enter_mk (la := laJ R st (z.x.i : Int)) ⟨⟨z.x.i, (putL z.x.l (st.c (0 + (z.x.i : Int).toNat)) ⟨st.id (0 + (z.x.i : Int).toNat), st.sz (0 + (z.x.i : Int).toNat), st.dr (0 + (z.x.i : Int).toNat)⟩), z.x.lost, z.x.a⟩⟩ ?_ (by (repeat' (first | ((conv => whnf); first | refine ⟨?_, ?_⟩ | exact trivial | fail) | (dsimp only; done) | ((try dsimp only); first | with_reducible exact rfl | exact Nat.le_refl _ | with_reducible exact (fun _ _ => rfl)))); all_goals ((first | rfl | decide | (dsimp only; rw [w64' (by omega) (by omega)]; done) | (dsimp only; rw [w64' (by omega) (by omega)]; omega) | (dsimp only; omega))))
    exact ⟨⟨rfl, by show z.x.i < st.len; omega, by show z.x.i < 100; omega⟩, zI.no (by rw [e]; decide) (by rw [e]; decide)⟩
  · exact ((by assumption : ¬ putE z.x.l (st.c (0 + (z.x.i : Int).toNat)) ⟨st.id (0 + (z.x.i : Int).toNat), st.sz (0 + (z.x.i : Int).toNat), st.dr (0 + (z.x.i : Int).toNat)⟩ = 40) (put_40 (fun hh => hh.elim (by assumption : ¬ st.sz (0 + (z.x.i : Int).toNat) < 0) (by assumption : ¬ 1600 < st.sz (0 + (z.x.i : Int).toNat))) (.inr (by assumption)))).elim
  · have hh := (by assumption : (laB R st (y.i : Int)).inv z); dsimp only [laB] at hh; obtain ⟨⟨z0, z1, z2, z3⟩, zI⟩ := hh; have z4 := zI.n; have z5 := zI.cap; have z6 := zI.cN; have z7 := zI.mx; have zf := ff_lt (c := z.x.a.c) (C := (st.c (0 + (z.x.i : Int).toNat))) z.m
    have e : putE z.x.l (st.c (0 + (z.x.i : Int).toNat)) ⟨st.id (0 + (z.x.i : Int).toNat), st.sz (0 + (z.x.i : Int).toNat), st.dr (0 + (z.x.i : Int).toNat)⟩ = 40 := Decidable.not_not.1 (by assumption)
    (conv => whnf)
    (conv => whnf); refine enter_mk (la := laJ R st (z.x.i : Int)) ⟨⟨z.x.i, (putL z.x.l (st.c (0 + (z.x.i : Int).toNat)) ⟨st.id (0 + (z.x.i : Int).toNat), st.sz (0 + (z.x.i : Int).toNat), st.dr (0 + (z.x.i : Int).toNat)⟩), z.x.lost, z.x.a⟩⟩ ?_ (by (repeat' (first | ((conv => whnf); first | refine ⟨?_, ?_⟩ | exact trivial | fail) | (dsimp only; done) | ((try dsimp only); first | with_reducible exact rfl | exact Nat.le_refl _ | with_reducible exact (fun _ _ => rfl)))); all_goals ((first | rfl | decide | (dsimp only; rw [w64' (by omega) (by omega)]; done) | (dsimp only; rw [w64' (by omega) (by omega)]; omega) | (dsimp only; omega))))
    exact ⟨⟨rfl, by show z.x.i < st.len; omega, by show z.x.i < 100; omega⟩, zI.no (by rw [e]; decide) (by rw [e]; decide)⟩
  · omega
  · omega
  · omega
  · omega
  · omega
  · omega
  · omega
  · omega
  · omega
  · omega
  · omega
  · omega
  · have hh := (by assumption : (laB R st (y.i : Int)).inv z); dsimp only [laB] at hh; obtain ⟨⟨z0, z1, z2, z3⟩, zI⟩ := hh; have z4 := zI.n; have z5 := zI.cap; have z6 := zI.cN; have z7 := zI.mx; have zf := ff_lt (c := z.x.a.c) (C := (st.c (0 + (z.x.i : Int).toNat))) z.m
    have hC : 0 ≤ (st.c (0 + (z.x.i : Int).toNat)) ∧ (st.c (0 + (z.x.i : Int).toNat)) ≤ 7 := ⟨by omega, by omega⟩
    have zm : z.m = z.x.a.n := by omega
    exact ((by assumption : ¬ putE z.x.l (st.c (0 + (z.x.i : Int).toNat)) ⟨st.id (0 + (z.x.i : Int).toNat), st.sz (0 + (z.x.i : Int).toNat), st.dr (0 + (z.x.i : Int).toNat)⟩ = 30) (put_30 (fun hh => hh.elim (by assumption : ¬ st.sz (0 + (z.x.i : Int).toNat) < 0) (by assumption : ¬ 1600 < st.sz (0 + (z.x.i : Int).toNat))) (fun hh => hh.elim (by assumption : ¬ (st.c (0 + (z.x.i : Int).toNat)) < 0) (by assumption : ¬ 7 < (st.c (0 + (z.x.i : Int).toNat)))) ((zI.full_iff (by omega) hC zm _).2 (.inl (by assumption))))).elim
  · have hh := (by assumption : (laB R st (y.i : Int)).inv z); dsimp only [laB] at hh; obtain ⟨⟨z0, z1, z2, z3⟩, zI⟩ := hh; have z4 := zI.n; have z5 := zI.cap; have z6 := zI.cN; have z7 := zI.mx; have zf := ff_lt (c := z.x.a.c) (C := (st.c (0 + (z.x.i : Int).toNat))) z.m
    have hC : 0 ≤ (st.c (0 + (z.x.i : Int).toNat)) ∧ (st.c (0 + (z.x.i : Int).toNat)) ≤ 7 := ⟨by omega, by omega⟩
    have e : putE z.x.l (st.c (0 + (z.x.i : Int).toNat)) ⟨st.id (0 + (z.x.i : Int).toNat), st.sz (0 + (z.x.i : Int).toNat), st.dr (0 + (z.x.i : Int).toNat)⟩ = 30 := Decidable.not_not.1 (by assumption)
    (conv => whnf)
    (conv => whnf); refine enter_mk (la := laJ R st (z.x.i : Int)) ⟨⟨z.x.i, (putL z.x.l (st.c (0 + (z.x.i : Int).toNat)) ⟨st.id (0 + (z.x.i : Int).toNat), st.sz (0 + (z.x.i : Int).toNat), st.dr (0 + (z.x.i : Int).toNat)⟩), _, z.x.a⟩⟩ ?_ (by (repeat' (first | ((conv => whnf); first | refine ⟨?_, ?_⟩ | exact trivial | fail) | (dsimp only; done) | ((try dsimp only); first | with_reducible exact rfl | exact Nat.le_refl _ | with_reducible exact (fun _ _ => rfl)))); all_goals ((first | rfl | decide | (dsimp only; rw [w64' (by omega) (by omega)]; done) | (dsimp only; rw [w64' (by omega) (by omega)]; omega) | (dsimp only; omega))))
    exact ⟨⟨rfl, by show z.x.i < st.len; omega, by show z.x.i < 100; omega⟩, zI.fill e (fun k => rfl) hC⟩
  · omega
  · omega
  · omega
  · omega
  · omega
  · omega
  · omega
  · omega
  · omega
  · omega
  · omega
  · omega
  · have hh := (by assumption : (laB R st (y.i : Int)).inv z); dsimp only [laB] at hh; obtain ⟨⟨z0, z1, z2, z3⟩, zI⟩ := hh; have z4 := zI.n; have z5 := zI.cap; have z6 := zI.cN; have z7 := zI.mx; have zf := ff_lt (c := z.x.a.c) (C := (st.c (0 + (z.x.i : Int).toNat))) z.m
    have hC : 0 ≤ (st.c (0 + (z.x.i : Int).toNat)) ∧ (st.c (0 + (z.x.i : Int).toNat)) ≤ 7 := ⟨by omega, by omega⟩
    have zm : z.m = z.x.a.n := by omega
    exact ((by assumption : ¬ putE z.x.l (st.c (0 + (z.x.i : Int).toNat)) ⟨st.id (0 + (z.x.i : Int).toNat), st.sz (0 + (z.x.i : Int).toNat), st.dr (0 + (z.x.i : Int).toNat)⟩ = 30) (put_30 (fun hh => hh.elim (by assumption : ¬ st.sz (0 + (z.x.i : Int).toNat) < 0) (by assumption : ¬ 1600 < st.sz (0 + (z.x.i : Int).toNat))) (fun hh => hh.elim (by assumption : ¬ (st.c (0 + (z.x.i : Int).toNat)) < 0) (by assumption : ¬ 7 < (st.c (0 + (z.x.i : Int).toNat)))) ((zI.full_iff (by omega) hC zm _).2 (.inr ⟨by assumption, by assumption⟩)))).elim
  · have hh := (by assumption : (laB R st (y.i : Int)).inv z); dsimp only [laB] at hh; obtain ⟨⟨z0, z1, z2, z3⟩, zI⟩ := hh; have z4 := zI.n; have z5 := zI.cap; have z6 := zI.cN; have z7 := zI.mx; have zf := ff_lt (c := z.x.a.c) (C := (st.c (0 + (z.x.i : Int).toNat))) z.m
    have hC : 0 ≤ (st.c (0 + (z.x.i : Int).toNat)) ∧ (st.c (0 + (z.x.i : Int).toNat)) ≤ 7 := ⟨by omega, by omega⟩
    have e : putE z.x.l (st.c (0 + (z.x.i : Int).toNat)) ⟨st.id (0 + (z.x.i : Int).toNat), st.sz (0 + (z.x.i : Int).toNat), st.dr (0 + (z.x.i : Int).toNat)⟩ = 30 := Decidable.not_not.1 (by assumption)
    (conv => whnf)
    (conv => whnf); refine enter_mk (la := laJ R st (z.x.i : Int)) ⟨⟨z.x.i, (putL z.x.l (st.c (0 + (z.x.i : Int).toNat)) ⟨st.id (0 + (z.x.i : Int).toNat), st.sz (0 + (z.x.i : Int).toNat), st.dr (0 + (z.x.i : Int).toNat)⟩), _, z.x.a⟩⟩ ?_ (by (repeat' (first | ((conv => whnf); first | refine ⟨?_, ?_⟩ | exact trivial | fail) | (dsimp only; done) | ((try dsimp only); first | with_reducible exact rfl | exact Nat.le_refl _ | with_reducible exact (fun _ _ => rfl)))); all_goals ((first | rfl | decide | (dsimp only; rw [w64' (by omega) (by omega)]; done) | (dsimp only; rw [w64' (by omega) (by omega)]; omega) | (dsimp only; omega))))
    exact ⟨⟨rfl, by show z.x.i < st.len; omega, by show z.x.i < 100; omega⟩, zI.fill e (fun k => rfl) hC⟩
  · have hh := (by assumption : (laB R st (y.i : Int)).inv z); dsimp only [laB] at hh; obtain ⟨⟨z0, z1, z2, z3⟩, zI⟩ := hh; have z4 := zI.n; have z5 := zI.cap; have z6 := zI.cN; have z7 := zI.mx; have zf := ff_lt (c := z.x.a.c) (C := (st.c (0 + (z.x.i : Int).toNat))) z.m
    omega
  · have hh := (by assumption : (laB R st (y.i : Int)).inv z); dsimp only [laB] at hh; obtain ⟨⟨z0, z1, z2, z3⟩, zI⟩ := hh; have z4 := zI.n; have z5 := zI.cap; have z6 := zI.cN; have z7 := zI.mx; have zf := ff_lt (c := z.x.a.c) (C := (st.c (0 + (z.x.i : Int).toNat))) z.m
    omega
  · have hh := (by assumption : (laB R st (y.i : Int)).inv z); dsimp only [laB] at hh; obtain ⟨⟨z0, z1, z2, z3⟩, zI⟩ := hh; have z4 := zI.n; have z5 := zI.cap; have z6 := zI.cN; have z7 := zI.mx; have zf := ff_lt (c := z.x.a.c) (C := (st.c (0 + (z.x.i : Int).toNat))) z.m
    omega
  · have hh := (by assumption : (laB R st (y.i : Int)).inv z); dsimp only [laB] at hh; obtain ⟨⟨z0, z1, z2, z3⟩, zI⟩ := hh; have z4 := zI.n; have z5 := zI.cap; have z6 := zI.cN; have z7 := zI.mx; have zf := ff_lt (c := z.x.a.c) (C := (st.c (0 + (z.x.i : Int).toNat))) z.m
    omega
  · have hh := (by assumption : (laB R st (y.i : Int)).inv z); dsimp only [laB] at hh; obtain ⟨⟨z0, z1, z2, z3⟩, zI⟩ := hh; have z4 := zI.n; have z5 := zI.cap; have z6 := zI.cN; have z7 := zI.mx; have zf := ff_lt (c := z.x.a.c) (C := (st.c (0 + (z.x.i : Int).toNat))) z.m
    have hC : 0 ≤ (st.c (0 + (z.x.i : Int).toNat)) ∧ (st.c (0 + (z.x.i : Int).toNat)) ≤ 7 := ⟨by omega, by omega⟩
    have zm : z.m = z.x.a.n := by omega
    exact ((by assumption : ¬ putE z.x.l (st.c (0 + (z.x.i : Int).toNat)) ⟨st.id (0 + (z.x.i : Int).toNat), st.sz (0 + (z.x.i : Int).toNat), st.dr (0 + (z.x.i : Int).toNat)⟩ = 0) (put_0 (fun hh => hh.elim (by assumption : ¬ st.sz (0 + (z.x.i : Int).toNat) < 0) (by assumption : ¬ 1600 < st.sz (0 + (z.x.i : Int).toNat))) (fun hh => hh.elim (by assumption : ¬ (st.c (0 + (z.x.i : Int).toNat)) < 0) (by assumption : ¬ 7 < (st.c (0 + (z.x.i : Int).toNat)))) (fun hf => ((zI.full_iff (by omega) hC zm _).1 hf).elim (by assumption) (fun hh => by exact absurd hh.2 (by assumption))))).elim
  · have hh := (by assumption : (laB R st (y.i : Int)).inv z); dsimp only [laB] at hh; obtain ⟨⟨z0, z1, z2, z3⟩, zI⟩ := hh; have z4 := zI.n; have z5 := zI.cap; have z6 := zI.cN; have z7 := zI.mx; have zf := ff_lt (c := z.x.a.c) (C := (st.c (0 + (z.x.i : Int).toNat))) z.m
    have hC : 0 ≤ (st.c (0 + (z.x.i : Int).toNat)) ∧ (st.c (0 + (z.x.i : Int).toNat)) ≤ 7 := ⟨by omega, by omega⟩
    have e : putE z.x.l (st.c (0 + (z.x.i : Int).toNat)) ⟨st.id (0 + (z.x.i : Int).toNat), st.sz (0 + (z.x.i : Int).toNat), st.dr (0 + (z.x.i : Int).toNat)⟩ = 0 := Decidable.not_not.1 (by assumption)
    (conv => whnf)
    (conv => whnf); refine enter_mk (la := laJ R st (z.x.i : Int)) ⟨⟨z.x.i, (putL z.x.l (st.c (0 + (z.x.i : Int).toNat)) ⟨st.id (0 + (z.x.i : Int).toNat), st.sz (0 + (z.x.i : Int).toNat), st.dr (0 + (z.x.i : Int).toNat)⟩), z.x.lost, ⟨z.x.a.n + 1, _, _, _, _, _, _⟩⟩⟩ ?_ (by (repeat' (first | ((conv => whnf); first | refine ⟨?_, ?_⟩ | exact trivial | fail) | (dsimp only; done) | ((try dsimp only); first | with_reducible exact rfl | exact Nat.le_refl _ | with_reducible exact (fun _ _ => rfl)))); all_goals ((first | rfl | decide | (dsimp only; rw [w64' (by omega) (by omega)]; done) | (dsimp only; rw [w64' (by omega) (by omega)]; omega) | (dsimp only; omega))))
    refine ⟨⟨rfl, by show z.x.i < st.len; omega, by show z.x.i < 100; omega⟩, zI.put e _ rfl (by assumption) (Nat.le_refl _) (by assumption) (fun r hr => ?_) ?_⟩
    · dsimp only; rw [if_pos hr, if_pos hr, if_pos hr, if_pos hr]; exact ⟨rfl, rfl, rfl, rfl⟩
    · refine ⟨?_, ?_, ?_, ?_⟩ <;> (dsimp only; rw [if_neg (Nat.lt_irrefl _), if_pos (Nat.lt_add_one _), Nat.sub_self]; rfl)
  · have hh := (by assumption : (laB R st (y.i : Int)).inv z); dsimp only [laB] at hh; obtain ⟨⟨z0, z1, z2, z3⟩, zI⟩ := hh; have z4 := zI.n; have z5 := zI.cap; have z6 := zI.cN; have z7 := zI.mx; have zf := ff_lt (c := z.x.a.c) (C := (st.c (0 + (z.x.i : Int).toNat))) z.m
    omega
  · have hh := (by assumption : (laB R st (y.i : Int)).inv z); dsimp only [laB] at hh; obtain ⟨⟨z0, z1, z2, z3⟩, zI⟩ := hh; have z4 := zI.n; have z5 := zI.cap; have z6 := zI.cN; have z7 := zI.mx; have zf := ff_lt (c := z.x.a.c) (C := (st.c (0 + (z.x.i : Int).toNat))) z.m
    omega
  · have hh := (by assumption : (laB R st (y.i : Int)).inv z); dsimp only [laB] at hh; obtain ⟨⟨z0, z1, z2, z3⟩, zI⟩ := hh; have z4 := zI.n; have z5 := zI.cap; have z6 := zI.cN; have z7 := zI.mx; have zf := ff_lt (c := z.x.a.c) (C := (st.c (0 + (z.x.i : Int).toNat))) z.m
    omega
  · have hh := (by assumption : (laB R st (y.i : Int)).inv z); dsimp only [laB] at hh; obtain ⟨⟨z0, z1, z2, z3⟩, zI⟩ := hh; have z4 := zI.n; have z5 := zI.cap; have z6 := zI.cN; have z7 := zI.mx; have zf := ff_lt (c := z.x.a.c) (C := (st.c (0 + (z.x.i : Int).toNat))) z.m
    omega
  · have hh := (by assumption : (laB R st (y.i : Int)).inv z); dsimp only [laB] at hh; obtain ⟨⟨z0, z1, z2, z3⟩, zI⟩ := hh; have z4 := zI.n; have z5 := zI.cap; have z6 := zI.cN; have z7 := zI.mx; have zf := ff_lt (c := z.x.a.c) (C := (st.c (0 + (z.x.i : Int).toNat))) z.m
    have hC : 0 ≤ (st.c (0 + (z.x.i : Int).toNat)) ∧ (st.c (0 + (z.x.i : Int).toNat)) ≤ 7 := ⟨by omega, by omega⟩
    have zm : z.m = z.x.a.n := by omega
    exact ((by assumption : ¬ putE z.x.l (st.c (0 + (z.x.i : Int).toNat)) ⟨st.id (0 + (z.x.i : Int).toNat), st.sz (0 + (z.x.i : Int).toNat), st.dr (0 + (z.x.i : Int).toNat)⟩ = 0) (put_0 (fun hh => hh.elim (by assumption : ¬ st.sz (0 + (z.x.i : Int).toNat) < 0) (by assumption : ¬ 1600 < st.sz (0 + (z.x.i : Int).toNat))) (fun hh => hh.elim (by assumption : ¬ (st.c (0 + (z.x.i : Int).toNat)) < 0) (by assumption : ¬ 7 < (st.c (0 + (z.x.i : Int).toNat)))) (fun hf => ((zI.full_iff (by omega) hC zm _).1 hf).elim (by assumption) (fun hh => by exact absurd (hh.1.symm.trans (by assumption : st.dr (0 + (z.x.i : Int).toNat) = false)) (by decide))))).elim
  · have hh := (by assumption : (laB R st (y.i : Int)).inv z); dsimp only [laB] at hh; obtain ⟨⟨z0, z1, z2, z3⟩, zI⟩ := hh; have z4 := zI.n; have z5 := zI.cap; have z6 := zI.cN; have z7 := zI.mx; have zf := ff_lt (c := z.x.a.c) (C := (st.c (0 + (z.x.i : Int).toNat))) z.m
    have hC : 0 ≤ (st.c (0 + (z.x.i : Int).toNat)) ∧ (st.c (0 + (z.x.i : Int).toNat)) ≤ 7 := ⟨by omega, by omega⟩
    have e : putE z.x.l (st.c (0 + (z.x.i : Int).toNat)) ⟨st.id (0 + (z.x.i : Int).toNat), st.sz (0 + (z.x.i : Int).toNat), st.dr (0 + (z.x.i : Int).toNat)⟩ = 0 := Decidable.not_not.1 (by assumption)
    (conv => whnf)
    (conv => whnf); refine enter_mk (la := laJ R st (z.x.i : Int)) ⟨⟨z.x.i, (putL z.x.l (st.c (0 + (z.x.i : Int).toNat)) ⟨st.id (0 + (z.x.i : Int).toNat), st.sz (0 + (z.x.i : Int).toNat), st.dr (0 + (z.x.i : Int).toNat)⟩), z.x.lost, ⟨z.x.a.n + 1, _, _, _, _, _, _⟩⟩⟩ ?_ (by (repeat' (first | ((conv => whnf); first | refine ⟨?_, ?_⟩ | exact trivial | fail) | (dsimp only; done) | ((try dsimp only); first | with_reducible exact rfl | exact Nat.le_refl _ | with_reducible exact (fun _ _ => rfl)))); all_goals ((first | rfl | decide | (dsimp only; rw [w64' (by omega) (by omega)]; done) | (dsimp only; rw [w64' (by omega) (by omega)]; omega) | (dsimp only; omega))))
    refine ⟨⟨rfl, by show z.x.i < st.len; omega, by show z.x.i < 100; omega⟩, zI.put e _ rfl (by assumption) (Nat.le_refl _) (by assumption) (fun r hr => ?_) ?_⟩
    · dsimp only; rw [if_pos hr, if_pos hr, if_pos hr, if_pos hr]; exact ⟨rfl, rfl, rfl, rfl⟩
    · refine ⟨?_, ?_, ?_, ?_⟩ <;> (dsimp only; rw [if_neg (Nat.lt_irrefl _), if_pos (Nat.lt_add_one _), Nat.sub_self]; rfl)
  · have hh := (by assumption : (laB R st (y.i : Int)).inv z); dsimp only [laB] at hh; obtain ⟨⟨z0, z1, z2, z3⟩, zI⟩ := hh; have z4 := zI.n; have z5 := zI.cap; have z6 := zI.cN; have z7 := zI.mx; have zf := ff_lt (c := z.x.a.c) (C := (st.c (0 + (z.x.i : Int).toNat))) z.m
    (conv => whnf); refine enter_mk (la := laD R st (z.x.i : Int)) ⟨0, z.x, seen0⟩ ?_ (by (repeat' (first | ((conv => whnf); first | refine ⟨?_, ?_⟩ | exact trivial | fail) | (dsimp only; done) | ((try dsimp only); first | with_reducible exact rfl | exact Nat.le_refl _ | with_reducible exact (fun _ _ => rfl)))); all_goals ((first | exact bst_z _ _ _ | exact fun r _ => rfl | rfl | decide | (dsimp only; rw [w64' (by omega) (by omega)]; done) | (dsimp only; rw [w64' (by omega) (by omega)]; omega) | (dsimp only; omega))))
    exact ⟨⟨rfl, z1, z2, Nat.zero_le _⟩, seen_0 _ seen_f _, zI⟩
  · have hh := (by assumption : (laD R st (z.x.i : Int)).inv u); dsimp only [laD] at hh; obtain ⟨⟨u0, u1, u2, u3⟩, uq, uI⟩ := hh; have u4 := uI.n; have u5 := uI.cap; have u6 := uI.cN; have u7 := uI.mx; have ub := fz_lt (c := u.x.a.c) (sz := u.x.a.sz) (a := (lfA st u.x.i)) u.m
    omega
  · have hh := (by assumption : (laD R st (z.x.i : Int)).inv u); dsimp only [laD] at hh; obtain ⟨⟨u0, u1, u2, u3⟩, uq, uI⟩ := hh; have u4 := uI.n; have u5 := uI.cap; have u6 := uI.cN; have u7 := uI.mx; have ub := fz_lt (c := u.x.a.c) (sz := u.x.a.sz) (a := (lfA st u.x.i)) u.m
    omega
  · have hh := (by assumption : (laD R st (z.x.i : Int)).inv u); dsimp only [laD] at hh; obtain ⟨⟨u0, u1, u2, u3⟩, uq, uI⟩ := hh; have u4 := uI.n; have u5 := uI.cap; have u6 := uI.cN; have u7 := uI.mx; have ub := fz_lt (c := u.x.a.c) (sz := u.x.a.sz) (a := (lfA st u.x.i)) u.m
    omega
  · have hh := (by assumption : (laD R st (z.x.i : Int)).inv u); dsimp only [laD] at hh; obtain ⟨⟨u0, u1, u2, u3⟩, uq, uI⟩ := hh; have u4 := uI.n; have u5 := uI.cap; have u6 := uI.cN; have u7 := uI.mx; have ub := fz_lt (c := u.x.a.c) (sz := u.x.a.sz) (a := (lfA st u.x.i)) u.m
    omega
  · have hh := (by assumption : (laD R st (z.x.i : Int)).inv u); dsimp only [laD] at hh; obtain ⟨⟨u0, u1, u2, u3⟩, uq, uI⟩ := hh; have u4 := uI.n; have u5 := uI.cap; have u6 := uI.cN; have u7 := uI.mx; have ub := fz_lt (c := u.x.a.c) (sz := u.x.a.sz) (a := (lfA st u.x.i)) u.m
    have uc2 : 0 ≤ u.x.a.c (0 + ((u.m : Nat) : Int).toNat) ∧ u.x.a.c (0 + ((u.m : Nat) : Int).toNat) ≤ 7 := by rw [at_n]; exact mt_cls uI.mt (j := u.m) (by omega)
    omega
  · have hh := (by assumption : (laD R st (z.x.i : Int)).inv u); dsimp only [laD] at hh; obtain ⟨⟨u0, u1, u2, u3⟩, uq, uI⟩ := hh; have u4 := uI.n; have u5 := uI.cap; have u6 := uI.cN; have u7 := uI.mx; have ub := fz_lt (c := u.x.a.c) (sz := u.x.a.sz) (a := (lfA st u.x.i)) u.m
    have uc2 : 0 ≤ u.x.a.c (0 + ((u.m : Nat) : Int).toNat) ∧ u.x.a.c (0 + ((u.m : Nat) : Int).toNat) ≤ 7 := by rw [at_n]; exact mt_cls uI.mt (j := u.m) (by omega)
    omega
  · have hh := (by assumption : (laD R st (z.x.i : Int)).inv u); dsimp only [laD] at hh; obtain ⟨⟨u0, u1, u2, u3⟩, uq, uI⟩ := hh; have u4 := uI.n; have u5 := uI.cap; have u6 := uI.cN; have u7 := uI.mx; have ub := fz_lt (c := u.x.a.c) (sz := u.x.a.sz) (a := (lfA st u.x.i)) u.m
    have uc2 : 0 ≤ u.x.a.c (0 + ((u.m : Nat) : Int).toNat) ∧ u.x.a.c (0 + ((u.m : Nat) : Int).toNat) ≤ 7 := by rw [at_n]; exact mt_cls uI.mt (j := u.m) (by omega)
    omega
  · have hh := (by assumption : (laD R st (z.x.i : Int)).inv u); dsimp only [laD] at hh; obtain ⟨⟨u0, u1, u2, u3⟩, uq, uI⟩ := hh; have u4 := uI.n; have u5 := uI.cap; have u6 := uI.cN; have u7 := uI.mx; have ub := fz_lt (c := u.x.a.c) (sz := u.x.a.sz) (a := (lfA st u.x.i)) u.m
    have uc2 : 0 ≤ u.x.a.c (0 + ((u.m : Nat) : Int).toNat) ∧ u.x.a.c (0 + ((u.m : Nat) : Int).toNat) ≤ 7 := by rw [at_n]; exact mt_cls uI.mt (j := u.m) (by omega)
    omega
  · have hh := (by assumption : (laD R st (z.x.i : Int)).inv u); dsimp only [laD] at hh; obtain ⟨⟨u0, u1, u2, u3⟩, uq, uI⟩ := hh; have u4 := uI.n; have u5 := uI.cap; have u6 := uI.cN; have u7 := uI.mx; have ub := fz_lt (c := u.x.a.c) (sz := u.x.a.sz) (a := (lfA st u.x.i)) u.m
    have uc2 : 0 ≤ u.x.a.c (0 + ((u.m : Nat) : Int).toNat) ∧ u.x.a.c (0 + ((u.m : Nat) : Int).toNat) ≤ 7 := by rw [at_n]; exact mt_cls uI.mt (j := u.m) (by omega)
    omega
  · have hh := (by assumption : (laD R st (z.x.i : Int)).inv u); dsimp only [laD] at hh; obtain ⟨⟨u0, u1, u2, u3⟩, uq, uI⟩ := hh; have u4 := uI.n; have u5 := uI.cap; have u6 := uI.cN; have u7 := uI.mx; have ub := fz_lt (c := u.x.a.c) (sz := u.x.a.sz) (a := (lfA st u.x.i)) u.m
    have uc2 : 0 ≤ u.x.a.c (0 + ((u.m : Nat) : Int).toNat) ∧ u.x.a.c (0 + ((u.m : Nat) : Int).toNat) ≤ 7 := by rw [at_n]; exact mt_cls uI.mt (j := u.m) (by omega)
    omega
  · have hh := (by assumption : (laD R st (z.x.i : Int)).inv u); dsimp only [laD] at hh; obtain ⟨⟨u0, u1, u2, u3⟩, uq, uI⟩ := hh; have u4 := uI.n; have u5 := uI.cap; have u6 := uI.cN; have u7 := uI.mx; have ub := fz_lt (c := u.x.a.c) (sz := u.x.a.sz) (a := (lfA st u.x.i)) u.m
    have uc := mt_cls uI.mt (j := u.m) (by omega); have us := mt_sz uI.mt (j := u.m) (by omega)
    have g1 : u.x.a.c u.m = ((0 : Nat) : Int) := by have h9 := (by assumption : u.x.a.c (0 + ((u.m : Nat) : Int).toNat) = ((0 : Nat) : Int)); rw [at_n u.m] at h9; exact h9
    have un := not_seen uq uc (by simpa using (by assumption : (!u.q (u.x.a.c (0 + ((u.m : Nat) : Int).toNat)).toNat) = true))
    have g2 : 8 * u.x.a.sz u.m ≤ (lfA st u.x.i).f (u.x.a.c u.m).toNat := by rw [f_at g1]; have h9 := (by assumption : IntKind.i64.wrap (8 * u.x.a.sz (0 + ((u.m : Nat) : Int).toNat)) ≤ st.l0 (0 + ((u.x.i : Nat) : Int).toNat)); rw [at_n u.m, mul8 us] at h9; exact h9
    have e9 := bst_first (a := (lfA st u.x.i)) un g2 (by assumption)
    (conv => whnf)
    (conv => whnf); refine enter_mk (la := laG R st (u.x.i : Int) (u.m : Int)) ⟨u.m, u.x, u.q⟩ ?_ (by (repeat' (first | ((conv => whnf); first | refine ⟨?_, ?_⟩ | exact trivial | fail) | (dsimp only; done) | ((try dsimp only); first | with_reducible exact rfl | exact Nat.le_refl _ | with_reducible exact (fun _ _ => rfl)))); all_goals ((first | (dsimp only; rw [e9]; done) | (dsimp only; rw [e9]; exact fz_some _) | rfl | decide | (dsimp only; rw [w64' (by omega) (by omega)]; done) | (dsimp only; rw [w64' (by omega) (by omega)]; omega) | (dsimp only; omega))))
    exact ⟨⟨rfl, rfl, u1, u2, by show u.m < u.x.a.n; omega⟩, uq, uI⟩
  · have hh := (by assumption : (laD R st (z.x.i : Int)).inv u); dsimp only [laD] at hh; obtain ⟨⟨u0, u1, u2, u3⟩, uq, uI⟩ := hh; have u4 := uI.n; have u5 := uI.cap; have u6 := uI.cN; have u7 := uI.mx; have ub := fz_lt (c := u.x.a.c) (sz := u.x.a.sz) (a := (lfA st u.x.i)) u.m
    omega
  · have hh := (by assumption : (laD R st (z.x.i : Int)).inv u); dsimp only [laD] at hh; obtain ⟨⟨u0, u1, u2, u3⟩, uq, uI⟩ := hh; have u4 := uI.n; have u5 := uI.cap; have u6 := uI.cN; have u7 := uI.mx; have ub := fz_lt (c := u.x.a.c) (sz := u.x.a.sz) (a := (lfA st u.x.i)) u.m
    omega
  · have hh := (by assumption : (laD R st (z.x.i : Int)).inv u); dsimp only [laD] at hh; obtain ⟨⟨u0, u1, u2, u3⟩, uq, uI⟩ := hh; have u4 := uI.n; have u5 := uI.cap; have u6 := uI.cN; have u7 := uI.mx; have ub := fz_lt (c := u.x.a.c) (sz := u.x.a.sz) (a := (lfA st u.x.i)) u.m
    omega
  · have hh := (by assumption : (laD R st (z.x.i : Int)).inv u); dsimp only [laD] at hh; obtain ⟨⟨u0, u1, u2, u3⟩, uq, uI⟩ := hh; have u4 := uI.n; have u5 := uI.cap; have u6 := uI.cN; have u7 := uI.mx; have ub := fz_lt (c := u.x.a.c) (sz := u.x.a.sz) (a := (lfA st u.x.i)) u.m
    omega
  · have hh := (by assumption : (laD R st (z.x.i : Int)).inv u); dsimp only [laD] at hh; obtain ⟨⟨u0, u1, u2, u3⟩, uq, uI⟩ := hh; have u4 := uI.n; have u5 := uI.cap; have u6 := uI.cN; have u7 := uI.mx; have ub := fz_lt (c := u.x.a.c) (sz := u.x.a.sz) (a := (lfA st u.x.i)) u.m
    omega
  · have hh := (by assumption : (laD R st (z.x.i : Int)).inv u); dsimp only [laD] at hh; obtain ⟨⟨u0, u1, u2, u3⟩, uq, uI⟩ := hh; have u4 := uI.n; have u5 := uI.cap; have u6 := uI.cN; have u7 := uI.mx; have ub := fz_lt (c := u.x.a.c) (sz := u.x.a.sz) (a := (lfA st u.x.i)) u.m
    have uc := mt_cls uI.mt (j := u.m) (by omega); have us := mt_sz uI.mt (j := u.m) (by omega)
    have g1 : u.x.a.c u.m = ((0 : Nat) : Int) := by have h9 := (by assumption : u.x.a.c (0 + ((u.m : Nat) : Int).toNat) = ((0 : Nat) : Int)); rw [at_n u.m] at h9; exact h9
    have un := not_seen uq uc (by simpa using (by assumption : (!u.q (u.x.a.c (0 + ((u.m : Nat) : Int).toNat)).toNat) = true))
    have g2 : 8 * u.x.a.sz u.m ≤ (lfA st u.x.i).f (u.x.a.c u.m).toNat := by rw [f_at g1]; have h9 := (by assumption : IntKind.i64.wrap (8 * u.x.a.sz (0 + ((u.m : Nat) : Int).toNat)) ≤ st.l0 (0 + ((u.x.i : Nat) : Int).toNat)); rw [at_n u.m, mul8 us] at h9; exact h9
    have e9 := bst_up (a := (lfA st u.x.i)) un g2 (by assumption)
    (conv => whnf)
    (conv => whnf); refine enter_mk (la := laG R st (u.x.i : Int) (u.m : Int)) ⟨u.m, u.x, u.q⟩ ?_ (by (repeat' (first | ((conv => whnf); first | refine ⟨?_, ?_⟩ | exact trivial | fail) | (dsimp only; done) | ((try dsimp only); first | with_reducible exact rfl | exact Nat.le_refl _ | with_reducible exact (fun _ _ => rfl)))); all_goals ((first | (dsimp only; rw [e9]; done) | (dsimp only; rw [e9]; exact fz_some _) | rfl | decide | (dsimp only; rw [w64' (by omega) (by omega)]; done) | (dsimp only; rw [w64' (by omega) (by omega)]; omega) | (dsimp only; omega))))
    exact ⟨⟨rfl, rfl, u1, u2, by show u.m < u.x.a.n; omega⟩, uq, uI⟩
  · have hh := (by assumption : (laD R st (z.x.i : Int)).inv u); dsimp only [laD] at hh; obtain ⟨⟨u0, u1, u2, u3⟩, uq, uI⟩ := hh; have u4 := uI.n; have u5 := uI.cap; have u6 := uI.cN; have u7 := uI.mx; have ub := fz_lt (c := u.x.a.c) (sz := u.x.a.sz) (a := (lfA st u.x.i)) u.m
    have uc := mt_cls uI.mt (j := u.m) (by omega); have us := mt_sz uI.mt (j := u.m) (by omega)
    have g1 : u.x.a.c u.m = ((0 : Nat) : Int) := by have h9 := (by assumption : u.x.a.c (0 + ((u.m : Nat) : Int).toNat) = ((0 : Nat) : Int)); rw [at_n u.m] at h9; exact h9
    have e9 := bst_low (a := (lfA st u.x.i)) (sz := u.x.a.sz) (c := u.x.a.c) (m := u.m) (by assumption) (by assumption)
    (conv => whnf)
    (conv => whnf); refine enter_mk (la := laG R st (u.x.i : Int) (u.m : Int)) ⟨u.m, u.x, u.q⟩ ?_ (by (repeat' (first | ((conv => whnf); first | refine ⟨?_, ?_⟩ | exact trivial | fail) | (dsimp only; done) | ((try dsimp only); first | with_reducible exact rfl | exact Nat.le_refl _ | with_reducible exact (fun _ _ => rfl)))); all_goals ((first | (dsimp only; rw [e9]; done) | (dsimp only; rw [e9]; exact fz_some _) | rfl | decide | (dsimp only; rw [w64' (by omega) (by omega)]; done) | (dsimp only; rw [w64' (by omega) (by omega)]; omega) | (dsimp only; omega))))
    exact ⟨⟨rfl, rfl, u1, u2, by show u.m < u.x.a.n; omega⟩, uq, uI⟩
  · have hh := (by assumption : (laD R st (z.x.i : Int)).inv u); dsimp only [laD] at hh; obtain ⟨⟨u0, u1, u2, u3⟩, uq, uI⟩ := hh; have u4 := uI.n; have u5 := uI.cap; have u6 := uI.cN; have u7 := uI.mx; have ub := fz_lt (c := u.x.a.c) (sz := u.x.a.sz) (a := (lfA st u.x.i)) u.m
    have uc := mt_cls uI.mt (j := u.m) (by omega); have us := mt_sz uI.mt (j := u.m) (by omega)
    have g1 : u.x.a.c u.m = ((0 : Nat) : Int) := by have h9 := (by assumption : u.x.a.c (0 + ((u.m : Nat) : Int).toNat) = ((0 : Nat) : Int)); rw [at_n u.m] at h9; exact h9
    have g2 : ¬ 8 * u.x.a.sz u.m ≤ (lfA st u.x.i).f (u.x.a.c u.m).toNat := by rw [f_at g1]; have h9 := (by assumption : ¬ IntKind.i64.wrap (8 * u.x.a.sz (0 + ((u.m : Nat) : Int).toNat)) ≤ st.l0 (0 + ((u.x.i : Nat) : Int).toNat)); rw [at_n u.m, mul8 us] at h9; exact h9
    have e9 := bst_small (a := (lfA st u.x.i)) g2
    (conv => whnf)
    (conv => whnf); refine enter_mk (la := laG R st (u.x.i : Int) (u.m : Int)) ⟨u.m, u.x, u.q⟩ ?_ (by (repeat' (first | ((conv => whnf); first | refine ⟨?_, ?_⟩ | exact trivial | fail) | (dsimp only; done) | ((try dsimp only); first | with_reducible exact rfl | exact Nat.le_refl _ | with_reducible exact (fun _ _ => rfl)))); all_goals ((first | (dsimp only; rw [e9]; done) | (dsimp only; rw [e9]; exact fz_some _) | rfl | decide | (dsimp only; rw [w64' (by omega) (by omega)]; done) | (dsimp only; rw [w64' (by omega) (by omega)]; omega) | (dsimp only; omega))))
    exact ⟨⟨rfl, rfl, u1, u2, by show u.m < u.x.a.n; omega⟩, uq, uI⟩
  · have hh := (by assumption : (laD R st (z.x.i : Int)).inv u); dsimp only [laD] at hh; obtain ⟨⟨u0, u1, u2, u3⟩, uq, uI⟩ := hh; have u4 := uI.n; have u5 := uI.cap; have u6 := uI.cN; have u7 := uI.mx; have ub := fz_lt (c := u.x.a.c) (sz := u.x.a.sz) (a := (lfA st u.x.i)) u.m
    have uc := mt_cls uI.mt (j := u.m) (by omega); have us := mt_sz uI.mt (j := u.m) (by omega)
    have g1 : u.x.a.c u.m = ((1 : Nat) : Int) := by have h9 := (by assumption : u.x.a.c (0 + ((u.m : Nat) : Int).toNat) = ((1 : Nat) : Int)); rw [at_n u.m] at h9; exact h9
    have un := not_seen uq uc (by simpa using (by assumption : (!u.q (u.x.a.c (0 + ((u.m : Nat) : Int).toNat)).toNat) = true))
    have g2 : 8 * u.x.a.sz u.m ≤ (lfA st u.x.i).f (u.x.a.c u.m).toNat := by rw [f_at g1]; have h9 := (by assumption : IntKind.i64.wrap (8 * u.x.a.sz (0 + ((u.m : Nat) : Int).toNat)) ≤ st.l1 (0 + ((u.x.i : Nat) : Int).toNat)); rw [at_n u.m, mul8 us] at h9; exact h9
    have e9 := bst_first (a := (lfA st u.x.i)) un g2 (by assumption)
    (conv => whnf)
    (conv => whnf); refine enter_mk (la := laG R st (u.x.i : Int) (u.m : Int)) ⟨u.m, u.x, u.q⟩ ?_ (by (repeat' (first | ((conv => whnf); first | refine ⟨?_, ?_⟩ | exact trivial | fail) | (dsimp only; done) | ((try dsimp only); first | with_reducible exact rfl | exact Nat.le_refl _ | with_reducible exact (fun _ _ => rfl)))); all_goals ((first | (dsimp only; rw [e9]; done) | (dsimp only; rw [e9]; exact fz_some _) | rfl | decide | (dsimp only; rw [w64' (by omega) (by omega)]; done) | (dsimp only; rw [w64' (by omega) (by omega)]; omega) | (dsimp only; omega))))
    exact ⟨⟨rfl, rfl, u1, u2, by show u.m < u.x.a.n; omega⟩, uq, uI⟩
  · have hh := (by assumption : (laD R st (z.x.i : Int)).inv u); dsimp only [laD] at hh; obtain ⟨⟨u0, u1, u2, u3⟩, uq, uI⟩ := hh; have u4 := uI.n; have u5 := uI.cap; have u6 := uI.cN; have u7 := uI.mx; have ub := fz_lt (c := u.x.a.c) (sz := u.x.a.sz) (a := (lfA st u.x.i)) u.m
    omega
  · have hh := (by assumption : (laD R st (z.x.i : Int)).inv u); dsimp only [laD] at hh; obtain ⟨⟨u0, u1, u2, u3⟩, uq, uI⟩ := hh; have u4 := uI.n; have u5 := uI.cap; have u6 := uI.cN; have u7 := uI.mx; have ub := fz_lt (c := u.x.a.c) (sz := u.x.a.sz) (a := (lfA st u.x.i)) u.m
    omega
  · have hh := (by assumption : (laD R st (z.x.i : Int)).inv u); dsimp only [laD] at hh; obtain ⟨⟨u0, u1, u2, u3⟩, uq, uI⟩ := hh; have u4 := uI.n; have u5 := uI.cap; have u6 := uI.cN; have u7 := uI.mx; have ub := fz_lt (c := u.x.a.c) (sz := u.x.a.sz) (a := (lfA st u.x.i)) u.m
    omega
  · have hh := (by assumption : (laD R st (z.x.i : Int)).inv u); dsimp only [laD] at hh; obtain ⟨⟨u0, u1, u2, u3⟩, uq, uI⟩ := hh; have u4 := uI.n; have u5 := uI.cap; have u6 := uI.cN; have u7 := uI.mx; have ub := fz_lt (c := u.x.a.c) (sz := u.x.a.sz) (a := (lfA st u.x.i)) u.m
    omega
  · have hh := (by assumption : (laD R st (z.x.i : Int)).inv u); dsimp only [laD] at hh; obtain ⟨⟨u0, u1, u2, u3⟩, uq, uI⟩ := hh; have u4 := uI.n; have u5 := uI.cap; have u6 := uI.cN; have u7 := uI.mx; have ub := fz_lt (c := u.x.a.c) (sz := u.x.a.sz) (a := (lfA st u.x.i)) u.m
    omega
  · have hh := (by assumption : (laD R st (z.x.i : Int)).inv u); dsimp only [laD] at hh; obtain ⟨⟨u0, u1, u2, u3⟩, uq, uI⟩ := hh; have u4 := uI.n; have u5 := uI.cap; have u6 := uI.cN; have u7 := uI.mx; have ub := fz_lt (c := u.x.a.c) (sz := u.x.a.sz) (a := (lfA st u.x.i)) u.m
    have uc := mt_cls uI.mt (j := u.m) (by omega); have us := mt_sz uI.mt (j := u.m) (by omega)
    have g1 : u.x.a.c u.m = ((1 : Nat) : Int) := by have h9 := (by assumption : u.x.a.c (0 + ((u.m : Nat) : Int).toNat) = ((1 : Nat) : Int)); rw [at_n u.m] at h9; exact h9
    have un := not_seen uq uc (by simpa using (by assumption : (!u.q (u.x.a.c (0 + ((u.m : Nat) : Int).toNat)).toNat) = true))
    have g2 : 8 * u.x.a.sz u.m ≤ (lfA st u.x.i).f (u.x.a.c u.m).toNat := by rw [f_at g1]; have h9 := (by assumption : IntKind.i64.wrap (8 * u.x.a.sz (0 + ((u.m : Nat) : Int).toNat)) ≤ st.l1 (0 + ((u.x.i : Nat) : Int).toNat)); rw [at_n u.m, mul8 us] at h9; exact h9
    have e9 := bst_up (a := (lfA st u.x.i)) un g2 (by assumption)
    (conv => whnf)
    (conv => whnf); refine enter_mk (la := laG R st (u.x.i : Int) (u.m : Int)) ⟨u.m, u.x, u.q⟩ ?_ (by (repeat' (first | ((conv => whnf); first | refine ⟨?_, ?_⟩ | exact trivial | fail) | (dsimp only; done) | ((try dsimp only); first | with_reducible exact rfl | exact Nat.le_refl _ | with_reducible exact (fun _ _ => rfl)))); all_goals ((first | (dsimp only; rw [e9]; done) | (dsimp only; rw [e9]; exact fz_some _) | rfl | decide | (dsimp only; rw [w64' (by omega) (by omega)]; done) | (dsimp only; rw [w64' (by omega) (by omega)]; omega) | (dsimp only; omega))))
    exact ⟨⟨rfl, rfl, u1, u2, by show u.m < u.x.a.n; omega⟩, uq, uI⟩
  · have hh := (by assumption : (laD R st (z.x.i : Int)).inv u); dsimp only [laD] at hh; obtain ⟨⟨u0, u1, u2, u3⟩, uq, uI⟩ := hh; have u4 := uI.n; have u5 := uI.cap; have u6 := uI.cN; have u7 := uI.mx; have ub := fz_lt (c := u.x.a.c) (sz := u.x.a.sz) (a := (lfA st u.x.i)) u.m
    have uc := mt_cls uI.mt (j := u.m) (by omega); have us := mt_sz uI.mt (j := u.m) (by omega)
    have g1 : u.x.a.c u.m = ((1 : Nat) : Int) := by have h9 := (by assumption : u.x.a.c (0 + ((u.m : Nat) : Int).toNat) = ((1 : Nat) : Int)); rw [at_n u.m] at h9; exact h9
    have e9 := bst_low (a := (lfA st u.x.i)) (sz := u.x.a.sz) (c := u.x.a.c) (m := u.m) (by assumption) (by assumption)
    (conv => whnf)
    (conv => whnf); refine enter_mk (la := laG R st (u.x.i : Int) (u.m : Int)) ⟨u.m, u.x, u.q⟩ ?_ (by (repeat' (first | ((conv => whnf); first | refine ⟨?_, ?_⟩ | exact trivial | fail) | (dsimp only; done) | ((try dsimp only); first | with_reducible exact rfl | exact Nat.le_refl _ | with_reducible exact (fun _ _ => rfl)))); all_goals ((first | (dsimp only; rw [e9]; done) | (dsimp only; rw [e9]; exact fz_some _) | rfl | decide | (dsimp only; rw [w64' (by omega) (by omega)]; done) | (dsimp only; rw [w64' (by omega) (by omega)]; omega) | (dsimp only; omega))))
    exact ⟨⟨rfl, rfl, u1, u2, by show u.m < u.x.a.n; omega⟩, uq, uI⟩
  · have hh := (by assumption : (laD R st (z.x.i : Int)).inv u); dsimp only [laD] at hh; obtain ⟨⟨u0, u1, u2, u3⟩, uq, uI⟩ := hh; have u4 := uI.n; have u5 := uI.cap; have u6 := uI.cN; have u7 := uI.mx; have ub := fz_lt (c := u.x.a.c) (sz := u.x.a.sz) (a := (lfA st u.x.i)) u.m
    have uc := mt_cls uI.mt (j := u.m) (by omega); have us := mt_sz uI.mt (j := u.m) (by omega)
    have g1 : u.x.a.c u.m = ((1 : Nat) : Int) := by have h9 := (by assumption : u.x.a.c (0 + ((u.m : Nat) : Int).toNat) = ((1 : Nat) : Int)); rw [at_n u.m] at h9; exact h9
    have g2 : ¬ 8 * u.x.a.sz u.m ≤ (lfA st u.x.i).f (u.x.a.c u.m).toNat := by rw [f_at g1]; have h9 := (by assumption : ¬ IntKind.i64.wrap (8 * u.x.a.sz (0 + ((u.m : Nat) : Int).toNat)) ≤ st.l1 (0 + ((u.x.i : Nat) : Int).toNat)); rw [at_n u.m, mul8 us] at h9; exact h9
    have e9 := bst_small (a := (lfA st u.x.i)) g2
    (conv => whnf)
    (conv => whnf); refine enter_mk (la := laG R st (u.x.i : Int) (u.m : Int)) ⟨u.m, u.x, u.q⟩ ?_ (by (repeat' (first | ((conv => whnf); first | refine ⟨?_, ?_⟩ | exact trivial | fail) | (dsimp only; done) | ((try dsimp only); first | with_reducible exact rfl | exact Nat.le_refl _ | with_reducible exact (fun _ _ => rfl)))); all_goals ((first | (dsimp only; rw [e9]; done) | (dsimp only; rw [e9]; exact fz_some _) | rfl | decide | (dsimp only; rw [w64' (by omega) (by omega)]; done) | (dsimp only; rw [w64' (by omega) (by omega)]; omega) | (dsimp only; omega))))
    exact ⟨⟨rfl, rfl, u1, u2, by show u.m < u.x.a.n; omega⟩, uq, uI⟩
  · have hh := (by assumption : (laD R st (z.x.i : Int)).inv u); dsimp only [laD] at hh; obtain ⟨⟨u0, u1, u2, u3⟩, uq, uI⟩ := hh; have u4 := uI.n; have u5 := uI.cap; have u6 := uI.cN; have u7 := uI.mx; have ub := fz_lt (c := u.x.a.c) (sz := u.x.a.sz) (a := (lfA st u.x.i)) u.m
    have uc := mt_cls uI.mt (j := u.m) (by omega); have us := mt_sz uI.mt (j := u.m) (by omega)
    have g1 : u.x.a.c u.m = ((2 : Nat) : Int) := by have h9 := (by assumption : u.x.a.c (0 + ((u.m : Nat) : Int).toNat) = ((2 : Nat) : Int)); rw [at_n u.m] at h9; exact h9
    have un := not_seen uq uc (by simpa using (by assumption : (!u.q (u.x.a.c (0 + ((u.m : Nat) : Int).toNat)).toNat) = true))
    have g2 : 8 * u.x.a.sz u.m ≤ (lfA st u.x.i).f (u.x.a.c u.m).toNat := by rw [f_at g1]; have h9 := (by assumption : IntKind.i64.wrap (8 * u.x.a.sz (0 + ((u.m : Nat) : Int).toNat)) ≤ st.l2 (0 + ((u.x.i : Nat) : Int).toNat)); rw [at_n u.m, mul8 us] at h9; exact h9
    have e9 := bst_first (a := (lfA st u.x.i)) un g2 (by assumption)
    (conv => whnf)
    (conv => whnf); refine enter_mk (la := laG R st (u.x.i : Int) (u.m : Int)) ⟨u.m, u.x, u.q⟩ ?_ (by (repeat' (first | ((conv => whnf); first | refine ⟨?_, ?_⟩ | exact trivial | fail) | (dsimp only; done) | ((try dsimp only); first | with_reducible exact rfl | exact Nat.le_refl _ | with_reducible exact (fun _ _ => rfl)))); all_goals ((first | (dsimp only; rw [e9]; done) | (dsimp only; rw [e9]; exact fz_some _) | rfl | decide | (dsimp only; rw [w64' (by omega) (by omega)]; done) | (dsimp only; rw [w64' (by omega) (by omega)]; omega) | (dsimp only; omega))))
    exact ⟨⟨rfl, rfl, u1, u2, by show u.m < u.x.a.n; omega⟩, uq, uI⟩
  · have hh := (by assumption : (laD R st (z.x.i : Int)).inv u); dsimp only [laD] at hh; obtain ⟨⟨u0, u1, u2, u3⟩, uq, uI⟩ := hh; have u4 := uI.n; have u5 := uI.cap; have u6 := uI.cN; have u7 := uI.mx; have ub := fz_lt (c := u.x.a.c) (sz := u.x.a.sz) (a := (lfA st u.x.i)) u.m
    omega
  · have hh := (by assumption : (laD R st (z.x.i : Int)).inv u); dsimp only [laD] at hh; obtain ⟨⟨u0, u1, u2, u3⟩, uq, uI⟩ := hh; have u4 := uI.n; have u5 := uI.cap; have u6 := uI.cN; have u7 := uI.mx; have ub := fz_lt (c := u.x.a.c) (sz := u.x.a.sz) (a := (lfA st u.x.i)) u.m
    omega
  · have hh := (by assumption : (laD R st (z.x.i : Int)).inv u); dsimp only [laD] at hh; obtain ⟨⟨u0, u1, u2, u3⟩, uq, uI⟩ := hh; have u4 := uI.n; have u5 := uI.cap; have u6 := uI.cN; have u7 := uI.mx; have ub := fz_lt (c := u.x.a.c) (sz := u.x.a.sz) (a := (lfA st u.x.i)) u.m
    omega
  · have hh := (by assumption : (laD R st (z.x.i : Int)).inv u); dsimp only [laD] at hh; obtain ⟨⟨u0, u1, u2, u3⟩, uq, uI⟩ := hh; have u4 := uI.n; have u5 := uI.cap; have u6 := uI.cN; have u7 := uI.mx; have ub := fz_lt (c := u.x.a.c) (sz := u.x.a.sz) (a := (lfA st u.x.i)) u.m
    omega
  · have hh := (by assumption : (laD R st (z.x.i : Int)).inv u); dsimp only [laD] at hh; obtain ⟨⟨u0, u1, u2, u3⟩, uq, uI⟩ := hh; have u4 := uI.n; have u5 := uI.cap; have u6 := uI.cN; have u7 := uI.mx; have ub := fz_lt (c := u.x.a.c) (sz := u.x.a.sz) (a := (lfA st u.x.i)) u.m
    omega
  · have hh := (by assumption : (laD R st (z.x.i : Int)).inv u); dsimp only [laD] at hh; obtain ⟨⟨u0, u1, u2, u3⟩, uq, uI⟩ := hh; have u4 := uI.n; have u5 := uI.cap; have u6 := uI.cN; have u7 := uI.mx; have ub := fz_lt (c := u.x.a.c) (sz := u.x.a.sz) (a := (lfA st u.x.i)) u.m
    have uc := mt_cls uI.mt (j := u.m) (by omega); have us := mt_sz uI.mt (j := u.m) (by omega)
    have g1 : u.x.a.c u.m = ((2 : Nat) : Int) := by have h9 := (by assumption : u.x.a.c (0 + ((u.m : Nat) : Int).toNat) = ((2 : Nat) : Int)); rw [at_n u.m] at h9; exact h9
    have un := not_seen uq uc (by simpa using (by assumption : (!u.q (u.x.a.c (0 + ((u.m : Nat) : Int).toNat)).toNat) = true))
    have g2 : 8 * u.x.a.sz u.m ≤ (lfA st u.x.i).f (u.x.a.c u.m).toNat := by rw [f_at g1]; have h9 := (by assumption : IntKind.i64.wrap (8 * u.x.a.sz (0 + ((u.m : Nat) : Int).toNat)) ≤ st.l2 (0 + ((u.x.i : Nat) : Int).toNat)); rw [at_n u.m, mul8 us] at h9; exact h9
    have e9 := bst_up (a := (lfA st u.x.i)) un g2 (by assumption)
    (conv => whnf)
    (conv => whnf); refine enter_mk (la := laG R st (u.x.i : Int) (u.m : Int)) ⟨u.m, u.x, u.q⟩ ?_ (by (repeat' (first | ((conv => whnf); first | refine ⟨?_, ?_⟩ | exact trivial | fail) | (dsimp only; done) | ((try dsimp only); first | with_reducible exact rfl | exact Nat.le_refl _ | with_reducible exact (fun _ _ => rfl)))); all_goals ((first | (dsimp only; rw [e9]; done) | (dsimp only; rw [e9]; exact fz_some _) | rfl | decide | (dsimp only; rw [w64' (by omega) (by omega)]; done) | (dsimp only; rw [w64' (by omega) (by omega)]; omega) | (dsimp only; omega))))
    exact ⟨⟨rfl, rfl, u1, u2, by show u.m < u.x.a.n; omega⟩, uq, uI⟩
  · have hh := (by assumption : (laD R st (z.x.i : Int)).inv u); dsimp only [laD] at hh; obtain ⟨⟨u0, u1, u2, u3⟩, uq, uI⟩ := hh; have u4 := uI.n; have u5 := uI.cap; have u6 := uI.cN; have u7 := uI.mx; have ub := fz_lt (c := u.x.a.c) (sz := u.x.a.sz) (a := (lfA st u.x.i)) u.m
    have uc := mt_cls uI.mt (j := u.m) (by omega); have us := mt_sz uI.mt (j := u.m) (by omega)
    have g1 : u.x.a.c u.m = ((2 : Nat) : Int) := by have h9 := (by assumption : u.x.a.c (0 + ((u.m : Nat) : Int).toNat) = ((2 : Nat) : Int)); rw [at_n u.m] at h9; exact h9
    have e9 := bst_low (a := (lfA st u.x.i)) (sz := u.x.a.sz) (c := u.x.a.c) (m := u.m) (by assumption) (by assumption)
    (conv => whnf)
    (conv => whnf); refine enter_mk (la := laG R st (u.x.i : Int) (u.m : Int)) ⟨u.m, u.x, u.q⟩ ?_ (by (repeat' (first | ((conv => whnf); first | refine ⟨?_, ?_⟩ | exact trivial | fail) | (dsimp only; done) | ((try dsimp only); first | with_reducible exact rfl | exact Nat.le_refl _ | with_reducible exact (fun _ _ => rfl)))); all_goals ((first | (dsimp only; rw [e9]; done) | (dsimp only; rw [e9]; exact fz_some _) | rfl | decide | (dsimp only; rw [w64' (by omega) (by omega)]; done) | (dsimp only; rw [w64' (by omega) (by omega)]; omega) | (dsimp only; omega))))
    exact ⟨⟨rfl, rfl, u1, u2, by show u.m < u.x.a.n; omega⟩, uq, uI⟩
  · have hh := (by assumption : (laD R st (z.x.i : Int)).inv u); dsimp only [laD] at hh; obtain ⟨⟨u0, u1, u2, u3⟩, uq, uI⟩ := hh; have u4 := uI.n; have u5 := uI.cap; have u6 := uI.cN; have u7 := uI.mx; have ub := fz_lt (c := u.x.a.c) (sz := u.x.a.sz) (a := (lfA st u.x.i)) u.m
    have uc := mt_cls uI.mt (j := u.m) (by omega); have us := mt_sz uI.mt (j := u.m) (by omega)
    have g1 : u.x.a.c u.m = ((2 : Nat) : Int) := by have h9 := (by assumption : u.x.a.c (0 + ((u.m : Nat) : Int).toNat) = ((2 : Nat) : Int)); rw [at_n u.m] at h9; exact h9
    have g2 : ¬ 8 * u.x.a.sz u.m ≤ (lfA st u.x.i).f (u.x.a.c u.m).toNat := by rw [f_at g1]; have h9 := (by assumption : ¬ IntKind.i64.wrap (8 * u.x.a.sz (0 + ((u.m : Nat) : Int).toNat)) ≤ st.l2 (0 + ((u.x.i : Nat) : Int).toNat)); rw [at_n u.m, mul8 us] at h9; exact h9
    have e9 := bst_small (a := (lfA st u.x.i)) g2
    (conv => whnf)
    (conv => whnf); refine enter_mk (la := laG R st (u.x.i : Int) (u.m : Int)) ⟨u.m, u.x, u.q⟩ ?_ (by (repeat' (first | ((conv => whnf); first | refine ⟨?_, ?_⟩ | exact trivial | fail) | (dsimp only; done) | ((try dsimp only); first | with_reducible exact rfl | exact Nat.le_refl _ | with_reducible exact (fun _ _ => rfl)))); all_goals ((first | (dsimp only; rw [e9]; done) | (dsimp only; rw [e9]; exact fz_some _) | rfl | decide | (dsimp only; rw [w64' (by omega) (by omega)]; done) | (dsimp only; rw [w64' (by omega) (by omega)]; omega) | (dsimp only; omega))))
    exact ⟨⟨rfl, rfl, u1, u2, by show u.m < u.x.a.n; omega⟩, uq, uI⟩
  · have hh := (by assumption : (laD R st (z.x.i : Int)).inv u); dsimp only [laD] at hh; obtain ⟨⟨u0, u1, u2, u3⟩, uq, uI⟩ := hh; have u4 := uI.n; have u5 := uI.cap; have u6 := uI.cN; have u7 := uI.mx; have ub := fz_lt (c := u.x.a.c) (sz := u.x.a.sz) (a := (lfA st u.x.i)) u.m
    have uc := mt_cls uI.mt (j := u.m) (by omega); have us := mt_sz uI.mt (j := u.m) (by omega)
    have g1 : u.x.a.c u.m = ((3 : Nat) : Int) := by have h9 := (by assumption : u.x.a.c (0 + ((u.m : Nat) : Int).toNat) = ((3 : Nat) : Int)); rw [at_n u.m] at h9; exact h9
    have un := not_seen uq uc (by simpa using (by assumption : (!u.q (u.x.a.c (0 + ((u.m : Nat) : Int).toNat)).toNat) = true))
    have g2 : 8 * u.x.a.sz u.m ≤ (lfA st u.x.i).f (u.x.a.c u.m).toNat := by rw [f_at g1]; have h9 := (by assumption : IntKind.i64.wrap (8 * u.x.a.sz (0 + ((u.m : Nat) : Int).toNat)) ≤ st.l3 (0 + ((u.x.i : Nat) : Int).toNat)); rw [at_n u.m, mul8 us] at h9; exact h9
    have e9 := bst_first (a := (lfA st u.x.i)) un g2 (by assumption)
    (conv => whnf)
    (conv => whnf); refine enter_mk (la := laG R st (u.x.i : Int) (u.m : Int)) ⟨u.m, u.x, u.q⟩ ?_ (by (repeat' (first | ((conv => whnf); first | refine ⟨?_, ?_⟩ | exact trivial | fail) | (dsimp only; done) | ((try dsimp only); first | with_reducible exact rfl | exact Nat.le_refl _ | with_reducible exact (fun _ _ => rfl)))); all_goals ((first | (dsimp only; rw [e9]; done) | (dsimp only; rw [e9]; exact fz_some _) | rfl | decide | (dsimp only; rw [w64' (by omega) (by omega)]; done) | (dsimp only; rw [w64' (by omega) (by omega)]; omega) | (dsimp only; omega))))
    exact ⟨⟨rfl, rfl, u1, u2, by show u.m < u.x.a.n; omega⟩, uq, uI⟩
  · have hh := (by assumption : (laD R st (z.x.i : Int)).inv u); dsimp only [laD] at hh; obtain ⟨⟨u0, u1, u2, u3⟩, uq, uI⟩ := hh; have u4 := uI.n; have u5 := uI.cap; have u6 := uI.cN; have u7 := uI.mx; have ub := fz_lt (c := u.x.a.c) (sz := u.x.a.sz) (a := (lfA st u.x.i)) u.m
    omega
  · have hh := (by assumption : (laD R st (z.x.i : Int)).inv u); dsimp only [laD] at hh; obtain ⟨⟨u0, u1, u2, u3⟩, uq, uI⟩ := hh; have u4 := uI.n; have u5 := uI.cap; have u6 := uI.cN; have u7 := uI.mx; have ub := fz_lt (c := u.x.a.c) (sz := u.x.a.sz) (a := (lfA st u.x.i)) u.m
    omega
  · have hh := (by assumption : (laD R st (z.x.i : Int)).inv u); dsimp only [laD] at hh; obtain ⟨⟨u0, u1, u2, u3⟩, uq, uI⟩ := hh; have u4 := uI.n; have u5 := uI.cap; have u6 := uI.cN; have u7 := uI.mx; have ub := fz_lt (c := u.x.a.c) (sz := u.x.a.sz) (a := (lfA st u.x.i)) u.m
    omega
  · have hh := (by assumption : (laD R st (z.x.i : Int)).inv u); dsimp only [laD] at hh; obtain ⟨⟨u0, u1, u2, u3⟩, uq, uI⟩ := hh; have u4 := uI.n; have u5 := uI.cap; have u6 := uI.cN; have u7 := uI.mx; have ub := fz_lt (c := u.x.a.c) (sz := u.x.a.sz) (a := (lfA st u.x.i)) u.m
    omega
  · have hh := (by assumption : (laD R st (z.x.i : Int)).inv u); dsimp only [laD] at hh; obtain ⟨⟨u0, u1, u2, u3⟩, uq, uI⟩ := hh; have u4 := uI.n; have u5 := uI.cap; have u6 := uI.cN; have u7 := uI.mx; have ub := fz_lt (c := u.x.a.c) (sz := u.x.a.sz) (a := (lfA st u.x.i)) u.m
    omega
  · have hh := (by assumption : (laD R st (z.x.i : Int)).inv u); dsimp only [laD] at hh; obtain ⟨⟨u0, u1, u2, u3⟩, uq, uI⟩ := hh; have u4 := uI.n; have u5 := uI.cap; have u6 := uI.cN; have u7 := uI.mx; have ub := fz_lt (c := u.x.a.c) (sz := u.x.a.sz) (a := (lfA st u.x.i)) u.m
    have uc := mt_cls uI.mt (j := u.m) (by omega); have us := mt_sz uI.mt (j := u.m) (by omega)
    have g1 : u.x.a.c u.m = ((3 : Nat) : Int) := by have h9 := (by assumption : u.x.a.c (0 + ((u.m : Nat) : Int).toNat) = ((3 : Nat) : Int)); rw [at_n u.m] at h9; exact h9
    have un := not_seen uq uc (by simpa using (by assumption : (!u.q (u.x.a.c (0 + ((u.m : Nat) : Int).toNat)).toNat) = true))
    have g2 : 8 * u.x.a.sz u.m ≤ (lfA st u.x.i).f (u.x.a.c u.m).toNat := by rw [f_at g1]; have h9 := (by assumption : IntKind.i64.wrap (8 * u.x.a.sz (0 + ((u.m : Nat) : Int).toNat)) ≤ st.l3 (0 + ((u.x.i : Nat) : Int).toNat)); rw [at_n u.m, mul8 us] at h9; exact h9
    have e9 := bst_up (a := (lfA st u.x.i)) un g2 (by assumption)
    (conv => whnf)
    (conv => whnf); refine enter_mk (la := laG R st (u.x.i : Int) (u.m : Int)) ⟨u.m, u.x, u.q⟩ ?_ (by (repeat' (first | ((conv => whnf); first | refine ⟨?_, ?_⟩ | exact trivial | fail) | (dsimp only; done) | ((try dsimp only); first | with_reducible exact rfl | exact Nat.le_refl _ | with_reducible exact (fun _ _ => rfl)))); all_goals ((first | (dsimp only; rw [e9]; done) | (dsimp only; rw [e9]; exact fz_some _) | rfl | decide | (dsimp only; rw [w64' (by omega) (by omega)]; done) | (dsimp only; rw [w64' (by omega) (by omega)]; omega) | (dsimp only; omega))))
    exact ⟨⟨rfl, rfl, u1, u2, by show u.m < u.x.a.n; omega⟩, uq, uI⟩
  · have hh := (by assumption : (laD R st (z.x.i : Int)).inv u); dsimp only [laD] at hh; obtain ⟨⟨u0, u1, u2, u3⟩, uq, uI⟩ := hh; have u4 := uI.n; have u5 := uI.cap; have u6 := uI.cN; have u7 := uI.mx; have ub := fz_lt (c := u.x.a.c) (sz := u.x.a.sz) (a := (lfA st u.x.i)) u.m
    have uc := mt_cls uI.mt (j := u.m) (by omega); have us := mt_sz uI.mt (j := u.m) (by omega)
    have g1 : u.x.a.c u.m = ((3 : Nat) : Int) := by have h9 := (by assumption : u.x.a.c (0 + ((u.m : Nat) : Int).toNat) = ((3 : Nat) : Int)); rw [at_n u.m] at h9; exact h9
    have e9 := bst_low (a := (lfA st u.x.i)) (sz := u.x.a.sz) (c := u.x.a.c) (m := u.m) (by assumption) (by assumption)
    (conv => whnf)
    (conv => whnf); refine enter_mk (la := laG R st (u.x.i : Int) (u.m : Int)) ⟨u.m, u.x, u.q⟩ ?_ (by (repeat' (first | ((conv => whnf); first | refine ⟨?_, ?_⟩ | exact trivial | fail) | (dsimp only; done) | ((try dsimp only); first | with_reducible exact rfl | exact Nat.le_refl _ | with_reducible exact (fun _ _ => rfl)))); all_goals ((first | (dsimp only; rw [e9]; done) | (dsimp only; rw [e9]; exact fz_some _) | rfl | decide | (dsimp only; rw [w64' (by omega) (by omega)]; done) | (dsimp only; rw [w64' (by omega) (by omega)]; omega) | (dsimp only; omega))))
    exact ⟨⟨rfl, rfl, u1, u2, by show u.m < u.x.a.n; omega⟩, uq, uI⟩
  · have hh := (by assumption : (laD R st (z.x.i : Int)).inv u); dsimp only [laD] at hh; obtain ⟨⟨u0, u1, u2, u3⟩, uq, uI⟩ := hh; have u4 := uI.n; have u5 := uI.cap; have u6 := uI.cN; have u7 := uI.mx; have ub := fz_lt (c := u.x.a.c) (sz := u.x.a.sz) (a := (lfA st u.x.i)) u.m
    have uc := mt_cls uI.mt (j := u.m) (by omega); have us := mt_sz uI.mt (j := u.m) (by omega)
    have g1 : u.x.a.c u.m = ((3 : Nat) : Int) := by have h9 := (by assumption : u.x.a.c (0 + ((u.m : Nat) : Int).toNat) = ((3 : Nat) : Int)); rw [at_n u.m] at h9; exact h9
    have g2 : ¬ 8 * u.x.a.sz u.m ≤ (lfA st u.x.i).f (u.x.a.c u.m).toNat := by rw [f_at g1]; have h9 := (by assumption : ¬ IntKind.i64.wrap (8 * u.x.a.sz (0 + ((u.m : Nat) : Int).toNat)) ≤ st.l3 (0 + ((u.x.i : Nat) : Int).toNat)); rw [at_n u.m, mul8 us] at h9; exact h9
    have e9 := bst_small (a := (lfA st u.x.i)) g2
    (conv => whnf)
    (conv => whnf); refine enter_mk (la := laG R st (u.x.i : Int) (u.m : Int)) ⟨u.m, u.x, u.q⟩ ?_ (by (repeat' (first | ((conv => whnf); first | refine ⟨?_, ?_⟩ | exact trivial | fail) | (dsimp only; done) | ((try dsimp only); first | with_reducible exact rfl | exact Nat.le_refl _ | with_reducible exact (fun _ _ => rfl)))); all_goals ((first | (dsimp only; rw [e9]; done) | (dsimp only; rw [e9]; exact fz_some _) | rfl | decide | (dsimp only; rw [w64' (by omega) (by omega)]; done) | (dsimp only; rw [w64' (by omega) (by omega)]; omega) | (dsimp only; omega))))
    exact ⟨⟨rfl, rfl, u1, u2, by show u.m < u.x.a.n; omega⟩, uq, uI⟩
  · have hh := (by assumption : (laD R st (z.x.i : Int)).inv u); dsimp only [laD] at hh; obtain ⟨⟨u0, u1, u2, u3⟩, uq, uI⟩ := hh; have u4 := uI.n; have u5 := uI.cap; have u6 := uI.cN; have u7 := uI.mx; have ub := fz_lt (c := u.x.a.c) (sz := u.x.a.sz) (a := (lfA st u.x.i)) u.m
    have uc := mt_cls uI.mt (j := u.m) (by omega); have us := mt_sz uI.mt (j := u.m) (by omega)
    have g1 : u.x.a.c u.m = ((4 : Nat) : Int) := by have h9 := (by assumption : u.x.a.c (0 + ((u.m : Nat) : Int).toNat) = ((4 : Nat) : Int)); rw [at_n u.m] at h9; exact h9
    have un := not_seen uq uc (by simpa using (by assumption : (!u.q (u.x.a.c (0 + ((u.m : Nat) : Int).toNat)).toNat) = true))
    have g2 : 8 * u.x.a.sz u.m ≤ (lfA st u.x.i).f (u.x.a.c u.m).toNat := by rw [f_at g1]; have h9 := (by assumption : IntKind.i64.wrap (8 * u.x.a.sz (0 + ((u.m : Nat) : Int).toNat)) ≤ st.l4 (0 + ((u.x.i : Nat) : Int).toNat)); rw [at_n u.m, mul8 us] at h9; exact h9
    have e9 := bst_first (a := (lfA st u.x.i)) un g2 (by assumption)
    (conv => whnf)
    (conv => whnf); refine enter_mk (la := laG R st (u.x.i : Int) (u.m : Int)) ⟨u.m, u.x, u.q⟩ ?_ (by (repeat' (first | ((conv => whnf); first | refine ⟨?_, ?_⟩ | exact trivial | fail) | (dsimp only; done) | ((try dsimp only); first | with_reducible exact rfl | exact Nat.le_refl _ | with_reducible exact (fun _ _ => rfl)))); all_goals ((first | (dsimp only; rw [e9]; done) | (dsimp only; rw [e9]; exact fz_some _) | rfl | decide | (dsimp only; rw [w64' (by omega) (by omega)]; done) | (dsimp only; rw [w64' (by omega) (by omega)]; omega) | (dsimp only; omega))))
    exact ⟨⟨rfl, rfl, u1, u2, by show u.m < u.x.a.n; omega⟩, uq, uI⟩
  · have hh := (by assumption : (laD R st (z.x.i : Int)).inv u); dsimp only [laD] at hh; obtain ⟨⟨u0, u1, u2, u3⟩, uq, uI⟩ := hh; have u4 := uI.n; have u5 := uI.cap; have u6 := uI.cN; have u7 := uI.mx; have ub := fz_lt (c := u.x.a.c) (sz := u.x.a.sz) (a := (lfA st u.x.i)) u.m
    omega
  · have hh := (by assumption : (laD R st (z.x.i : Int)).inv u); dsimp only [laD] at hh; obtain ⟨⟨u0, u1, u2, u3⟩, uq, uI⟩ := hh; have u4 := uI.n; have u5 := uI.cap; have u6 := uI.cN; have u7 := uI.mx; have ub := fz_lt (c := u.x.a.c) (sz := u.x.a.sz) (a := (lfA st u.x.i)) u.m
    omega
  · have hh := (by assumption : (laD R st (z.x.i : Int)).inv u); dsimp only [laD] at hh; obtain ⟨⟨u0, u1, u2, u3⟩, uq, uI⟩ := hh; have u4 := uI.n; have u5 := uI.cap; have u6 := uI.cN; have u7 := uI.mx; have ub := fz_lt (c := u.x.a.c) (sz := u.x.a.sz) (a := (lfA st u.x.i)) u.m
    omega
  · have hh := (by assumption : (laD R st (z.x.i : Int)).inv u); dsimp only [laD] at hh; obtain ⟨⟨u0, u1, u2, u3⟩, uq, uI⟩ := hh; have u4 := uI.n; have u5 := uI.cap; have u6 := uI.cN; have u7 := uI.mx; have ub := fz_lt (c := u.x.a.c) (sz := u.x.a.sz) (a := (lfA st u.x.i)) u.m
    omega
  · have hh := (by assumption : (laD R st (z.x.i : Int)).inv u); dsimp only [laD] at hh; obtain ⟨⟨u0, u1, u2, u3⟩, uq, uI⟩ := hh; have u4 := uI.n; have u5 := uI.cap; have u6 := uI.cN; have u7 := uI.mx; have ub := fz_lt (c := u.x.a.c) (sz := u.x.a.sz) (a := (lfA st u.x.i)) u.m
    omega
  · have hh := (by assumption : (laD R st (z.x.i : Int)).inv u); dsimp only [laD] at hh; obtain ⟨⟨u0, u1, u2, u3⟩, uq, uI⟩ := hh; have u4 := uI.n; have u5 := uI.cap; have u6 := uI.cN; have u7 := uI.mx; have ub := fz_lt (c := u.x.a.c) (sz := u.x.a.sz) (a := (lfA st u.x.i)) u.m
    have uc := mt_cls uI.mt (j := u.m) (by omega); have us := mt_sz uI.mt (j := u.m) (by omega)
    have g1 : u.x.a.c u.m = ((4 : Nat) : Int) := by have h9 := (by assumption : u.x.a.c (0 + ((u.m : Nat) : Int).toNat) = ((4 : Nat) : Int)); rw [at_n u.m] at h9; exact h9
    have un := not_seen uq uc (by simpa using (by assumption : (!u.q (u.x.a.c (0 + ((u.m : Nat) : Int).toNat)).toNat) = true))
    have g2 : 8 * u.x.a.sz u.m ≤ (lfA st u.x.i).f (u.x.a.c u.m).toNat := by rw [f_at g1]; have h9 := (by assumption : IntKind.i64.wrap (8 * u.x.a.sz (0 + ((u.m : Nat) : Int).toNat)) ≤ st.l4 (0 + ((u.x.i : Nat) : Int).toNat)); rw [at_n u.m, mul8 us] at h9; exact h9
    have e9 := bst_up (a := (lfA st u.x.i)) un g2 (by assumption)
    (conv => whnf)
    (conv => whnf); refine enter_mk (la := laG R st (u.x.i : Int) (u.m : Int)) ⟨u.m, u.x, u.q⟩ ?_ (by (repeat' (first | ((conv => whnf); first | refine ⟨?_, ?_⟩ | exact trivial | fail) | (dsimp only; done) | ((try dsimp only); first | with_reducible exact rfl | exact Nat.le_refl _ | with_reducible exact (fun _ _ => rfl)))); all_goals ((first | (dsimp only; rw [e9]; done) | (dsimp only; rw [e9]; exact fz_some _) | rfl | decide | (dsimp only; rw [w64' (by omega) (by omega)]; done) | (dsimp only; rw [w64' (by omega) (by omega)]; omega) | (dsimp only; omega))))
    exact ⟨⟨rfl, rfl, u1, u2, by show u.m < u.x.a.n; omega⟩, uq, uI⟩
  · have hh := (by assumption : (laD R st (z.x.i : Int)).inv u); dsimp only [laD] at hh; obtain ⟨⟨u0, u1, u2, u3⟩, uq, uI⟩ := hh; have u4 := uI.n; have u5 := uI.cap; have u6 := uI.cN; have u7 := uI.mx; have ub := fz_lt (c := u.x.a.c) (sz := u.x.a.sz) (a := (lfA st u.x.i)) u.m
    have uc := mt_cls uI.mt (j := u.m) (by omega); have us := mt_sz uI.mt (j := u.m) (by omega)
    have g1 : u.x.a.c u.m = ((4 : Nat) : Int) := by have h9 := (by assumption : u.x.a.c (0 + ((u.m : Nat) : Int).toNat) = ((4 : Nat) : Int)); rw [at_n u.m] at h9; exact h9
    have e9 := bst_low (a := (lfA st u.x.i)) (sz := u.x.a.sz) (c := u.x.a.c) (m := u.m) (by assumption) (by assumption)
    (conv => whnf)
    (conv => whnf); refine enter_mk (la := laG R st (u.x.i : Int) (u.m : Int)) ⟨u.m, u.x, u.q⟩ ?_ (by (repeat' (first | ((conv => whnf); first | refine ⟨?_, ?_⟩ | exact trivial | fail) | (dsimp only; done) | ((try dsimp only); first | with_reducible exact rfl | exact Nat.le_refl _ | with_reducible exact (fun _ _ => rfl)))); all_goals ((first | (dsimp only; rw [e9]; done) | (dsimp only; rw [e9]; exact fz_some _) | rfl | decide | (dsimp only; rw [w64' (by omega) (by omega)]; done) | (dsimp only; rw [w64' (by omega) (by omega)]; omega) | (dsimp only; omega))))
    exact ⟨⟨rfl, rfl, u1, u2, by show u.m < u.x.a.n; omega⟩, uq, uI⟩
  · have hh := (by assumption : (laD R st (z.x.i : Int)).inv u); dsimp only [laD] at hh; obtain ⟨⟨u0, u1, u2, u3⟩, uq, uI⟩ := hh; have u4 := uI.n; have u5 := uI.cap; have u6 := uI.cN; have u7 := uI.mx; have ub := fz_lt (c := u.x.a.c) (sz := u.x.a.sz) (a := (lfA st u.x.i)) u.m
    have uc := mt_cls uI.mt (j := u.m) (by omega); have us := mt_sz uI.mt (j := u.m) (by omega)
    have g1 : u.x.a.c u.m = ((4 : Nat) : Int) := by have h9 := (by assumption : u.x.a.c (0 + ((u.m : Nat) : Int).toNat) = ((4 : Nat) : Int)); rw [at_n u.m] at h9; exact h9
    have g2 : ¬ 8 * u.x.a.sz u.m ≤ (lfA st u.x.i).f (u.x.a.c u.m).toNat := by rw [f_at g1]; have h9 := (by assumption : ¬ IntKind.i64.wrap (8 * u.x.a.sz (0 + ((u.m : Nat) : Int).toNat)) ≤ st.l4 (0 + ((u.x.i : Nat) : Int).toNat)); rw [at_n u.m, mul8 us] at h9; exact h9
    have e9 := bst_small (a := (lfA st u.x.i)) g2
    (conv => whnf)
    (conv => whnf); refine enter_mk (la := laG R st (u.x.i : Int) (u.m : Int)) ⟨u.m, u.x, u.q⟩ ?_ (by (repeat' (first | ((conv => whnf); first | refine ⟨?_, ?_⟩ | exact trivial | fail) | (dsimp only; done) | ((try dsimp only); first | with_reducible exact rfl | exact Nat.le_refl _ | with_reducible exact (fun _ _ => rfl)))); all_goals ((first | (dsimp only; rw [e9]; done) | (dsimp only; rw [e9]; exact fz_some _) | rfl | decide | (dsimp only; rw [w64' (by omega) (by omega)]; done) | (dsimp only; rw [w64' (by omega) (by omega)]; omega) | (dsimp only; omega))))
    exact ⟨⟨rfl, rfl, u1, u2, by show u.m < u.x.a.n; omega⟩, uq, uI⟩
  · have hh := (by assumption : (laD R st (z.x.i : Int)).inv u); dsimp only [laD] at hh; obtain ⟨⟨u0, u1, u2, u3⟩, uq, uI⟩ := hh; have u4 := uI.n; have u5 := uI.cap; have u6 := uI.cN; have u7 := uI.mx; have ub := fz_lt (c := u.x.a.c) (sz := u.x.a.sz) (a := (lfA st u.x.i)) u.m
    have uc := mt_cls uI.mt (j := u.m) (by omega); have us := mt_sz uI.mt (j := u.m) (by omega)
    have g1 : u.x.a.c u.m = ((5 : Nat) : Int) := by have h9 := (by assumption : u.x.a.c (0 + ((u.m : Nat) : Int).toNat) = ((5 : Nat) : Int)); rw [at_n u.m] at h9; exact h9
    have un := not_seen uq uc (by simpa using (by assumption : (!u.q (u.x.a.c (0 + ((u.m : Nat) : Int).toNat)).toNat) = true))
    have g2 : 8 * u.x.a.sz u.m ≤ (lfA st u.x.i).f (u.x.a.c u.m).toNat := by rw [f_at g1]; have h9 := (by assumption : IntKind.i64.wrap (8 * u.x.a.sz (0 + ((u.m : Nat) : Int).toNat)) ≤ st.l5 (0 + ((u.x.i : Nat) : Int).toNat)); rw [at_n u.m, mul8 us] at h9; exact h9
    have e9 := bst_first (a := (lfA st u.x.i)) un g2 (by assumption)
    (conv => whnf)
    (conv => whnf); refine enter_mk (la := laG R st (u.x.i : Int) (u.m : Int)) ⟨u.m, u.x, u.q⟩ ?_ (by (repeat' (first | ((conv => whnf); first | refine ⟨?_, ?_⟩ | exact trivial | fail) | (dsimp only; done) | ((try dsimp only); first | with_reducible exact rfl | exact Nat.le_refl _ | with_reducible exact (fun _ _ => rfl)))); all_goals ((first | (dsimp only; rw [e9]; done) | (dsimp only; rw [e9]; exact fz_some _) | rfl | decide | (dsimp only; rw [w64' (by omega) (by omega)]; done) | (dsimp only; rw [w64' (by omega) (by omega)]; omega) | (dsimp only; omega))))
    exact ⟨⟨rfl, rfl, u1, u2, by show u.m < u.x.a.n; omega⟩, uq, uI⟩
  · have hh := (by assumption : (laD R st (z.x.i : Int)).inv u); dsimp only [laD] at hh; obtain ⟨⟨u0, u1, u2, u3⟩, uq, uI⟩ := hh; have u4 := uI.n; have u5 := uI.cap; have u6 := uI.cN; have u7 := uI.mx; have ub := fz_lt (c := u.x.a.c) (sz := u.x.a.sz) (a := (lfA st u.x.i)) u.m
    omega
  · have hh := (by assumption : (laD R st (z.x.i : Int)).inv u); dsimp only [laD] at hh; obtain ⟨⟨u0, u1, u2, u3⟩, uq, uI⟩ := hh; have u4 := uI.n; have u5 := uI.cap; have u6 := uI.cN; have u7 := uI.mx; have ub := fz_lt (c := u.x.a.c) (sz := u.x.a.sz) (a := (lfA st u.x.i)) u.m
    omega
  · have hh := (by assumption : (laD R st (z.x.i : Int)).inv u); dsimp only [laD] at hh; obtain ⟨⟨u0, u1, u2, u3⟩, uq, uI⟩ := hh; have u4 := uI.n; have u5 := uI.cap; have u6 := uI.cN; have u7 := uI.mx; have ub := fz_lt (c := u.x.a.c) (sz := u.x.a.sz) (a := (lfA st u.x.i)) u.m
    omega
  · have hh := (by assumption : (laD R st (z.x.i : Int)).inv u); dsimp only [laD] at hh; obtain ⟨⟨u0, u1, u2, u3⟩, uq, uI⟩ := hh; have u4 := uI.n; have u5 := uI.cap; have u6 := uI.cN; have u7 := uI.mx; have ub := fz_lt (c := u.x.a.c) (sz := u.x.a.sz) (a := (lfA st u.x.i)) u.m
    omega
  · have hh := (by assumption : (laD R st (z.x.i : Int)).inv u); dsimp only [laD] at hh; obtain ⟨⟨u0, u1, u2, u3⟩, uq, uI⟩ := hh; have u4 := uI.n; have u5 := uI.cap; have u6 := uI.cN; have u7 := uI.mx; have ub := fz_lt (c := u.x.a.c) (sz := u.x.a.sz) (a := (lfA st u.x.i)) u.m
    omega
  · have hh := (by assumption : (laD R st (z.x.i : Int)).inv u); dsimp only [laD] at hh; obtain ⟨⟨u0, u1, u2, u3⟩, uq, uI⟩ := hh; have u4 := uI.n; have u5 := uI.cap; have u6 := uI.cN; have u7 := uI.mx; have ub := fz_lt (c := u.x.a.c) (sz := u.x.a.sz) (a := (lfA st u.x.i)) u.m
    have uc := mt_cls uI.mt (j := u.m) (by omega); have us := mt_sz uI.mt (j := u.m) (by omega)
    have g1 : u.x.a.c u.m = ((5 : Nat) : Int) := by have h9 := (by assumption : u.x.a.c (0 + ((u.m : Nat) : Int).toNat) = ((5 : Nat) : Int)); rw [at_n u.m] at h9; exact h9
    have un := not_seen uq uc (by simpa using (by assumption : (!u.q (u.x.a.c (0 + ((u.m : Nat) : Int).toNat)).toNat) = true))
    have g2 : 8 * u.x.a.sz u.m ≤ (lfA st u.x.i).f (u.x.a.c u.m).toNat := by rw [f_at g1]; have h9 := (by assumption : IntKind.i64.wrap (8 * u.x.a.sz (0 + ((u.m : Nat) : Int).toNat)) ≤ st.l5 (0 + ((u.x.i : Nat) : Int).toNat)); rw [at_n u.m, mul8 us] at h9; exact h9
    have e9 := bst_up (a := (lfA st u.x.i)) un g2 (by assumption)
    (conv => whnf)
    (conv => whnf); refine enter_mk (la := laG R st (u.x.i : Int) (u.m : Int)) ⟨u.m, u.x, u.q⟩ ?_ (by (repeat' (first | ((conv => whnf); first | refine ⟨?_, ?_⟩ | exact trivial | fail) | (dsimp only; done) | ((try dsimp only); first | with_reducible exact rfl | exact Nat.le_refl _ | with_reducible exact (fun _ _ => rfl)))); all_goals ((first | (dsimp only; rw [e9]; done) | (dsimp only; rw [e9]; exact fz_some _) | rfl | decide | (dsimp only; rw [w64' (by omega) (by omega)]; done) | (dsimp only; rw [w64' (by omega) (by omega)]; omega) | (dsimp only; omega))))
    exact ⟨⟨rfl, rfl, u1, u2, by show u.m < u.x.a.n; omega⟩, uq, uI⟩
  · have hh := (by assumption : (laD R st (z.x.i : Int)).inv u); dsimp only [laD] at hh; obtain ⟨⟨u0, u1, u2, u3⟩, uq, uI⟩ := hh; have u4 := uI.n; have u5 := uI.cap; have u6 := uI.cN; have u7 := uI.mx; have ub := fz_lt (c := u.x.a.c) (sz := u.x.a.sz) (a := (lfA st u.x.i)) u.m
    have uc := mt_cls uI.mt (j := u.m) (by omega); have us := mt_sz uI.mt (j := u.m) (by omega)
    have g1 : u.x.a.c u.m = ((5 : Nat) : Int) := by have h9 := (by assumption : u.x.a.c (0 + ((u.m : Nat) : Int).toNat) = ((5 : Nat) : Int)); rw [at_n u.m] at h9; exact h9
    have e9 := bst_low (a := (lfA st u.x.i)) (sz := u.x.a.sz) (c := u.x.a.c) (m := u.m) (by assumption) (by assumption)
    (conv => whnf)
    (conv => whnf); refine enter_mk (la := laG R st (u.x.i : Int) (u.m : Int)) ⟨u.m, u.x, u.q⟩ ?_ (by (repeat' (first | ((conv => whnf); first | refine ⟨?_, ?_⟩ | exact trivial | fail) | (dsimp only; done) | ((try dsimp only); first | with_reducible exact rfl | exact Nat.le_refl _ | with_reducible exact (fun _ _ => rfl)))); all_goals ((first | (dsimp only; rw [e9]; done) | (dsimp only; rw [e9]; exact fz_some _) | rfl | decide | (dsimp only; rw [w64' (by omega) (by omega)]; done) | (dsimp only; rw [w64' (by omega) (by omega)]; omega) | (dsimp only; omega))))
    exact ⟨⟨rfl, rfl, u1, u2, by show u.m < u.x.a.n; omega⟩, uq, uI⟩
  · have hh := (by assumption : (laD R st (z.x.i : Int)).inv u); dsimp only [laD] at hh; obtain ⟨⟨u0, u1, u2, u3⟩, uq, uI⟩ := hh; have u4 := uI.n; have u5 := uI.cap; have u6 := uI.cN; have u7 := uI.mx; have ub := fz_lt (c := u.x.a.c) (sz := u.x.a.sz) (a := (lfA st u.x.i)) u.m
    have uc := mt_cls uI.mt (j := u.m) (by omega); have us := mt_sz uI.mt (j := u.m) (by omega)
    have g1 : u.x.a.c u.m = ((5 : Nat) : Int) := by have h9 := (by assumption : u.x.a.c (0 + ((u.m : Nat) : Int).toNat) = ((5 : Nat) : Int)); rw [at_n u.m] at h9; exact h9
    have g2 : ¬ 8 * u.x.a.sz u.m ≤ (lfA st u.x.i).f (u.x.a.c u.m).toNat := by rw [f_at g1]; have h9 := (by assumption : ¬ IntKind.i64.wrap (8 * u.x.a.sz (0 + ((u.m : Nat) : Int).toNat)) ≤ st.l5 (0 + ((u.x.i : Nat) : Int).toNat)); rw [at_n u.m, mul8 us] at h9; exact h9
    have e9 := bst_small (a := (lfA st u.x.i)) g2
    (conv => whnf)
    (conv => whnf); refine enter_mk (la := laG R st (u.x.i : Int) (u.m : Int)) ⟨u.m, u.x, u.q⟩ ?_ (by (repeat' (first | ((conv => whnf); first | refine ⟨?_, ?_⟩ | exact trivial | fail) | (dsimp only; done) | ((try dsimp only); first | with_reducible exact rfl | exact Nat.le_refl _ | with_reducible exact (fun _ _ => rfl)))); all_goals ((first | (dsimp only; rw [e9]; done) | (dsimp only; rw [e9]; exact fz_some _) | rfl | decide | (dsimp only; rw [w64' (by omega) (by omega)]; done) | (dsimp only; rw [w64' (by omega) (by omega)]; omega) | (dsimp only; omega))))
    exact ⟨⟨rfl, rfl, u1, u2, by show u.m < u.x.a.n; omega⟩, uq, uI⟩
  · have hh := (by assumption : (laD R st (z.x.i : Int)).inv u); dsimp only [laD] at hh; obtain ⟨⟨u0, u1, u2, u3⟩, uq, uI⟩ := hh; have u4 := uI.n; have u5 := uI.cap; have u6 := uI.cN; have u7 := uI.mx; have ub := fz_lt (c := u.x.a.c) (sz := u.x.a.sz) (a := (lfA st u.x.i)) u.m
    have uc := mt_cls uI.mt (j := u.m) (by omega); have us := mt_sz uI.mt (j := u.m) (by omega)
    have g1 : u.x.a.c u.m = ((6 : Nat) : Int) := by have h9 := (by assumption : u.x.a.c (0 + ((u.m : Nat) : Int).toNat) = ((6 : Nat) : Int)); rw [at_n u.m] at h9; exact h9
    have un := not_seen uq uc (by simpa using (by assumption : (!u.q (u.x.a.c (0 + ((u.m : Nat) : Int).toNat)).toNat) = true))
    have g2 : 8 * u.x.a.sz u.m ≤ (lfA st u.x.i).f (u.x.a.c u.m).toNat := by rw [f_at g1]; have h9 := (by assumption : IntKind.i64.wrap (8 * u.x.a.sz (0 + ((u.m : Nat) : Int).toNat)) ≤ st.l6 (0 + ((u.x.i : Nat) : Int).toNat)); rw [at_n u.m, mul8 us] at h9; exact h9
    have e9 := bst_first (a := (lfA st u.x.i)) un g2 (by assumption)
    (conv => whnf)
    (conv => whnf); refine enter_mk (la := laG R st (u.x.i : Int) (u.m : Int)) ⟨u.m, u.x, u.q⟩ ?_ (by (repeat' (first | ((conv => whnf); first | refine ⟨?_, ?_⟩ | exact trivial | fail) | (dsimp only; done) | ((try dsimp only); first | with_reducible exact rfl | exact Nat.le_refl _ | with_reducible exact (fun _ _ => rfl)))); all_goals ((first | (dsimp only; rw [e9]; done) | (dsimp only; rw [e9]; exact fz_some _) | rfl | decide | (dsimp only; rw [w64' (by omega) (by omega)]; done) | (dsimp only; rw [w64' (by omega) (by omega)]; omega) | (dsimp only; omega))))
    exact ⟨⟨rfl, rfl, u1, u2, by show u.m < u.x.a.n; omega⟩, uq, uI⟩
  · have hh := (by assumption : (laD R st (z.x.i : Int)).inv u); dsimp only [laD] at hh; obtain ⟨⟨u0, u1, u2, u3⟩, uq, uI⟩ := hh; have u4 := uI.n; have u5 := uI.cap; have u6 := uI.cN; have u7 := uI.mx; have ub := fz_lt (c := u.x.a.c) (sz := u.x.a.sz) (a := (lfA st u.x.i)) u.m
    omega
  · have hh := (by assumption : (laD R st (z.x.i : Int)).inv u); dsimp only [laD] at hh; obtain ⟨⟨u0, u1, u2, u3⟩, uq, uI⟩ := hh; have u4 := uI.n; have u5 := uI.cap; have u6 := uI.cN; have u7 := uI.mx; have ub := fz_lt (c := u.x.a.c) (sz := u.x.a.sz) (a := (lfA st u.x.i)) u.m
    omega
  · have hh := (by assumption : (laD R st (z.x.i : Int)).inv u); dsimp only [laD] at hh; obtain ⟨⟨u0, u1, u2, u3⟩, uq, uI⟩ := hh; have u4 := uI.n; have u5 := uI.cap; have u6 := uI.cN; have u7 := uI.mx; have ub := fz_lt (c := u.x.a.c) (sz := u.x.a.sz) (a := (lfA st u.x.i)) u.m
    omega
  · have hh := (by assumption : (laD R st (z.x.i : Int)).inv u); dsimp only [laD] at hh; obtain ⟨⟨u0, u1, u2, u3⟩, uq, uI⟩ := hh; have u4 := uI.n; have u5 := uI.cap; have u6 := uI.cN; have u7 := uI.mx; have ub := fz_lt (c := u.x.a.c) (sz := u.x.a.sz) (a := (lfA st u.x.i)) u.m
    omega
  · have hh := (by assumption : (laD R st (z.x.i : Int)).inv u); dsimp only [laD] at hh; obtain ⟨⟨u0, u1, u2, u3⟩, uq, uI⟩ := hh; have u4 := uI.n; have u5 := uI.cap; have u6 := uI.cN; have u7 := uI.mx; have ub := fz_lt (c := u.x.a.c) (sz := u.x.a.sz) (a := (lfA st u.x.i)) u.m
    omega
  · have hh := (by assumption : (laD R st (z.x.i : Int)).inv u); dsimp only [laD] at hh; obtain ⟨⟨u0, u1, u2, u3⟩, uq, uI⟩ := hh; have u4 := uI.n; have u5 := uI.cap; have u6 := uI.cN; have u7 := uI.mx; have ub := fz_lt (c := u.x.a.c) (sz := u.x.a.sz) (a := (lfA st u.x.i)) u.m
    have uc := mt_cls uI.mt (j := u.m) (by omega); have us := mt_sz uI.mt (j := u.m) (by omega)
    have g1 : u.x.a.c u.m = ((6 : Nat) : Int) := by have h9 := (by assumption : u.x.a.c (0 + ((u.m : Nat) : Int).toNat) = ((6 : Nat) : Int)); rw [at_n u.m] at h9; exact h9
    have un := not_seen uq uc (by simpa using (by assumption : (!u.q (u.x.a.c (0 + ((u.m : Nat) : Int).toNat)).toNat) = true))
    have g2 : 8 * u.x.a.sz u.m ≤ (lfA st u.x.i).f (u.x.a.c u.m).toNat := by rw [f_at g1]; have h9 := (by assumption : IntKind.i64.wrap (8 * u.x.a.sz (0 + ((u.m : Nat) : Int).toNat)) ≤ st.l6 (0 + ((u.x.i : Nat) : Int).toNat)); rw [at_n u.m, mul8 us] at h9; exact h9
    have e9 := bst_up (a := (lfA st u.x.i)) un g2 (by assumption)
    (conv => whnf)
    (conv => whnf); refine enter_mk (la := laG R st (u.x.i : Int) (u.m : Int)) ⟨u.m, u.x, u.q⟩ ?_ (by (repeat' (first | ((conv => whnf); first | refine ⟨?_, ?_⟩ | exact trivial | fail) | (dsimp only; done) | ((try dsimp only); first | with_reducible exact rfl | exact Nat.le_refl _ | with_reducible exact (fun _ _ => rfl)))); all_goals ((first | (dsimp only; rw [e9]; done) | (dsimp only; rw [e9]; exact fz_some _) | rfl | decide | (dsimp only; rw [w64' (by omega) (by omega)]; done) | (dsimp only; rw [w64' (by omega) (by omega)]; omega) | (dsimp only; omega))))
    exact ⟨⟨rfl, rfl, u1, u2, by show u.m < u.x.a.n; omega⟩, uq, uI⟩
  · have hh := (by assumption : (laD R st (z.x.i : Int)).inv u); dsimp only [laD] at hh; obtain ⟨⟨u0, u1, u2, u3⟩, uq, uI⟩ := hh; have u4 := uI.n; have u5 := uI.cap; have u6 := uI.cN; have u7 := uI.mx; have ub := fz_lt (c := u.x.a.c) (sz := u.x.a.sz) (a := (lfA st u.x.i)) u.m
    have uc := mt_cls uI.mt (j := u.m) (by omega); have us := mt_sz uI.mt (j := u.m) (by omega)
    have g1 : u.x.a.c u.m = ((6 : Nat) : Int) := by have h9 := (by assumption : u.x.a.c (0 + ((u.m : Nat) : Int).toNat) = ((6 : Nat) : Int)); rw [at_n u.m] at h9; exact h9
    have e9 := bst_low (a := (lfA st u.x.i)) (sz := u.x.a.sz) (c := u.x.a.c) (m := u.m) (by assumption) (by assumption)
    (conv => whnf)
    (conv => whnf); refine enter_mk (la := laG R st (u.x.i : Int) (u.m : Int)) ⟨u.m, u.x, u.q⟩ ?_ (by (repeat' (first | ((conv => whnf); first | refine ⟨?_, ?_⟩ | exact trivial | fail) | (dsimp only; done) | ((try dsimp only); first | with_reducible exact rfl | exact Nat.le_refl _ | with_reducible exact (fun _ _ => rfl)))); all_goals ((first | (dsimp only; rw [e9]; done) | (dsimp only; rw [e9]; exact fz_some _) | rfl | decide | (dsimp only; rw [w64' (by omega) (by omega)]; done) | (dsimp only; rw [w64' (by omega) (by omega)]; omega) | (dsimp only; omega))))
    exact ⟨⟨rfl, rfl, u1, u2, by show u.m < u.x.a.n; omega⟩, uq, uI⟩
  · have hh := (by assumption : (laD R st (z.x.i : Int)).inv u); dsimp only [laD] at hh; obtain ⟨⟨u0, u1, u2, u3⟩, uq, uI⟩ := hh; have u4 := uI.n; have u5 := uI.cap; have u6 := uI.cN; have u7 := uI.mx; have ub := fz_lt (c := u.x.a.c) (sz := u.x.a.sz) (a := (lfA st u.x.i)) u.m
    have uc := mt_cls uI.mt (j := u.m) (by omega); have us := mt_sz uI.mt (j := u.m) (by omega)
    have g1 : u.x.a.c u.m = ((6 : Nat) : Int) := by have h9 := (by assumption : u.x.a.c (0 + ((u.m : Nat) : Int).toNat) = ((6 : Nat) : Int)); rw [at_n u.m] at h9; exact h9
    have g2 : ¬ 8 * u.x.a.sz u.m ≤ (lfA st u.x.i).f (u.x.a.c u.m).toNat := by rw [f_at g1]; have h9 := (by assumption : ¬ IntKind.i64.wrap (8 * u.x.a.sz (0 + ((u.m : Nat) : Int).toNat)) ≤ st.l6 (0 + ((u.x.i : Nat) : Int).toNat)); rw [at_n u.m, mul8 us] at h9; exact h9
    have e9 := bst_small (a := (lfA st u.x.i)) g2
    (conv => whnf)
    (conv => whnf); refine enter_mk (la := laG R st (u.x.i : Int) (u.m : Int)) ⟨u.m, u.x, u.q⟩ ?_ (by (repeat' (first | ((conv => whnf); first | refine ⟨?_, ?_⟩ | exact trivial | fail) | (dsimp only; done) | ((try dsimp only); first | with_reducible exact rfl | exact Nat.le_refl _ | with_reducible exact (fun _ _ => rfl)))); all_goals ((first | (dsimp only; rw [e9]; done) | (dsimp only; rw [e9]; exact fz_some _) | rfl | decide | (dsimp only; rw [w64' (by omega) (by omega)]; done) | (dsimp only; rw [w64' (by omega) (by omega)]; omega) | (dsimp only; omega))))
    exact ⟨⟨rfl, rfl, u1, u2, by show u.m < u.x.a.n; omega⟩, uq, uI⟩
  · have hh := (by assumption : (laD R st (z.x.i : Int)).inv u); dsimp only [laD] at hh; obtain ⟨⟨u0, u1, u2, u3⟩, uq, uI⟩ := hh; have u4 := uI.n; have u5 := uI.cap; have u6 := uI.cN; have u7 := uI.mx; have ub := fz_lt (c := u.x.a.c) (sz := u.x.a.sz) (a := (lfA st u.x.i)) u.m
    have uc := mt_cls uI.mt (j := u.m) (by omega); have us := mt_sz uI.mt (j := u.m) (by omega)
    have g1 : u.x.a.c u.m = ((7 : Nat) : Int) := by have h9 := (by assumption : u.x.a.c (0 + ((u.m : Nat) : Int).toNat) = ((7 : Nat) : Int)); rw [at_n u.m] at h9; exact h9
    have un := not_seen uq uc (by simpa using (by assumption : (!u.q (u.x.a.c (0 + ((u.m : Nat) : Int).toNat)).toNat) = true))
    have g2 : 8 * u.x.a.sz u.m ≤ (lfA st u.x.i).f (u.x.a.c u.m).toNat := by rw [f_at g1]; have h9 := (by assumption : IntKind.i64.wrap (8 * u.x.a.sz (0 + ((u.m : Nat) : Int).toNat)) ≤ st.l7 (0 + ((u.x.i : Nat) : Int).toNat)); rw [at_n u.m, mul8 us] at h9; exact h9
    have e9 := bst_first (a := (lfA st u.x.i)) un g2 (by assumption)
    (conv => whnf)
    (conv => whnf); refine enter_mk (la := laG R st (u.x.i : Int) (u.m : Int)) ⟨u.m, u.x, u.q⟩ ?_ (by (repeat' (first | ((conv => whnf); first | refine ⟨?_, ?_⟩ | exact trivial | fail) | (dsimp only; done) | ((try dsimp only); first | with_reducible exact rfl | exact Nat.le_refl _ | with_reducible exact (fun _ _ => rfl)))); all_goals ((first | (dsimp only; rw [e9]; done) | (dsimp only; rw [e9]; exact fz_some _) | rfl | decide | (dsimp only; rw [w64' (by omega) (by omega)]; done) | (dsimp only; rw [w64' (by omega) (by omega)]; omega) | (dsimp only; omega))))
    exact ⟨⟨rfl, rfl, u1, u2, by show u.m < u.x.a.n; omega⟩, uq, uI⟩
  · have hh := (by assumption : (laD R st (z.x.i : Int)).inv u); dsimp only [laD] at hh; obtain ⟨⟨u0, u1, u2, u3⟩, uq, uI⟩ := hh; have u4 := uI.n; have u5 := uI.cap; have u6 := uI.cN; have u7 := uI.mx; have ub := fz_lt (c := u.x.a.c) (sz := u.x.a.sz) (a := (lfA st u.x.i)) u.m
    omega
  · have hh := (by assumption : (laD R st (z.x.i : Int)).inv u); dsimp only [laD] at hh; obtain ⟨⟨u0, u1, u2, u3⟩, uq, uI⟩ := hh; have u4 := uI.n; have u5 := uI.cap; have u6 := uI.cN; have u7 := uI.mx; have ub := fz_lt (c := u.x.a.c) (sz := u.x.a.sz) (a := (lfA st u.x.i)) u.m
    omega
  · have hh := (by assumption : (laD R st (z.x.i : Int)).inv u); dsimp only [laD] at hh; obtain ⟨⟨u0, u1, u2, u3⟩, uq, uI⟩ := hh; have u4 := uI.n; have u5 := uI.cap; have u6 := uI.cN; have u7 := uI.mx; have ub := fz_lt (c := u.x.a.c) (sz := u.x.a.sz) (a := (lfA st u.x.i)) u.m
    omega
  · have hh := (by assumption : (laD R st (z.x.i : Int)).inv u); dsimp only [laD] at hh; obtain ⟨⟨u0, u1, u2, u3⟩, uq, uI⟩ := hh; have u4 := uI.n; have u5 := uI.cap; have u6 := uI.cN; have u7 := uI.mx; have ub := fz_lt (c := u.x.a.c) (sz := u.x.a.sz) (a := (lfA st u.x.i)) u.m
    omega
  · have hh := (by assumption : (laD R st (z.x.i : Int)).inv u); dsimp only [laD] at hh; obtain ⟨⟨u0, u1, u2, u3⟩, uq, uI⟩ := hh; have u4 := uI.n; have u5 := uI.cap; have u6 := uI.cN; have u7 := uI.mx; have ub := fz_lt (c := u.x.a.c) (sz := u.x.a.sz) (a := (lfA st u.x.i)) u.m
    omega
  · have hh := (by assumption : (laD R st (z.x.i : Int)).inv u); dsimp only [laD] at hh; obtain ⟨⟨u0, u1, u2, u3⟩, uq, uI⟩ := hh; have u4 := uI.n; have u5 := uI.cap; have u6 := uI.cN; have u7 := uI.mx; have ub := fz_lt (c := u.x.a.c) (sz := u.x.a.sz) (a := (lfA st u.x.i)) u.m
    have uc := mt_cls uI.mt (j := u.m) (by omega); have us := mt_sz uI.mt (j := u.m) (by omega)
    have g1 : u.x.a.c u.m = ((7 : Nat) : Int) := by have h9 := (by assumption : u.x.a.c (0 + ((u.m : Nat) : Int).toNat) = ((7 : Nat) : Int)); rw [at_n u.m] at h9; exact h9
    have un := not_seen uq uc (by simpa using (by assumption : (!u.q (u.x.a.c (0 + ((u.m : Nat) : Int).toNat)).toNat) = true))
    have g2 : 8 * u.x.a.sz u.m ≤ (lfA st u.x.i).f (u.x.a.c u.m).toNat := by rw [f_at g1]; have h9 := (by assumption : IntKind.i64.wrap (8 * u.x.a.sz (0 + ((u.m : Nat) : Int).toNat)) ≤ st.l7 (0 + ((u.x.i : Nat) : Int).toNat)); rw [at_n u.m, mul8 us] at h9; exact h9
    have e9 := bst_up (a := (lfA st u.x.i)) un g2 (by assumption)
    (conv => whnf)
    (conv => whnf); refine enter_mk (la := laG R st (u.x.i : Int) (u.m : Int)) ⟨u.m, u.x, u.q⟩ ?_ (by (repeat' (first | ((conv => whnf); first | refine ⟨?_, ?_⟩ | exact trivial | fail) | (dsimp only; done) | ((try dsimp only); first | with_reducible exact rfl | exact Nat.le_refl _ | with_reducible exact (fun _ _ => rfl)))); all_goals ((first | (dsimp only; rw [e9]; done) | (dsimp only; rw [e9]; exact fz_some _) | rfl | decide | (dsimp only; rw [w64' (by omega) (by omega)]; done) | (dsimp only; rw [w64' (by omega) (by omega)]; omega) | (dsimp only; omega))))
    exact ⟨⟨rfl, rfl, u1, u2, by show u.m < u.x.a.n; omega⟩, uq, uI⟩
  · have hh := (by assumption : (laD R st (z.x.i : Int)).inv u); dsimp only [laD] at hh; obtain ⟨⟨u0, u1, u2, u3⟩, uq, uI⟩ := hh; have u4 := uI.n; have u5 := uI.cap; have u6 := uI.cN; have u7 := uI.mx; have ub := fz_lt (c := u.x.a.c) (sz := u.x.a.sz) (a := (lfA st u.x.i)) u.m
    have uc := mt_cls uI.mt (j := u.m) (by omega); have us := mt_sz uI.mt (j := u.m) (by omega)
    have g1 : u.x.a.c u.m = ((7 : Nat) : Int) := by have h9 := (by assumption : u.x.a.c (0 + ((u.m : Nat) : Int).toNat) = ((7 : Nat) : Int)); rw [at_n u.m] at h9; exact h9
    have e9 := bst_low (a := (lfA st u.x.i)) (sz := u.x.a.sz) (c := u.x.a.c) (m := u.m) (by assumption) (by assumption)
    (conv => whnf)
    (conv => whnf); refine enter_mk (la := laG R st (u.x.i : Int) (u.m : Int)) ⟨u.m, u.x, u.q⟩ ?_ (by (repeat' (first | ((conv => whnf); first | refine ⟨?_, ?_⟩ | exact trivial | fail) | (dsimp only; done) | ((try dsimp only); first | with_reducible exact rfl | exact Nat.le_refl _ | with_reducible exact (fun _ _ => rfl)))); all_goals ((first | (dsimp only; rw [e9]; done) | (dsimp only; rw [e9]; exact fz_some _) | rfl | decide | (dsimp only; rw [w64' (by omega) (by omega)]; done) | (dsimp only; rw [w64' (by omega) (by omega)]; omega) | (dsimp only; omega))))
    exact ⟨⟨rfl, rfl, u1, u2, by show u.m < u.x.a.n; omega⟩, uq, uI⟩
  · have hh := (by assumption : (laD R st (z.x.i : Int)).inv u); dsimp only [laD] at hh; obtain ⟨⟨u0, u1, u2, u3⟩, uq, uI⟩ := hh; have u4 := uI.n; have u5 := uI.cap; have u6 := uI.cN; have u7 := uI.mx; have ub := fz_lt (c := u.x.a.c) (sz := u.x.a.sz) (a := (lfA st u.x.i)) u.m
    have uc := mt_cls uI.mt (j := u.m) (by omega); have us := mt_sz uI.mt (j := u.m) (by omega)
    have g1 : u.x.a.c u.m = ((7 : Nat) : Int) := by have h9 := (by assumption : u.x.a.c (0 + ((u.m : Nat) : Int).toNat) = ((7 : Nat) : Int)); rw [at_n u.m] at h9; exact h9
    have g2 : ¬ 8 * u.x.a.sz u.m ≤ (lfA st u.x.i).f (u.x.a.c u.m).toNat := by rw [f_at g1]; have h9 := (by assumption : ¬ IntKind.i64.wrap (8 * u.x.a.sz (0 + ((u.m : Nat) : Int).toNat)) ≤ st.l7 (0 + ((u.x.i : Nat) : Int).toNat)); rw [at_n u.m, mul8 us] at h9; exact h9
    have e9 := bst_small (a := (lfA st u.x.i)) g2
    (conv => whnf)
    (conv => whnf); refine enter_mk (la := laG R st (u.x.i : Int) (u.m : Int)) ⟨u.m, u.x, u.q⟩ ?_ (by (repeat' (first | ((conv => whnf); first | refine ⟨?_, ?_⟩ | exact trivial | fail) | (dsimp only; done) | ((try dsimp only); first | with_reducible exact rfl | exact Nat.le_refl _ | with_reducible exact (fun _ _ => rfl)))); all_goals ((first | (dsimp only; rw [e9]; done) | (dsimp only; rw [e9]; exact fz_some _) | rfl | decide | (dsimp only; rw [w64' (by omega) (by omega)]; done) | (dsimp only; rw [w64' (by omega) (by omega)]; omega) | (dsimp only; omega))))
    exact ⟨⟨rfl, rfl, u1, u2, by show u.m < u.x.a.n; omega⟩, uq, uI⟩
  · have hh := (by assumption : (laD R st (z.x.i : Int)).inv u); dsimp only [laD] at hh; obtain ⟨⟨u0, u1, u2, u3⟩, uq, uI⟩ := hh; have u4 := uI.n; have u5 := uI.cap; have u6 := uI.cN; have u7 := uI.mx; have ub := fz_lt (c := u.x.a.c) (sz := u.x.a.sz) (a := (lfA st u.x.i)) u.m
    have uc := mt_cls uI.mt (j := u.m) (by omega); have us := mt_sz uI.mt (j := u.m) (by omega)
    have e9 := bst_seen (a := (lfA st u.x.i)) (sz := u.x.a.sz) uq uc (by simpa using (by assumption : (!u.q (u.x.a.c (0 + ((u.m : Nat) : Int).toNat)).toNat) = false))
    (conv => whnf)
    (conv => whnf); refine enter_mk (la := laG R st (u.x.i : Int) (u.m : Int)) ⟨u.m, u.x, u.q⟩ ?_ (by (repeat' (first | ((conv => whnf); first | refine ⟨?_, ?_⟩ | exact trivial | fail) | (dsimp only; done) | ((try dsimp only); first | with_reducible exact rfl | exact Nat.le_refl _ | with_reducible exact (fun _ _ => rfl)))); all_goals ((first | (dsimp only; rw [e9]; done) | rfl | decide | (dsimp only; rw [w64' (by omega) (by omega)]; done) | (dsimp only; rw [w64' (by omega) (by omega)]; omega) | (dsimp only; omega))))
    exact ⟨⟨rfl, rfl, u1, u2, by show u.m < u.x.a.n; omega⟩, uq, uI⟩
  · have hh := (by assumption : (laG R st (u.x.i : Int) (u.m : Int)).inv v); dsimp only [laG] at hh; obtain ⟨⟨v0, v1, v2, v3, v4⟩, vq, vI⟩ := hh; have v5 := vI.n; have vc := mt_cls vI.mt (j := v.m) v4; have vc2 : 0 ≤ v.x.a.c (0 + ((v.m : Nat) : Int).toNat) ∧ v.x.a.c (0 + ((v.m : Nat) : Int).toNat) ≤ 7 := by rw [at_n]; exact vc
    omega
  · have hh := (by assumption : (laG R st (u.x.i : Int) (u.m : Int)).inv v); dsimp only [laG] at hh; obtain ⟨⟨v0, v1, v2, v3, v4⟩, vq, vI⟩ := hh; have v5 := vI.n; have vc := mt_cls vI.mt (j := v.m) v4; have vc2 : 0 ≤ v.x.a.c (0 + ((v.m : Nat) : Int).toNat) ∧ v.x.a.c (0 + ((v.m : Nat) : Int).toNat) ≤ 7 := by rw [at_n]; exact vc
    omega
  · have hh := (by assumption : (laG R st (u.x.i : Int) (u.m : Int)).inv v); dsimp only [laG] at hh; obtain ⟨⟨v0, v1, v2, v3, v4⟩, vq, vI⟩ := hh; have v5 := vI.n; have vc := mt_cls vI.mt (j := v.m) v4; have vc2 : 0 ≤ v.x.a.c (0 + ((v.m : Nat) : Int).toNat) ∧ v.x.a.c (0 + ((v.m : Nat) : Int).toNat) ≤ 7 := by rw [at_n]; exact vc
    omega
  · have hh := (by assumption : (laG R st (u.x.i : Int) (u.m : Int)).inv v); dsimp only [laG] at hh; obtain ⟨⟨v0, v1, v2, v3, v4⟩, vq, vI⟩ := hh; have v5 := vI.n; have vc := mt_cls vI.mt (j := v.m) v4; have vc2 : 0 ≤ v.x.a.c (0 + ((v.m : Nat) : Int).toNat) ∧ v.x.a.c (0 + ((v.m : Nat) : Int).toNat) ≤ 7 := by rw [at_n]; exact vc
    omega
  · have hh := (by assumption : (laD R st (z.x.i : Int)).inv u); dsimp only [laD] at hh; obtain ⟨⟨u0, u1, u2, u3⟩, uq, uI⟩ := hh; have u4 := uI.n; have u5 := uI.cap; have u6 := uI.cN; have u7 := uI.mx; have ub := fz_lt (c := u.x.a.c) (sz := u.x.a.sz) (a := (lfA st u.x.i)) u.m
    have hh := (by assumption : (laG R st (u.x.i : Int) (u.m : Int)).inv v); dsimp only [laG] at hh; obtain ⟨⟨v0, v1, v2, v3, v4⟩, vq, vI⟩ := hh; have v5 := vI.n; have vc := mt_cls vI.mt (j := v.m) v4; have vc2 : 0 ≤ v.x.a.c (0 + ((v.m : Nat) : Int).toNat) ∧ v.x.a.c (0 + ((v.m : Nat) : Int).toNat) ≤ 7 := by rw [at_n]; exact vc
    (conv => whnf)
    (conv => whnf); refine enter_mk (la := laD R st (z.x.i : Int)) ⟨v.m + 1, v.x, _⟩ ?_ (by (repeat' (first | ((conv => whnf); first | refine ⟨?_, ?_⟩ | exact trivial | fail) | (dsimp only; done) | ((try dsimp only); first | with_reducible exact rfl | exact Nat.le_refl _ | with_reducible exact (fun _ _ => rfl)))); all_goals ((first | (show 100 - (v.m + 1) < 100 - u.m; omega) | rfl | decide | (dsimp only; rw [w64' (by omega) (by omega)]; done) | (dsimp only; rw [w64' (by omega) (by omega)]; omega) | (dsimp only; omega))))
    exact ⟨⟨by show ((v.x.i : Nat) : Int) = z.x.i; omega, v2, v3, by show v.m + 1 ≤ v.x.a.n; omega⟩, seen_up vq vc rfl, vI⟩
  · have hh := (by assumption : (laD R st (z.x.i : Int)).inv u); dsimp only [laD] at hh; obtain ⟨⟨u0, u1, u2, u3⟩, uq, uI⟩ := hh; have u4 := uI.n; have u5 := uI.cap; have u6 := uI.cN; have u7 := uI.mx; have ub := fz_lt (c := u.x.a.c) (sz := u.x.a.sz) (a := (lfA st u.x.i)) u.m
    have um : u.m = u.x.a.n := by omega
    have e : (pk u.x.l (lfA st u.x.i)) = none := mt_best_none uI.mt (by rw [← um]; exact fz_neg (by assumption))
    exact absurd (by assumption : pkB (pk u.x.l (lfA st u.x.i)) = true) (by rw [e, pkB_none]; decide)
  · have hh := (by assumption : (laD R st (z.x.i : Int)).inv u); dsimp only [laD] at hh; obtain ⟨⟨u0, u1, u2, u3⟩, uq, uI⟩ := hh; have u4 := uI.n; have u5 := uI.cap; have u6 := uI.cN; have u7 := uI.mx; have ub := fz_lt (c := u.x.a.c) (sz := u.x.a.sz) (a := (lfA st u.x.i)) u.m
    have um : u.m = u.x.a.n := by omega
    have e : (pk u.x.l (lfA st u.x.i)) = none := mt_best_none uI.mt (by rw [← um]; exact fz_neg (by assumption))
    exact ((by assumption : ¬ pkC (pk u.x.l (lfA st u.x.i)) = 0) (by rw [e, pkC_none])).elim
  · exact eq31
  · have hh := (by assumption : (laD R st (z.x.i : Int)).inv u); dsimp only [laD] at hh; obtain ⟨⟨u0, u1, u2, u3⟩, uq, uI⟩ := hh; have u4 := uI.n; have u5 := uI.cap; have u6 := uI.cN; have u7 := uI.mx; have ub := fz_lt (c := u.x.a.c) (sz := u.x.a.sz) (a := (lfA st u.x.i)) u.m
    have um : u.m = u.x.a.n := by omega
    have e : (pk u.x.l (lfA st u.x.i)) = none := mt_best_none uI.mt (by rw [← um]; exact fz_neg (by assumption))
    have e2 : pkI u.x.l (pk u.x.l (lfA st u.x.i)) = ⟨0, 0, false⟩ := by rw [e, pkI_none]
    exact absurd ((it_eq e2).symm.trans (by assumption)) Bool.false_ne_true
  · have hh := (by assumption : (laD R st (z.x.i : Int)).inv u); dsimp only [laD] at hh; obtain ⟨⟨u0, u1, u2, u3⟩, uq, uI⟩ := hh; have u4 := uI.n; have u5 := uI.cap; have u6 := uI.cN; have u7 := uI.mx; have ub := fz_lt (c := u.x.a.c) (sz := u.x.a.sz) (a := (lfA st u.x.i)) u.m
    have um : u.m = u.x.a.n := by omega
    (conv => whnf)
    (conv => whnf); refine enter_mk (la := laJ R st (z.x.i : Int)) ⟨⟨u.x.i, popL u.x.l (pk u.x.l (lfA st u.x.i)), u.x.lost, u.x.a⟩⟩ ?_ (by (repeat' (first | ((conv => whnf); first | refine ⟨?_, ?_⟩ | exact trivial | fail) | (dsimp only; done) | ((try dsimp only); first | with_reducible exact rfl | exact Nat.le_refl _ | with_reducible exact (fun _ _ => rfl)))); all_goals ((first | rfl | decide | (dsimp only; rw [w64' (by omega) (by omega)]; done) | (dsimp only; rw [w64' (by omega) (by omega)]; omega) | (dsimp only; omega))))
    exact ⟨⟨u0, u1, u2⟩, uI.stay (by rw [← um]; exact fz_neg (by assumption))⟩
  · have hh := (by assumption : (laD R st (z.x.i : Int)).inv u); dsimp only [laD] at hh; obtain ⟨⟨u0, u1, u2, u3⟩, uq, uI⟩ := hh; have u4 := uI.n; have u5 := uI.cap; have u6 := uI.cN; have u7 := uI.mx; have ub := fz_lt (c := u.x.a.c) (sz := u.x.a.sz) (a := (lfA st u.x.i)) u.m
    have um : u.m = u.x.a.n := by omega
    obtain ⟨b, hb, hfz⟩ := fz_pos (by assumption : ¬ fz (bstI u.x.a.c u.x.a.sz (lfA st u.x.i) u.m) < 0)
    have hbn := hb; rw [um] at hbn; obtain ⟨q1, q2, q3, q4, q5⟩ := mt_best uI.mt hbn; obtain ⟨f1, f2, f3, f4⟩ := mt_first uI.mt q2 q4
    exact absurd (by assumption : (!pkB (pk u.x.l (lfA st u.x.i))) = true) (by rw [q5, pkB_some]; decide)
  · have hh := (by assumption : (laD R st (z.x.i : Int)).inv u); dsimp only [laD] at hh; obtain ⟨⟨u0, u1, u2, u3⟩, uq, uI⟩ := hh; have u4 := uI.n; have u5 := uI.cap; have u6 := uI.cN; have u7 := uI.mx; have ub := fz_lt (c := u.x.a.c) (sz := u.x.a.sz) (a := (lfA st u.x.i)) u.m
    omega
  · have hh := (by assumption : (laD R st (z.x.i : Int)).inv u); dsimp only [laD] at hh; obtain ⟨⟨u0, u1, u2, u3⟩, uq, uI⟩ := hh; have u4 := uI.n; have u5 := uI.cap; have u6 := uI.cN; have u7 := uI.mx; have ub := fz_lt (c := u.x.a.c) (sz := u.x.a.sz) (a := (lfA st u.x.i)) u.m
    omega
  · have hh := (by assumption : (laD R st (z.x.i : Int)).inv u); dsimp only [laD] at hh; obtain ⟨⟨u0, u1, u2, u3⟩, uq, uI⟩ := hh; have u4 := uI.n; have u5 := uI.cap; have u6 := uI.cN; have u7 := uI.mx; have ub := fz_lt (c := u.x.a.c) (sz := u.x.a.sz) (a := (lfA st u.x.i)) u.m
    omega
  · have hh := (by assumption : (laD R st (z.x.i : Int)).inv u); dsimp only [laD] at hh; obtain ⟨⟨u0, u1, u2, u3⟩, uq, uI⟩ := hh; have u4 := uI.n; have u5 := uI.cap; have u6 := uI.cN; have u7 := uI.mx; have ub := fz_lt (c := u.x.a.c) (sz := u.x.a.sz) (a := (lfA st u.x.i)) u.m
    omega
  · have hh := (by assumption : (laD R st (z.x.i : Int)).inv u); dsimp only [laD] at hh; obtain ⟨⟨u0, u1, u2, u3⟩, uq, uI⟩ := hh; have u4 := uI.n; have u5 := uI.cap; have u6 := uI.cN; have u7 := uI.mx; have ub := fz_lt (c := u.x.a.c) (sz := u.x.a.sz) (a := (lfA st u.x.i)) u.m
    omega
  · have hh := (by assumption : (laD R st (z.x.i : Int)).inv u); dsimp only [laD] at hh; obtain ⟨⟨u0, u1, u2, u3⟩, uq, uI⟩ := hh; have u4 := uI.n; have u5 := uI.cap; have u6 := uI.cN; have u7 := uI.mx; have ub := fz_lt (c := u.x.a.c) (sz := u.x.a.sz) (a := (lfA st u.x.i)) u.m
    have um : u.m = u.x.a.n := by omega
    obtain ⟨b, hb, hfz⟩ := fz_pos (by assumption : ¬ fz (bstI u.x.a.c u.x.a.sz (lfA st u.x.i) u.m) < 0)
    have hbn := hb; rw [um] at hbn; obtain ⟨q1, q2, q3, q4, q5⟩ := mt_best uI.mt hbn; obtain ⟨f1, f2, f3, f4⟩ := mt_first uI.mt q2 q4
    exact ((by assumption : ¬ pkC (pk u.x.l (lfA st u.x.i)) = u.x.a.c (0 + (fz (bstI u.x.a.c u.x.a.sz (lfA st u.x.i) u.m)).toNat)) (by rw [q5, pkC_some, hfz, at_n]; exact q3.symm)).elim
  · have hh := (by assumption : (laD R st (z.x.i : Int)).inv u); dsimp only [laD] at hh; obtain ⟨⟨u0, u1, u2, u3⟩, uq, uI⟩ := hh; have u4 := uI.n; have u5 := uI.cap; have u6 := uI.cN; have u7 := uI.mx; have ub := fz_lt (c := u.x.a.c) (sz := u.x.a.sz) (a := (lfA st u.x.i)) u.m
    omega
  · have hh := (by assumption : (laD R st (z.x.i : Int)).inv u); dsimp only [laD] at hh; obtain ⟨⟨u0, u1, u2, u3⟩, uq, uI⟩ := hh; have u4 := uI.n; have u5 := uI.cap; have u6 := uI.cN; have u7 := uI.mx; have ub := fz_lt (c := u.x.a.c) (sz := u.x.a.sz) (a := (lfA st u.x.i)) u.m
    omega
  · have hh := (by assumption : (laD R st (z.x.i : Int)).inv u); dsimp only [laD] at hh; obtain ⟨⟨u0, u1, u2, u3⟩, uq, uI⟩ := hh; have u4 := uI.n; have u5 := uI.cap; have u6 := uI.cN; have u7 := uI.mx; have ub := fz_lt (c := u.x.a.c) (sz := u.x.a.sz) (a := (lfA st u.x.i)) u.m
    omega
  · have hh := (by assumption : (laD R st (z.x.i : Int)).inv u); dsimp only [laD] at hh; obtain ⟨⟨u0, u1, u2, u3⟩, uq, uI⟩ := hh; have u4 := uI.n; have u5 := uI.cap; have u6 := uI.cN; have u7 := uI.mx; have ub := fz_lt (c := u.x.a.c) (sz := u.x.a.sz) (a := (lfA st u.x.i)) u.m
    omega
  · have hh := (by assumption : (laD R st (z.x.i : Int)).inv u); dsimp only [laD] at hh; obtain ⟨⟨u0, u1, u2, u3⟩, uq, uI⟩ := hh; have u4 := uI.n; have u5 := uI.cap; have u6 := uI.cN; have u7 := uI.mx; have ub := fz_lt (c := u.x.a.c) (sz := u.x.a.sz) (a := (lfA st u.x.i)) u.m
    omega
  · exact eq31
  · have hh := (by assumption : (laD R st (z.x.i : Int)).inv u); dsimp only [laD] at hh; obtain ⟨⟨u0, u1, u2, u3⟩, uq, uI⟩ := hh; have u4 := uI.n; have u5 := uI.cap; have u6 := uI.cN; have u7 := uI.mx; have ub := fz_lt (c := u.x.a.c) (sz := u.x.a.sz) (a := (lfA st u.x.i)) u.m
    have um : u.m = u.x.a.n := by omega
    obtain ⟨b, hb, hfz⟩ := fz_pos (by assumption : ¬ fz (bstI u.x.a.c u.x.a.sz (lfA st u.x.i) u.m) < 0)
    have hbn := hb; rw [um] at hbn; obtain ⟨q1, q2, q3, q4, q5⟩ := mt_best uI.mt hbn; obtain ⟨f1, f2, f3, f4⟩ := mt_first uI.mt q2 q4
    have e2 : pkI u.x.l (pk u.x.l (lfA st u.x.i)) = ⟨u.x.a.id (0 + (fz (bstI u.x.a.c u.x.a.sz (lfA st u.x.i) u.m)).toNat), u.x.a.sz (0 + (fz (bstI u.x.a.c u.x.a.sz (lfA st u.x.i) u.m)).toNat), u.x.a.dr (0 + (fz (bstI u.x.a.c u.x.a.sz (lfA st u.x.i) u.m)).toNat)⟩ := by rw [q5, pkI_some, hfz, at_n, f2, f3, f4]
    exact absurd ((it_eq e2).symm.trans (by assumption)) Bool.false_ne_true
  · have hh := (by assumption : (laD R st (z.x.i : Int)).inv u); dsimp only [laD] at hh; obtain ⟨⟨u0, u1, u2, u3⟩, uq, uI⟩ := hh; have u4 := uI.n; have u5 := uI.cap; have u6 := uI.cN; have u7 := uI.mx; have ub := fz_lt (c := u.x.a.c) (sz := u.x.a.sz) (a := (lfA st u.x.i)) u.m
    have um : u.m = u.x.a.n := by omega
    obtain ⟨b, hb, hfz⟩ := fz_pos (by assumption : ¬ fz (bstI u.x.a.c u.x.a.sz (lfA st u.x.i) u.m) < 0)
    have hbn := hb; rw [um] at hbn; obtain ⟨q1, q2, q3, q4, q5⟩ := mt_best uI.mt hbn; obtain ⟨f1, f2, f3, f4⟩ := mt_first uI.mt q2 q4
    have hw : IntKind.i64.wrap ((b : Int) + 1) = ((b + 1 : Nat) : Int) := by rw [w64' (by omega) (by omega)]; rfl
    first | omega | (simp only [hfz, hw, Int.toNat_natCast, cutL, cutR] at *; first | omega | (split <;> omega))
  · have hh := (by assumption : (laD R st (z.x.i : Int)).inv u); dsimp only [laD] at hh; obtain ⟨⟨u0, u1, u2, u3⟩, uq, uI⟩ := hh; have u4 := uI.n; have u5 := uI.cap; have u6 := uI.cN; have u7 := uI.mx; have ub := fz_lt (c := u.x.a.c) (sz := u.x.a.sz) (a := (lfA st u.x.i)) u.m
    have um : u.m = u.x.a.n := by omega
    obtain ⟨b, hb, hfz⟩ := fz_pos (by assumption : ¬ fz (bstI u.x.a.c u.x.a.sz (lfA st u.x.i) u.m) < 0)
    have hbn := hb; rw [um] at hbn; obtain ⟨q1, q2, q3, q4, q5⟩ := mt_best uI.mt hbn; obtain ⟨f1, f2, f3, f4⟩ := mt_first uI.mt q2 q4
    have hw : IntKind.i64.wrap ((b : Int) + 1) = ((b + 1 : Nat) : Int) := by rw [w64' (by omega) (by omega)]; rfl
    first | omega | (simp only [hfz, hw, Int.toNat_natCast, cutL, cutR] at *; first | omega | (split <;> omega))
  · have hh := (by assumption : (laD R st (z.x.i : Int)).inv u); dsimp only [laD] at hh; obtain ⟨⟨u0, u1, u2, u3⟩, uq, uI⟩ := hh; have u4 := uI.n; have u5 := uI.cap; have u6 := uI.cN; have u7 := uI.mx; have ub := fz_lt (c := u.x.a.c) (sz := u.x.a.sz) (a := (lfA st u.x.i)) u.m
    have um : u.m = u.x.a.n := by omega
    obtain ⟨b, hb, hfz⟩ := fz_pos (by assumption : ¬ fz (bstI u.x.a.c u.x.a.sz (lfA st u.x.i) u.m) < 0)
    have hbn := hb; rw [um] at hbn; obtain ⟨q1, q2, q3, q4, q5⟩ := mt_best uI.mt hbn; obtain ⟨f1, f2, f3, f4⟩ := mt_first uI.mt q2 q4
    have hw : IntKind.i64.wrap ((b : Int) + 1) = ((b + 1 : Nat) : Int) := by rw [w64' (by omega) (by omega)]; rfl
    first | omega | (simp only [hfz, hw, Int.toNat_natCast, cutL, cutR] at *; first | omega | (split <;> omega))
  · have hh := (by assumption : (laD R st (z.x.i : Int)).inv u); dsimp only [laD] at hh; obtain ⟨⟨u0, u1, u2, u3⟩, uq, uI⟩ := hh; have u4 := uI.n; have u5 := uI.cap; have u6 := uI.cN; have u7 := uI.mx; have ub := fz_lt (c := u.x.a.c) (sz := u.x.a.sz) (a := (lfA st u.x.i)) u.m
    have um : u.m = u.x.a.n := by omega
    obtain ⟨b, hb, hfz⟩ := fz_pos (by assumption : ¬ fz (bstI u.x.a.c u.x.a.sz (lfA st u.x.i) u.m) < 0)
    have hbn := hb; rw [um] at hbn; obtain ⟨q1, q2, q3, q4, q5⟩ := mt_best uI.mt hbn; obtain ⟨f1, f2, f3, f4⟩ := mt_first uI.mt q2 q4
    have hw : IntKind.i64.wrap ((b : Int) + 1) = ((b + 1 : Nat) : Int) := by rw [w64' (by omega) (by omega)]; rfl
    first | omega | (simp only [hfz, hw, Int.toNat_natCast, cutL, cutR] at *; first | omega | (split <;> omega))
  · have hh := (by assumption : (laD R st (z.x.i : Int)).inv u); dsimp only [laD] at hh; obtain ⟨⟨u0, u1, u2, u3⟩, uq, uI⟩ := hh; have u4 := uI.n; have u5 := uI.cap; have u6 := uI.cN; have u7 := uI.mx; have ub := fz_lt (c := u.x.a.c) (sz := u.x.a.sz) (a := (lfA st u.x.i)) u.m
    have um : u.m = u.x.a.n := by omega
    obtain ⟨b, hb, hfz⟩ := fz_pos (by assumption : ¬ fz (bstI u.x.a.c u.x.a.sz (lfA st u.x.i) u.m) < 0)
    have hbn := hb; rw [um] at hbn; obtain ⟨q1, q2, q3, q4, q5⟩ := mt_best uI.mt hbn; obtain ⟨f1, f2, f3, f4⟩ := mt_first uI.mt q2 q4
    have hw : IntKind.i64.wrap ((b : Int) + 1) = ((b + 1 : Nat) : Int) := by rw [w64' (by omega) (by omega)]; rfl
    first | omega | (simp only [hfz, hw, Int.toNat_natCast, cutL, cutR] at *; first | omega | (split <;> omega))
  · have hh := (by assumption : (laD R st (z.x.i : Int)).inv u); dsimp only [laD] at hh; obtain ⟨⟨u0, u1, u2, u3⟩, uq, uI⟩ := hh; have u4 := uI.n; have u5 := uI.cap; have u6 := uI.cN; have u7 := uI.mx; have ub := fz_lt (c := u.x.a.c) (sz := u.x.a.sz) (a := (lfA st u.x.i)) u.m
    have um : u.m = u.x.a.n := by omega
    obtain ⟨b, hb, hfz⟩ := fz_pos (by assumption : ¬ fz (bstI u.x.a.c u.x.a.sz (lfA st u.x.i) u.m) < 0)
    have hbn := hb; rw [um] at hbn; obtain ⟨q1, q2, q3, q4, q5⟩ := mt_best uI.mt hbn; obtain ⟨f1, f2, f3, f4⟩ := mt_first uI.mt q2 q4
    have hw : IntKind.i64.wrap ((b : Int) + 1) = ((b + 1 : Nat) : Int) := by rw [w64' (by omega) (by omega)]; rfl
    first | omega | (simp only [hfz, hw, Int.toNat_natCast, cutL, cutR] at *; first | omega | (split <;> omega))
  · have hh := (by assumption : (laD R st (z.x.i : Int)).inv u); dsimp only [laD] at hh; obtain ⟨⟨u0, u1, u2, u3⟩, uq, uI⟩ := hh; have u4 := uI.n; have u5 := uI.cap; have u6 := uI.cN; have u7 := uI.mx; have ub := fz_lt (c := u.x.a.c) (sz := u.x.a.sz) (a := (lfA st u.x.i)) u.m
    have um : u.m = u.x.a.n := by omega
    obtain ⟨b, hb, hfz⟩ := fz_pos (by assumption : ¬ fz (bstI u.x.a.c u.x.a.sz (lfA st u.x.i) u.m) < 0)
    have hbn := hb; rw [um] at hbn; obtain ⟨q1, q2, q3, q4, q5⟩ := mt_best uI.mt hbn; obtain ⟨f1, f2, f3, f4⟩ := mt_first uI.mt q2 q4
    have hw : IntKind.i64.wrap ((b : Int) + 1) = ((b + 1 : Nat) : Int) := by rw [w64' (by omega) (by omega)]; rfl
    first | omega | (simp only [hfz, hw, Int.toNat_natCast, cutL, cutR] at *; first | omega | (split <;> omega))
  · have hh := (by assumption : (laD R st (z.x.i : Int)).inv u); dsimp only [laD] at hh; obtain ⟨⟨u0, u1, u2, u3⟩, uq, uI⟩ := hh; have u4 := uI.n; have u5 := uI.cap; have u6 := uI.cN; have u7 := uI.mx; have ub := fz_lt (c := u.x.a.c) (sz := u.x.a.sz) (a := (lfA st u.x.i)) u.m
    have um : u.m = u.x.a.n := by omega
    obtain ⟨b, hb, hfz⟩ := fz_pos (by assumption : ¬ fz (bstI u.x.a.c u.x.a.sz (lfA st u.x.i) u.m) < 0)
    have hbn := hb; rw [um] at hbn; obtain ⟨q1, q2, q3, q4, q5⟩ := mt_best uI.mt hbn; obtain ⟨f1, f2, f3, f4⟩ := mt_first uI.mt q2 q4
    have hw : IntKind.i64.wrap ((b : Int) + 1) = ((b + 1 : Nat) : Int) := by rw [w64' (by omega) (by omega)]; rfl
    first | omega | (simp only [hfz, hw, Int.toNat_natCast, cutL, cutR] at *; first | omega | (split <;> omega))
  · have hh := (by assumption : (laD R st (z.x.i : Int)).inv u); dsimp only [laD] at hh; obtain ⟨⟨u0, u1, u2, u3⟩, uq, uI⟩ := hh; have u4 := uI.n; have u5 := uI.cap; have u6 := uI.cN; have u7 := uI.mx; have ub := fz_lt (c := u.x.a.c) (sz := u.x.a.sz) (a := (lfA st u.x.i)) u.m
    have um : u.m = u.x.a.n := by omega
    obtain ⟨b, hb, hfz⟩ := fz_pos (by assumption : ¬ fz (bstI u.x.a.c u.x.a.sz (lfA st u.x.i) u.m) < 0)
    have hbn := hb; rw [um] at hbn; obtain ⟨q1, q2, q3, q4, q5⟩ := mt_best uI.mt hbn; obtain ⟨f1, f2, f3, f4⟩ := mt_first uI.mt q2 q4
    have hw : IntKind.i64.wrap ((b : Int) + 1) = ((b + 1 : Nat) : Int) := by rw [w64' (by omega) (by omega)]; rfl
    first | omega | (simp only [hfz, hw, Int.toNat_natCast, cutL, cutR] at *; first | omega | (split <;> omega))
  · have hh := (by assumption : (laD R st (z.x.i : Int)).inv u); dsimp only [laD] at hh; obtain ⟨⟨u0, u1, u2, u3⟩, uq, uI⟩ := hh; have u4 := uI.n; have u5 := uI.cap; have u6 := uI.cN; have u7 := uI.mx; have ub := fz_lt (c := u.x.a.c) (sz := u.x.a.sz) (a := (lfA st u.x.i)) u.m
    have um : u.m = u.x.a.n := by omega
    obtain ⟨b, hb, hfz⟩ := fz_pos (by assumption : ¬ fz (bstI u.x.a.c u.x.a.sz (lfA st u.x.i) u.m) < 0)
    have hbn := hb; rw [um] at hbn; obtain ⟨q1, q2, q3, q4, q5⟩ := mt_best uI.mt hbn; obtain ⟨f1, f2, f3, f4⟩ := mt_first uI.mt q2 q4
    have hw : IntKind.i64.wrap ((b : Int) + 1) = ((b + 1 : Nat) : Int) := by rw [w64' (by omega) (by omega)]; rfl
    first | omega | (simp only [hfz, hw, Int.toNat_natCast, cutL, cutR] at *; first | omega | (split <;> omega))
  · have hh := (by assumption : (laD R st (z.x.i : Int)).inv u); dsimp only [laD] at hh; obtain ⟨⟨u0, u1, u2, u3⟩, uq, uI⟩ := hh; have u4 := uI.n; have u5 := uI.cap; have u6 := uI.cN; have u7 := uI.mx; have ub := fz_lt (c := u.x.a.c) (sz := u.x.a.sz) (a := (lfA st u.x.i)) u.m
    have um : u.m = u.x.a.n := by omega
    obtain ⟨b, hb, hfz⟩ := fz_pos (by assumption : ¬ fz (bstI u.x.a.c u.x.a.sz (lfA st u.x.i) u.m) < 0)
    have hbn := hb; rw [um] at hbn; obtain ⟨q1, q2, q3, q4, q5⟩ := mt_best uI.mt hbn; obtain ⟨f1, f2, f3, f4⟩ := mt_first uI.mt q2 q4
    have hw : IntKind.i64.wrap ((b : Int) + 1) = ((b + 1 : Nat) : Int) := by rw [w64' (by omega) (by omega)]; rfl
    first | omega | (simp only [hfz, hw, Int.toNat_natCast, cutL, cutR] at *; first | omega | (split <;> omega))
  · have hh := (by assumption : (laD R st (z.x.i : Int)).inv u); dsimp only [laD] at hh; obtain ⟨⟨u0, u1, u2, u3⟩, uq, uI⟩ := hh; have u4 := uI.n; have u5 := uI.cap; have u6 := uI.cN; have u7 := uI.mx; have ub := fz_lt (c := u.x.a.c) (sz := u.x.a.sz) (a := (lfA st u.x.i)) u.m
    have um : u.m = u.x.a.n := by omega
    obtain ⟨b, hb, hfz⟩ := fz_pos (by assumption : ¬ fz (bstI u.x.a.c u.x.a.sz (lfA st u.x.i) u.m) < 0)
    have hbn := hb; rw [um] at hbn; obtain ⟨q1, q2, q3, q4, q5⟩ := mt_best uI.mt hbn; obtain ⟨f1, f2, f3, f4⟩ := mt_first uI.mt q2 q4
    have hw : IntKind.i64.wrap ((b : Int) + 1) = ((b + 1 : Nat) : Int) := by rw [w64' (by omega) (by omega)]; rfl
    (conv => whnf)
    (conv => whnf); refine enter_mk (la := laJ R st (z.x.i : Int)) ⟨⟨u.x.i, popL u.x.l (pk u.x.l (lfA st u.x.i)), u.x.lost, ⟨_, _, _, _, _, _, _⟩⟩⟩ ?_ (by (repeat' (first | ((conv => whnf); first | refine ⟨?_, ?_⟩ | exact trivial | fail) | (dsimp only; done) | ((try dsimp only); first | with_reducible exact rfl | exact Nat.le_refl _ | with_reducible exact (fun _ _ => rfl)))); all_goals ((first | rfl | decide | (dsimp only; rw [w64' (by omega) (by omega)]; done) | (dsimp only; rw [w64' (by omega) (by omega)]; omega) | (dsimp only; omega))))
    refine ⟨⟨u0, u1, u2⟩, uI.del hbn _ ?_ (by assumption) (Nat.le_refl _) (by assumption) (fun r hr => ?_) (fun r hr hr2 => ?_)⟩
    · simp only [hfz, hw, Int.toNat_natCast, cutL, cutR]; omega
    · simp only [hfz, hw, Int.toNat_natCast, cutL, cutR, Nat.zero_add, Nat.not_lt_zero, if_false, hr, if_true, Nat.sub_zero, Nat.add_zero, and_self]
    · have hcap : ¬ u.x.a.cap = b + 1 := by omega
      simp only [hfz, hw, Int.toNat_natCast, cutL, cutR, Nat.zero_add, hcap, if_false]
      rw [if_neg (by omega), if_pos (by omega), if_neg (by omega), if_pos (by omega), if_neg (by omega), if_pos (by omega), if_neg (by omega), if_pos (by omega), show b + 1 + (r - b) = r + 1 by omega]
      exact ⟨rfl, rfl, rfl, rfl⟩
  · have hh := (by assumption : (laB R st (y.i : Int)).inv z); dsimp only [laB] at hh; obtain ⟨⟨z0, z1, z2, z3⟩, zI⟩ := hh; have z4 := zI.n; have z5 := zI.cap; have z6 := zI.cN; have z7 := zI.mx; have zf := ff_lt (c := z.x.a.c) (C := (st.c (0 + (z.x.i : Int).toNat))) z.m
    have zm : z.m = z.x.a.n := by omega
    have hh := mt_head zI.mt (st.c (0 + (z.x.i : Int).toNat)); rw [← zm] at hh
    have hbo : pkB (hdO z.x.l (st.c (0 + (z.x.i : Int).toNat))) = decide (0 ≤ fz (fstI z.x.a.c (st.c (0 + (z.x.i : Int).toNat)) z.m)) := by
      rcases hh with ⟨h1, h2⟩ | ⟨b, h1, h2, h3, h4⟩
      · rw [h1, h2, pkB_none, fz_none]; rfl
      · rw [h2, h3, pkB_some, fz_some]; exact (decide_eq_true (by omega)).symm
    exact absurd ((bo_eq hbo).symm.trans (by assumption)) Bool.false_ne_true
  · have hh := (by assumption : (laB R st (y.i : Int)).inv z); dsimp only [laB] at hh; obtain ⟨⟨z0, z1, z2, z3⟩, zI⟩ := hh; have z4 := zI.n; have z5 := zI.cap; have z6 := zI.cN; have z7 := zI.mx; have zf := ff_lt (c := z.x.a.c) (C := (st.c (0 + (z.x.i : Int).toNat))) z.m
    have zm : z.m = z.x.a.n := by omega
    have hh := mt_head zI.mt (st.c (0 + (z.x.i : Int).toNat)); rw [← zm] at hh
    have hbo : pkB (hdO z.x.l (st.c (0 + (z.x.i : Int).toNat))) = decide (0 ≤ fz (fstI z.x.a.c (st.c (0 + (z.x.i : Int).toNat)) z.m)) := by
      rcases hh with ⟨h1, h2⟩ | ⟨b, h1, h2, h3, h4⟩
      · rw [h1, h2, pkB_none, fz_none]; rfl
      · rw [h2, h3, pkB_some, fz_some]; exact (decide_eq_true (by omega)).symm
    have hso : 0 ≤ fz (fstI z.x.a.c (st.c (0 + (z.x.i : Int).toNat)) z.m) := of_decide_eq_true (hbo.symm.trans (by assumption : pkB (hdO z.x.l (st.c (0 + (z.x.i : Int).toNat))) = true))
    omega
  · have hh := (by assumption : (laB R st (y.i : Int)).inv z); dsimp only [laB] at hh; obtain ⟨⟨z0, z1, z2, z3⟩, zI⟩ := hh; have z4 := zI.n; have z5 := zI.cap; have z6 := zI.cN; have z7 := zI.mx; have zf := ff_lt (c := z.x.a.c) (C := (st.c (0 + (z.x.i : Int).toNat))) z.m
    have zm : z.m = z.x.a.n := by omega
    have hh := mt_head zI.mt (st.c (0 + (z.x.i : Int).toNat)); rw [← zm] at hh
    have hbo : pkB (hdO z.x.l (st.c (0 + (z.x.i : Int).toNat))) = decide (0 ≤ fz (fstI z.x.a.c (st.c (0 + (z.x.i : Int).toNat)) z.m)) := by
      rcases hh with ⟨h1, h2⟩ | ⟨b, h1, h2, h3, h4⟩
      · rw [h1, h2, pkB_none, fz_none]; rfl
      · rw [h2, h3, pkB_some, fz_some]; exact (decide_eq_true (by omega)).symm
    have hso : 0 ≤ fz (fstI z.x.a.c (st.c (0 + (z.x.i : Int).toNat)) z.m) := of_decide_eq_true (hbo.symm.trans (by assumption : pkB (hdO z.x.l (st.c (0 + (z.x.i : Int).toNat))) = true))
    omega
  · have hh := (by assumption : (laB R st (y.i : Int)).inv z); dsimp only [laB] at hh; obtain ⟨⟨z0, z1, z2, z3⟩, zI⟩ := hh; have z4 := zI.n; have z5 := zI.cap; have z6 := zI.cN; have z7 := zI.mx; have zf := ff_lt (c := z.x.a.c) (C := (st.c (0 + (z.x.i : Int).toNat))) z.m
    have zm : z.m = z.x.a.n := by omega
    have hh := mt_head zI.mt (st.c (0 + (z.x.i : Int).toNat)); rw [← zm] at hh
    have hbo : pkB (hdO z.x.l (st.c (0 + (z.x.i : Int).toNat))) = decide (0 ≤ fz (fstI z.x.a.c (st.c (0 + (z.x.i : Int).toNat)) z.m)) := by
      rcases hh with ⟨h1, h2⟩ | ⟨b, h1, h2, h3, h4⟩
      · rw [h1, h2, pkB_none, fz_none]; rfl
      · rw [h2, h3, pkB_some, fz_some]; exact (decide_eq_true (by omega)).symm
    have hso : 0 ≤ fz (fstI z.x.a.c (st.c (0 + (z.x.i : Int).toNat)) z.m) := of_decide_eq_true (hbo.symm.trans (by assumption : pkB (hdO z.x.l (st.c (0 + (z.x.i : Int).toNat))) = true))
    omega
  · have hh := (by assumption : (laB R st (y.i : Int)).inv z); dsimp only [laB] at hh; obtain ⟨⟨z0, z1, z2, z3⟩, zI⟩ := hh; have z4 := zI.n; have z5 := zI.cap; have z6 := zI.cN; have z7 := zI.mx; have zf := ff_lt (c := z.x.a.c) (C := (st.c (0 + (z.x.i : Int).toNat))) z.m
    have zm : z.m = z.x.a.n := by omega
    have hh := mt_head zI.mt (st.c (0 + (z.x.i : Int).toNat)); rw [← zm] at hh
    have hbo : pkB (hdO z.x.l (st.c (0 + (z.x.i : Int).toNat))) = decide (0 ≤ fz (fstI z.x.a.c (st.c (0 + (z.x.i : Int).toNat)) z.m)) := by
      rcases hh with ⟨h1, h2⟩ | ⟨b, h1, h2, h3, h4⟩
      · rw [h1, h2, pkB_none, fz_none]; rfl
      · rw [h2, h3, pkB_some, fz_some]; exact (decide_eq_true (by omega)).symm
    have hso : 0 ≤ fz (fstI z.x.a.c (st.c (0 + (z.x.i : Int).toNat)) z.m) := of_decide_eq_true (hbo.symm.trans (by assumption : pkB (hdO z.x.l (st.c (0 + (z.x.i : Int).toNat))) = true))
    omega
  · have hh := (by assumption : (laB R st (y.i : Int)).inv z); dsimp only [laB] at hh; obtain ⟨⟨z0, z1, z2, z3⟩, zI⟩ := hh; have z4 := zI.n; have z5 := zI.cap; have z6 := zI.cN; have z7 := zI.mx; have zf := ff_lt (c := z.x.a.c) (C := (st.c (0 + (z.x.i : Int).toNat))) z.m
    have zm : z.m = z.x.a.n := by omega
    have hh := mt_head zI.mt (st.c (0 + (z.x.i : Int).toNat)); rw [← zm] at hh
    have hbo : pkB (hdO z.x.l (st.c (0 + (z.x.i : Int).toNat))) = decide (0 ≤ fz (fstI z.x.a.c (st.c (0 + (z.x.i : Int).toNat)) z.m)) := by
      rcases hh with ⟨h1, h2⟩ | ⟨b, h1, h2, h3, h4⟩
      · rw [h1, h2, pkB_none, fz_none]; rfl
      · rw [h2, h3, pkB_some, fz_some]; exact (decide_eq_true (by omega)).symm
    have hso : 0 ≤ fz (fstI z.x.a.c (st.c (0 + (z.x.i : Int).toNat)) z.m) := of_decide_eq_true (hbo.symm.trans (by assumption : pkB (hdO z.x.l (st.c (0 + (z.x.i : Int).toNat))) = true))
    omega
  · exact eq31
  · have hh := (by assumption : (laB R st (y.i : Int)).inv z); dsimp only [laB] at hh; obtain ⟨⟨z0, z1, z2, z3⟩, zI⟩ := hh; have z4 := zI.n; have z5 := zI.cap; have z6 := zI.cN; have z7 := zI.mx; have zf := ff_lt (c := z.x.a.c) (C := (st.c (0 + (z.x.i : Int).toNat))) z.m
    have zm : z.m = z.x.a.n := by omega
    have hh := mt_head zI.mt (st.c (0 + (z.x.i : Int).toNat)); rw [← zm] at hh
    have hbo : pkB (hdO z.x.l (st.c (0 + (z.x.i : Int).toNat))) = decide (0 ≤ fz (fstI z.x.a.c (st.c (0 + (z.x.i : Int).toNat)) z.m)) := by
      rcases hh with ⟨h1, h2⟩ | ⟨b, h1, h2, h3, h4⟩
      · rw [h1, h2, pkB_none, fz_none]; rfl
      · rw [h2, h3, pkB_some, fz_some]; exact (decide_eq_true (by omega)).symm
    have hso : 0 ≤ fz (fstI z.x.a.c (st.c (0 + (z.x.i : Int).toNat)) z.m) := of_decide_eq_true (hbo.symm.trans (by assumption : pkB (hdO z.x.l (st.c (0 + (z.x.i : Int).toNat))) = true))
    have e2 : pkI z.x.l (hdO z.x.l (st.c (0 + (z.x.i : Int).toNat))) = ⟨z.x.a.id (0 + (fz (fstI z.x.a.c (st.c (0 + (z.x.i : Int).toNat)) z.m)).toNat), z.x.a.sz (0 + (fz (fstI z.x.a.c (st.c (0 + (z.x.i : Int).toNat)) z.m)).toNat), z.x.a.dr (0 + (fz (fstI z.x.a.c (st.c (0 + (z.x.i : Int).toNat)) z.m)).toNat)⟩ := by
      rcases hh with ⟨h1, h2⟩ | ⟨b, h1, h2, h3, h4⟩
      · rw [h1, fz_none] at hso; omega
      · rw [h2, h3, fz_some, at_n b]; exact h4
    exact absurd ((it_eq e2).symm.trans (by assumption)) Bool.false_ne_true
  · exact eq31
  · have hh := (by assumption : (laB R st (y.i : Int)).inv z); dsimp only [laB] at hh; obtain ⟨⟨z0, z1, z2, z3⟩, zI⟩ := hh; have z4 := zI.n; have z5 := zI.cap; have z6 := zI.cN; have z7 := zI.mx; have zf := ff_lt (c := z.x.a.c) (C := (st.c (0 + (z.x.i : Int).toNat))) z.m
    have zm : z.m = z.x.a.n := by omega
    have hh := mt_head zI.mt (st.c (0 + (z.x.i : Int).toNat)); rw [← zm] at hh
    have e2 : pkI z.x.l (hdO z.x.l (st.c (0 + (z.x.i : Int).toNat))) = ⟨0, 0, false⟩ := by
      rcases hh with ⟨h1, h2⟩ | ⟨b, h1, h2, h3, h4⟩
      · rw [h2]; exact pkI_none _
      · exfalso; have h5 := (by assumption : (!pkB (hdO z.x.l (st.c (0 + (z.x.i : Int).toNat)))) = true); rw [h3, pkB_some] at h5; exact Bool.false_ne_true h5
    exact absurd ((it_eq e2).symm.trans (by assumption)) Bool.false_ne_true
  · have hh := (by assumption : (laB R st (y.i : Int)).inv z); dsimp only [laB] at hh; obtain ⟨⟨z0, z1, z2, z3⟩, zI⟩ := hh; have z4 := zI.n; have z5 := zI.cap; have z6 := zI.cN; have z7 := zI.mx; have zf := ff_lt (c := z.x.a.c) (C := (st.c (0 + (z.x.i : Int).toNat))) z.m
    (conv => whnf)
    (conv => whnf); refine enter_mk (la := laJ R st (z.x.i : Int)) ⟨⟨z.x.i, z.x.l, z.x.lost, z.x.a⟩⟩ ?_ (by (repeat' (first | ((conv => whnf); first | refine ⟨?_, ?_⟩ | exact trivial | fail) | (dsimp only; done) | ((try dsimp only); first | with_reducible exact rfl | exact Nat.le_refl _ | with_reducible exact (fun _ _ => rfl)))); all_goals ((first | rfl | decide | (dsimp only; rw [w64' (by omega) (by omega)]; done) | (dsimp only; rw [w64' (by omega) (by omega)]; omega) | (dsimp only; omega))))
    exact ⟨⟨rfl, z1, z2⟩, zI.step _ _ (Nat.le_succ _)⟩
  · have hh := (by assumption : (laB R st (y.i : Int)).inv z); dsimp only [laB] at hh; obtain ⟨⟨z0, z1, z2, z3⟩, zI⟩ := hh; have z4 := zI.n; have z5 := zI.cap; have z6 := zI.cN; have z7 := zI.mx; have zf := ff_lt (c := z.x.a.c) (C := (st.c (0 + (z.x.i : Int).toNat))) z.m
    (conv => whnf)
    (conv => whnf); refine enter_mk (la := laJ R st (z.x.i : Int)) ⟨⟨z.x.i, z.x.l, z.x.lost, z.x.a⟩⟩ ?_ (by (repeat' (first | ((conv => whnf); first | refine ⟨?_, ?_⟩ | exact trivial | fail) | (dsimp only; done) | ((try dsimp only); first | with_reducible exact rfl | exact Nat.le_refl _ | with_reducible exact (fun _ _ => rfl)))); all_goals ((first | rfl | decide | (dsimp only; rw [w64' (by omega) (by omega)]; done) | (dsimp only; rw [w64' (by omega) (by omega)]; omega) | (dsimp only; omega))))
    exact ⟨⟨rfl, z1, z2⟩, zI.step _ _ (Nat.le_succ _)⟩
  · exact eq31
  · have hh := (by assumption : (laB R st (y.i : Int)).inv z); dsimp only [laB] at hh; obtain ⟨⟨z0, z1, z2, z3⟩, zI⟩ := hh; have z4 := zI.n; have z5 := zI.cap; have z6 := zI.cN; have z7 := zI.mx; have zf := ff_lt (c := z.x.a.c) (C := (st.c (0 + (z.x.i : Int).toNat))) z.m
    have zm : z.m = z.x.a.n := by omega
    have hh := mt_head zI.mt (st.c (0 + (z.x.i : Int).toNat)); rw [← zm] at hh
    have e2 : pkI z.x.l (hdO z.x.l (st.c (0 + (z.x.i : Int).toNat))) = ⟨0, 0, false⟩ := by
      rcases hh with ⟨h1, h2⟩ | ⟨b, h1, h2, h3, h4⟩
      · rw [h2]; exact pkI_none _
      · exfalso; have h5 := (by assumption : (!pkB (hdO z.x.l (st.c (0 + (z.x.i : Int).toNat)))) = true); rw [h3, pkB_some] at h5; exact Bool.false_ne_true h5
    exact absurd ((it_eq e2).symm.trans (by assumption)) Bool.false_ne_true
  · have hh := (by assumption : (laB R st (y.i : Int)).inv z); dsimp only [laB] at hh; obtain ⟨⟨z0, z1, z2, z3⟩, zI⟩ := hh; have z4 := zI.n; have z5 := zI.cap; have z6 := zI.cN; have z7 := zI.mx; have zf := ff_lt (c := z.x.a.c) (C := (st.c (0 + (z.x.i : Int).toNat))) z.m
    (conv => whnf)
    (conv => whnf); refine enter_mk (la := laJ R st (z.x.i : Int)) ⟨⟨z.x.i, z.x.l, z.x.lost, z.x.a⟩⟩ ?_ (by (repeat' (first | ((conv => whnf); first | refine ⟨?_, ?_⟩ | exact trivial | fail) | (dsimp only; done) | ((try dsimp only); first | with_reducible exact rfl | exact Nat.le_refl _ | with_reducible exact (fun _ _ => rfl)))); all_goals ((first | rfl | decide | (dsimp only; rw [w64' (by omega) (by omega)]; done) | (dsimp only; rw [w64' (by omega) (by omega)]; omega) | (dsimp only; omega))))
    exact ⟨⟨rfl, z1, z2⟩, zI.step _ _ (Nat.le_succ _)⟩
  · have hh := (by assumption : (laB R st (y.i : Int)).inv z); dsimp only [laB] at hh; obtain ⟨⟨z0, z1, z2, z3⟩, zI⟩ := hh; have z4 := zI.n; have z5 := zI.cap; have z6 := zI.cN; have z7 := zI.mx; have zf := ff_lt (c := z.x.a.c) (C := (st.c (0 + (z.x.i : Int).toNat))) z.m
    (conv => whnf)
    (conv => whnf); refine enter_mk (la := laJ R st (z.x.i : Int)) ⟨⟨z.x.i, z.x.l, z.x.lost, z.x.a⟩⟩ ?_ (by (repeat' (first | ((conv => whnf); first | refine ⟨?_, ?_⟩ | exact trivial | fail) | (dsimp only; done) | ((try dsimp only); first | with_reducible exact rfl | exact Nat.le_refl _ | with_reducible exact (fun _ _ => rfl)))); all_goals ((first | rfl | decide | (dsimp only; rw [w64' (by omega) (by omega)]; done) | (dsimp only; rw [w64' (by omega) (by omega)]; omega) | (dsimp only; omega))))
    exact ⟨⟨rfl, z1, z2⟩, zI.step _ _ (Nat.le_succ _)⟩
  · have hh := (by assumption : (laB R st (y.i : Int)).inv z); dsimp only [laB] at hh; obtain ⟨⟨z0, z1, z2, z3⟩, zI⟩ := hh; have z4 := zI.n; have z5 := zI.cap; have z6 := zI.cN; have z7 := zI.mx; have zf := ff_lt (c := z.x.a.c) (C := (st.c (0 + (z.x.i : Int).toNat))) z.m
    exact ((by assumption : ¬ sumN z.x.l 8 = (z.x.a.n : Int)) zI.sum).elim
  · have hh := (by assumption : (laB R st (y.i : Int)).inv z); dsimp only [laB] at hh; obtain ⟨⟨z0, z1, z2, z3⟩, zI⟩ := hh; have z4 := zI.n; have z5 := zI.cap; have z6 := zI.cN; have z7 := zI.mx; have zf := ff_lt (c := z.x.a.c) (C := (st.c (0 + (z.x.i : Int).toNat))) z.m
    (conv => whnf)
    (conv => whnf); refine enter_mk (la := laJ R st (z.x.i : Int)) ⟨⟨z.x.i, clrL z.x.l, z.x.lost, ⟨0, _, _, _, _, _, _⟩⟩⟩ ?_ (by (repeat' (first | ((conv => whnf); first | refine ⟨?_, ?_⟩ | exact trivial | fail) | (dsimp only; done) | ((try dsimp only); first | with_reducible exact rfl | exact Nat.le_refl _ | with_reducible exact (fun _ _ => rfl)))); all_goals ((first | rfl | decide | (dsimp only; rw [w64' (by omega) (by omega)]; done) | (dsimp only; rw [w64' (by omega) (by omega)]; omega) | (dsimp only; omega))))
    exact ⟨⟨rfl, z1, z2⟩, zI.clr _ rfl (Nat.zero_le _) (by first | exact Nat.le_refl _ | exact Nat.zero_le _) (by decide)⟩
  · have hh := (by assumption : (laB R st (y.i : Int)).inv z); dsimp only [laB] at hh; obtain ⟨⟨z0, z1, z2, z3⟩, zI⟩ := hh; have z4 := zI.n; have z5 := zI.cap; have z6 := zI.cN; have z7 := zI.mx; have zf := ff_lt (c := z.x.a.c) (C := (st.c (0 + (z.x.i : Int).toNat))) z.m
    (conv => whnf)
    (conv => whnf); refine enter_mk (la := laJ R st (z.x.i : Int)) ⟨⟨z.x.i, z.x.l, z.x.lost, z.x.a⟩⟩ ?_ (by (repeat' (first | ((conv => whnf); first | refine ⟨?_, ?_⟩ | exact trivial | fail) | (dsimp only; done) | ((try dsimp only); first | with_reducible exact rfl | exact Nat.le_refl _ | with_reducible exact (fun _ _ => rfl)))); all_goals ((first | rfl | decide | (dsimp only; rw [w64' (by omega) (by omega)]; done) | (dsimp only; rw [w64' (by omega) (by omega)]; omega) | (dsimp only; omega))))
    exact ⟨⟨rfl, z1, z2⟩, zI.step _ _ (Nat.le_succ _)⟩
  · have hh := (by assumption : (laJ R st (z.x.i : Int)).inv w); dsimp only [laJ] at hh; obtain ⟨⟨w4, w5, w6⟩, wI⟩ := hh
    (conv => whnf); refine enter_mk (la := laC R st (w.x.i : Int)) ⟨0, w.x⟩ ?_ (by (repeat' (first | ((conv => whnf); first | refine ⟨?_, ?_⟩ | exact trivial | fail) | (dsimp only; done) | ((try dsimp only); first | with_reducible exact rfl | exact Nat.le_refl _ | with_reducible exact (fun _ _ => rfl)))); all_goals ((first | exact sumC_0 _ | rfl | decide | (dsimp only; rw [w64' (by omega) (by omega)]; done) | (dsimp only; rw [w64' (by omega) (by omega)]; omega) | (dsimp only; omega))))
    exact ⟨⟨rfl, w5, w6, Nat.zero_le _⟩, wI⟩
  · omega
  · omega
  · omega
  · omega
  · have hh := (by assumption : (laC R st (w.x.i : Int)).inv s); dsimp only [laC] at hh; obtain ⟨⟨s0, s1, s2, s3⟩, sI⟩ := hh
    have hl : lostV s.x.l ((s.m : Int) - 1) = s.x.lost ((s.m : Int) - 1).toNat := by (unfold lostV; rw [if_neg (by omega)]; exact sI.lost _ (by omega))
    exact absurd hl (by assumption)
  · omega
  · omega
  · omega
  · omega
  · have hh := (by assumption : (laC R st (w.x.i : Int)).inv s); dsimp only [laC] at hh; obtain ⟨⟨s0, s1, s2, s3⟩, sI⟩ := hh
    have hl : lenV s.x.l ((s.m : Int) - 1) ≤ R.f ((s.m : Int) - 1).toNat := by (unfold lenV; rw [if_neg (by omega)]; exact sI.le _ (by omega))
    exact absurd hl (Int.not_le.2 (by assumption))
  · have hh := (by assumption : (laC R st (w.x.i : Int)).inv s); dsimp only [laC] at hh; obtain ⟨⟨s0, s1, s2, s3⟩, sI⟩ := hh
    have h7 := sumC_s (l := s.x.l) (m := s.m) (by omega); have h8 := sumC_in sI (m := s.m) (by omega); have h9 := sumC_in sI (m := s.m + 1) (by omega)
    (conv => whnf)
    (conv => whnf); refine enter_mk (la := laC R st (w.x.i : Int)) ⟨s.m + 1, s.x⟩ ?_ (by (repeat' (first | ((conv => whnf); first | refine ⟨?_, ?_⟩ | exact trivial | fail) | (dsimp only; done) | ((try dsimp only); first | with_reducible exact rfl | exact Nat.le_refl _ | with_reducible exact (fun _ _ => rfl)))); all_goals ((first | (show 10 - (s.m + 1) < 10 - s.m; omega) | (show sumC s.x.l (s.m + 1) = IntKind.i64.wrap (sumC s.x.l s.m + lenV s.x.l ((s.m : Int) - 1)); rw [← h7, w64' (by omega) (by omega)]; done) | rfl | decide | (dsimp only; rw [w64' (by omega) (by omega)]; done) | (dsimp only; rw [w64' (by omega) (by omega)]; omega) | (dsimp only; omega))))
    exact ⟨⟨s0, s1, s2, by show s.m + 1 ≤ 10; omega⟩, sI⟩
  · have hh := (by assumption : (laC R st (w.x.i : Int)).inv s); dsimp only [laC] at hh; obtain ⟨⟨s0, s1, s2, s3⟩, sI⟩ := hh
    have h7 := sumC_s (l := s.x.l) (m := s.m) (by omega); have h8 := sumC_in sI (m := s.m) (by omega); have h9 := sumC_in sI (m := s.m + 1) (by omega)
    (conv => whnf)
    (conv => whnf); refine enter_mk (la := laC R st (w.x.i : Int)) ⟨s.m + 1, s.x⟩ ?_ (by (repeat' (first | ((conv => whnf); first | refine ⟨?_, ?_⟩ | exact trivial | fail) | (dsimp only; done) | ((try dsimp only); first | with_reducible exact rfl | exact Nat.le_refl _ | with_reducible exact (fun _ _ => rfl)))); all_goals ((first | (show 10 - (s.m + 1) < 10 - s.m; omega) | (show sumC s.x.l (s.m + 1) = IntKind.i64.wrap (sumC s.x.l s.m + lenV s.x.l ((s.m : Int) - 1)); rw [← h7, w64' (by omega) (by omega)]; done) | rfl | decide | (dsimp only; rw [w64' (by omega) (by omega)]; done) | (dsimp only; rw [w64' (by omega) (by omega)]; omega) | (dsimp only; omega))))
    exact ⟨⟨s0, s1, s2, by show s.m + 1 ≤ 10; omega⟩, sI⟩
  · have hh := (by assumption : (laC R st (w.x.i : Int)).inv s); dsimp only [laC] at hh; obtain ⟨⟨s0, s1, s2, s3⟩, sI⟩ := hh
    have h7 := sumC_s (l := s.x.l) (m := s.m) (by omega); have h8 := sumC_in sI (m := s.m) (by omega); have h9 := sumC_in sI (m := s.m + 1) (by omega)
    (conv => whnf)
    (conv => whnf); refine enter_mk (la := laC R st (w.x.i : Int)) ⟨s.m + 1, s.x⟩ ?_ (by (repeat' (first | ((conv => whnf); first | refine ⟨?_, ?_⟩ | exact trivial | fail) | (dsimp only; done) | ((try dsimp only); first | with_reducible exact rfl | exact Nat.le_refl _ | with_reducible exact (fun _ _ => rfl)))); all_goals ((first | (show 10 - (s.m + 1) < 10 - s.m; omega) | (show sumC s.x.l (s.m + 1) = IntKind.i64.wrap (sumC s.x.l s.m + lenV s.x.l ((s.m : Int) - 1)); rw [← h7, w64' (by omega) (by omega)]; done) | rfl | decide | (dsimp only; rw [w64' (by omega) (by omega)]; done) | (dsimp only; rw [w64' (by omega) (by omega)]; omega) | (dsimp only; omega))))
    exact ⟨⟨s0, s1, s2, by show s.m + 1 ≤ 10; omega⟩, sI⟩
  · have hh := (by assumption : (laC R st (w.x.i : Int)).inv s); dsimp only [laC] at hh; obtain ⟨⟨s0, s1, s2, s3⟩, sI⟩ := hh
    have s10 : s.m = 10 := by omega
    exact ((by assumption : ¬ sumC s.x.l s.m = (s.x.a.n : Int)) (by rw [s10, sumC_10]; exact sI.sum)).elim
  · have hh := (by assumption : (laB R st (y.i : Int)).inv z); dsimp only [laB] at hh; obtain ⟨⟨z0, z1, z2, z3⟩, zI⟩ := hh; have z4 := zI.n; have z5 := zI.cap; have z6 := zI.cN; have z7 := zI.mx; have zf := ff_lt (c := z.x.a.c) (C := (st.c (0 + (z.x.i : Int).toNat))) z.m
    have hh := (by assumption : (laJ R st (z.x.i : Int)).inv w); dsimp only [laJ] at hh; obtain ⟨⟨w4, w5, w6⟩, wI⟩ := hh
    have hh := (by assumption : (laC R st (w.x.i : Int)).inv s); dsimp only [laC] at hh; obtain ⟨⟨s0, s1, s2, s3⟩, sI⟩ := hh
    have hh := (by assumption : (laA R st).inv y); dsimp only [laA] at hh; obtain ⟨⟨y1, y2⟩, yI⟩ := hh
    (conv => whnf)
    (conv => whnf); refine enter_mk (la := laA R st) ⟨s.x.i + 1, s.x.l, s.x.lost, s.x.a⟩ ?_ (by (repeat' (first | ((conv => whnf); first | refine ⟨?_, ?_⟩ | exact trivial | fail) | (dsimp only; done) | ((try dsimp only); first | with_reducible exact rfl | exact Nat.le_refl _ | with_reducible exact (fun _ _ => rfl)))); all_goals ((first | (show 100 - (s.x.i + 1) < 100 - y.i; omega) | rfl | decide | (dsimp only; rw [w64' (by omega) (by omega)]; done) | (dsimp only; rw [w64' (by omega) (by omega)]; omega) | (dsimp only; omega))))
    exact ⟨⟨by show s.x.i + 1 ≤ st.len; omega, by show s.x.i + 1 ≤ 100; omega⟩, sI.step _ _ (Nat.le_refl _)⟩
  · (conv => whnf); refine enter_mk (la := laB9 R st) N9.m0 ?_ (by (repeat' (first | ((conv => whnf); first | refine ⟨?_, ?_⟩ | exact trivial | fail) | (dsimp only; done) | ((try dsimp only); first | with_reducible exact rfl | exact Nat.le_refl _ | with_reducible exact (fun _ _ => rfl)))); all_goals ((first | rfl | decide)))
    exact ⟨by assumption, ok_zero R⟩
  · decide
  · decide
  · (conv => whnf)
    (conv => whnf); refine enter_mk (la := laE st) () ?_ (by (repeat' (first | ((conv => whnf); first | refine ⟨?_, ?_⟩ | exact trivial | fail) | (dsimp only; done) | ((try dsimp only); first | with_reducible exact rfl | exact Nat.le_refl _ | with_reducible exact (fun _ _ => rfl)))); all_goals ((first | rfl | decide)))
    exact trivial
  · exact (decide_eq_true rfl).symm
  · (conv => whnf)
    (conv => whnf); refine enter_mk (la := laE st) () ?_ (by (repeat' (first | ((conv => whnf); first | refine ⟨?_, ?_⟩ | exact trivial | fail) | (dsimp only; done) | ((try dsimp only); first | with_reducible exact rfl | exact Nat.le_refl _ | with_reducible exact (fun _ _ => rfl)))); all_goals ((first | rfl | decide)))
    exact trivial
  · exact (decide_eq_true rfl).symm
  · have hh := (by assumption : (laB9 R st).inv N9.m0); dsimp only [laB9] at hh; obtain ⟨t1, t2⟩ := hh
    (conv => whnf)
    (conv => whnf); refine enter_mk (la := laB9 R st) N9.m1 ?_ (by (repeat' (first | ((conv => whnf); first | refine ⟨?_, ?_⟩ | exact trivial | fail) | (dsimp only; done) | ((try dsimp only); first | with_reducible exact rfl | exact Nat.le_refl _ | with_reducible exact (fun _ _ => rfl)))); all_goals ((first | rfl | decide)))
    exact ⟨t1, ok_next (k := 0) t2 (by assumption) (by assumption)⟩
  · decide
  · decide
  · (conv => whnf)
    (conv => whnf); refine enter_mk (la := laE st) () ?_ (by (repeat' (first | ((conv => whnf); first | refine ⟨?_, ?_⟩ | exact trivial | fail) | (dsimp only; done) | ((try dsimp only); first | with_reducible exact rfl | exact Nat.le_refl _ | with_reducible exact (fun _ _ => rfl)))); all_goals ((first | rfl | decide)))
    exact trivial
  · exact (decide_eq_true rfl).symm
  · (conv => whnf)
    (conv => whnf); refine enter_mk (la := laE st) () ?_ (by (repeat' (first | ((conv => whnf); first | refine ⟨?_, ?_⟩ | exact trivial | fail) | (dsimp only; done) | ((try dsimp only); first | with_reducible exact rfl | exact Nat.le_refl _ | with_reducible exact (fun _ _ => rfl)))); all_goals ((first | rfl | decide)))
    exact trivial
  · exact (decide_eq_true rfl).symm
  · have hh := (by assumption : (laB9 R st).inv N9.m1); dsimp only [laB9] at hh; obtain ⟨t1, t2⟩ := hh
    (conv => whnf)
    (conv => whnf); refine enter_mk (la := laB9 R st) N9.m2 ?_ (by (repeat' (first | ((conv => whnf); first | refine ⟨?_, ?_⟩ | exact trivial | fail) | (dsimp only; done) | ((try dsimp only); first | with_reducible exact rfl | exact Nat.le_refl _ | with_reducible exact (fun _ _ => rfl)))); all_goals ((first | rfl | decide)))
    exact ⟨t1, ok_next (k := 1) t2 (by assumption) (by assumption)⟩
  · decide
  · decide
  · (conv => whnf)
    (conv => whnf); refine enter_mk (la := laE st) () ?_ (by (repeat' (first | ((conv => whnf); first | refine ⟨?_, ?_⟩ | exact trivial | fail) | (dsimp only; done) | ((try dsimp only); first | with_reducible exact rfl | exact Nat.le_refl _ | with_reducible exact (fun _ _ => rfl)))); all_goals ((first | rfl | decide)))
    exact trivial
  · exact (decide_eq_true rfl).symm
  · (conv => whnf)
    (conv => whnf); refine enter_mk (la := laE st) () ?_ (by (repeat' (first | ((conv => whnf); first | refine ⟨?_, ?_⟩ | exact trivial | fail) | (dsimp only; done) | ((try dsimp only); first | with_reducible exact rfl | exact Nat.le_refl _ | with_reducible exact (fun _ _ => rfl)))); all_goals ((first | rfl | decide)))
    exact trivial
  · exact (decide_eq_true rfl).symm
  · have hh := (by assumption : (laB9 R st).inv N9.m2); dsimp only [laB9] at hh; obtain ⟨t1, t2⟩ := hh
    (conv => whnf)
    (conv => whnf); refine enter_mk (la := laB9 R st) N9.m3 ?_ (by (repeat' (first | ((conv => whnf); first | refine ⟨?_, ?_⟩ | exact trivial | fail) | (dsimp only; done) | ((try dsimp only); first | with_reducible exact rfl | exact Nat.le_refl _ | with_reducible exact (fun _ _ => rfl)))); all_goals ((first | rfl | decide)))
    exact ⟨t1, ok_next (k := 2) t2 (by assumption) (by assumption)⟩
  · decide
  · decide
  · (conv => whnf)
    (conv => whnf); refine enter_mk (la := laE st) () ?_ (by (repeat' (first | ((conv => whnf); first | refine ⟨?_, ?_⟩ | exact trivial | fail) | (dsimp only; done) | ((try dsimp only); first | with_reducible exact rfl | exact Nat.le_refl _ | with_reducible exact (fun _ _ => rfl)))); all_goals ((first | rfl | decide)))
    exact trivial
  · exact (decide_eq_true rfl).symm
  · (conv => whnf)
    (conv => whnf); refine enter_mk (la := laE st) () ?_ (by (repeat' (first | ((conv => whnf); first | refine ⟨?_, ?_⟩ | exact trivial | fail) | (dsimp only; done) | ((try dsimp only); first | with_reducible exact rfl | exact Nat.le_refl _ | with_reducible exact (fun _ _ => rfl)))); all_goals ((first | rfl | decide)))
    exact trivial
  · exact (decide_eq_true rfl).symm
  · have hh := (by assumption : (laB9 R st).inv N9.m3); dsimp only [laB9] at hh; obtain ⟨t1, t2⟩ := hh
    (conv => whnf)
    (conv => whnf); refine enter_mk (la := laB9 R st) N9.m4 ?_ (by (repeat' (first | ((conv => whnf); first | refine ⟨?_, ?_⟩ | exact trivial | fail) | (dsimp only; done) | ((try dsimp only); first | with_reducible exact rfl | exact Nat.le_refl _ | with_reducible exact (fun _ _ => rfl)))); all_goals ((first | rfl | decide)))
    exact ⟨t1, ok_next (k := 3) t2 (by assumption) (by assumption)⟩
  · decide
  · decide
  · (conv => whnf)
    (conv => whnf); refine enter_mk (la := laE st) () ?_ (by (repeat' (first | ((conv => whnf); first | refine ⟨?_, ?_⟩ | exact trivial | fail) | (dsimp only; done) | ((try dsimp only); first | with_reducible exact rfl | exact Nat.le_refl _ | with_reducible exact (fun _ _ => rfl)))); all_goals ((first | rfl | decide)))
    exact trivial
  · exact (decide_eq_true rfl).symm
  · (conv => whnf)
    (conv => whnf); refine enter_mk (la := laE st) () ?_ (by (repeat' (first | ((conv => whnf); first | refine ⟨?_, ?_⟩ | exact trivial | fail) | (dsimp only; done) | ((try dsimp only); first | with_reducible exact rfl | exact Nat.le_refl _ | with_reducible exact (fun _ _ => rfl)))); all_goals ((first | rfl | decide)))
    exact trivial
  · exact (decide_eq_true rfl).symm
  · have hh := (by assumption : (laB9 R st).inv N9.m4); dsimp only [laB9] at hh; obtain ⟨t1, t2⟩ := hh
    (conv => whnf)
    (conv => whnf); refine enter_mk (la := laB9 R st) N9.m5 ?_ (by (repeat' (first | ((conv => whnf); first | refine ⟨?_, ?_⟩ | exact trivial | fail) | (dsimp only; done) | ((try dsimp only); first | with_reducible exact rfl | exact Nat.le_refl _ | with_reducible exact (fun _ _ => rfl)))); all_goals ((first | rfl | decide)))
    exact ⟨t1, ok_next (k := 4) t2 (by assumption) (by assumption)⟩
  · decide
  · decide
  · (conv => whnf)
    (conv => whnf); refine enter_mk (la := laE st) () ?_ (by (repeat' (first | ((conv => whnf); first | refine ⟨?_, ?_⟩ | exact trivial | fail) | (dsimp only; done) | ((try dsimp only); first | with_reducible exact rfl | exact Nat.le_refl _ | with_reducible exact (fun _ _ => rfl)))); all_goals ((first | rfl | decide)))
    exact trivial
  · exact (decide_eq_true rfl).symm
  · (conv => whnf)
    (conv => whnf); refine enter_mk (la := laE st) () ?_ (by (repeat' (first | ((conv => whnf); first | refine ⟨?_, ?_⟩ | exact trivial | fail) | (dsimp only; done) | ((try dsimp only); first | with_reducible exact rfl | exact Nat.le_refl _ | with_reducible exact (fun _ _ => rfl)))); all_goals ((first | rfl | decide)))
    exact trivial
  · exact (decide_eq_true rfl).symm
  · have hh := (by assumption : (laB9 R st).inv N9.m5); dsimp only [laB9] at hh; obtain ⟨t1, t2⟩ := hh
    (conv => whnf)
    (conv => whnf); refine enter_mk (la := laB9 R st) N9.m6 ?_ (by (repeat' (first | ((conv => whnf); first | refine ⟨?_, ?_⟩ | exact trivial | fail) | (dsimp only; done) | ((try dsimp only); first | with_reducible exact rfl | exact Nat.le_refl _ | with_reducible exact (fun _ _ => rfl)))); all_goals ((first | rfl | decide)))
    exact ⟨t1, ok_next (k := 5) t2 (by assumption) (by assumption)⟩
  · decide
  · decide
  · (conv => whnf)
    (conv => whnf); refine enter_mk (la := laE st) () ?_ (by (repeat' (first | ((conv => whnf); first | refine ⟨?_, ?_⟩ | exact trivial | fail) | (dsimp only; done) | ((try dsimp only); first | with_reducible exact rfl | exact Nat.le_refl _ | with_reducible exact (fun _ _ => rfl)))); all_goals ((first | rfl | decide)))
    exact trivial
  · exact (decide_eq_true rfl).symm
  · (conv => whnf)
    (conv => whnf); refine enter_mk (la := laE st) () ?_ (by (repeat' (first | ((conv => whnf); first | refine ⟨?_, ?_⟩ | exact trivial | fail) | (dsimp only; done) | ((try dsimp only); first | with_reducible exact rfl | exact Nat.le_refl _ | with_reducible exact (fun _ _ => rfl)))); all_goals ((first | rfl | decide)))
    exact trivial
  · exact (decide_eq_true rfl).symm
  · have hh := (by assumption : (laB9 R st).inv N9.m6); dsimp only [laB9] at hh; obtain ⟨t1, t2⟩ := hh
    (conv => whnf)
    (conv => whnf); refine enter_mk (la := laB9 R st) N9.m7 ?_ (by (repeat' (first | ((conv => whnf); first | refine ⟨?_, ?_⟩ | exact trivial | fail) | (dsimp only; done) | ((try dsimp only); first | with_reducible exact rfl | exact Nat.le_refl _ | with_reducible exact (fun _ _ => rfl)))); all_goals ((first | rfl | decide)))
    exact ⟨t1, ok_next (k := 6) t2 (by assumption) (by assumption)⟩
  · decide
  · decide
  · (conv => whnf)
    (conv => whnf); refine enter_mk (la := laE st) () ?_ (by (repeat' (first | ((conv => whnf); first | refine ⟨?_, ?_⟩ | exact trivial | fail) | (dsimp only; done) | ((try dsimp only); first | with_reducible exact rfl | exact Nat.le_refl _ | with_reducible exact (fun _ _ => rfl)))); all_goals ((first | rfl | decide)))
    exact trivial
  · exact (decide_eq_true rfl).symm
  · (conv => whnf)
    (conv => whnf); refine enter_mk (la := laE st) () ?_ (by (repeat' (first | ((conv => whnf); first | refine ⟨?_, ?_⟩ | exact trivial | fail) | (dsimp only; done) | ((try dsimp only); first | with_reducible exact rfl | exact Nat.le_refl _ | with_reducible exact (fun _ _ => rfl)))); all_goals ((first | rfl | decide)))
    exact trivial
  · exact (decide_eq_true rfl).symm
  · have hh := (by assumption : (laB9 R st).inv N9.m7); dsimp only [laB9] at hh; obtain ⟨t1, t2⟩ := hh
    (conv => whnf)
    (conv => whnf); refine enter_mk (la := laB9 R st) N9.m8 ?_ (by (repeat' (first | ((conv => whnf); first | refine ⟨?_, ?_⟩ | exact trivial | fail) | (dsimp only; done) | ((try dsimp only); first | with_reducible exact rfl | exact Nat.le_refl _ | with_reducible exact (fun _ _ => rfl)))); all_goals ((first | rfl | decide)))
    exact ⟨t1, ok_next (k := 7) t2 (by assumption) (by assumption)⟩
  · have hh := (by assumption : (laB9 R st).inv N9.m8)
    dsimp only [laB9] at hh
    exact absurd (ok_8 hh.2) hh.1

theorem own : ownKnob Try.prog.godebug = none := by kernel_rfl

set_option maxRecDepth 100000 in
theorem lifted (os : Os) (started : os.Started) (H : Type) (enc : TypeId × Value → H) :
    ReturnsInHanded {} Try.checked os 6 .any (Rows.lanesRunsSpec.pre6 enc Try.prog Try.f6 Rows.lanesRunsRow.domain false) (Rows.lanesRunsSpec.post enc Try.prog Try.f6 false true false false) := by
  refine returnsInHanded_of_change (C := Try.checked) own started (by kernel_rfl) Try.func6
    (ChangeSpec.witness6 (enc := enc) (C := Try.checked) false ⟨#[], #[.agg #[.int .i64 0, .int .i64 0, .int .i64 0, .int .i64 0, .int .i64 0, .int .i64 0, .int .i64 0, .int .i64 0], .slice none 0 0], []⟩ 8 (by kernel_rfl) (by kernel_rfl) (by kernel_rfl) (by kernel_rfl)) ?_
  intro W base args ds gs before hval0 hW hcnd _
  have hval : ∀ (j : Nat) t v, Try.f6.params[j]? = some t → args[j]? = some v → Value.okWide Try.prog W .any base t v := hval0
  have hW' := hW
  obtain ⟨p, q, hA0, hV, rfl, hfz, hnd⟩ := hW
  have hA : DataW.TrodAll enc Try.prog W 0 (fun _ => true) true Try.f6.params.toList args.toList ds p := hA0
  rw [Try.params6] at hA hval
  obtain ⟨v0, vs0, d0, ds0, p0, q0, hargs0, rfl, rfl, h0, r0⟩ := trodAll_cons hA
  obtain ⟨v1, vs1, d1, ds1, p1, q1, hargs1, rfl, rfl, h1, r1⟩ := trodAll_cons r0
  obtain ⟨rfl, rfl, rfl⟩ := trodAll_nil r1
  obtain ⟨rfl, rfl⟩ := trodVars_none hV
  obtain rfl : args = #[v0, v1] := by cases args; simp_all
  obtain ⟨cs0, hv0, hl0, hc0⟩ := agg_open (d := 6) (row := [some .i64, some .i64, some .i64, some .i64, some .i64, some .i64, some .i64, some .i64]) (by kernel_rfl) (by kernel_rfl) (hval 0 28 v0 rfl rfl) h0
  have g0_0 := listIs_of hl0 hc0
  clear hl0 hc0
  obtain ⟨_, cs0_1, rfl, ⟨b0_0, rfl, w0_0⟩, g0_1⟩ := listIs_cons g0_0
  obtain ⟨_, cs0_2, rfl, ⟨b0_1, rfl, w0_1⟩, g0_2⟩ := listIs_cons g0_1
  obtain ⟨_, cs0_3, rfl, ⟨b0_2, rfl, w0_2⟩, g0_3⟩ := listIs_cons g0_2
  obtain ⟨_, cs0_4, rfl, ⟨b0_3, rfl, w0_3⟩, g0_4⟩ := listIs_cons g0_3
  obtain ⟨_, cs0_5, rfl, ⟨b0_4, rfl, w0_4⟩, g0_5⟩ := listIs_cons g0_4
  obtain ⟨_, cs0_6, rfl, ⟨b0_5, rfl, w0_5⟩, g0_6⟩ := listIs_cons g0_5
  obtain ⟨_, cs0_7, rfl, ⟨b0_6, rfl, w0_6⟩, g0_7⟩ := listIs_cons g0_6
  obtain ⟨_, cs0_8, rfl, ⟨b0_7, rfl, w0_7⟩, g0_8⟩ := listIs_cons g0_7
  obtain rfl := listIs_nil g0_8
  subst hv0
  obtain ⟨A1, n1, c1, s1⟩ := slice_open (d := 6) (row := [some .i64, some .i64, some .i64, some .i64, none, some .i64, some .i64, some .i64, some .i64, some .i64, some .i64, some .i64, some .i64]) Try.underlying22 (by kernel_rfl) (by kernel_rfl) (hval 1 22 v1 rfl rfl) h1
  refine Calls.mono (law_calls mixed Try.func6 (runs ⟨b0_0, b0_1, b0_2, b0_3, b0_4, b0_5, b0_6, b0_7⟩ ⟨n1, c1, n1, fun r => intC W A1 (r * 13 + 0), fun r => intC W A1 (r * 13 + 1), fun r => intC W A1 (r * 13 + 2), fun r => intC W A1 (r * 13 + 3), fun r => boolC W A1 (r * 13 + 4), fun r => intC W A1 (r * 13 + 5), fun r => intC W A1 (r * 13 + 6), fun r => intC W A1 (r * 13 + 7), fun r => intC W A1 (r * 13 + 8), fun r => intC W A1 (r * 13 + 9), fun r => intC W A1 (r * 13 + 10), fun r => intC W A1 (r * 13 + 11), fun r => intC W A1 (r * 13 + 12)⟩ ⟨s1.le, Nat.le_refl _, s1.max⟩) (e := envOf [A1]) (rel_in1 s1.reg) (Nat.le_refl 1) (by rw [s1.val]; exact den_as.symm)) fun e W' ⟨he, hb⟩ => ?_
  subst he
  exact ⟨_, rfl, law_post hW' rfl rfl (by kernel_rfl) (by decide +kernel) rfl Try.underlying4 hb⟩

theorem over : Rows.lanesRunsRow.holds Try.pinned (OpenSpec.ofChange Rows.lanesRunsSpec) :=
  OpenClaim.holds_of_wide 6 Try.f6 rfl rfl rfl rfl rfl rfl rfl ⟨rfl, rfl, rfl, rfl, rfl⟩ rfl rfl rfl rfl rfl (by kernel_rfl) Try.func6 (by kernel_rfl)
    (of_decide_eq_true (by kernel_rfl)) (by unfold Func.isWrapper; first | (rw [if_pos (by decide +kernel)]; kernel_rfl) | (rw [if_neg (by decide +kernel)]; exact ⟨rfl, rfl⟩))
    (fun os started H enc _ => lifted os started H enc)

/-- LanesRuns -/
theorem proved : Rows.LanesRunsSaid := over
#print axioms proved
end Go.Proofs.Ytbbiennjigpheaa.lanesRuns
