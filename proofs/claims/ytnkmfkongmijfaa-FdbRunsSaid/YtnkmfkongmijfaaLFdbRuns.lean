/-
  For all numbers of ports, rooms and scripts the law FdbRuns answers true and leaves all memory as it was.
-/
import Derived.Test.YtnkmfkongmijfaaSx
import Derived.Test.YtnkmfkongmijfaaFdbRN
import Derived.Test.YtnkmfkongmijfaaFdbT
import Derived.Test.YtnkmfkongmijfaaFdbH
import Derived.Test.YtnkmfkongmijfaaRows
import Derived.WalkKit
import Derived.ProofKit
import Derived.OpenShut
namespace Go.Proofs.Ytnkmfkongmijfaa.fdbRuns
open Go.ChangeShapes Go.WideShapes Go.ChangeAt Go.RowKit Go.Sx
set_option linter.unusedVariables false
set_option linter.unusedSimpArgs false
set_option maxRecDepth 100000

structure ST where
  len : Nat
  cap : Nat
  N : Nat
  k : Nat → Int
  a : Nat → Int
  b : Nat → Int
  c : Nat → Int
  tg : Nat → Bool
  vid : Nat → Int
  m0 : Nat → Int
  m1 : Nat → Int
  m2 : Nat → Int
  m3 : Nat → Int
  m4 : Nat → Int
  m5 : Nat → Int
  pv : Nat → Int
  q0 : Nat → Int
  q1 : Nat → Int
  q2 : Nat → Int
  q3 : Nat → Int
  q4 : Nat → Int
  q5 : Nat → Int
  q6 : Nat → Int
  q7 : Nat → Int
def roT (a : ST) : Option Reg := some ⟨false, .tab a.N [.int .i64 a.k, .int .i64 a.a, .int .i64 a.b, .int .i64 a.c, .bool a.tg, .int .i64 a.vid, .int .u8 a.m0, .int .u8 a.m1, .int .u8 a.m2, .int .u8 a.m3, .int .u8 a.m4, .int .u8 a.m5, .int .i64 a.pv, .int .i64 a.q0, .int .i64 a.q1, .int .i64 a.q2, .int .i64 a.q3, .int .i64 a.q4, .int .i64 a.q5, .int .i64 a.q6, .int .i64 a.q7]⟩
structure Tw (a : ST) : Prop where
  le : a.len ≤ a.cap
  ln : a.len ≤ a.N
  max : a.cap ≤ 9223372036854775807
  w_c : ∀ r, r < a.len → -9223372036854775808 ≤ a.c r ∧ a.c r ≤ 9223372036854775807
  w_vid : ∀ r, r < a.len → -9223372036854775808 ≤ a.vid r ∧ a.vid r ≤ 9223372036854775807
  w_m0 : ∀ r, r < a.len → 0 ≤ a.m0 r ∧ a.m0 r ≤ 255
  w_m1 : ∀ r, r < a.len → 0 ≤ a.m1 r ∧ a.m1 r ≤ 255
  w_m2 : ∀ r, r < a.len → 0 ≤ a.m2 r ∧ a.m2 r ≤ 255
  w_m3 : ∀ r, r < a.len → 0 ≤ a.m3 r ∧ a.m3 r ≤ 255
  w_m4 : ∀ r, r < a.len → 0 ≤ a.m4 r ∧ a.m4 r ≤ 255
  w_m5 : ∀ r, r < a.len → 0 ≤ a.m5 r ∧ a.m5 r ≤ 255
theorem tw_of {w : World} {v : Value} {A : Option Addr} {n cap : Nat} (s : Slc w v [some .i64, some .i64, some .i64, some .i64, none, some .i64, some .u8, some .u8, some .u8, some .u8, some .u8, some .u8, some .i64, some .i64, some .i64, some .i64, some .i64, some .i64, some .i64, some .i64, some .i64] A n cap) : Tw ⟨n, cap, n, fun r => intC w A (r * 21 + 0), fun r => intC w A (r * 21 + 1), fun r => intC w A (r * 21 + 2), fun r => intC w A (r * 21 + 3), fun r => boolC w A (r * 21 + 4), fun r => intC w A (r * 21 + 5), fun r => intC w A (r * 21 + 6), fun r => intC w A (r * 21 + 7), fun r => intC w A (r * 21 + 8), fun r => intC w A (r * 21 + 9), fun r => intC w A (r * 21 + 10), fun r => intC w A (r * 21 + 11), fun r => intC w A (r * 21 + 12), fun r => intC w A (r * 21 + 13), fun r => intC w A (r * 21 + 14), fun r => intC w A (r * 21 + 15), fun r => intC w A (r * 21 + 16), fun r => intC w A (r * 21 + 17), fun r => intC w A (r * 21 + 18), fun r => intC w A (r * 21 + 19), fun r => intC w A (r * 21 + 20)⟩ :=
  ⟨s.le, Nat.le_refl _, s.max, fun r hr => (Lit.wf_int_iff _ _).1 (s.wf 3 .i64 rfl r hr), fun r hr => (Lit.wf_int_iff _ _).1 (s.wf 5 .i64 rfl r hr), fun r hr => (Lit.wf_int_iff _ _).1 (s.wf 6 .u8 rfl r hr), fun r hr => (Lit.wf_int_iff _ _).1 (s.wf 7 .u8 rfl r hr), fun r hr => (Lit.wf_int_iff _ _).1 (s.wf 8 .u8 rfl r hr), fun r hr => (Lit.wf_int_iff _ _).1 (s.wf 9 .u8 rfl r hr), fun r hr => (Lit.wf_int_iff _ _).1 (s.wf 10 .u8 rfl r hr), fun r hr => (Lit.wf_int_iff _ _).1 (s.wf 11 .u8 rfl r hr)⟩
theorem den_s {A : Option Addr} {n cap : Nat} {k l : Int} : #[SV.den (envOf [A]) (int_ .i64 k), SV.den (envOf [A]) (int_ .i64 l), SV.den (envOf [A]) (.one (.a (.slc 0 21 0 n cap)))] = #[.int .i64 k, .int .i64 l, .slice A n cap] := by
  show #[_, _, SA.den (envOf [A]) (.slc 0 21 0 n cap)] = _
  rw [den_slc (A := A) rfl]; rfl
structure RW (x : RT) (i : Nat) : Prop where
  v : SlR x.v.len x.v.cap x.v.cap
  p : SlR x.p.len x.p.cap x.p.cap
  a : SlR x.a.len x.a.cap x.a.cap
  vm : x.v.len ≤ i
/-- as a callee sees it -/
def nrm (x : RT) : RT := ⟨x.n, x.room, ⟨x.v.len, x.v.cap, x.v.cap, x.v.g0, x.v.g1, x.v.g2⟩, ⟨x.p.len, x.p.cap, x.p.cap, x.p.c0, x.p.c1, x.p.c2, x.p.c3, x.p.c4, x.p.c5, x.p.c6, x.p.c7, x.p.c8⟩, ⟨x.a.len, x.a.cap, x.a.cap, x.a.vid, x.a.m0, x.a.m1, x.a.m2, x.a.m3, x.a.m4, x.a.m5, x.a.po, x.a.st, x.a.se⟩⟩
theorem rt_w {t : Ft} {x : RT} {i : Nat} (h : Rel t x) (hw : RW x i) (hi : i ≤ 100) : RTw (nrm x) :=
  ⟨by have := h.n; have := h.n8; show 1 ≤ x.n ∧ x.n ≤ 8; omega, hw.v, hw.p, hw.a, h.pl.trans h.n.symm, by have := rel_len h; have := h.le; have := h.rm; show x.a.len ≤ 100000; omega, by have := hw.vm; show x.v.len ≤ 100000; omega⟩
abbrev jx (i : Nat) : Nat := 0 + Int.toNat (i : Int)
theorem jx_lt {i n : Nat} (h : i < n) : jx i < n := by unfold jx; omega
def mc (s : ST) (j : Nat) : Mc := ⟨s.m0 j, s.m1 j, s.m2 j, s.m3 j, s.m4 j, s.m5 j⟩
def pt (s : ST) (j : Nat) : Pt := ⟨s.pv j, s.q0 j, s.q1 j, s.q2 j, s.q3 j, s.q4 j, s.q5 j, s.q6 j, s.q7 j⟩
theorem pl_w {s : ST} (hw : Tw s) {j : Nat} (h : j < s.len) : PlW (mkPl (s.vid j) (mc s j)) :=
  ⟨hw.w_vid j h, hw.w_m0 j h, hw.w_m1 j h, hw.w_m2 j h, hw.w_m3 j h, hw.w_m4 j h, hw.w_m5 j h, trivial⟩
def z3 : List Col := [.int .i64 fun _ => 0, .int .i64 fun _ => 0, .int .i64 fun _ => 0]
def z10 : List Col := [.int .i64 fun _ => 0, .int .u8 fun _ => 0, .int .u8 fun _ => 0, .int .u8 fun _ => 0, .int .u8 fun _ => 0, .int .u8 fun _ => 0, .int .u8 fun _ => 0, .int .i64 fun _ => 0, .bool fun _ => false, .int .i64 fun _ => 0]
theorem rel_nrm {t : Ft} {x : RT} (h : Rel t x) : Rel t (nrm x) := ⟨h.n, h.n8, h.room, h.rm, h.pl, h.vl, h.vb, h.pt, h.al, h.ok, h.po, h.le⟩
theorem rel_v {t : Ft} {x : RT} {z : VC} (h : Rel t { nrm x with v := z }) : Rel t { x with v := z } := ⟨h.n, h.n8, h.room, h.rm, h.pl, h.vl, h.vb, h.pt, h.al, h.ok, h.po, h.le⟩
theorem rel_p {t : Ft} {x : RT} {z : PC} (h : Rel t { nrm x with p := z }) : Rel t { x with p := z } := ⟨h.n, h.n8, h.room, h.rm, h.pl, h.vl, h.vb, h.pt, h.al, h.ok, h.po, h.le⟩
theorem rel_a {t : Ft} {x : RT} {z : AC} (h : Rel t { nrm x with a := z }) : Rel t { x with a := z } := ⟨h.n, h.n8, h.room, h.rm, h.pl, h.vl, h.vb, h.pt, h.al, h.ok, h.po, h.le⟩
abbrev setV (x : RT) (z : VC) : RT := ⟨x.n, x.room, z, x.p, x.a⟩
abbrev setP (x : RT) (z : PC) : RT := ⟨x.n, x.room, x.v, z, x.a⟩
abbrev setA (x : RT) (z : AC) : RT := ⟨x.n, x.room, x.v, x.p, z⟩
theorem rw_up {x : RT} {i : Nat} (h : RW x i) : RW x (i + 1) := ⟨h.v, h.p, h.a, Nat.le_succ_of_le h.vm⟩
theorem rw_v {x : RT} {i : Nat} (h : RW x i) {z : VC} (hz : VOK z ((nrm x).v.len + 1)) : RW { x with v := z } (i + 1) := ⟨hz.s, h.p, h.a, Nat.le_trans hz.m (Nat.succ_le_succ h.vm)⟩
theorem rw_p {x : RT} {i : Nat} (h : RW x i) {a : Int} {p : Pt} {z : PC} (hz : POK (nrm x).p a p z) : RW { x with p := z } (i + 1) := ⟨h.v, hz.s, h.a, Nat.le_succ_of_le h.vm⟩
theorem rw_a {x : RT} {i n : Nat} (h : RW x i) {z : AC} (hz : AOK z n) : RW { x with a := z } (i + 1) := ⟨h.v, h.p, hz.s, Nat.le_succ_of_le h.vm⟩
structure LX where
  i : Nat
  t : Ft
  x : RT
structure LJ where
  i : Nat
  t : Ft
  x : RT
  f : Int
  g : Int
noncomputable def mem (s : ST) (t : Ft) (x : RT) : Mem := [roT s, some ⟨true, .obj 82 (ftP t) (boxI ftK)⟩, some ⟨true, .flat [i_ x.n, i_ x.room, slV 3 x.v, slP 4 x.p, slA 5 x.a]⟩, rwV x.v, rwP x.p, rwA x.a]
def renL (S : St) : List Nat := [0, S.ix 7, S.ix 9, regM S.m (S.ix 9) 2, regM S.m (S.ix 9) 3, regM S.m (S.ix 9) 4]
def gsL (S : St) : List GC := match cellM S.m (S.ix 9) 2 with | some (.v _) => [.nil (S.ix 9) 2 3 z3, .nil (S.ix 9) 4 10 z10] | _ => []
noncomputable abbrev laA (s : ST) : LA where
  ι := LX
  inv := fun x => (x.i ≤ s.len ∧ x.i ≤ 100) ∧ Rel x.t x.x ∧ RW x.x x.i
  T := fun x => ⟨359, [(2, .one (.a (.slc 0 21 0 s.len s.cap))), (7, .one (.a (.ptr 1 0))), (9, .one (.a (.ptr 2 0))), (16, int_ .i64 x.i)], mem s x.t x.x⟩
  μ := fun x => s.len - x.i
  ren := renL
  gs := gsL
noncomputable abbrev laJ (s : ST) (n : Int) : LA where
  ι := LJ
  inv := fun y => ((y.i : Int) = n ∧ y.i < s.len ∧ y.i < 100) ∧ (Rel y.t y.x ∧ RW y.x (y.i + 1)) ∧ y.g = y.f
  T := fun y => ⟨359, [(2, .one (.a (.slc 0 21 0 s.len s.cap))), (7, .one (.a (.ptr 1 0))), (9, .one (.a (.ptr 2 0))), (16, int_ .i64 y.i), (18, int_ .i64 y.f), (19, int_ .i64 y.g)], mem s y.t y.x⟩
  μ := fun _ => 0
  ren := renL
noncomputable def cxL (s : ST) : Cx Try.prog := { ps := [hdS, inS, otS, lnS, inN, otN, flN, lnN, agN, lrN, spN, svN, stN, riS, roS], es := [newS, rnS, svS, stS, spS, lrS, agS, flS, rsvS, rspS, rplS, rlrS, arS, frS], is := [], n0 := 1, loops := fun i => match i with | 13 => some (.inv (laA s)) | 27 => some (.rounds 9) | _ => none, cuts := fun _ => none, cutsAt := fun i => match i with | 64 => some (16, 16, fun k _ => laJ s k) | _ => none, held := fun i => match i with | 64 => some (true, .take 0 (.take 1 (.take 2 (.take 3 (.take 4 (.take 6 (.take 7 (.take 8 (.one 5 (.take 9 (.take 10 .done))))))))))) | 9 => some (true, .take 0 (.take 1 (.take 2 (.take 3 (.take 4 (.take 5 (.take 6 (.take 7 (.take 8 (.take 9 (.take 10 (.take 11 (.take 12 (.take 13 (.take 14 (.take 15 (.take 16 (.take 17 (.take 18 (.take 19 (.one 20 (.take 21 (.take 22 (.take 23 (.take 24 (.one 25 (.take 26 (.take 27 (.take 28 (.take 29 (.take 30 (.one 31 (.take 32 (.take 33 (.take 34 (.take 35 (.take 36 (.one 37 (.take 38 (.take 39 (.take 40 (.take 41 (.take 42 (.one 43 (.take 44 (.take 45 (.take 46 (.take 47 (.take 48 (.one 49 (.take 50 (.take 51 (.take 52 .done))))))))))))))))))))))))))))))))))))))))))))))))))))) | _ => none }
attribute [local irreducible] enter nOK svE svT stE stT spE spT lrE lrT otP otB ft0 PlW vPo vBa agT agL flT inV inP inE riV riP riE rouP rouB svNo rspE rplE rlrNo
set_option maxHeartbeats 8000000 in
theorem runs (n room : Int) (s : ST) (hw : Tw s) : Runs (cxL s) Try.f8 [int_ .i64 n, int_ .i64 room, .one (.a (.slc 0 21 0 s.len s.cap))] [roT s] yes := by
  have w1 := hw.le
  have w2 := hw.ln
  have w3 := hw.max
  repeat' (first | with_reducible exact trivial | with_reducible exact rfl | with_reducible exact Nat.le_refl _ | with_reducible exact (fun _ _ => rfl) | ((conv => whnf); first | (refine fun (x : LX) => ?_) | (refine fun (y : LJ) => ?_) | (refine fun (z : VC) => ?_) | (refine fun (u : PC) => ?_) | (refine fun (v : AC) => ?_) | (exact fun h => absurd h (by decide)) | (intro h9; (have h8 := of_decide_eq_true (p := type_of% h9) (by decide)); clear h8 h9) | (refine fun _ => ?_) | refine ⟨?_, ?_⟩ | exact trivial | exact Nat.le_refl _ | exact lex_q (by kernel_rfl) | exact lex_t (by kernel_rfl) | exact lex_h (by kernel_rfl) | fail))
  all_goals (try exact absurd (by assumption : nOK n room) (by assumption))
  all_goals (try (have hx := (by assumption : (laA s).inv x); dsimp only [laA] at hx; obtain ⟨⟨x1, x2⟩, hR, hW⟩ := hx; have hi : x.i < s.len := (by omega); have h100 : x.i < 100 := (by omega); have hj := jx_lt hi; have pw := pl_w hw hj; have hT := rt_w hR hW x2; have hN := rel_nrm hR; have q0 := rel_sv hN (k := s.a (jx x.i)) (po := s.b (jx x.i)) (ba := s.c (jx x.i)) (hw.w_c _ hj); have q1 := rel_st hN (s.a (jx x.i)) (pt s (jx x.i)); have q2 := rel_sp hN (b := s.a (jx x.i)) pw; have q3 := rel_lr hN (a := s.a (jx x.i)) (w := s.b (jx x.i)) pw; have q6 := rel_in hN (s.a (jx x.i)) (s.tg (jx x.i)) (s.b (jx x.i)) (s.c (jx x.i)); have q7 := rel_ot hN (s.a (jx x.i)) (s.vid (jx x.i)) (mc s (jx x.i))))
  all_goals (try omega)
  all_goals (try first | exact hT | exact pw | fail)
  all_goals (try (show (_ : Int) ≤ _; decide))
  all_goals (try (show (_ : Int) < _; decide))
  all_goals (try exact absurd (by assumption : ¬ nOK n room) (by assumption))
  all_goals (try first | exact absurd q6.1.symm (by assumption) | exact absurd q6.2.1.symm (by assumption) | exact absurd q7.1.symm (by assumption) | exact absurd q7.2.symm (by assumption) | fail)
  all_goals (try (have hy := (by assumption : (laJ s (x.i : Int)).inv y); dsimp only [laJ] at hy; obtain ⟨⟨y1, y2, y3⟩, ⟨yR, yW⟩, y4⟩ := hy))
  all_goals (try first | exact absurd y4 (by assumption) | exact absurd (congrArg (fun z : Nat => (z : Int)) (rel_len yR).symm) (by assumption) | fail)
  · have hu := (by assumption : nOK n room ∧ PNW n.toNat u)
    (conv => whnf); refine enter_mk (la := laA s) ⟨0, ft0 n room, ⟨n, room, ⟨0, 0, 0, _, _, _⟩, u, ⟨0, 0, 0, _, _, _, _, _, _, _, _, _, _⟩⟩⟩ ?_ (by (repeat' (first | ((conv => whnf); first | refine ⟨?_, ?_⟩ | exact trivial | fail) | (dsimp only; done) | ((try dsimp only); first | with_reducible exact rfl | exact Nat.le_refl _ | with_reducible exact (fun _ _ => rfl)))); all_goals ((first | rfl | exact Nat.le_refl _ | exact fun r _ => rfl | (dsimp only; omega))))
    exact ⟨⟨Nat.zero_le _, Nat.zero_le _⟩, rel_new hu.1 hu.2 _ _ rfl rfl, ⟨⟨Nat.le_refl _, Nat.le_refl _, Nat.zero_le _⟩, hu.2.s, ⟨Nat.le_refl _, Nat.le_refl _, Nat.zero_le _⟩, Nat.le_refl _⟩⟩
  · have e := q0.1 (by assumption)
    (conv => whnf); refine enter_mk (la := laJ s (x.i : Int)) ⟨x.i, svT x.t (s.a (jx x.i)) ⟨s.b (jx x.i), s.c (jx x.i)⟩, x.x, 1, svE x.t (s.a (jx x.i)) ⟨s.b (jx x.i), s.c (jx x.i)⟩⟩ ?_ (by (repeat' (first | ((conv => whnf); first | refine ⟨?_, ?_⟩ | exact trivial | fail) | (dsimp only; done) | ((try dsimp only); first | with_reducible exact rfl | exact Nat.le_refl _ | with_reducible exact (fun _ _ => rfl)))); all_goals ((first | rfl | exact Nat.le_refl _ | exact fun r _ => rfl | (dsimp only; omega))))
    exact ⟨⟨rfl, hi, h100⟩, ⟨by dsimp only; rw [e.2]; exact hR, rw_up hW⟩, e.1⟩
  · have h9 := (by assumption : ¬ svNo (nrm x.x).n (s.a (jx x.i)) (s.b (jx x.i)) (s.c (jx x.i)) ∧ VOK z ((nrm x.x).v.len + 1) ∧ vcL z = svL (s.a (jx x.i)) (s.b (jx x.i)) (s.c (jx x.i)) (vcL (nrm x.x).v))
    have e := q0.2 h9.1
    (conv => whnf); refine enter_mk (la := laJ s (x.i : Int)) ⟨x.i, svT x.t (s.a (jx x.i)) ⟨s.b (jx x.i), s.c (jx x.i)⟩, setV x.x z, 0, svE x.t (s.a (jx x.i)) ⟨s.b (jx x.i), s.c (jx x.i)⟩⟩ ?_ (by (repeat' (first | ((conv => whnf); first | refine ⟨?_, ?_⟩ | exact trivial | fail) | (dsimp only; done) | ((try dsimp only); first | with_reducible exact rfl | exact Nat.le_refl _ | with_reducible exact (fun _ _ => rfl)))); all_goals ((first | rfl | exact Nat.le_refl _ | exact fun r _ => rfl | (dsimp only; omega))))
    exact ⟨⟨rfl, hi, h100⟩, ⟨rel_v (e.2 z h9.2.2), rw_v hW h9.2.1⟩, e.1⟩
  · have h9 := (by assumption : ¬ rspE (nrm x.x).n (s.a (jx x.i)) (pt s (jx x.i)) = 0)
    (conv => whnf); refine enter_mk (la := laJ s (x.i : Int)) ⟨x.i, stT x.t (s.a (jx x.i)) (pt s (jx x.i)), x.x, rspE x.x.n (s.a (jx x.i)) (pt s (jx x.i)), stE x.t (s.a (jx x.i)) (pt s (jx x.i))⟩ ?_ (by (repeat' (first | ((conv => whnf); first | refine ⟨?_, ?_⟩ | exact trivial | fail) | (dsimp only; done) | ((try dsimp only); first | with_reducible exact rfl | exact Nat.le_refl _ | with_reducible exact (fun _ _ => rfl)))); all_goals ((first | rfl | exact Nat.le_refl _ | exact fun r _ => rfl | (dsimp only; omega))))
    exact ⟨⟨rfl, hi, h100⟩, ⟨by dsimp only; rw [q1.2.1 h9]; exact hR, rw_up hW⟩, q1.1⟩
  · have h9 := (by assumption : rspE (nrm x.x).n (s.a (jx x.i)) (pt s (jx x.i)) = 0 ∧ POK (nrm x.x).p (s.a (jx x.i)) (pt s (jx x.i)) u)
    (conv => whnf); refine enter_mk (la := laJ s (x.i : Int)) ⟨x.i, stT x.t (s.a (jx x.i)) (pt s (jx x.i)), setP x.x u, 0, stE x.t (s.a (jx x.i)) (pt s (jx x.i))⟩ ?_ (by (repeat' (first | ((conv => whnf); first | refine ⟨?_, ?_⟩ | exact trivial | fail) | (dsimp only; done) | ((try dsimp only); first | with_reducible exact rfl | exact Nat.le_refl _ | with_reducible exact (fun _ _ => rfl)))); all_goals ((first | rfl | exact Nat.le_refl _ | exact fun r _ => rfl | (dsimp only; omega))))
    exact ⟨⟨rfl, hi, h100⟩, ⟨rel_p (q1.2.2 h9.1 u h9.2), rw_p hW h9.2⟩, q1.1.trans h9.1⟩
  · have h9 := (by assumption : ¬ rplE (nrm x.x, s.vid (jx x.i), mc s (jx x.i), s.a (jx x.i)) = 0)
    (conv => whnf); refine enter_mk (la := laJ s (x.i : Int)) ⟨x.i, spT x.t (mkPl (s.vid (jx x.i)) (mc s (jx x.i))) (s.a (jx x.i)), x.x, rplE (nrm x.x, s.vid (jx x.i), mc s (jx x.i), s.a (jx x.i)), spE x.t (mkPl (s.vid (jx x.i)) (mc s (jx x.i))) (s.a (jx x.i))⟩ ?_ (by (repeat' (first | ((conv => whnf); first | refine ⟨?_, ?_⟩ | exact trivial | fail) | (dsimp only; done) | ((try dsimp only); first | with_reducible exact rfl | exact Nat.le_refl _ | with_reducible exact (fun _ _ => rfl)))); all_goals ((first | rfl | exact Nat.le_refl _ | exact fun r _ => rfl | (dsimp only; omega))))
    exact ⟨⟨rfl, hi, h100⟩, ⟨by dsimp only; rw [q2.2.1 h9]; exact hR, rw_up hW⟩, q2.1⟩
  · have h9 := (by assumption : rplE (nrm x.x, s.vid (jx x.i), mc s (jx x.i), s.a (jx x.i)) = 0 ∧ AOK v ((nrm x.x).a.len + 1) ∧ acL v = putL ⟨mkPl (s.vid (jx x.i)) (mc s (jx x.i)), s.a (jx x.i), true, 0⟩ (acL (nrm x.x).a))
    (conv => whnf); refine enter_mk (la := laJ s (x.i : Int)) ⟨x.i, spT x.t (mkPl (s.vid (jx x.i)) (mc s (jx x.i))) (s.a (jx x.i)), setA x.x v, 0, spE x.t (mkPl (s.vid (jx x.i)) (mc s (jx x.i))) (s.a (jx x.i))⟩ ?_ (by (repeat' (first | ((conv => whnf); first | refine ⟨?_, ?_⟩ | exact trivial | fail) | (dsimp only; done) | ((try dsimp only); first | with_reducible exact rfl | exact Nat.le_refl _ | with_reducible exact (fun _ _ => rfl)))); all_goals ((first | rfl | exact Nat.le_refl _ | exact fun r _ => rfl | (dsimp only; omega))))
    exact ⟨⟨rfl, hi, h100⟩, ⟨rel_a (q2.2.2 h9.1 v h9.2.2), rw_a hW h9.2.1⟩, q2.1.trans h9.1⟩
  · have h9 := (by assumption : rlrNo (nrm x.x, s.vid (jx x.i), mc s (jx x.i), s.a (jx x.i), s.b (jx x.i)) ≠ none)
    (conv => whnf); refine enter_mk (la := laJ s (x.i : Int)) ⟨x.i, lrT x.t (mkPl (s.vid (jx x.i)) (mc s (jx x.i))) (s.a (jx x.i)) (s.b (jx x.i)), x.x, (rlrNo (nrm x.x, s.vid (jx x.i), mc s (jx x.i), s.a (jx x.i), s.b (jx x.i))).getD 0, lrE x.t (mkPl (s.vid (jx x.i)) (mc s (jx x.i))) (s.a (jx x.i))⟩ ?_ (by (repeat' (first | ((conv => whnf); first | refine ⟨?_, ?_⟩ | exact trivial | fail) | (dsimp only; done) | ((try dsimp only); first | with_reducible exact rfl | exact Nat.le_refl _ | with_reducible exact (fun _ _ => rfl)))); all_goals ((first | rfl | exact Nat.le_refl _ | exact fun r _ => rfl | (dsimp only; omega))))
    exact ⟨⟨rfl, hi, h100⟩, ⟨by dsimp only; rw [q3.2.1 h9]; exact hR, rw_up hW⟩, q3.1⟩
  · have h9 := (by assumption : rlrNo (nrm x.x, s.vid (jx x.i), mc s (jx x.i), s.a (jx x.i), s.b (jx x.i)) = none ∧ AOK v ((nrm x.x).a.len + 1) ∧ acL v = putL ⟨mkPl (s.vid (jx x.i)) (mc s (jx x.i)), 2 ^ (s.a (jx x.i)).toNat, false, s.b (jx x.i)⟩ (acL (nrm x.x).a))
    (conv => whnf); refine enter_mk (la := laJ s (x.i : Int)) ⟨x.i, lrT x.t (mkPl (s.vid (jx x.i)) (mc s (jx x.i))) (s.a (jx x.i)) (s.b (jx x.i)), setA x.x v, 0, lrE x.t (mkPl (s.vid (jx x.i)) (mc s (jx x.i))) (s.a (jx x.i))⟩ ?_ (by (repeat' (first | ((conv => whnf); first | refine ⟨?_, ?_⟩ | exact trivial | fail) | (dsimp only; done) | ((try dsimp only); first | with_reducible exact rfl | exact Nat.le_refl _ | with_reducible exact (fun _ _ => rfl)))); all_goals ((first | rfl | exact Nat.le_refl _ | exact fun r _ => rfl | (dsimp only; omega))))
    exact ⟨⟨rfl, hi, h100⟩, ⟨rel_a (q3.2.2 h9.1 v h9.2.2), rw_a hW h9.2.1⟩, q3.1.trans (congrArg (fun z => z.getD 0) h9.1)⟩
  · have h9 := (by assumption : acL v = (acL (nrm x.x).a).filter (agK (s.a (jx x.i))) ∧ AOK v (nrm x.x).a.len)
    exact absurd (rel_ag hN (s.a (jx x.i)) h9.1).2.symm (by assumption)
  · have h9 := (by assumption : acL v = (acL (nrm x.x).a).filter (agK (s.a (jx x.i))) ∧ AOK v (nrm x.x).a.len)
    (conv => whnf); refine enter_mk (la := laJ s (x.i : Int)) ⟨x.i, agT x.t (s.a (jx x.i)), setA x.x v, 0, 0⟩ ?_ (by (repeat' (first | ((conv => whnf); first | refine ⟨?_, ?_⟩ | exact trivial | fail) | (dsimp only; done) | ((try dsimp only); first | with_reducible exact rfl | exact Nat.le_refl _ | with_reducible exact (fun _ _ => rfl)))); all_goals ((first | rfl | exact Nat.le_refl _ | exact fun r _ => rfl | (dsimp only; omega))))
    exact ⟨⟨rfl, hi, h100⟩, ⟨rel_a (rel_ag hN (s.a (jx x.i)) h9.1).1, rw_a hW h9.2⟩, rfl⟩
  · have h9 := (by assumption : acL v = (acL (nrm x.x).a).filter (flK (nrm x.x).n (s.a (jx x.i))) ∧ AOK v (nrm x.x).a.len)
    (conv => whnf); refine enter_mk (la := laJ s (x.i : Int)) ⟨x.i, flT x.t (s.a (jx x.i)), setA x.x v, 0, 0⟩ ?_ (by (repeat' (first | ((conv => whnf); first | refine ⟨?_, ?_⟩ | exact trivial | fail) | (dsimp only; done) | ((try dsimp only); first | with_reducible exact rfl | exact Nat.le_refl _ | with_reducible exact (fun _ _ => rfl)))); all_goals ((first | rfl | exact Nat.le_refl _ | exact fun r _ => rfl | (dsimp only; omega))))
    exact ⟨⟨rfl, hi, h100⟩, ⟨rel_a (rel_fl hN (s.a (jx x.i)) h9.1), rw_a hW h9.2⟩, rfl⟩
  · (conv => whnf); refine enter_mk (la := laJ s (x.i : Int)) ⟨x.i, x.t, x.x, riE (nrm x.x) (s.a (jx x.i)) (s.tg (jx x.i)) (s.b (jx x.i)) (s.c (jx x.i)), inE x.t (s.a (jx x.i)) (s.tg (jx x.i)) (s.b (jx x.i)) (s.c (jx x.i))⟩ ?_ (by (repeat' (first | ((conv => whnf); first | refine ⟨?_, ?_⟩ | exact trivial | fail) | (dsimp only; done) | ((try dsimp only); first | with_reducible exact rfl | exact Nat.le_refl _ | with_reducible exact (fun _ _ => rfl)))); all_goals ((first | rfl | exact Nat.le_refl _ | exact fun r _ => rfl | (dsimp only; omega))))
    exact ⟨⟨rfl, hi, h100⟩, ⟨hR, rw_up hW⟩, q6.2.2⟩
  · (conv => whnf); refine enter_mk (la := laJ s (x.i : Int)) ⟨x.i, x.t, x.x, 0, 0⟩ ?_ (by (repeat' (first | ((conv => whnf); first | refine ⟨?_, ?_⟩ | exact trivial | fail) | (dsimp only; done) | ((try dsimp only); first | with_reducible exact rfl | exact Nat.le_refl _ | with_reducible exact (fun _ _ => rfl)))); all_goals ((first | rfl | exact Nat.le_refl _ | exact fun r _ => rfl | (dsimp only; omega))))
    exact ⟨⟨rfl, hi, h100⟩, ⟨hR, rw_up hW⟩, rfl⟩
  · (conv => whnf); refine enter_mk (la := laJ s (x.i : Int)) ⟨x.i, x.t, x.x, 0, 0⟩ ?_ (by (repeat' (first | ((conv => whnf); first | refine ⟨?_, ?_⟩ | exact trivial | fail) | (dsimp only; done) | ((try dsimp only); first | with_reducible exact rfl | exact Nat.le_refl _ | with_reducible exact (fun _ _ => rfl)))); all_goals ((first | rfl | exact Nat.le_refl _ | exact fun r _ => rfl | (dsimp only; omega))))
    exact ⟨⟨rfl, hi, h100⟩, ⟨hR, rw_up hW⟩, rfl⟩
  · (conv => whnf); refine enter_mk (la := laA s) ⟨y.i + 1, y.t, y.x⟩ ?_ (by (repeat' (first | ((conv => whnf); first | refine ⟨?_, ?_⟩ | exact trivial | fail) | (dsimp only; done) | ((try dsimp only); first | with_reducible exact rfl | exact Nat.le_refl _ | with_reducible exact (fun _ _ => rfl)))); all_goals ((first | rfl | (show s.len - (y.i + 1) < s.len - x.i; omega) | (dsimp only; rw [w64' (by omega) (by omega)]; omega))))
    exact ⟨⟨by show y.i + 1 ≤ s.len; omega, by show y.i + 1 ≤ 100; omega⟩, yR, yW⟩
  · exact (decide_eq_true rfl).symm
  · exact absurd (by assumption : nOK n room ∧ PNW n.toNat u).1 (by assumption)

theorem own : ownKnob Try.prog.godebug = none := by kernel_rfl

set_option maxRecDepth 100000 in
theorem lifted (os : Os) (started : os.Started) (H : Type) (enc : TypeId × Value → H) :
    ReturnsInHanded {} Try.checked os 8 .any (Rows.fdbRunsSpec.pre6 enc Try.prog Try.f8 Rows.fdbRunsRow.domain false) (Rows.fdbRunsSpec.post enc Try.prog Try.f8 false true false false) := by
  refine returnsInHanded_of_change (C := Try.checked) own started (by kernel_rfl) Try.func8
    (ChangeSpec.witness6 (enc := enc) (C := Try.checked) false ⟨#[], #[.int .i64 0, .int .i64 0, .slice none 0 0], []⟩ 8 (by kernel_rfl) (by kernel_rfl) (by kernel_rfl) (by kernel_rfl)) ?_
  intro W base args ds gs before hval0 hW hcnd _
  have hval : ∀ (j : Nat) t v, Try.f8.params[j]? = some t → args[j]? = some v → Value.okWide Try.prog W .any base t v := hval0
  have hW' := hW
  obtain ⟨p, q, hA0, hV, rfl, hfz, hnd⟩ := hW
  have hA : DataW.TrodAll enc Try.prog W 0 (fun _ => true) true Try.f8.params.toList args.toList ds p := hA0
  rw [Try.params8] at hA hval
  obtain ⟨v0, vs0, d0, ds0, p0, q0, hargs0, rfl, rfl, h0, r0⟩ := trodAll_cons hA
  obtain ⟨v1, vs1, d1, ds1, p1, q1, hargs1, rfl, rfl, h1, r1⟩ := trodAll_cons r0
  obtain ⟨v2, vs2, d2, ds2, p2, q2, hargs2, rfl, rfl, h2, r2⟩ := trodAll_cons r1
  obtain ⟨rfl, rfl, rfl⟩ := trodAll_nil r2
  obtain ⟨rfl, rfl⟩ := trodVars_none hV
  obtain rfl : args = #[v0, v1, v2] := by cases args; simp_all
  obtain ⟨a0, rfl, rfl, rfl, w0⟩ := open_int Try.underlying3 (hval 0 3 v0 rfl rfl) h0
  obtain ⟨a1, rfl, rfl, rfl, w1⟩ := open_int Try.underlying3 (hval 1 3 v1 rfl rfl) h1
  obtain ⟨A2, n2, c2, s2⟩ := slice_open (d := 6) (row := [some .i64, some .i64, some .i64, some .i64, none, some .i64, some .u8, some .u8, some .u8, some .u8, some .u8, some .u8, some .i64, some .i64, some .i64, some .i64, some .i64, some .i64, some .i64, some .i64, some .i64]) Try.underlying56 (by kernel_rfl) (by kernel_rfl) (hval 2 56 v2 rfl rfl) h2
  refine Calls.mono (law_calls mixed Try.func8 (runs a0 a1 ⟨n2, c2, n2, fun r => intC W A2 (r * 21 + 0), fun r => intC W A2 (r * 21 + 1), fun r => intC W A2 (r * 21 + 2), fun r => intC W A2 (r * 21 + 3), fun r => boolC W A2 (r * 21 + 4), fun r => intC W A2 (r * 21 + 5), fun r => intC W A2 (r * 21 + 6), fun r => intC W A2 (r * 21 + 7), fun r => intC W A2 (r * 21 + 8), fun r => intC W A2 (r * 21 + 9), fun r => intC W A2 (r * 21 + 10), fun r => intC W A2 (r * 21 + 11), fun r => intC W A2 (r * 21 + 12), fun r => intC W A2 (r * 21 + 13), fun r => intC W A2 (r * 21 + 14), fun r => intC W A2 (r * 21 + 15), fun r => intC W A2 (r * 21 + 16), fun r => intC W A2 (r * 21 + 17), fun r => intC W A2 (r * 21 + 18), fun r => intC W A2 (r * 21 + 19), fun r => intC W A2 (r * 21 + 20)⟩ (tw_of s2)) (e := envOf [A2]) (rel_in1 s2.reg) (Nat.le_refl 1) (by rw [s2.val]; exact den_s.symm)) fun e W' ⟨he, hb⟩ => ?_
  subst he
  exact ⟨_, rfl, law_post hW' rfl rfl (by kernel_rfl) (by decide +kernel) rfl Try.underlying4 hb⟩

theorem over : Rows.fdbRunsRow.holds Try.pinned (OpenSpec.ofChange Rows.fdbRunsSpec) :=
  OpenClaim.holds_of_wide 8 Try.f8 rfl rfl rfl rfl rfl rfl rfl ⟨rfl, rfl, rfl, rfl, rfl⟩ rfl rfl rfl rfl rfl (by kernel_rfl) Try.func8 (by kernel_rfl)
    (of_decide_eq_true (by kernel_rfl)) (by unfold Func.isWrapper; first | (rw [if_pos (by decide +kernel)]; kernel_rfl) | (rw [if_neg (by decide +kernel)]; exact ⟨rfl, rfl⟩))
    (fun os started H enc _ => lifted os started H enc)

/-- FdbRuns -/
theorem proved : Rows.FdbRunsSaid := over
#print axioms proved
end Go.Proofs.Ytnkmfkongmijfaa.fdbRuns
