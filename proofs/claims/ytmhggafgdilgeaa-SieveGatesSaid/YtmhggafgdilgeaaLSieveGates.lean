/-
  For all streams, lists of gates and times the law SieveGates answers true and leaves all memory as it was.
-/
import Derived.Test.YtmhggafgdilgeaaSx
import Derived.Test.YtmhggafgdilgeaaSieH
import Derived.Test.YtmhggafgdilgeaaSGatesR
import Derived.Test.YtmhggafgdilgeaaRows
import Derived.WalkKit
import Derived.ProofKit
import Derived.OpenShut
namespace Go.Proofs.Ytmhggafgdilgeaa.sieveGates
open Go.ChangeShapes Go.WideShapes Go.ChangeAt Go.RowKit Go.Sx
set_option linter.unusedVariables false
set_option linter.unusedSimpArgs false
set_option maxRecDepth 100000

structure Rw where
  po : Int
  vid : Int
  m0 : Int
  m1 : Int
  m2 : Int
  m3 : Int
  m4 : Int
  m5 : Int
  src : Bool
  ga : Int
  pr : Int
  mx : Int
  sh : Bool
  ra : Int
def rwC (x : Rw) : SV := .one (.agg [i_ x.po, i_ x.vid, u_ x.m0, u_ x.m1, u_ x.m2, u_ x.m3, u_ x.m4, u_ x.m5, b_ x.src, i_ x.ga, i_ x.pr, i_ x.mx, b_ x.sh, i_ x.ra])
def rwL (x : Rw) : List SA := [i_ (-1), i_ x.vid, u_ x.m0, u_ x.m1, u_ x.m2, u_ x.m3, u_ x.m4, u_ x.m5, .ff, i_ 0, i_ x.pr, i_ 0, b_ x.sh, i_ (-1)]
structure TS where
  len : Nat
  cap : Nat
  N : Nat
  g : Nat → Int
def roT (a : TS) : Option Reg := some ⟨false, .tab a.N [.int .i64 a.g]⟩
def Tw (a : TS) : Prop := a.len ≤ a.cap ∧ a.len ≤ a.N ∧ a.cap ≤ 9223372036854775807
theorem gw_of {w : World} {b c : Int} {v : Value} {A : Option Addr} {n cap : Nat} (hb : (Lit.int .i64 b).wf = true) (hc : (Lit.int .i64 c).wf = true) (s : Slc w v [some .i64, some .i64] A n cap) : Gw ⟨b, c, n, cap, n, fun r => intC w A (r * 2 + 0), fun r => intC w A (r * 2 + 1)⟩ :=
  Gw.mk ⟨(Lit.wf_int_iff _ _).1 hb, (Lit.wf_int_iff _ _).1 hc, s.le, Nat.le_refl _, s.max, fun i hi => ⟨(Lit.wf_int_iff _ _).1 (s.wf 0 .i64 rfl i hi), (Lit.wf_int_iff _ _).1 (s.wf 1 .i64 rfl i hi)⟩⟩
theorem den_on {A B : Option Addr} {x : Rw} {b c : Int} {n cap N k cap2 : Nat} {f g : Nat → Int} : #[SV.den (envOf [A, B]) (rwC x), SV.den (envOf [A, B]) (G1 0 ⟨b, c, n, cap, N, f, g⟩), SV.den (envOf [A, B]) (.one (.a (.slc 1 1 0 k cap2)))] = #[.agg #[.int .i64 x.po, .int .i64 x.vid, .int .u8 x.m0, .int .u8 x.m1, .int .u8 x.m2, .int .u8 x.m3, .int .u8 x.m4, .int .u8 x.m5, .bool x.src, .int .i64 x.ga, .int .i64 x.pr, .int .i64 x.mx, .bool x.sh, .int .i64 x.ra], .agg #[.int .i64 b, .int .i64 c, .slice A n cap], .slice B k cap2] := by
  show #[_, Value.agg ([_, _, SA.den (envOf [A, B]) (.slc 0 2 0 n cap)].toArray), SA.den (envOf [A, B]) (.slc 1 1 0 k cap2)] = _
  rw [den_slc (A := A) rfl, den_slc (A := B) rfl]; rfl
/-- the stream's columns, one row -/
def oneX (x : Rw) : List Col := [.int .i64 (fun _ => (-1)), .int .i64 (fun _ => x.vid), .int .u8 (fun _ => x.m0), .int .u8 (fun _ => x.m1), .int .u8 (fun _ => x.m2), .int .u8 (fun _ => x.m3), .int .u8 (fun _ => x.m4), .int .u8 (fun _ => x.m5), .bool (fun _ => false), .int .i64 (fun _ => 0), .int .i64 (fun _ => x.pr), .int .i64 (fun _ => 0), .bool (fun _ => x.sh), .int .i64 (fun _ => (-1))]
def M4 (x : Rw) (l : GL) (s : TS) : Mem := [roG l, roT s, some ⟨true, .flat (rwL x)⟩, some ⟨true, .flat (glCells 0 l)⟩]
def M6 (x : Rw) (l : GL) (s : TS) : Mem := M4 x l s ++ [some ⟨true, .tab 1 (oneX x)⟩, some ⟨true, .flat (glCells 0 l)⟩]
abbrev la4 (x : Rw) (l : GL) (s : TS) : LA where
  ι := Unit
  inv := fun _ => True
  T := fun _ => ⟨174, [(0, .one (.a (.slc 4 14 0 1 1))), (1, .one (.a (.slc 5 3 0 1 1))), (2, .one (.a nilS)), (3, int_ .i64 0), (8, .one (.a (.v (.pointer none)))), (9, int_ .i64 0), (10, .one (.a (.ptr 6 0)))], M6 x l s ++ [some ⟨true, .flat [nilS, nilS, nilS, .slc 7 1 0 1 1, .slc 8 6 0 2 2]⟩, some ⟨true, .tab 1 [.bool fun _ => false]⟩, some ⟨true, .tab 2 (ctC fun _ _ => 0)⟩]⟩
  μ := fun _ => 0
  ren := fun S => [0, 1, 2, 3, 4, 5, S.ix 10, regM S.m (S.ix 10) 3, regM S.m (S.ix 10) 4]
abbrev la11 (x : Rw) (l : GL) (s : TS) : LA where
  ι := Nat
  inv := fun _ => True
  T := fun cap => ⟨174, [(1, .one (.a (.slc 5 3 0 1 1))), (2, .one (.a nilS)), (3, int_ .i64 0), (8, .one (.a (.v (.pointer none)))), (9, int_ .i64 0), (10, .one (.a (.ptr 6 0)))], M6 x l s ++ [some ⟨true, .flat [.slc 7 14 0 1 cap, nilS, nilS, .slc 8 1 0 1 1, .slc 9 6 0 2 2]⟩, some ⟨true, .tab 1 (oneX x)⟩, some ⟨true, .tab 1 [.bool fun _ => false]⟩, some ⟨true, .tab 2 (ctC fun _ _ => 0)⟩]⟩
  μ := fun _ => 0
  ren := fun S => [0, 1, 2, 3, 4, 5, S.ix 10, regM S.m (S.ix 10) 0, regM S.m (S.ix 10) 3, regM S.m (S.ix 10) 4]
structure LB where
  cap : Nat
  cap2 : Nat
  y : CL
def rwY (y : CL) : Option Reg := some ⟨true, .tab y.cap [.int .i64 y.op, .int .i64 y.ln]⟩
/-- the slots' region of the gates that a sieve has -/
def gReg (m : Mem) (o : Nat) : Nat := regM m (regM m o 1) 2
abbrev la20 (x : Rw) (l : GL) (s : TS) : LA where
  ι := LB
  inv := fun z => chk l = 0 ∧ CS l.len l z.y
  T := fun z => ⟨174, [(2, .one (.a nilS)), (3, int_ .i64 0), (8, .one (.a (.v (.pointer none)))), (9, int_ .i64 0), (10, .one (.a (.ptr 6 0)))], M6 x l s ++ [some ⟨true, .flat [.slc 7 14 0 1 z.cap, .slc 8 3 0 1 z.cap2, nilS, .slc 10 1 0 1 1, .slc 11 6 0 2 2]⟩, some ⟨true, .tab 1 (oneX x)⟩, some ⟨true, .flat [i_ l.base, i_ l.cyc, .slc 9 2 0 l.len z.y.cap]⟩, rwY z.y, some ⟨true, .tab 1 [.bool fun _ => false]⟩, some ⟨true, .tab 2 (ctC fun _ _ => 0)⟩]⟩
  μ := fun _ => 0
  ren := fun S => [0, 1, 2, 3, 4, 5, S.ix 10, regM S.m (S.ix 10) 0, regM S.m (S.ix 10) 1, gReg S.m (S.ix 10), regM S.m (S.ix 10) 3, regM S.m (S.ix 10) 4]
structure LX where
  i : Nat
  n : Nat
  cap : Nat
  cap2 : Nat
  y : CL
  g0 : Nat → Int
  g1 : Nat → Int
  g2 : Nat → Int
  g3 : Nat → Int
  g4 : Nat → Int
  g5 : Nat → Int
abbrev laS (x : Rw) (l : GL) (s : TS) : LA where
  ι := LX
  inv := fun z => (z.i ≤ s.len ∧ s.len ≤ 40 ∧ z.n ≤ z.i) ∧ (chk l = 0 ∧ CS l.len l z.y) ∧ z.g0 0 = z.n ∧ z.g3 0 = (z.i : Int) - z.n
  T := fun z => ⟨103, [(2, .one (.a (.slc 1 1 0 s.len s.cap))), (3, .one (.a (.ptr 2 0))), (4, .one (.a (.ptr 3 0))), (7, .one (.a (.ptr 4 0))), (9, int_ .i64 z.n), (44, .one (.a (.slc 1 1 0 s.len s.cap))), (45, int_ .i64 s.len), (46, int_ .i64 z.i)], M4 x l s ++ [some ⟨true, .flat [.slc 5 14 0 1 z.cap, .slc 6 3 0 1 z.cap2, nilS, .slc 8 1 0 1 1, .slc 9 6 0 2 2]⟩, some ⟨true, .tab 1 (oneX x)⟩, some ⟨true, .flat [i_ l.base, i_ l.cyc, .slc 7 2 0 l.len z.y.cap]⟩, rwY z.y, some ⟨true, .tab 1 [.bool fun _ => false]⟩, some ⟨true, .tab 2 [.int .i64 z.g0, .int .i64 z.g1, .int .i64 z.g2, .int .i64 z.g3, .int .i64 z.g4, .int .i64 z.g5]⟩]⟩
  μ := fun z => s.len - z.i
  ren := fun S => [0, 1, S.ix 3, S.ix 4, S.ix 7, regM S.m (S.ix 7) 0, regM S.m (S.ix 7) 1, gReg S.m (S.ix 7), regM S.m (S.ix 7) 3, regM S.m (S.ix 7) 4]
inductive LE where
  | err (e : Int)
  | ok (b : LB)
abbrev laE (x : Rw) (l : GL) (s : TS) : LA where
  ι := LE
  inv := fun z => match z with
    | .err e => ¬ e = 0
    | .ok z => s.len ≤ 40 ∧ chk l = 0 ∧ CS l.len l z.y
  T := fun z => match z with
    | .err e => ⟨103, [(7, .one (.a (.v (.pointer none)))), (8, int_ .i64 e)], [roG l, roT s]⟩
    | .ok z => ⟨103, [(2, .one (.a (.slc 1 1 0 s.len s.cap))), (3, .one (.a (.ptr 2 0))), (4, .one (.a (.ptr 3 0))), (7, .one (.a (.ptr 4 0))), (8, int_ .i64 0)], M4 x l s ++ [some ⟨true, .flat [.slc 5 14 0 1 z.cap, .slc 6 3 0 1 z.cap2, nilS, .slc 8 1 0 1 1, .slc 9 6 0 2 2]⟩, some ⟨true, .tab 1 (oneX x)⟩, some ⟨true, .flat [i_ l.base, i_ l.cyc, .slc 7 2 0 l.len z.y.cap]⟩, rwY z.y, some ⟨true, .tab 1 [.bool fun _ => false]⟩, some ⟨true, .tab 2 (ctC fun _ _ => 0)⟩]⟩
  μ := fun _ => 0
  ren := fun S => match S.t.get 7 with
    | some (.one (.a (.ptr o _))) => [0, 1, S.ix 3, S.ix 4, o, regM S.m o 0, regM S.m o 1, gReg S.m o, regM S.m o 3, regM S.m o 4]
    | _ => [0, 1]
noncomputable def cxNw (x : Rw) (l : GL) (s : TS) : Cx Try.prog := { ps := [chkS], es := [], is := [], n0 := 0, loops := fun i => match i with | 5 => some (.rounds 2) | 12 => some (.rounds 2) | 21 => some (.rounds 1) | _ => none, cuts := fun i => match i with | 4 => some (la4 x l s) | 11 => some (la11 x l s) | 20 => some (la20 x l s) | _ => none, held := fun i => match i with | 3 => some (true, .take 0 (.take 1 (.take 3 (.take 4 (.take 5 (.two 2 (.one 6 (.take 7 (.one 8 (.take 9 .done)))) 6 (.one 2 (.take 7 (.one 8 (.take 9 .done)))))))))) | 9 => some (true, .take 0 (.take 1 (.take 2 (.take 3 (.two 4 (.one 5 (.one 6 (.one 7 (.take 8 (.take 9 (.one 10 .done)))))) 5 (.two 4 (.one 6 (.one 7 (.take 8 (.take 9 (.one 10 .done))))) 6 (.one 4 (.one 7 (.take 8 (.take 9 (.one 10 .done))))))))))) | 18 => some (true, .take 0 (.take 1 (.take 2 (.take 3 (.two 4 (.one 5 (.one 6 (.one 7 (.take 8 (.take 9 (.one 10 .done)))))) 5 (.two 4 (.one 6 (.one 7 (.take 8 (.take 9 (.one 10 .done))))) 6 (.one 4 (.one 7 (.take 8 (.take 9 (.one 10 .done))))))))))) | _ => none, lose := fun i => match i with | 9 => [6] | 18 => [6] | _ => [], xr := [ixF], xa := [apF] }
noncomputable def cxFn : Cx Try.prog := { ps := [], es := [], is := [], n0 := 0, loops := fun i => match i with | 4 => some (.rounds 2) | _ => none, cuts := fun _ => none }
noncomputable def cxPa : Cx Try.prog := { ps := [stateS], es := [], is := [], n0 := 0, loops := fun _ => none, cuts := fun _ => none, xr := [ixF] }
noncomputable def cxI : Cx Try.prog := { ps := [], es := [], is := [inl fn10 cxFn, inl fn16 cxPa], n0 := 0, loops := fun _ => none, cuts := fun _ => none }
noncomputable def cxL (x : Rw) (l : GL) (s : TS) : Cx Try.prog := { ps := [hdS, stateS], es := [], is := [inl fn8 (cxNw x l s), inl fn9 cxI, inl fn12 cxOp], n0 := 2, loops := fun i => match i with | 15 => some (.inv (laS x l s)) | _ => none, cuts := fun i => match i with | 11 => some (laE x l s) | _ => none }
theorem cs_mk {n : Nat} {l : GL} {y : CL} (h : n ≤ y.cap ∧ y.cap ≤ 9223372036854775807 ∧ ∀ r, r < n → y.op r = l.op r ∧ y.ln r = l.ln r) : CS n l y := h
theorem and1 (v : Int) : bits .and .i64 v 1 = v % 2 := and_mask v 1 (by decide)
attribute [local irreducible] enter Gw CS stateV chk
set_option maxHeartbeats 16000000 in
theorem runs (a : Rw) (l : GL) (s : TS) (hw : Gw l) (ht : Tw s) : Runs (cxL a l s) Try.f6 [rwC a, G1 0 l, .one (.a (.slc 1 1 0 s.len s.cap))] [roG l, roT s] yes := by
  obtain ⟨t1, t2, t3⟩ := ht
  repeat' (first | with_reducible exact trivial | with_reducible exact rfl | with_reducible exact Nat.le_refl _ | with_reducible exact (fun _ _ => rfl) | ((conv => whnf); first | (refine fun (x : Unit) => ?_) | (refine fun (y : Nat) => ?_) | (refine fun (z : LB) => ?_) | (refine fun (u : LX) => ?_) | ((refine fun (v : LE) => ?_); rcases v with v | v) | (exact fun h => absurd h (by decide)) | (intro h9; (have h8 := of_decide_eq_true (p := type_of% h9) (by decide)); clear h8 h9) | (refine fun _ => ?_) | refine ⟨?_, ?_⟩ | exact trivial | exact Nat.le_refl _ | exact lex_q (by kernel_rfl) | exact lex_t (by kernel_rfl) | exact lex_h (by kernel_rfl) | fail))
  all_goals (try exact eq23)
  all_goals (try exact absurd rfl (by assumption : ¬ (fun (_ : Nat) => a.vid) (0 + Int.toNat 0) = a.vid))
  all_goals (try (have hmac := (by assumption : (decide (a.m0 = a.m0) && (decide (a.m1 = a.m1) && (decide (a.m2 = a.m2) && (decide (a.m3 = a.m3) && (decide (a.m4 = a.m4) && (decide (a.m5 = a.m5) && true)))))) = false); simp at hmac; done))
  all_goals (try (have hu := (by assumption : (laS a l s).inv u); dsimp only [laS] at hu; obtain ⟨⟨u1, u40, un⟩, ⟨uc, uy⟩, ug0, ug3⟩ := hu; have gw := cp_gw uy hw))
  all_goals (try omega)
  all_goals (try with_reducible decide)
  all_goals (try first | exact hw | exact gw | fail)
  · (conv => whnf)
    (conv => whnf); refine enter_mk (la := la4 a l s) () ?_ (by (repeat' (first | ((conv => whnf); first | refine ⟨?_, ?_⟩ | exact trivial | fail) | (dsimp only; done) | ((try dsimp only); first | with_reducible exact rfl | exact Nat.le_refl _ | with_reducible exact (fun _ _ => rfl)))); all_goals ((first | rfl | exact fun _ _ => rfl | (intro r hr; obtain rfl : r = 0 := (by omega); rfl) | decide | omega)))
    trivial
  · (conv => whnf)
    (conv => whnf); refine enter_mk (la := la4 a l s) () ?_ (by (repeat' (first | ((conv => whnf); first | refine ⟨?_, ?_⟩ | exact trivial | fail) | (dsimp only; done) | ((try dsimp only); first | with_reducible exact rfl | exact Nat.le_refl _ | with_reducible exact (fun _ _ => rfl)))); all_goals ((first | rfl | exact fun _ _ => rfl | (intro r hr; obtain rfl : r = 0 := (by omega); rfl) | decide | omega)))
    trivial
  · (conv => whnf)
    (conv => whnf); refine enter_mk (la := laE a l s) (LE.err 1) ?_ (by (repeat' (first | ((conv => whnf); first | refine ⟨?_, ?_⟩ | exact trivial | fail) | (dsimp only; done) | ((try dsimp only); first | with_reducible exact rfl | exact Nat.le_refl _ | with_reducible exact (fun _ _ => rfl)))); all_goals ((first | rfl | exact fun _ _ => rfl | (intro r hr; obtain rfl : r = 0 := (by omega); rfl) | decide | omega)))
    show ¬ (1 : Int) = 0; decide
  · (conv => whnf)
    (conv => whnf); refine enter_mk (la := laE a l s) (LE.err 1) ?_ (by (repeat' (first | ((conv => whnf); first | refine ⟨?_, ?_⟩ | exact trivial | fail) | (dsimp only; done) | ((try dsimp only); first | with_reducible exact rfl | exact Nat.le_refl _ | with_reducible exact (fun _ _ => rfl)))); all_goals ((first | rfl | exact fun _ _ => rfl | (intro r hr; obtain rfl : r = 0 := (by omega); rfl) | decide | omega)))
    show ¬ (1 : Int) = 0; decide
  · (conv => whnf)
    (conv => whnf); refine enter_mk (la := laE a l s) (LE.err 1) ?_ (by (repeat' (first | ((conv => whnf); first | refine ⟨?_, ?_⟩ | exact trivial | fail) | (dsimp only; done) | ((try dsimp only); first | with_reducible exact rfl | exact Nat.le_refl _ | with_reducible exact (fun _ _ => rfl)))); all_goals ((first | rfl | exact fun _ _ => rfl | (intro r hr; obtain rfl : r = 0 := (by omega); rfl) | decide | omega)))
    show ¬ (1 : Int) = 0; decide
  · (conv => whnf)
    (conv => whnf); refine enter_mk (la := laE a l s) (LE.err 1) ?_ (by (repeat' (first | ((conv => whnf); first | refine ⟨?_, ?_⟩ | exact trivial | fail) | (dsimp only; done) | ((try dsimp only); first | with_reducible exact rfl | exact Nat.le_refl _ | with_reducible exact (fun _ _ => rfl)))); all_goals ((first | rfl | exact fun _ _ => rfl | (intro r hr; obtain rfl : r = 0 := (by omega); rfl) | decide | omega)))
    show ¬ (1 : Int) = 0; decide
  · (conv => whnf)
    (conv => whnf); refine enter_mk (la := la11 a l s) y ?_ (by (repeat' (first | ((conv => whnf); first | refine ⟨?_, ?_⟩ | exact trivial | fail) | (dsimp only; done) | ((try dsimp only); first | with_reducible exact rfl | exact Nat.le_refl _ | with_reducible exact (fun _ _ => rfl)))); all_goals ((first | rfl | exact fun _ _ => rfl | (intro r hr; obtain rfl : r = 0 := (by omega); rfl) | decide | omega)))
    trivial
  · (conv => whnf)
    (conv => whnf); refine enter_mk (la := la11 a l s) y ?_ (by (repeat' (first | ((conv => whnf); first | refine ⟨?_, ?_⟩ | exact trivial | fail) | (dsimp only; done) | ((try dsimp only); first | with_reducible exact rfl | exact Nat.le_refl _ | with_reducible exact (fun _ _ => rfl)))); all_goals ((first | rfl | exact fun _ _ => rfl | (intro r hr; obtain rfl : r = 0 := (by omega); rfl) | decide | omega)))
    trivial
  · (conv => whnf)
    (conv => whnf); refine enter_mk (la := la11 a l s) y ?_ (by (repeat' (first | ((conv => whnf); first | refine ⟨?_, ?_⟩ | exact trivial | fail) | (dsimp only; done) | ((try dsimp only); first | with_reducible exact rfl | exact Nat.le_refl _ | with_reducible exact (fun _ _ => rfl)))); all_goals ((first | rfl | exact fun _ _ => rfl | (intro r hr; obtain rfl : r = 0 := (by omega); rfl) | decide | omega)))
    trivial
  · (conv => whnf)
    (conv => whnf); refine enter_mk (la := laE a l s) (LE.err (chk l)) ?_ (by (repeat' (first | ((conv => whnf); first | refine ⟨?_, ?_⟩ | exact trivial | fail) | (dsimp only; done) | ((try dsimp only); first | with_reducible exact rfl | exact Nat.le_refl _ | with_reducible exact (fun _ _ => rfl)))); all_goals ((first | rfl | exact fun _ _ => rfl | (intro r hr; obtain rfl : r = 0 := (by omega); rfl) | decide | omega)))
    assumption
  · have := hw.out; omega
  · (conv => whnf)
    (conv => whnf); refine enter_mk (la := la20 a l s) ⟨_, _, ⟨_, _, _⟩⟩ ?_ (by (repeat' (first | ((conv => whnf); first | refine ⟨?_, ?_⟩ | exact trivial | fail) | (dsimp only; done) | ((try dsimp only); first | with_reducible exact rfl | exact Nat.le_refl _ | with_reducible exact (fun _ _ => rfl)))); all_goals ((first | rfl | exact fun _ _ => rfl | (intro r hr; obtain rfl : r = 0 := (by omega); rfl) | decide | omega)))
    refine ⟨Decidable.of_not_not (by assumption), cs_mk ⟨by assumption, by assumption, fun r hr => ?_⟩⟩
    dsimp only
    simp only [Nat.not_lt_zero, if_false, Nat.zero_add, hr, if_true, Nat.sub_zero, and_self]
  · (conv => whnf)
    (conv => whnf); refine enter_mk (la := la20 a l s) ⟨_, _, ⟨_, _, _⟩⟩ ?_ (by (repeat' (first | ((conv => whnf); first | refine ⟨?_, ?_⟩ | exact trivial | fail) | (dsimp only; done) | ((try dsimp only); first | with_reducible exact rfl | exact Nat.le_refl _ | with_reducible exact (fun _ _ => rfl)))); all_goals ((first | rfl | exact fun _ _ => rfl | (intro r hr; obtain rfl : r = 0 := (by omega); rfl) | decide | omega)))
    refine ⟨Decidable.of_not_not (by assumption), cs_mk ⟨by assumption, by assumption, fun r hr => ?_⟩⟩
    dsimp only
    simp only [Nat.not_lt_zero, if_false, Nat.zero_add, hr, if_true, Nat.sub_zero, and_self]
  · (conv => whnf)
    (conv => whnf); refine enter_mk (la := la20 a l s) ⟨_, _, ⟨_, _, _⟩⟩ ?_ (by (repeat' (first | ((conv => whnf); first | refine ⟨?_, ?_⟩ | exact trivial | fail) | (dsimp only; done) | ((try dsimp only); first | with_reducible exact rfl | exact Nat.le_refl _ | with_reducible exact (fun _ _ => rfl)))); all_goals ((first | rfl | exact fun _ _ => rfl | (intro r hr; obtain rfl : r = 0 := (by omega); rfl) | decide | omega)))
    refine ⟨Decidable.of_not_not (by assumption), cs_mk ⟨by assumption, by assumption, fun r hr => ?_⟩⟩
    dsimp only
    simp only [Nat.not_lt_zero, if_false, Nat.zero_add, hr, if_true, Nat.sub_zero, and_self]
  · have hz := (by assumption : (la20 a l s).inv z)
    (conv => whnf)
    (conv => whnf); refine enter_mk (la := laE a l s) (LE.ok z) ?_ (by (repeat' (first | ((conv => whnf); first | refine ⟨?_, ?_⟩ | exact trivial | fail) | (dsimp only; done) | ((try dsimp only); first | with_reducible exact rfl | exact Nat.le_refl _ | with_reducible exact (fun _ _ => rfl)))); all_goals ((first | rfl | exact fun _ _ => rfl | (intro r hr; obtain rfl : r = 0 := (by omega); rfl) | decide | omega)))
    exact ⟨by show s.len ≤ 40; omega, hz.1, hz.2⟩
  · have hv := (by assumption : (laE a l s).inv (LE.ok v))
    (conv => whnf); refine enter_mk (la := laS a l s) ⟨0, 0, v.cap, v.cap2, v.y, fun _ => 0, fun _ => 0, fun _ => 0, fun _ => 0, fun _ => 0, fun _ => 0⟩ ?_ (by (repeat' (first | ((conv => whnf); first | refine ⟨?_, ?_⟩ | exact trivial | fail) | (dsimp only; done) | ((try dsimp only); first | with_reducible exact rfl | exact Nat.le_refl _ | with_reducible exact (fun _ _ => rfl)))); all_goals ((first | rfl | exact fun _ _ => rfl | (intro r hr; obtain rfl : r = 0 := (by omega); rfl) | decide | omega)))
    exact ⟨⟨Nat.zero_le _, hv.1, Nat.le_refl _⟩, hv.2, rfl, rfl⟩
  · skip
    have h1 := (by assumption : bits .and .i64 (stateV (cp l u.y) (s.g (0 + Int.toNat (u.i : Int)))) 1 = 0)
    rw [cp_state uy] at h1
    exact absurd (by assumption : (!(decide ((3 : Int) = 0) == decide (bits .and .i64 (stateV l (s.g (0 + Int.toNat (u.i : Int)))) 1 = 1))) = true) (by rw [h1]; decide)
  · skip
    have h1 := (by assumption : bits .and .i64 (stateV (cp l u.y) (s.g (0 + Int.toNat (u.i : Int)))) 1 = 0)
    rw [cp_state uy] at h1
    exact absurd h1 (fun h9 => by have h8 := (by assumption : bits .and .i64 (stateV l (s.g (0 + Int.toNat (u.i : Int)))) 1 = 1); rw [h9] at h8; exact absurd h8 (by decide))
  · (conv => whnf)
    (conv => whnf); refine enter_mk (la := laS a l s) ⟨u.i + 1, u.n, u.cap, u.cap2, u.y, _, _, _, _, _, _⟩ ?_ (by (repeat' (first | ((conv => whnf); first | refine ⟨?_, ?_⟩ | exact trivial | fail) | (dsimp only; done) | ((try dsimp only); first | with_reducible exact rfl | exact Nat.le_refl _ | with_reducible exact (fun _ _ => rfl)))); all_goals ((first | rfl | exact fun _ _ => rfl | (show s.len - (u.i + 1) < s.len - u.i; omega) | (dsimp only; rw [w64' (by omega) (by omega)]; omega))))
    refine ⟨⟨by show u.i + 1 ≤ s.len; omega, u40, by show u.n ≤ u.i + 1; omega⟩, ⟨uc, uy⟩, ?_, ?_⟩
    · exact ug0
    · show IntKind.i64.wrap (u.g3 0 + 1) = ((u.i + 1 : Nat) : Int) - (u.n : Int); rw [ug3, w64 (by omega)]; omega
  · skip
    have h0 := (by assumption : ¬ bits .and .i64 (stateV (cp l u.y) (s.g (0 + Int.toNat (u.i : Int)))) 1 = 0)
    rw [cp_state uy] at h0
    have h1 : bits .and .i64 (stateV l (s.g (0 + Int.toNat (u.i : Int)))) 1 = 1 := by rw [and1] at h0 ⊢; omega
    exact absurd (by assumption : (!(decide ((0 : Int) = 0) == decide (bits .and .i64 (stateV l (s.g (0 + Int.toNat (u.i : Int)))) 1 = 1))) = true) (by rw [h1]; decide)
  · (conv => whnf)
    (conv => whnf); refine enter_mk (la := laS a l s) ⟨u.i + 1, u.n + 1, u.cap, u.cap2, u.y, _, _, _, _, _, _⟩ ?_ (by (repeat' (first | ((conv => whnf); first | refine ⟨?_, ?_⟩ | exact trivial | fail) | (dsimp only; done) | ((try dsimp only); first | with_reducible exact rfl | exact Nat.le_refl _ | with_reducible exact (fun _ _ => rfl)))); all_goals ((first | rfl | exact fun _ _ => rfl | (show s.len - (u.i + 1) < s.len - u.i; omega) | (dsimp only; rw [w64' (by omega) (by omega)]; omega))))
    refine ⟨⟨by show u.i + 1 ≤ s.len; omega, u40, by show u.n + 1 ≤ u.i + 1; omega⟩, ⟨uc, uy⟩, ?_, ?_⟩
    · show IntKind.i64.wrap (u.g0 0 + 1) = ((u.n + 1 : Nat) : Int); rw [ug0, w64 (by omega)]; omega
    · show u.g3 0 = ((u.i + 1 : Nat) : Int) - ((u.n + 1 : Nat) : Int); rw [ug3]; omega
  · skip
    have h0 := (by assumption : ¬ bits .and .i64 (stateV (cp l u.y) (s.g (0 + Int.toNat (u.i : Int)))) 1 = 0)
    rw [cp_state uy] at h0
    have h1 : bits .and .i64 (stateV l (s.g (0 + Int.toNat (u.i : Int)))) 1 = 1 := by rw [and1] at h0 ⊢; omega
    exact absurd h1 (by assumption)
  · skip
    have h0 := (by assumption : ¬ bits .and .i64 (stateV (cp l u.y) (s.g (0 + Int.toNat (u.i : Int)))) 1 = 0)
    rw [cp_state uy] at h0
    have h1 : bits .and .i64 (stateV l (s.g (0 + Int.toNat (u.i : Int)))) 1 = 1 := by rw [and1] at h0 ⊢; omega
    exact absurd (by assumption : (!(decide ((0 : Int) = 0) == decide (bits .and .i64 (stateV l (s.g (0 + Int.toNat (u.i : Int)))) 1 = 1))) = true) (by rw [h1]; decide)
  · (conv => whnf)
    (conv => whnf); refine enter_mk (la := laS a l s) ⟨u.i + 1, u.n + 1, u.cap, u.cap2, u.y, _, _, _, _, _, _⟩ ?_ (by (repeat' (first | ((conv => whnf); first | refine ⟨?_, ?_⟩ | exact trivial | fail) | (dsimp only; done) | ((try dsimp only); first | with_reducible exact rfl | exact Nat.le_refl _ | with_reducible exact (fun _ _ => rfl)))); all_goals ((first | rfl | exact fun _ _ => rfl | (show s.len - (u.i + 1) < s.len - u.i; omega) | (dsimp only; rw [w64' (by omega) (by omega)]; omega))))
    refine ⟨⟨by show u.i + 1 ≤ s.len; omega, u40, by show u.n + 1 ≤ u.i + 1; omega⟩, ⟨uc, uy⟩, ?_, ?_⟩
    · show IntKind.i64.wrap (u.g0 0 + 1) = ((u.n + 1 : Nat) : Int); rw [ug0, w64 (by omega)]; omega
    · show u.g3 0 = ((u.i + 1 : Nat) : Int) - ((u.n + 1 : Nat) : Int); rw [ug3]; omega
  · skip
    have h0 := (by assumption : ¬ bits .and .i64 (stateV (cp l u.y) (s.g (0 + Int.toNat (u.i : Int)))) 1 = 0)
    rw [cp_state uy] at h0
    have h1 : bits .and .i64 (stateV l (s.g (0 + Int.toNat (u.i : Int)))) 1 = 1 := by rw [and1] at h0 ⊢; omega
    exact absurd h1 (by assumption)
  · have e : u.i = s.len := by omega
    refine (decide_eq_true (?_ : u.g3 0 = IntKind.i64.wrap ((s.len : Int) - u.n))).symm
    rw [ug3, w64 (by omega), e]
  · exact absurd ug0 (by assumption)

theorem own : ownKnob Try.prog.godebug = none := by kernel_rfl

set_option maxRecDepth 100000 in
theorem lifted (os : Os) (started : os.Started) (H : Type) (enc : TypeId × Value → H) :
    ReturnsInHanded {} Try.checked os 6 .any (Rows.sieveGatesSpec.pre6 enc Try.prog Try.f6 Rows.sieveGatesRow.domain false) (Rows.sieveGatesSpec.post enc Try.prog Try.f6 false true false false) := by
  refine returnsInHanded_of_change (C := Try.checked) own started (by kernel_rfl) Try.func6
    (ChangeSpec.witness6 (enc := enc) (C := Try.checked) false ⟨#[], #[.agg #[.int .i64 0, .int .i64 0, .int .u8 0, .int .u8 0, .int .u8 0, .int .u8 0, .int .u8 0, .int .u8 0, .bool false, .int .i64 0, .int .i64 0, .int .i64 0, .bool false, .int .i64 0], .agg #[.int .i64 0, .int .i64 0, .slice none 0 0], .slice none 0 0], []⟩ 8 (by kernel_rfl) (by kernel_rfl) (by kernel_rfl) (by kernel_rfl)) ?_
  intro W base args ds gs before hval0 hW hcnd _
  have hval : ∀ (j : Nat) t v, Try.f6.params[j]? = some t → args[j]? = some v → Value.okWide Try.prog W .any base t v := hval0
  have hW' := hW
  obtain ⟨p, q, hA0, hV, rfl, hfz, hnd⟩ := hW
  have hA : DataW.TrodAll enc Try.prog W 0 (fun _ => true) true Try.f6.params.toList args.toList ds p := hA0
  rw [Try.params6] at hA hval
  obtain ⟨v0, vs0, d0, ds0, p0, q0, hargs0, rfl, rfl, h0, r0⟩ := trodAll_cons hA
  obtain ⟨v1, vs1, d1, ds1, p1, q1, hargs1, rfl, rfl, h1, r1⟩ := trodAll_cons r0
  obtain ⟨v2, vs2, d2, ds2, p2, q2, hargs2, rfl, rfl, h2, r2⟩ := trodAll_cons r1
  obtain ⟨rfl, rfl, rfl⟩ := trodAll_nil r2
  obtain ⟨rfl, rfl⟩ := trodVars_none hV
  obtain rfl : args = #[v0, v1, v2] := by cases args; simp_all
  obtain ⟨cs0, hv0, hl0, hc0⟩ := agg_open (d := 6) (row := [some .i64, some .i64, some .u8, some .u8, some .u8, some .u8, some .u8, some .u8, none, some .i64, some .i64, some .i64, none, some .i64]) (by kernel_rfl) (by kernel_rfl) (hval 0 25 v0 rfl rfl) h0
  have g0_0 := listIs_of hl0 hc0
  clear hl0 hc0
  obtain ⟨_, cs0_1, rfl, ⟨b0_0, rfl, w0_0⟩, g0_1⟩ := listIs_cons g0_0
  obtain ⟨_, cs0_2, rfl, ⟨b0_1, rfl, w0_1⟩, g0_2⟩ := listIs_cons g0_1
  obtain ⟨_, cs0_3, rfl, ⟨b0_2, rfl, w0_2⟩, g0_3⟩ := listIs_cons g0_2
  obtain ⟨_, cs0_4, rfl, ⟨b0_3, rfl, w0_3⟩, g0_4⟩ := listIs_cons g0_3
  obtain ⟨_, cs0_5, rfl, ⟨b0_4, rfl, w0_4⟩, g0_5⟩ := listIs_cons g0_4
  obtain ⟨_, cs0_6, rfl, ⟨b0_5, rfl, w0_5⟩, g0_6⟩ := listIs_cons g0_5
  obtain ⟨_, cs0_7, rfl, ⟨b0_6, rfl, w0_6⟩, g0_7⟩ := listIs_cons g0_6
  obtain ⟨_, cs0_8, rfl, ⟨b0_7, rfl, w0_7⟩, g0_8⟩ := listIs_cons g0_7
  obtain ⟨_, cs0_9, rfl, ⟨b0_8, rfl⟩, g0_9⟩ := listIs_cons g0_8
  obtain ⟨_, cs0_10, rfl, ⟨b0_9, rfl, w0_9⟩, g0_10⟩ := listIs_cons g0_9
  obtain ⟨_, cs0_11, rfl, ⟨b0_10, rfl, w0_10⟩, g0_11⟩ := listIs_cons g0_10
  obtain ⟨_, cs0_12, rfl, ⟨b0_11, rfl, w0_11⟩, g0_12⟩ := listIs_cons g0_11
  obtain ⟨_, cs0_13, rfl, ⟨b0_12, rfl⟩, g0_13⟩ := listIs_cons g0_12
  obtain ⟨_, cs0_14, rfl, ⟨b0_13, rfl, w0_13⟩, g0_14⟩ := listIs_cons g0_13
  obtain rfl := listIs_nil g0_14
  subst hv0
  obtain ⟨A2, n2, c2, s2⟩ := slice_open (d := 6) (row := [some .i64]) Try.underlying47 (by kernel_rfl) (by kernel_rfl) (hval 2 47 v2 rfl rfl) h2
  obtain ⟨cs1, hv1, hl1, hc1⟩ := mix_agg (d := 6) (ss := [.num (some .i64), .num (some .i64), .sl [some .i64, some .i64]]) Try.underlying46 (by kernel_rfl) (by kernel_rfl) (hval 1 46 v1 rfl rfl) h1
  have g1_0 := listMix_of hl1 hc1
  clear hl1 hc1
  obtain ⟨_, cs1_1, rfl, ⟨b1_0, rfl, w1_0⟩, g1_1⟩ := listMix_cons g1_0
  obtain ⟨_, cs1_2, rfl, ⟨b1_1, rfl, w1_1⟩, g1_2⟩ := listMix_cons g1_1
  obtain ⟨u1_2, cs1_3, rfl, ⟨A1_2, n1_2, c1_2, s1_2⟩, g1_3⟩ := listMix_cons g1_2
  obtain rfl := listMix_nil g1_3
  subst hv1
  refine Calls.mono (law_calls mixed Try.func6 (runs ⟨b0_0, b0_1, b0_2, b0_3, b0_4, b0_5, b0_6, b0_7, b0_8, b0_9, b0_10, b0_11, b0_12, b0_13⟩ ⟨b1_0, b1_1, n1_2, c1_2, n1_2, fun r => intC W A1_2 (r * 2 + 0), fun r => intC W A1_2 (r * 2 + 1)⟩ ⟨n2, c2, n2, fun r => intC W A2 (r * 1 + 0)⟩ (gw_of w1_0 w1_1 s1_2) ⟨s2.le, Nat.le_refl _, s2.max⟩) (e := envOf [A1_2, A2]) (rel_in2 s1_2.reg s2.reg) (Nat.le_refl 2) (by rw [s1_2.val, s2.val]; exact (den_on (x := ⟨b0_0, b0_1, b0_2, b0_3, b0_4, b0_5, b0_6, b0_7, b0_8, b0_9, b0_10, b0_11, b0_12, b0_13⟩)).symm)) fun e W' ⟨he, hb⟩ => ?_
  subst he
  exact ⟨_, rfl, law_post hW' rfl rfl (by kernel_rfl) (by decide +kernel) rfl Try.underlying4 hb⟩

theorem over : Rows.sieveGatesRow.holds Try.pinned (OpenSpec.ofChange Rows.sieveGatesSpec) :=
  OpenClaim.holds_of_wide 6 Try.f6 rfl rfl rfl rfl rfl rfl rfl ⟨rfl, rfl, rfl, rfl, rfl⟩ rfl rfl rfl rfl rfl (by kernel_rfl) Try.func6 (by kernel_rfl)
    (of_decide_eq_true (by kernel_rfl)) (by unfold Func.isWrapper; first | (rw [if_pos (by decide +kernel)]; kernel_rfl) | (rw [if_neg (by decide +kernel)]; exact ⟨rfl, rfl⟩))
    (fun os started H enc _ => lifted os started H enc)

/-- SieveGates -/
theorem proved : Rows.SieveGatesSaid := over
#print axioms proved
end Go.Proofs.Ytmhggafgdilgeaa.sieveGates
