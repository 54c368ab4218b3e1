/-
  For every setup, time and row of numbers the law SeqrRuns answers true and leaves all memory as it was.
-/
import Derived.Test.YtlhlegjndembdaaSx
import Derived.Test.YtlhlegjndembdaaSeqN
import Derived.Test.YtlhlegjndembdaaSeqL
import Derived.Test.YtlhlegjndembdaaSeqA
import Derived.Test.YtlhlegjndembdaaSeqB
import Derived.Test.YtlhlegjndembdaaSeqC
import Derived.Test.YtlhlegjndembdaaSeqO
import Derived.Test.YtlhlegjndembdaaSeqP
import Derived.Test.YtlhlegjndembdaaSeqQ
import Derived.Test.YtlhlegjndembdaaRows
import Derived.WalkKit
import Derived.ProofKit
import Derived.OpenShut
namespace Go.Proofs.Ytlhlegjndembdaa.seqrRuns
open Go.ChangeShapes Go.WideShapes Go.ChangeAt Go.RowKit Go.Sx
set_option linter.unusedVariables false
set_option linter.unusedSimpArgs false
set_option maxRecDepth 100000

theorem i6_of {n : Int} (h : (Lit.int .i64 n).wf = true) : I6 n := i64_of h
theorem no_a {p : Prop} [Decidable p] (h : p) (h2 : (!decide p) = true) : False := by rw [decide_eq_true h] at h2; cases h2
theorem no_b {p : Prop} [Decidable p] (h : ¬ p) (h2 : (!decide p) = false) : False := by rw [decide_eq_false h] at h2; cases h2
theorem lok_up {y : LS} {m n : Nat} (h : LOK y m) (hm : m ≤ n) : LOK y n := ⟨h.1, h.2.1, Nat.le_trans h.2.2.1 hm, h.2.2.2⟩
theorem lst_new {s : Sq} {N : Int → Bool} {g : Nat → Int} {n : Nat} (h : LstS s N) (e : ∀ k, hasN g n k = N k) : LstS s (hasN g n) := by rw [show hasN g n = N from funext e]; exact h
theorem anew_ok {s : Sq} (h : SqOK s) : SqOK s.anew := ⟨h.way, h.len, h.reset, h.last, h.wen⟩
structure ST where
  len : Nat
  cap : Nat
  N : Nat
  f : Nat → Int
  g : Nat → Int
def roT (a : ST) : Option Reg := some ⟨false, .tab a.N [.int .i64 a.f, .int .i64 a.g]⟩
def Tw (a : ST) : Prop := a.len ≤ a.cap ∧ a.len ≤ a.N ∧ a.cap ≤ 9223372036854775807 ∧ ∀ i, i < a.len → I6 (a.f i)
theorem eq46 : EqOK Try.prog 46 := by unfold EqOK; kernel_rfl
def cfV (c : Int × Int × Int) : SV := .one (.agg [i_ c.1, i_ c.2.1, i_ c.2.2])
theorem den_sr {x y z t : Int} {A : Option Addr} {n cap : Nat} : #[(cfV (x, y, z)).den (envOf [A]), SV.den (envOf [A]) (int_ .i64 t), SV.den (envOf [A]) (.one (.a (.slc 0 2 0 n cap)))] = #[.agg #[.int .i64 x, .int .i64 y, .int .i64 z], .int .i64 t, .slice A n cap] := by
  show #[Value.agg _, _, SA.den (envOf [A]) (.slc 0 2 0 n cap)] = _
  rw [den_slc (A := A) rfl]; rfl
/-! nothing at all -/
def nil_ : SV := .one (.a (.v (.pointer none)))
theorem inN_runs (x : Int × Int) (_ : obp (some True)) : Runs cx00 Try.f17 [nil_, int_ .i64 x.1, int_ .i64 x.2] [] fun v _ => isRes (.tup [.a (i_ 2), .a (i_ 1)]) v := by
  repeat' (first | with_reducible exact trivial | with_reducible exact rfl | with_reducible exact Nat.le_refl _ | with_reducible exact (fun _ _ => rfl) | ((conv => whnf); first | (refine fun _ => ?_) | refine ⟨?_, ?_⟩ | exact trivial | exact Nat.le_refl _ | exact lex_q (by kernel_rfl) | exact lex_t (by kernel_rfl) | exact lex_h (by kernel_rfl) | fail))
noncomputable def inN : PSpec Try.prog := pureSpec fn17 cx00 rfl (Int × Int) (fun l => match l with | [.one (.a (.v (.pointer none))), .one (.a (.v (.int .i64 n))), .one (.a (.v (.int .i64 k)))] => some (n, k) | _ => none) (fun x => [nil_, int_ .i64 x.1, int_ .i64 x.2]) (fun _ => some True) (fun _ => .tup [.a (i_ 2), .a (i_ 1)]) (fun l x h => by
  split at h
  · cases h; rfl
  · cases h) (fun _ => rfl) (fun _ => rfl) inN_runs
def nilIn (l : List SV) : Option Unit := match l with | [.one (.a (.v (.pointer none)))] => some () | _ => none
theorem nilIn_ok (l : List SV) (x : Unit) (h : nilIn l = some x) : l = [nil_] := by
  unfold nilIn at h
  split at h
  · rfl
  · cases h
theorem resetN_runs (_ : Unit) (_ : obp (some True)) : Runs cx00 Try.f19 [nil_] [] fun v _ => isRes (.tup []) v := by
  repeat' (first | with_reducible exact trivial | with_reducible exact rfl | with_reducible exact Nat.le_refl _ | with_reducible exact (fun _ _ => rfl) | ((conv => whnf); first | (refine fun _ => ?_) | refine ⟨?_, ?_⟩ | exact trivial | exact Nat.le_refl _ | exact lex_q (by kernel_rfl) | exact lex_t (by kernel_rfl) | exact lex_h (by kernel_rfl) | fail))
noncomputable def resetN : PSpec Try.prog := pureSpec fn19 cx00 rfl Unit nilIn (fun _ => [nil_]) (fun _ => some True) (fun _ => .tup []) nilIn_ok (fun _ => rfl) (fun _ => rfl) resetN_runs
theorem countsN_runs (_ : Unit) (_ : obp (some True)) : Runs cx00 Try.f20 [nil_] [] fun v _ => isRes (.one (.agg [i_ 0, i_ 0, i_ 0, i_ 0])) v := by
  repeat' (first | with_reducible exact trivial | with_reducible exact rfl | with_reducible exact Nat.le_refl _ | with_reducible exact (fun _ _ => rfl) | ((conv => whnf); first | (refine fun _ => ?_) | refine ⟨?_, ?_⟩ | exact trivial | exact Nat.le_refl _ | exact lex_q (by kernel_rfl) | exact lex_t (by kernel_rfl) | exact lex_h (by kernel_rfl) | fail))
noncomputable def countsN : PSpec Try.prog := pureSpec fn20 cx00 rfl Unit nilIn (fun _ => [nil_]) (fun _ => some True) (fun _ => .one (.agg [i_ 0, i_ 0, i_ 0, i_ 0])) nilIn_ok (fun _ => rfl) (fun _ => rfl) countsN_runs
theorem lostN_runs (_ : Unit) (_ : obp (some True)) : Runs cx00 Try.f21 [nil_] [] fun v _ => isRes (int_ .i64 0) v := by
  repeat' (first | with_reducible exact trivial | with_reducible exact rfl | with_reducible exact Nat.le_refl _ | with_reducible exact (fun _ _ => rfl) | ((conv => whnf); first | (refine fun _ => ?_) | refine ⟨?_, ?_⟩ | exact trivial | exact Nat.le_refl _ | exact lex_q (by kernel_rfl) | exact lex_t (by kernel_rfl) | exact lex_h (by kernel_rfl) | fail))
noncomputable def lostN : PSpec Try.prog := pureSpec fn21 cx00 rfl Unit nilIn (fun _ => [nil_]) (fun _ => some True) (fun _ => int_ .i64 0) nilIn_ok (fun _ => rfl) (fun _ => rfl) lostN_runs
theorem resetsN_runs (_ : Unit) (_ : obp (some True)) : Runs cx00 Try.f22 [nil_] [] fun v _ => isRes (int_ .i64 0) v := by
  repeat' (first | with_reducible exact trivial | with_reducible exact rfl | with_reducible exact Nat.le_refl _ | with_reducible exact (fun _ _ => rfl) | ((conv => whnf); first | (refine fun _ => ?_) | refine ⟨?_, ?_⟩ | exact trivial | exact Nat.le_refl _ | exact lex_q (by kernel_rfl) | exact lex_t (by kernel_rfl) | exact lex_h (by kernel_rfl) | fail))
noncomputable def resetsN : PSpec Try.prog := pureSpec fn22 cx00 rfl Unit nilIn (fun _ => [nil_]) (fun _ => some True) (fun _ => int_ .i64 0) nilIn_ok (fun _ => rfl) (fun _ => rfl) resetsN_runs
/-! the walk -/
def s0 (s : Sq) : Sq := { s with had := 0 }
theorem rW_had (s : Sq) (P : Int → Bool) (now q : Int) : rW (s0 s) P now q = { rW s P now q with s := { (rW s P now q).s with had := 0 } } := by
  have e : ∀ n, lgR (s0 s) n ↔ lgR s n := fun _ => Iff.rfl
  unfold rW
  simp only [e]
  unfold s0
  dsimp only
  repeat' split
  all_goals rfl
theorem ok0 {s : Sq} (h : SqOK s) : SqOK (s0 s) := ⟨h.way, h.len, h.reset, h.last, h.wen⟩
structure NS where
  i : Nat
  s : Sq
structure LT where
  i : Nat
  s : Sq
  y : LS
inductive LX where
  | n (x : NS)
  | l (x : LT)
def hasZ : Int → Bool := hasN (fun _ => 0) 0
def lixc (S : St) : List Nat := match S.m[S.ix 11]? with | some (some ⟨_, .flat l⟩) => (match (l[5]? : Option SA) with | some (.slc i _ _ _ _) => [i] | _ => []) | _ => []
abbrev laR (st : ST) : LA where
  ι := LX
  inv := fun x => match x with
    | .n x => (x.i ≤ st.len ∧ st.len ≤ 100) ∧ SqOK x.s ∧ NilS x.s
    | .l x => (x.i ≤ st.len ∧ st.len ≤ 100) ∧ SqOK x.s ∧ LstS x.s (hasN x.y.g x.y.len) ∧ LOK x.y (x.i + 1)
  T := fun x => match x with
    | .n x => ⟨153, [(7, .one (.a (.ptr 1 0))), (11, .one (.a (.ptr 2 0))), (90, .one (.a (.slc 0 2 0 st.len st.cap))), (91, int_ .i64 st.len), (92, int_ .i64 x.i)], [roT st, some ⟨true, .flat x.s.cells⟩, some ⟨true, .flat (rsC x.s nil1)⟩]⟩
    | .l x => ⟨153, [(7, .one (.a (.ptr 1 0))), (11, .one (.a (.ptr 2 0))), (90, .one (.a (.slc 0 2 0 st.len st.cap))), (91, int_ .i64 st.len), (92, int_ .i64 x.i)], [roT st, some ⟨true, .flat x.s.cells⟩, some ⟨true, .flat (rsC x.s (.slc 3 1 0 x.y.len x.y.cap))⟩, rwI x.y.cap x.y.g]⟩
  μ := fun x => match x with | .n x => st.len - x.i | .l x => st.len - x.i
  ren := fun S => [0, S.ix 7, S.ix 11] ++ lixc S
noncomputable def cxL (st : ST) : Cx Try.prog := { ps := [hdS, chkCS, countsS, lostS, resetsS, inN, resetN, countsN, lostN, resetsN, rrightS], es := [inS, resetS, rinS], is := [inl fn15 cxNew, inl fn24 cx00, inl fn25 cx00], n0 := 1, loops := fun i => match i with | 14 => some (.inv (laR st)) | _ => none, cuts := fun _ => none, held := fun i => match i with | 22 => some (true, .take 0 (.take 1 (.take 2 (.take 3 (.take 4 (.take 5 (.take 6 (.take 7 (.take 8 (.take 9 (.take 11 (.take 12 (.one 10 (.take 13 (.take 14 (.take 15 (.take 16 (.take 18 (.take 19 (.one 17 (.take 20 (.take 21 (.take 22 (.take 23 (.take 25 (.take 26 (.one 24 (.take 27 (.take 28 .done))))))))))))))))))))))))))))) | _ => none }
section
attribute [local irreducible] enter anyAlt Lex HeldOK
set_option maxHeartbeats 16000000 in
theorem runs (c : Int × Int × Int) (st : ST) (now : Int) (hw : Tw st) (hn : I6 now) : Runs (cxL st) Try.f8 [cfV c, int_ .i64 now, .one (.a (.slc 0 2 0 st.len st.cap))] [roT st] yes := by
  obtain ⟨w1, w2, w3, w4⟩ := hw
  repeat' (first | with_reducible exact trivial | with_reducible exact rfl | with_reducible exact Nat.le_refl _ | with_reducible exact (fun _ _ => rfl) | ((conv => whnf); first | ((refine fun (x : LX) => ?_); rcases x with x | x) | (refine fun (y : LS) => ?_) | (exact fun h => absurd h (by decide)) | (refine fun _ => ?_) | refine ⟨?_, ?_⟩ | exact trivial | exact Nat.le_refl _ | exact lex_q (by kernel_rfl) | exact lex_t (by kernel_rfl) | exact lex_h (by kernel_rfl) | fail))
  all_goals (try exact eq46)
  all_goals (try exact (decide_eq_true rfl).symm)
  all_goals (try exact absurd (by assumption : (!true) = true) (by decide))
  all_goals (try (have hc' : ¬ CfOK c := fun h9 => (by assumption : ¬ chkC c = 0) (chkC_0 h9)))
  all_goals (try exact (no_b hc' (by assumption)).elim)
  all_goals (try (have hc := cf_of (by assumption : ¬ ¬ chkC c = 0)))
  all_goals (try exact (no_a hc (by assumption)).elim)
  all_goals (try exact absurd (chkC_1 hc') (by assumption))
  all_goals (try exact absurd rfl (by assumption))
  all_goals (try (exfalso; omega))
  all_goals (try (have hi := (by assumption : (laR st).inv (.n x)); dsimp only [laR] at hi; obtain ⟨⟨i1, i80⟩, i2, i3⟩ := hi))
  all_goals (try (have hi := (by assumption : (laR st).inv (.l x)); dsimp only [laR] at hi; obtain ⟨⟨i1, i80⟩, i2, i3, i4⟩ := hi))
  all_goals (try dsimp only [laR, cutR, cutL, id] at *)
  all_goals (try simp only [Int.toNat_natCast, Nat.zero_add] at *)
  all_goals (try omega)
  all_goals (try (have y1 := i2.len))
  all_goals (try omega)
  all_goals (try exact ⟨ok0 i2, w4 x.i (by omega), fun i hi => absurd hi (Nat.not_lt_zero i), (by decide : (0 : Nat) ≤ 1000), ⟨(by decide : (0 : Nat) ≤ 0), (by decide : (0 : Nat) ≤ 0), (by decide : (0 : Nat) ≤ 9223372036854775807)⟩⟩)
  all_goals (try exact ⟨ok0 i2, w4 x.i (by omega), i4.2.2.2, Nat.le_trans i4.2.2.1 (by omega), ⟨i4.1, Nat.le_trans i4.1 (Nat.le_refl _), i4.2.1⟩⟩)
  all_goals (try (have hg0 := goes i2 (w4 x.i (by omega)) (q := st.g x.i) (.inl i3) (P := hasZ); obtain ⟨b, hg⟩ := hg0))
  all_goals (try (have hg0 := goes i2 (w4 x.i (by omega)) (q := st.g x.i) (.inr i3) (P := hasN x.y.g x.y.len); obtain ⟨b, hg⟩ := hg0))
  all_goals (try (have eqO : rO ((s0 x.s, ⟨0, 0, 0, fun _ => 0⟩), st.f x.i, st.g x.i) = _ := rW_had x.s hasZ (st.f x.i) (st.g x.i); dsimp only [s0] at eqO))
  all_goals (try (have eqO : rO ((s0 x.s, ⟨x.y.len, x.y.cap, x.y.cap - 0, fun r => x.y.g (r + 0)⟩), st.f x.i, st.g x.i) = _ := rW_had x.s (hasN x.y.g x.y.len) (st.f x.i) (st.g x.i); dsimp only [s0] at eqO))
  all_goals (try (have eqI := hg.eq))
  all_goals (try (have eqO2 := eqO; simp only [eqO2] at *))
  all_goals (try simp only [sq_eta] at *)
  all_goals (try (have eqI2 := eqI; simp only [eqI2] at *))
  all_goals (try exact absurd trivial (by assumption : ¬ True))
  all_goals (try exact absurd (by assumption : (!(decide True && (decide True && (decide True && (decide True && true))))) = true) (by decide))
  all_goals (try (have eqL : rO ((s0 x.s, ⟨x.y.len, x.y.cap, x.y.cap - 0, fun r => x.y.g (r + 0)⟩), st.f x.i, st.g x.i) = _ := rW_had x.s (hasN x.y.g x.y.len) (st.f x.i) (st.g x.i); dsimp only [s0] at eqL))
  all_goals (try (have eqN : rO ((s0 x.s, ⟨0, 0, 0, fun _ => 0⟩), st.f x.i, st.g x.i) = _ := rW_had x.s hasZ (st.f x.i) (st.g x.i); dsimp only [s0] at eqN))
  all_goals (try (have hlt : x.i < st.len := by omega))
  any_goals first
    | (refine enter_mk (la := laR st) (LX.n ⟨0, sq0 c.1 c.2.1 c.2.2 now⟩) ?_ (by (repeat' (first | ((conv => whnf); first | refine ⟨?_, ?_⟩ | exact trivial | fail) | (dsimp only; done) | ((try dsimp only); first | with_reducible exact rfl | exact Nat.le_refl _ | with_reducible exact (fun _ _ => rfl)))); first | ((all_goals ((try dsimp only [laR] at *); (all_goals (try simp (disch := omega) only [w64', wu64', tdiv_pos, tmod_pos, Int.toNat_natCast, Nat.zero_add] at *)); (all_goals ((first | rfl | omega | (rw [w64' (by omega) (by omega)]; omega) | (simp only [sq_eta, eqN, hg.eq]; done) | (simp only [sq_eta, eqL, hg.eq]; done)))))); done) | fail))
    | (refine enter_mk (la := laR st) (LX.n ⟨x.i + 1, x.s.anew⟩) ?_ (by (repeat' (first | ((conv => whnf); first | refine ⟨?_, ?_⟩ | exact trivial | fail) | (dsimp only; done) | ((try dsimp only); first | with_reducible exact rfl | exact Nat.le_refl _ | with_reducible exact (fun _ _ => rfl)))); first | ((all_goals ((try dsimp only [laR] at *); (all_goals (try simp (disch := omega) only [w64', wu64', tdiv_pos, tmod_pos, Int.toNat_natCast, Nat.zero_add] at *)); (all_goals ((first | rfl | omega | (rw [w64' (by omega) (by omega)]; omega) | (simp only [sq_eta, eqN, hg.eq]; done) | (simp only [sq_eta, eqL, hg.eq]; done)))))); done) | fail))
    | (refine enter_mk (la := laR st) (LX.n ⟨x.i + 1, Sq.mk (rW x.s hasZ (st.f x.i) (st.g x.i)).s.way (rW x.s hasZ (st.f x.i) (st.g x.i)).s.len (rW x.s hasZ (st.f x.i) (st.g x.i)).s.reset (rW x.s hasZ (st.f x.i) (st.g x.i)).s.any (rW x.s hasZ (st.f x.i) (st.g x.i)).s.last b (rW x.s hasZ (st.f x.i) (st.g x.i)).s.wen (rW x.s hasZ (st.f x.i) (st.g x.i)).s.k0 (rW x.s hasZ (st.f x.i) (st.g x.i)).s.k1 (rW x.s hasZ (st.f x.i) (st.g x.i)).s.k2 (rW x.s hasZ (st.f x.i) (st.g x.i)).s.k3 (rW x.s hasZ (st.f x.i) (st.g x.i)).s.resets (rW x.s hasZ (st.f x.i) (st.g x.i)).s.lost⟩) ?_ (by (repeat' (first | ((conv => whnf); first | refine ⟨?_, ?_⟩ | exact trivial | fail) | (dsimp only; done) | ((try dsimp only); first | with_reducible exact rfl | exact Nat.le_refl _ | with_reducible exact (fun _ _ => rfl)))); first | ((all_goals ((try dsimp only [laR] at *); (all_goals (try simp (disch := omega) only [w64', wu64', tdiv_pos, tmod_pos, Int.toNat_natCast, Nat.zero_add] at *)); (all_goals ((first | rfl | omega | (rw [w64' (by omega) (by omega)]; omega) | (simp only [sq_eta, eqN, hg.eq]; done) | (simp only [sq_eta, eqL, hg.eq]; done)))))); done) | fail))
    | (refine enter_mk (la := laR st) (LX.l ⟨x.i + 1, Sq.mk (rW x.s hasZ (st.f x.i) (st.g x.i)).s.way (rW x.s hasZ (st.f x.i) (st.g x.i)).s.len (rW x.s hasZ (st.f x.i) (st.g x.i)).s.reset (rW x.s hasZ (st.f x.i) (st.g x.i)).s.any (rW x.s hasZ (st.f x.i) (st.g x.i)).s.last b (rW x.s hasZ (st.f x.i) (st.g x.i)).s.wen (rW x.s hasZ (st.f x.i) (st.g x.i)).s.k0 (rW x.s hasZ (st.f x.i) (st.g x.i)).s.k1 (rW x.s hasZ (st.f x.i) (st.g x.i)).s.k2 (rW x.s hasZ (st.f x.i) (st.g x.i)).s.k3 (rW x.s hasZ (st.f x.i) (st.g x.i)).s.resets (rW x.s hasZ (st.f x.i) (st.g x.i)).s.lost, y⟩) ?_ (by (repeat' (first | ((conv => whnf); first | refine ⟨?_, ?_⟩ | exact trivial | fail) | (dsimp only; done) | ((try dsimp only); first | with_reducible exact rfl | exact Nat.le_refl _ | with_reducible exact (fun _ _ => rfl)))); first | ((all_goals ((try dsimp only [laR] at *); (all_goals (try simp (disch := omega) only [w64', wu64', tdiv_pos, tmod_pos, Int.toNat_natCast, Nat.zero_add] at *)); (all_goals ((first | rfl | omega | (rw [w64' (by omega) (by omega)]; omega) | (simp only [sq_eta, eqN, hg.eq]; done) | (simp only [sq_eta, eqL, hg.eq]; done)))))); done) | fail))
    | (refine enter_mk (la := laR st) (LX.l ⟨x.i + 1, Sq.mk (rW x.s (hasN x.y.g x.y.len) (st.f x.i) (st.g x.i)).s.way (rW x.s (hasN x.y.g x.y.len) (st.f x.i) (st.g x.i)).s.len (rW x.s (hasN x.y.g x.y.len) (st.f x.i) (st.g x.i)).s.reset (rW x.s (hasN x.y.g x.y.len) (st.f x.i) (st.g x.i)).s.any (rW x.s (hasN x.y.g x.y.len) (st.f x.i) (st.g x.i)).s.last b (rW x.s (hasN x.y.g x.y.len) (st.f x.i) (st.g x.i)).s.wen (rW x.s (hasN x.y.g x.y.len) (st.f x.i) (st.g x.i)).s.k0 (rW x.s (hasN x.y.g x.y.len) (st.f x.i) (st.g x.i)).s.k1 (rW x.s (hasN x.y.g x.y.len) (st.f x.i) (st.g x.i)).s.k2 (rW x.s (hasN x.y.g x.y.len) (st.f x.i) (st.g x.i)).s.k3 (rW x.s (hasN x.y.g x.y.len) (st.f x.i) (st.g x.i)).s.resets (rW x.s (hasN x.y.g x.y.len) (st.f x.i) (st.g x.i)).s.lost, x.y⟩) ?_ (by (repeat' (first | ((conv => whnf); first | refine ⟨?_, ?_⟩ | exact trivial | fail) | (dsimp only; done) | ((try dsimp only); first | with_reducible exact rfl | exact Nat.le_refl _ | with_reducible exact (fun _ _ => rfl)))); first | ((all_goals ((try dsimp only [laR] at *); (all_goals (try simp (disch := omega) only [w64', wu64', tdiv_pos, tmod_pos, Int.toNat_natCast, Nat.zero_add] at *)); (all_goals ((first | rfl | omega | (rw [w64' (by omega) (by omega)]; omega) | (simp only [sq_eta, eqN, hg.eq]; done) | (simp only [sq_eta, eqL, hg.eq]; done)))))); done) | fail))
    | (refine enter_mk (la := laR st) (LX.n ⟨x.i + 1, Sq.mk (rW x.s (hasN x.y.g x.y.len) (st.f x.i) (st.g x.i)).s.way (rW x.s (hasN x.y.g x.y.len) (st.f x.i) (st.g x.i)).s.len (rW x.s (hasN x.y.g x.y.len) (st.f x.i) (st.g x.i)).s.reset (rW x.s (hasN x.y.g x.y.len) (st.f x.i) (st.g x.i)).s.any (rW x.s (hasN x.y.g x.y.len) (st.f x.i) (st.g x.i)).s.last b (rW x.s (hasN x.y.g x.y.len) (st.f x.i) (st.g x.i)).s.wen (rW x.s (hasN x.y.g x.y.len) (st.f x.i) (st.g x.i)).s.k0 (rW x.s (hasN x.y.g x.y.len) (st.f x.i) (st.g x.i)).s.k1 (rW x.s (hasN x.y.g x.y.len) (st.f x.i) (st.g x.i)).s.k2 (rW x.s (hasN x.y.g x.y.len) (st.f x.i) (st.g x.i)).s.k3 (rW x.s (hasN x.y.g x.y.len) (st.f x.i) (st.g x.i)).s.resets (rW x.s (hasN x.y.g x.y.len) (st.f x.i) (st.g x.i)).s.lost⟩) ?_ (by (repeat' (first | ((conv => whnf); first | refine ⟨?_, ?_⟩ | exact trivial | fail) | (dsimp only; done) | ((try dsimp only); first | with_reducible exact rfl | exact Nat.le_refl _ | with_reducible exact (fun _ _ => rfl)))); first | ((all_goals ((try dsimp only [laR] at *); (all_goals (try simp (disch := omega) only [w64', wu64', tdiv_pos, tmod_pos, Int.toNat_natCast, Nat.zero_add] at *)); (all_goals ((first | rfl | omega | (rw [w64' (by omega) (by omega)]; omega) | (simp only [sq_eta, eqN, hg.eq]; done) | (simp only [sq_eta, eqL, hg.eq]; done)))))); done) | fail))
    | (refine enter_mk (la := laR st) (LX.l ⟨x.i + 1, Sq.mk (rW x.s (hasN x.y.g x.y.len) (st.f x.i) (st.g x.i)).s.way (rW x.s (hasN x.y.g x.y.len) (st.f x.i) (st.g x.i)).s.len (rW x.s (hasN x.y.g x.y.len) (st.f x.i) (st.g x.i)).s.reset (rW x.s (hasN x.y.g x.y.len) (st.f x.i) (st.g x.i)).s.any (rW x.s (hasN x.y.g x.y.len) (st.f x.i) (st.g x.i)).s.last b (rW x.s (hasN x.y.g x.y.len) (st.f x.i) (st.g x.i)).s.wen (rW x.s (hasN x.y.g x.y.len) (st.f x.i) (st.g x.i)).s.k0 (rW x.s (hasN x.y.g x.y.len) (st.f x.i) (st.g x.i)).s.k1 (rW x.s (hasN x.y.g x.y.len) (st.f x.i) (st.g x.i)).s.k2 (rW x.s (hasN x.y.g x.y.len) (st.f x.i) (st.g x.i)).s.k3 (rW x.s (hasN x.y.g x.y.len) (st.f x.i) (st.g x.i)).s.resets (rW x.s (hasN x.y.g x.y.len) (st.f x.i) (st.g x.i)).s.lost, y⟩) ?_ (by (repeat' (first | ((conv => whnf); first | refine ⟨?_, ?_⟩ | exact trivial | fail) | (dsimp only; done) | ((try dsimp only); first | with_reducible exact rfl | exact Nat.le_refl _ | with_reducible exact (fun _ _ => rfl)))); first | ((all_goals ((try dsimp only [laR] at *); (all_goals (try simp (disch := omega) only [w64', wu64', tdiv_pos, tmod_pos, Int.toNat_natCast, Nat.zero_add] at *)); (all_goals ((first | rfl | omega | (rw [w64' (by omega) (by omega)]; omega) | (simp only [sq_eta, eqN, hg.eq]; done) | (simp only [sq_eta, eqL, hg.eq]; done)))))); done) | fail))
    | skip
  any_goals first
    | exact ⟨⟨Nat.zero_le _, by omega⟩, ⟨hc.1, hc.2.1, hc.2.2, (show (0 : Int) ≤ 0 ∧ (0 : Int) ≤ 65535 from by decide), hn⟩, .inr rfl⟩
    | exact ⟨⟨Nat.succ_le_of_lt hlt, i80⟩, anew_ok i2, .inr rfl⟩
    | exact ⟨⟨Nat.succ_le_of_lt hlt, i80⟩, hg.ok, (hg.keep (by assumption)).1 i3⟩
    | exact ⟨⟨Nat.succ_le_of_lt hlt, i80⟩, hg.ok, (hg.keep (by assumption)).2 i3, lok_up i4 (Nat.le_succ _)⟩
    | exact ⟨⟨Nat.succ_le_of_lt hlt, i80⟩, hg.ok, hg.nil (by assumption)⟩
    | (have hd : (rW x.s hasZ (st.f x.i) (st.g x.i)).kind = 2 ∧ LOK y 1 ∧ ∀ k, hasN y.g y.len k = (rW x.s hasZ (st.f x.i) (st.g x.i)).N k := by assumption
       exact ⟨⟨Nat.succ_le_of_lt hlt, i80⟩, hg.ok, lst_new (hg.new hd.1) hd.2.2, lok_up hd.2.1 (Nat.succ_le_succ (Nat.zero_le _))⟩)
    | (have hd : (rW x.s (hasN x.y.g x.y.len) (st.f x.i) (st.g x.i)).kind = 2 ∧ LOK y (x.y.len + 1) ∧ ∀ k, hasN y.g y.len k = (rW x.s (hasN x.y.g x.y.len) (st.f x.i) (st.g x.i)).N k := by assumption
       exact ⟨⟨Nat.succ_le_of_lt hlt, i80⟩, hg.ok, lst_new (hg.new hd.1) hd.2.2, lok_up hd.2.1 (Nat.succ_le_succ i4.2.2.1)⟩)
    | skip
end

theorem own : ownKnob Try.prog.godebug = none := by kernel_rfl

set_option maxRecDepth 100000 in
theorem lifted (os : Os) (started : os.Started) (H : Type) (enc : TypeId × Value → H) :
    ReturnsInHanded {} Try.checked os 8 .any (Rows.seqrRunsSpec.pre6 enc Try.prog Try.f8 Rows.seqrRunsRow.domain false) (Rows.seqrRunsSpec.post enc Try.prog Try.f8 false true false false) := by
  refine returnsInHanded_of_change (C := Try.checked) own started (by kernel_rfl) Try.func8
    (ChangeSpec.witness6 (enc := enc) (C := Try.checked) false ⟨#[], #[.agg #[.int .i64 0, .int .i64 0, .int .i64 0], .int .i64 0, .slice none 0 0], []⟩ 8 (by kernel_rfl) (by kernel_rfl) (by kernel_rfl) (by kernel_rfl)) ?_
  intro W base args ds gs before hval0 hW hcnd _
  have hval : ∀ (j : Nat) t v, Try.f8.params[j]? = some t → args[j]? = some v → Value.okWide Try.prog W .any base t v := hval0
  have hW' := hW
  obtain ⟨p, q, hA0, hV, rfl, hfz, hnd⟩ := hW
  have hA : DataW.TrodAll enc Try.prog W 0 (fun _ => true) true Try.f8.params.toList args.toList ds p := hA0
  rw [Try.params8] at hA hval
  obtain ⟨v0, vs0, d0, ds0, p0, q0, hargs0, rfl, rfl, h0, r0⟩ := trodAll_cons hA
  obtain ⟨v1, vs1, d1, ds1, p1, q1, hargs1, rfl, rfl, h1, r1⟩ := trodAll_cons r0
  obtain ⟨v2, vs2, d2, ds2, p2, q2, hargs2, rfl, rfl, h2, r2⟩ := trodAll_cons r1
  obtain ⟨rfl, rfl, rfl⟩ := trodAll_nil r2
  obtain ⟨rfl, rfl⟩ := trodVars_none hV
  obtain rfl : args = #[v0, v1, v2] := by cases args; simp_all
  obtain ⟨cs0, hv0, hl0, hc0⟩ := agg_open (d := 6) (row := [some .i64, some .i64, some .i64]) (by kernel_rfl) (by kernel_rfl) (hval 0 34 v0 rfl rfl) h0
  have g0_0 := listIs_of hl0 hc0
  clear hl0 hc0
  obtain ⟨_, cs0_1, rfl, ⟨b0_0, rfl, w0_0⟩, g0_1⟩ := listIs_cons g0_0
  obtain ⟨_, cs0_2, rfl, ⟨b0_1, rfl, w0_1⟩, g0_2⟩ := listIs_cons g0_1
  obtain ⟨_, cs0_3, rfl, ⟨b0_2, rfl, w0_2⟩, g0_3⟩ := listIs_cons g0_2
  obtain rfl := listIs_nil g0_3
  subst hv0
  obtain ⟨a1, rfl, rfl, rfl, w1⟩ := open_int Try.underlying3 (hval 1 3 v1 rfl rfl) h1
  obtain ⟨A2, n2, c2, s2⟩ := slice_open (d := 6) (row := [some .i64, some .i64]) Try.underlying41 (by kernel_rfl) (by kernel_rfl) (hval 2 41 v2 rfl rfl) h2
  refine Calls.mono (law_calls mixed Try.func8 (runs (b0_0, b0_1, b0_2) ⟨n2, c2, n2, fun r => intC W A2 (r * 2 + 0), fun r => intC W A2 (r * 2 + 1)⟩ a1 ⟨s2.le, Nat.le_refl _, s2.max, fun i hi => i6_of (s2.wf 0 .i64 rfl i hi)⟩ (i6_of w1)) (e := envOf [A2]) (rel_in1 s2.reg) (Nat.le_refl 1) (by rw [s2.val]; exact den_sr.symm)) fun e W' ⟨he, hb⟩ => ?_
  subst he
  exact ⟨_, rfl, law_post hW' rfl rfl (by kernel_rfl) (by decide +kernel) rfl Try.underlying4 hb⟩

theorem over : Rows.seqrRunsRow.holds Try.pinned (OpenSpec.ofChange Rows.seqrRunsSpec) :=
  OpenClaim.holds_of_wide 8 Try.f8 rfl rfl rfl rfl rfl rfl rfl ⟨rfl, rfl, rfl, rfl, rfl⟩ rfl rfl rfl rfl rfl (by kernel_rfl) Try.func8 (by kernel_rfl)
    (of_decide_eq_true (by kernel_rfl)) (by unfold Func.isWrapper; first | (rw [if_pos (by decide +kernel)]; kernel_rfl) | (rw [if_neg (by decide +kernel)]; exact ⟨rfl, rfl⟩))
    (fun os started H enc _ => lifted os started H enc)

/-- SeqrRuns -/
theorem proved : Rows.SeqrRunsSaid := over
#print axioms proved
end Go.Proofs.Ytlhlegjndembdaa.seqrRuns
