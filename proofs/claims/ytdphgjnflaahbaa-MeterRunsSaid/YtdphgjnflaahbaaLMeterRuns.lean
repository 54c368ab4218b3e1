/-
  For every setup, time and row of frames the law MeterRuns answers true and leaves all memory as it was.
-/
import Derived.Test.YtdphgjnflaahbaaSx
import Derived.Test.YtdphgjnflaahbaaMWideNum
import Derived.Test.YtdphgjnflaahbaaMRefA
import Derived.Test.YtdphgjnflaahbaaMRefB
import Derived.Test.YtdphgjnflaahbaaMWideU
import Derived.Test.YtdphgjnflaahbaaMLen
import Derived.Test.YtdphgjnflaahbaaMDiv64
import Derived.Test.YtdphgjnflaahbaaMDivU
import Derived.Test.YtdphgjnflaahbaaMMulDiv
import Derived.Test.YtdphgjnflaahbaaMHeld
import Derived.Test.YtdphgjnflaahbaaMRefM
import Derived.Test.YtdphgjnflaahbaaMRefD
import Derived.Test.YtdphgjnflaahbaaMRefE
import Derived.Test.YtdphgjnflaahbaaMetA
import Derived.Test.YtdphgjnflaahbaaMetB
import Derived.Test.YtdphgjnflaahbaaMetC
import Derived.Test.YtdphgjnflaahbaaMetD
import Derived.Test.YtdphgjnflaahbaaMetR
import Derived.Test.YtdphgjnflaahbaaMetS
import Derived.Test.YtdphgjnflaahbaaMetT
import Derived.Test.YtdphgjnflaahbaaRows
import Derived.WalkKit
import Derived.ProofKit
import Derived.OpenShut
namespace Go.Proofs.Ytdphgjnflaahbaa.meterRuns
open Go.ChangeShapes Go.WideShapes Go.ChangeAt Go.RowKit Go.Sx
set_option linter.unusedVariables false
set_option linter.unusedSimpArgs false
set_option maxRecDepth 100000

theorem den_tr {a b c d : Int} {e f g : Bool} {A : Option Addr} {n cap : Nat} {w : Int} : #[SV.den (envOf [A]) (.one (.agg (Cf.cells ⟨a, b, c, d, e, f, g⟩))), SV.den (envOf [A]) (int_ .i64 w), SV.den (envOf [A]) (.one (.a (.slc 0 3 0 n cap)))] = #[.agg #[.int .i64 a, .int .i64 b, .int .i64 c, .int .i64 d, .bool e, .bool f, .bool g], .int .i64 w, .slice A n cap] := by
  show #[Value.agg _, _, SA.den (envOf [A]) (.slc 0 3 0 n cap)] = _
  rw [den_slc (A := A) rfl]; rfl
theorem no_a {p : Prop} [Decidable p] (h : p) (h2 : (!decide p) = true) : False := by rw [decide_eq_true h] at h2; cases h2
theorem no_b {p : Prop} [Decidable p] (h : ¬ p) (h2 : (!decide p) = false) : False := by rw [decide_eq_false h] at h2; cases h2
theorem cf_b {c : Cf} (h : ¬ chkM c = 0) : ¬ CfM c := fun h9 => h (chkM_0 h9)
structure SR where
  i : Nat
  m : Mt
  a : DS
  b : DS
def ixc (S : St) (k j : Nat) : Nat := match S.m[S.ix k]? with | some (some ⟨_, .flat l⟩) => (match l[j]? with | some a => a.ix | none => 0) | _ => 0
abbrev laR (st : ST) : LA where
  ι := SR
  inv := fun x => (x.i ≤ st.len ∧ st.len ≤ 80) ∧ MOk x.m ∧ x.m.gap ≤ 12800000000000 * x.i ∧ DV x.m.p0 x.a ∧ DV x.m.p1 x.b
  T := fun x => ⟨160, [(7, .one (.a (.ptr 1 0))), (13, .one (.a (.ptr 2 0))), (89, .one (.a (.slc 0 3 0 st.len st.cap))), (90, int_ .i64 st.len), (91, int_ .i64 x.i)], [roT st, some ⟨true, .flat x.m.cells⟩, some ⟨true, .flat (rmCells 3 4 x.m x.a x.b)⟩, rwI x.a.cap x.a.g, rwI x.b.cap x.b.g]⟩
  μ := fun x => st.len - x.i
  ren := fun S => [0, S.ix 7, S.ix 13, ixc S 13 8, ixc S 13 9]
noncomputable def cxL (st : ST) : Cx Try.prog := { ps := [hdS, chkMS, bitsS, shutS, minN, bitsN, shutN, openN, rightS, wholeS], es := [minS, openS, rinS, rnewS], is := [inl fn10 cxNew], n0 := 1, loops := fun i => match i with | 15 => some (.inv (laR st)) | _ => none, cuts := fun _ => none, held := fun i => match i with | 24 => some (true, .take 0 (.take 1 (.take 2 (.take 3 (.take 4 (.take 5 (.take 6 (.take 7 (.take 8 (.take 9 (.take 10 (.take 11 (.one 12 (.take 13 (.take 14 (.take 15 (.take 16 (.take 17 (.take 18 (.one 19 (.take 20 (.take 21 (.take 22 (.take 23 (.take 25 (.take 26 (.one 24 (.take 27 (.take 28 .done))))))))))))))))))))))))))))) | _ => none }
section
attribute [local irreducible] enter anyAlt Lex HeldOK
set_option maxHeartbeats 16000000 in
theorem runs (c : Cf) (st : ST) (now : Int) (hw : Tw st) : Runs (cxL st) Try.f7 [.one (.agg c.cells), int_ .i64 now, .one (.a (.slc 0 3 0 st.len st.cap))] [roT st] yes := by
  obtain ⟨w1, w2, w3⟩ := hw
  repeat' (first | with_reducible exact trivial | with_reducible exact rfl | with_reducible exact Nat.le_refl _ | with_reducible exact (fun _ _ => rfl) | ((conv => whnf); first | (refine fun (x : SR) => ?_) | (refine fun (y : DS × DS) => ?_) | (refine fun _ => ?_) | refine ⟨?_, ?_⟩ | exact trivial | exact Nat.le_refl _ | exact lex_q (by kernel_rfl) | exact lex_t (by kernel_rfl) | exact lex_h (by kernel_rfl) | fail))
  all_goals (try exact absurd (by assumption : (!true) = true) (by decide))
  all_goals (try (exfalso; omega))
  all_goals (try (have hc' := cf_b (by assumption : ¬ chkM c = 0)))
  all_goals (try exact (no_b hc' (by assumption)).elim)
  all_goals (try (have hc := cfm_of (by assumption : ¬ ¬ chkM c = 0)))
  all_goals (try exact (no_a hc (by assumption)).elim)
  all_goals (try exact absurd (chkM_1 hc') (by assumption))
  all_goals (try exact absurd rfl (by assumption))
  all_goals (try (obtain ⟨h1, h2, h3, h4⟩ := (show CfM c from hc)))
  all_goals (try (have hi := (by assumption : (laR st).inv x); dsimp only [laR] at hi))
  all_goals (try (obtain ⟨⟨i1, i80⟩, i2, i3, i4, i5⟩ := hi))
  all_goals (try first | exact i2 | exact rm_ok i2 (by omega) i4 i5 | exact h1.1 | exact h1.2 | exact h2.1 | exact h2.2 | exact h3.1 | exact h3.2 | exact h4.1 | exact h4.2)
  all_goals (try dsimp only [laR, cutR, cutL, id] at *)
  all_goals (try simp only [Int.toNat_natCast, Nat.zero_add] at *)
  all_goals (try omega)
  all_goals (try (have eq := rm_q i4 i5 (st.f x.i) (st.g x.i) (st.h x.i); dsimp only [rmOf] at eq; simp only [eq] at *))
  all_goals (try simp only [mt_eta] at *)
  all_goals (try exact absurd trivial (by assumption : ¬ True))
  all_goals (try (have he := in_err (by assumption : (x.m.in_ (st.f x.i) (st.g x.i) (st.h x.i)).2.2 ≠ 0)))
  all_goals (try (have hd := (by assumption : (x.m.in_ (st.f x.i) (st.g x.i) (st.h x.i)).2.2 = 0 ∧ DV (x.m.in_ (st.f x.i) (st.g x.i) (st.h x.i)).1.p0 y.1 ∧ DV (x.m.in_ (st.f x.i) (st.g x.i) (st.h x.i)).1.p1 y.2); obtain ⟨q0, dA, dB⟩ := hd))
  all_goals (try exact absurd q0 (by assumption))
  all_goals (try first | exact i4.2.1 | exact i5.2.1 | exact dA.2.1 | exact dB.2.1)
  all_goals (try (have hg := in_gap i2 (st.f x.i) (st.g x.i) (st.h x.i); obtain ⟨g1, g2⟩ := hg))
  all_goals (try (have hk := in_keep x.m (st.f x.i) (st.g x.i) (st.h x.i)))
  all_goals (try (have k1 := i2.q0; have k2 := i2.q1; have k3 := i2.b; have k4 := i2.be))
  all_goals (try (have k5 := g1.q0; have k6 := g1.q1; have k7 := g1.b; have k8 := g1.be))
  all_goals (try exact Nat.le_trans (dv8 i4 (by omega)) (by decide))
  all_goals (try exact Nat.le_trans (dv8 i5 (by omega)) (by decide))
  all_goals (try exact Nat.le_trans (dv8 dA (by omega)) (by decide))
  all_goals (try exact Nat.le_trans (dv8 dB (by omega)) (by decide))
  all_goals (try (have h9 := he; exact absurd (by assumption : (!(_ == _)) = true) (by simp [h9])))
  all_goals (try exact absurd (by assumption : (!(_ == _)) = true) (by simp))
  all_goals (try (exfalso
                  have wA := i4.2.2.1
                  have wB := i5.2.2.1
                  simp only [he, wA, wB] at *
                  first
                  | exact absurd (whole_eq ⟨k1.1, by omega⟩) (by assumption)
                  | exact absurd (whole_eq ⟨k2.1, by omega⟩) (by assumption)))
  all_goals (try (exfalso
                  have wA := dA.2.2.1
                  have wB := dB.2.2.1
                  simp only [wA, wB] at *
                  first
                  | exact absurd (whole_eq ⟨k5.1, by omega⟩) (by assumption)
                  | exact absurd (whole_eq ⟨k6.1, by omega⟩) (by assumption)))
  all_goals (try (have eq := rm_q i4 i5 (st.f x.i) (st.g x.i) (st.h x.i); dsimp only [rmOf] at eq))
  all_goals (try (have hl := (in_ok i2 (st.h x.i) (in_fine q0).2.1 (in_fine q0).2.2 (in_fine q0).1).2.2.1))
  any_goals first
    | (refine enter_mk (la := laR st) ⟨0, mt0 c now, y.1, y.2⟩ ?_ (by (repeat' (first | ((conv => whnf); first | refine ⟨?_, ?_⟩ | exact trivial | fail) | (dsimp only; done) | ((try dsimp only); first | with_reducible exact rfl | exact Nat.le_refl _ | with_reducible exact (fun _ _ => rfl)))); first | ((all_goals ((try dsimp only [laR] at *); (all_goals (try simp (disch := omega) only [w64', wu64', tdiv_pos, tmod_pos, Int.toNat_natCast, Nat.zero_add] at *)); (all_goals ((first | rfl | omega | (show c.burst * 1000000000 = _; rw [w64' (by omega) (by omega)]; done) | (show c.beyond * 1000000000 = _; rw [w64' (by omega) (by omega)]; done)))))); done) | fail))
    | (refine enter_mk (la := laR st) ⟨x.i + 1, x.m.opened, x.a, x.b⟩ ?_ (by (repeat' (first | ((conv => whnf); first | refine ⟨?_, ?_⟩ | exact trivial | fail) | (dsimp only; done) | ((try dsimp only); first | with_reducible exact rfl | exact Nat.le_refl _ | with_reducible exact (fun _ _ => rfl)))); first | ((all_goals ((try dsimp only [laR] at *); (all_goals (try simp (disch := omega) only [w64', wu64', tdiv_pos, tmod_pos, Int.toNat_natCast, Nat.zero_add] at *)); (all_goals ((first | rfl | omega | (rw [w64' (by omega) (by omega)]; omega)))))); done) | fail))
    | (refine enter_mk (la := laR st) ⟨x.i + 1, x.m, x.a, x.b⟩ ?_ (by (repeat' (first | ((conv => whnf); first | refine ⟨?_, ?_⟩ | exact trivial | fail) | (dsimp only; done) | ((try dsimp only); first | with_reducible exact rfl | exact Nat.le_refl _ | with_reducible exact (fun _ _ => rfl)))); first | ((all_goals ((try dsimp only [laR] at *); (all_goals (try simp (disch := omega) only [w64', wu64', tdiv_pos, tmod_pos, Int.toNat_natCast, Nat.zero_add] at *)); (all_goals ((first | rfl | omega | (rw [w64' (by omega) (by omega)]; omega) | (simp only [mt_eta, eq, he]; done)))))); done) | fail))
    | (refine enter_mk (la := laR st) ⟨x.i + 1, (x.m.in_ (st.f x.i) (st.g x.i) (st.h x.i)).1, y.1, y.2⟩ ?_ (by (repeat' (first | ((conv => whnf); first | refine ⟨?_, ?_⟩ | exact trivial | fail) | (dsimp only; done) | ((try dsimp only); first | with_reducible exact rfl | exact Nat.le_refl _ | with_reducible exact (fun _ _ => rfl)))); first | ((all_goals ((try dsimp only [laR] at *); (all_goals (try simp (disch := omega) only [w64', wu64', tdiv_pos, tmod_pos, Int.toNat_natCast, Nat.zero_add] at *)); (all_goals ((first | rfl | omega | (rw [w64' (by omega) (by omega)]; omega) | (simp only [mt_eta, eq, hk.rate, hk.burst, hk.more, hk.beyond, hk.couple, hk.aware, hk.shut, hl]; done) | exact hk.rate | exact hk.burst | exact hk.more | exact hk.beyond | exact hk.couple | exact hk.aware | exact hk.shut | exact hl))))); done) | fail))
    | fail
  all_goals first
    | exact ⟨⟨Nat.zero_le _, by omega⟩, mt0_ok hc ⟨by omega, by omega⟩, by show (c.burst * 1000000000 - c.burst * 1000000000) + (c.beyond * 1000000000 - c.beyond * 1000000000) ≤ 12800000000000 * ((0 : Nat) : Int); omega, (by assumption : DV (c.burst * 1000000000) y.1 ∧ DV (c.beyond * 1000000000) y.2)⟩
    | (have h8 : (laR st).inv ⟨x.i + 1, x.m.opened, x.a, x.b⟩ := by
        refine ⟨⟨?_, i80⟩, i2.open_, ?_, i4, i5⟩
        · show x.i + 1 ≤ st.len; omega
        · show x.m.gap ≤ 12800000000000 * ((x.i + 1 : Nat) : Int); omega
       exact h8)
    | (have h8 : (laR st).inv ⟨x.i + 1, x.m, x.a, x.b⟩ := by
        refine ⟨⟨?_, i80⟩, i2, ?_, i4, i5⟩
        · show x.i + 1 ≤ st.len; omega
        · show x.m.gap ≤ 12800000000000 * ((x.i + 1 : Nat) : Int); omega
       exact h8)
    | (have h8 : (laR st).inv ⟨x.i + 1, (x.m.in_ (st.f x.i) (st.g x.i) (st.h x.i)).1, y.1, y.2⟩ := by
        refine ⟨⟨?_, i80⟩, g1, ?_, dA, dB⟩
        · show x.i + 1 ≤ st.len; omega
        · show (x.m.in_ (st.f x.i) (st.g x.i) (st.h x.i)).1.gap ≤ 12800000000000 * ((x.i + 1 : Nat) : Int); omega
       exact h8)
    | fail
end

theorem own : ownKnob Try.prog.godebug = none := by kernel_rfl

set_option maxRecDepth 100000 in
theorem lifted (os : Os) (started : os.Started) (H : Type) (enc : TypeId × Value → H) :
    ReturnsInHanded {} Try.checked os 7 .any (Rows.meterRunsSpec.pre6 enc Try.prog Try.f7 Rows.meterRunsRow.domain false) (Rows.meterRunsSpec.post enc Try.prog Try.f7 false true false false) := by
  refine returnsInHanded_of_change (C := Try.checked) own started (by kernel_rfl) Try.func7
    (ChangeSpec.witness6 (enc := enc) (C := Try.checked) false ⟨#[], #[.agg #[.int .i64 0, .int .i64 0, .int .i64 0, .int .i64 0, .bool false, .bool false, .bool false], .int .i64 0, .slice none 0 0], []⟩ 8 (by kernel_rfl) (by kernel_rfl) (by kernel_rfl) (by kernel_rfl)) ?_
  intro W base args ds gs before hval0 hW hcnd _
  have hval : ∀ (j : Nat) t v, Try.f7.params[j]? = some t → args[j]? = some v → Value.okWide Try.prog W .any base t v := hval0
  have hW' := hW
  obtain ⟨p, q, hA0, hV, rfl, hfz, hnd⟩ := hW
  have hA : DataW.TrodAll enc Try.prog W 0 (fun _ => true) true Try.f7.params.toList args.toList ds p := hA0
  rw [Try.params7] at hA hval
  obtain ⟨v0, vs0, d0, ds0, p0, q0, hargs0, rfl, rfl, h0, r0⟩ := trodAll_cons hA
  obtain ⟨v1, vs1, d1, ds1, p1, q1, hargs1, rfl, rfl, h1, r1⟩ := trodAll_cons r0
  obtain ⟨v2, vs2, d2, ds2, p2, q2, hargs2, rfl, rfl, h2, r2⟩ := trodAll_cons r1
  obtain ⟨rfl, rfl, rfl⟩ := trodAll_nil r2
  obtain ⟨rfl, rfl⟩ := trodVars_none hV
  obtain rfl : args = #[v0, v1, v2] := by cases args; simp_all
  obtain ⟨cs0, hv0, hl0, hc0⟩ := agg_open (d := 6) (row := [some .i64, some .i64, some .i64, some .i64, none, none, none]) (by kernel_rfl) (by kernel_rfl) (hval 0 23 v0 rfl rfl) h0
  have g0_0 := listIs_of hl0 hc0
  clear hl0 hc0
  obtain ⟨_, cs0_1, rfl, ⟨b0_0, rfl, w0_0⟩, g0_1⟩ := listIs_cons g0_0
  obtain ⟨_, cs0_2, rfl, ⟨b0_1, rfl, w0_1⟩, g0_2⟩ := listIs_cons g0_1
  obtain ⟨_, cs0_3, rfl, ⟨b0_2, rfl, w0_2⟩, g0_3⟩ := listIs_cons g0_2
  obtain ⟨_, cs0_4, rfl, ⟨b0_3, rfl, w0_3⟩, g0_4⟩ := listIs_cons g0_3
  obtain ⟨_, cs0_5, rfl, ⟨b0_4, rfl⟩, g0_5⟩ := listIs_cons g0_4
  obtain ⟨_, cs0_6, rfl, ⟨b0_5, rfl⟩, g0_6⟩ := listIs_cons g0_5
  obtain ⟨_, cs0_7, rfl, ⟨b0_6, rfl⟩, g0_7⟩ := listIs_cons g0_6
  obtain rfl := listIs_nil g0_7
  subst hv0
  obtain ⟨a1, rfl, rfl, rfl, w1⟩ := open_int Try.underlying3 (hval 1 3 v1 rfl rfl) h1
  obtain ⟨A2, n2, c2, s2⟩ := slice_open (d := 6) (row := [some .i64, some .i64, none]) Try.underlying24 (by kernel_rfl) (by kernel_rfl) (hval 2 24 v2 rfl rfl) h2
  refine Calls.mono (law_calls mixed Try.func7 (runs ⟨b0_0, b0_1, b0_2, b0_3, b0_4, b0_5, b0_6⟩ ⟨n2, c2, n2, fun r => intC W A2 (r * 3 + 0), fun r => intC W A2 (r * 3 + 1), fun r => boolC W A2 (r * 3 + 2)⟩ a1 ⟨s2.le, Nat.le_refl _, s2.max⟩) (e := envOf [A2]) (rel_in1 s2.reg) (Nat.le_refl 1) (by rw [s2.val]; exact den_tr.symm)) fun e W' ⟨he, hb⟩ => ?_
  subst he
  exact ⟨_, rfl, law_post hW' rfl rfl (by kernel_rfl) (by decide +kernel) rfl Try.underlying4 hb⟩

theorem over : Rows.meterRunsRow.holds Try.pinned (OpenSpec.ofChange Rows.meterRunsSpec) :=
  OpenClaim.holds_of_wide 7 Try.f7 rfl rfl rfl rfl rfl rfl rfl ⟨rfl, rfl, rfl, rfl, rfl⟩ rfl rfl rfl rfl rfl (by kernel_rfl) Try.func7 (by kernel_rfl)
    (of_decide_eq_true (by kernel_rfl)) (by unfold Func.isWrapper; first | (rw [if_pos (by decide +kernel)]; kernel_rfl) | (rw [if_neg (by decide +kernel)]; exact ⟨rfl, rfl⟩))
    (fun os started H enc _ => lifted os started H enc)

/-- MeterRuns -/
theorem proved : Rows.MeterRunsSaid := over
#print axioms proved
end Go.Proofs.Ytdphgjnflaahbaa.meterRuns
