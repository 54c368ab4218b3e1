/-
  For every setup and all frames the law MeterShuts answers true and leaves all memory as it was.
-/
import Derived.Test.YtdphgjnflaahbaaSx
import Derived.Test.YtdphgjnflaahbaaMWideNum
import Derived.Test.YtdphgjnflaahbaaMRefA
import Derived.Test.YtdphgjnflaahbaaMRefB
import Derived.Test.YtdphgjnflaahbaaMWideU
import Derived.Test.YtdphgjnflaahbaaMLen
import Derived.Test.YtdphgjnflaahbaaMDiv64
import Derived.Test.YtdphgjnflaahbaaMDivU
import Derived.Test.YtdphgjnflaahbaaMMulDiv
import Derived.Test.YtdphgjnflaahbaaMHeld
import Derived.Test.YtdphgjnflaahbaaMetA
import Derived.Test.YtdphgjnflaahbaaMetB
import Derived.Test.YtdphgjnflaahbaaMetC
import Derived.Test.YtdphgjnflaahbaaMetD
import Derived.Test.YtdphgjnflaahbaaRows
import Derived.WalkKit
import Derived.ProofKit
import Derived.OpenShut
namespace Go.Proofs.Ytdphgjnflaahbaa.meterShuts
open Go.ChangeShapes Go.WideShapes Go.ChangeAt Go.RowKit Go.Sx
set_option linter.unusedVariables false
set_option linter.unusedSimpArgs false
set_option maxRecDepth 100000

structure SZ where
  i : Nat
  now : Int
  m : Mt
abbrev laS (st : ST) (c : Cf) : LA where
  ι := SZ
  inv := fun x => x.i ≤ st.len ∧ (0 ≤ x.now ∧ x.now ≤ 16777215 * x.i) ∧ MOk x.m ∧ x.m.last ≤ x.now ∧ x.m.shut = true
  T := fun x => ⟨81, [(5, .one (.a (.ptr 1 0))), (7, .one (.a (b_' x.m.off))), (8, int_ .i64 x.now), (31, .one (.a (.slc 0 3 0 st.len st.cap))), (32, int_ .i64 st.len), (33, int_ .i64 x.i)], [roT st, some ⟨true, .flat x.m.cells⟩]⟩
  μ := fun x => st.len - x.i
  ren := fun S => [0, S.ix 5]
noncomputable def cxL (st : ST) (c : Cf) : Cx Try.prog := { ps := [hdS, chkMS, shutS], es := [minS, minF, openS], is := [inl fn10 cxNew], n0 := 1, loops := fun i => match i with | 12 => some (.inv (laS st c)) | _ => none, cuts := fun _ => none }
attribute [local irreducible] enter anyAlt
set_option maxHeartbeats 16000000 in
theorem runs (c : Cf) (st : ST) (hw : Tw st) : Runs (cxL st c) Try.f4 [.one (.agg c.cells), .one (.a (.slc 0 3 0 st.len st.cap))] [roT st] yes := by
  obtain ⟨w1, w2, w3⟩ := hw
  repeat' (first | with_reducible exact trivial | with_reducible exact rfl | with_reducible exact Nat.le_refl _ | with_reducible exact (fun _ _ => rfl) | ((conv => whnf); first | (refine fun (x : SZ) => ?_) | (refine fun _ => ?_) | refine ⟨?_, ?_⟩ | exact trivial | exact Nat.le_refl _ | exact lex_q (by kernel_rfl) | exact lex_t (by kernel_rfl) | exact lex_h (by kernel_rfl) | fail))
  all_goals (try exact absurd (by assumption : (!true) = true) (by decide))
  all_goals (have hc0 : ¬ ¬ chkM c = 0 := by assumption)
  all_goals (have hc := cfm_of hc0)
  all_goals (have hc2 : chkM ⟨c.rate, c.burst, c.more, c.beyond, c.couple, c.aware, true⟩ = 0 := chkM_0 hc)
  all_goals (try exact absurd hc2 (by assumption))
  all_goals (try (have hi := (by assumption : (laS st c).inv x); dsimp only [laS] at hi))
  all_goals (try exact hi.2.2.1)
  all_goals (try exact absurd (by assumption : (0 : Int) < 0) (by decide))
  all_goals (try exact absurd (by assumption : (1099511627776 : Int) < 0) (by decide))
  all_goals (try exact absurd trivial (by assumption))
  any_goals first
    | (refine enter_mk (la := laS st c) ⟨0, 0, mt0 ⟨c.rate, c.burst, c.more, c.beyond, c.couple, c.aware, true⟩ 0⟩ ?_ (by (repeat' (first | ((conv => whnf); first | refine ⟨?_, ?_⟩ | exact trivial | fail) | (dsimp only; done) | ((try dsimp only); first | with_reducible exact rfl | exact Nat.le_refl _ | with_reducible exact (fun _ _ => rfl)))); first | ((all_goals ((try dsimp only [laS] at *); (all_goals (try simp (disch := omega) only [w64', wu64', tdiv_pos, tmod_pos, Int.toNat_natCast, Nat.zero_add] at *)); (all_goals ((first | rfl | omega | (unfold CfM at hc; show c.burst * 1000000000 = _; rw [w64' (by omega) (by omega)]) | (unfold CfM at hc; show c.beyond * 1000000000 = _; rw [w64' (by omega) (by omega)])))))); done) | fail))
    | (refine enter_mk (la := laS st c) ⟨x.i + 1, x.now + st.f x.i % 16777216, (x.m.in_ (x.now + st.f x.i % 16777216) (st.g x.i % 1024) (st.h x.i)).1⟩ ?_ (by (repeat' (first | ((conv => whnf); first | refine ⟨?_, ?_⟩ | exact trivial | fail) | (dsimp only; done) | ((try dsimp only); first | with_reducible exact rfl | exact Nat.le_refl _ | with_reducible exact (fun _ _ => rfl)))); first | ((all_goals ((try dsimp only [laS] at *); (all_goals (try simp (disch := omega) only [w64', wu64', tdiv_pos, tmod_pos, Int.toNat_natCast, Nat.zero_add] at *)); (all_goals ((first | rfl | omega | (rw [w64' (by omega) (by omega)]; omega) | (simp only [and_24, and_10]; rw [w64' (n := x.now + st.f x.i % 16777216) (by omega) (by omega)]; done) | (simp only [and_24, and_10]; rw [w64' (n := x.now + st.f x.i % 16777216) (by omega) (by omega)]; rfl)))))); done) | fail))
    | (refine enter_mk (la := laS st c) ⟨x.i + 1, x.now + st.f x.i % 16777216, (x.m.in_ (x.now + st.f x.i % 16777216) (st.g x.i % 1024) (st.h x.i)).1.opened⟩ ?_ (by (repeat' (first | ((conv => whnf); first | refine ⟨?_, ?_⟩ | exact trivial | fail) | (dsimp only; done) | ((try dsimp only); first | with_reducible exact rfl | exact Nat.le_refl _ | with_reducible exact (fun _ _ => rfl)))); first | ((all_goals ((try dsimp only [laS] at *); (all_goals (try simp (disch := omega) only [w64', wu64', tdiv_pos, tmod_pos, Int.toNat_natCast, Nat.zero_add] at *)); (all_goals ((first | rfl | omega | (rw [w64' (by omega) (by omega)]; omega) | (simp only [and_24, and_10]; rw [w64' (n := x.now + st.f x.i % 16777216) (by omega) (by omega)]; done) | (simp only [and_24, and_10]; rw [w64' (n := x.now + st.f x.i % 16777216) (by omega) (by omega)]; rfl)))))); done) | fail))
    | fail
  all_goals (try dsimp only [laS] at *)
  all_goals (try simp only [mt_eta, and_24, and_10, and_3, Int.toNat_natCast, Nat.zero_add] at *)
  all_goals (try omega)
  all_goals (try exact absurd trivial (by assumption))
  all_goals (try (obtain ⟨i1, i2, i3, i4, i5⟩ := hi
                  obtain ⟨k1, k2, k3, k4, k5, k6⟩ := in_shut (y := st.h x.i) i3 (show x.m.last ≤ x.now + st.f x.i % 16777216 by omega) (by omega) (show 0 ≤ st.g x.i % 1024 ∧ st.g x.i % 1024 ≤ 1600 by omega) i5
                  simp (disch := omega) only [w64'] at *))
  all_goals (try first
    | exact absurd k1 (by assumption)
    | exact absurd (k2 (by assumption)) (by assumption)
    | exact ⟨by omega, ⟨by omega, by omega⟩, k4, Int.le_of_eq k5, k6⟩
    | exact ⟨by omega, ⟨by omega, by omega⟩, k4.open_, Int.le_of_eq k5, k6⟩
    | exact ⟨Nat.zero_le _, ⟨Int.le_refl _, by omega⟩, mt0_ok (x := ⟨c.rate, c.burst, c.more, c.beyond, c.couple, c.aware, true⟩) hc ⟨by decide, by decide⟩, Int.le_refl _, rfl⟩
    | (simp_all; done))

theorem own : ownKnob Try.prog.godebug = none := by kernel_rfl

set_option maxRecDepth 100000 in
theorem lifted (os : Os) (started : os.Started) (H : Type) (enc : TypeId × Value → H) :
    ReturnsInHanded {} Try.checked os 4 .any (Rows.meterShutsSpec.pre6 enc Try.prog Try.f4 Rows.meterShutsRow.domain false) (Rows.meterShutsSpec.post enc Try.prog Try.f4 false true false false) := by
  refine returnsInHanded_of_change (C := Try.checked) own started (by kernel_rfl) Try.func4
    (ChangeSpec.witness6 (enc := enc) (C := Try.checked) false ⟨#[], #[.agg #[.int .i64 0, .int .i64 0, .int .i64 0, .int .i64 0, .bool false, .bool false, .bool false], .slice none 0 0], []⟩ 8 (by kernel_rfl) (by kernel_rfl) (by kernel_rfl) (by kernel_rfl)) ?_
  intro W base args ds gs before hval0 hW hcnd _
  have hval : ∀ (j : Nat) t v, Try.f4.params[j]? = some t → args[j]? = some v → Value.okWide Try.prog W .any base t v := hval0
  have hW' := hW
  obtain ⟨p, q, hA0, hV, rfl, hfz, hnd⟩ := hW
  have hA : DataW.TrodAll enc Try.prog W 0 (fun _ => true) true Try.f4.params.toList args.toList ds p := hA0
  rw [Try.params4] at hA hval
  obtain ⟨v0, vs0, d0, ds0, p0, q0, hargs0, rfl, rfl, h0, r0⟩ := trodAll_cons hA
  obtain ⟨v1, vs1, d1, ds1, p1, q1, hargs1, rfl, rfl, h1, r1⟩ := trodAll_cons r0
  obtain ⟨rfl, rfl, rfl⟩ := trodAll_nil r1
  obtain ⟨rfl, rfl⟩ := trodVars_none hV
  obtain rfl : args = #[v0, v1] := by cases args; simp_all
  obtain ⟨cs0, hv0, hl0, hc0⟩ := agg_open (d := 6) (row := [some .i64, some .i64, some .i64, some .i64, none, none, none]) (by kernel_rfl) (by kernel_rfl) (hval 0 23 v0 rfl rfl) h0
  have g0_0 := listIs_of hl0 hc0
  clear hl0 hc0
  obtain ⟨_, cs0_1, rfl, ⟨b0_0, rfl, w0_0⟩, g0_1⟩ := listIs_cons g0_0
  obtain ⟨_, cs0_2, rfl, ⟨b0_1, rfl, w0_1⟩, g0_2⟩ := listIs_cons g0_1
  obtain ⟨_, cs0_3, rfl, ⟨b0_2, rfl, w0_2⟩, g0_3⟩ := listIs_cons g0_2
  obtain ⟨_, cs0_4, rfl, ⟨b0_3, rfl, w0_3⟩, g0_4⟩ := listIs_cons g0_3
  obtain ⟨_, cs0_5, rfl, ⟨b0_4, rfl⟩, g0_5⟩ := listIs_cons g0_4
  obtain ⟨_, cs0_6, rfl, ⟨b0_5, rfl⟩, g0_6⟩ := listIs_cons g0_5
  obtain ⟨_, cs0_7, rfl, ⟨b0_6, rfl⟩, g0_7⟩ := listIs_cons g0_6
  obtain rfl := listIs_nil g0_7
  subst hv0
  obtain ⟨A1, n1, c1, s1⟩ := slice_open (d := 6) (row := [some .i64, some .i64, none]) Try.underlying24 (by kernel_rfl) (by kernel_rfl) (hval 1 24 v1 rfl rfl) h1
  refine Calls.mono (law_calls mixed Try.func4 (runs ⟨b0_0, b0_1, b0_2, b0_3, b0_4, b0_5, b0_6⟩ ⟨n1, c1, n1, fun r => intC W A1 (r * 3 + 0), fun r => intC W A1 (r * 3 + 1), fun r => boolC W A1 (r * 3 + 2)⟩ ⟨s1.le, Nat.le_refl _, s1.max⟩) (e := envOf [A1]) (rel_in1 s1.reg) (Nat.le_refl 1) (by rw [s1.val]; exact den_on.symm)) fun e W' ⟨he, hb⟩ => ?_
  subst he
  exact ⟨_, rfl, law_post hW' rfl rfl (by kernel_rfl) (by decide +kernel) rfl Try.underlying4 hb⟩

theorem over : Rows.meterShutsRow.holds Try.pinned (OpenSpec.ofChange Rows.meterShutsSpec) :=
  OpenClaim.holds_of_wide 4 Try.f4 rfl rfl rfl rfl rfl rfl rfl ⟨rfl, rfl, rfl, rfl, rfl⟩ rfl rfl rfl rfl rfl (by kernel_rfl) Try.func4 (by kernel_rfl)
    (of_decide_eq_true (by kernel_rfl)) (by unfold Func.isWrapper; first | (rw [if_pos (by decide +kernel)]; kernel_rfl) | (rw [if_neg (by decide +kernel)]; exact ⟨rfl, rfl⟩))
    (fun os started H enc _ => lifted os started H enc)

/-- MeterShuts -/
theorem proved : Rows.MeterShutsSaid := over
#print axioms proved
end Go.Proofs.Ytdphgjnflaahbaa.meterShuts
