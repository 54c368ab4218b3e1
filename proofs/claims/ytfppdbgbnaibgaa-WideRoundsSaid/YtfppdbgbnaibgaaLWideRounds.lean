/-
  For all whole numbers the law WideRounds answers true and leaves all memory as it was.
-/
import Derived.Test.YtfppdbgbnaibgaaSx
import Derived.Test.YtfppdbgbnaibgaaWideNum
import Derived.Test.YtfppdbgbnaibgaaRefA
import Derived.Test.YtfppdbgbnaibgaaRefB
import Derived.Test.YtfppdbgbnaibgaaRefM
import Derived.Test.YtfppdbgbnaibgaaRefD
import Derived.Test.YtfppdbgbnaibgaaWideU
import Derived.Test.YtfppdbgbnaibgaaLen
import Derived.Test.YtfppdbgbnaibgaaDiv64
import Derived.Test.YtfppdbgbnaibgaaDivU
import Derived.Test.YtfppdbgbnaibgaaMulDiv
import Derived.Test.YtfppdbgbnaibgaaRefE
import Derived.Test.YtfppdbgbnaibgaaRefF
import Derived.Test.YtfppdbgbnaibgaaRefG
import Derived.Test.YtfppdbgbnaibgaaHead1
import Derived.Test.YtfppdbgbnaibgaaHeld
import Derived.Test.YtfppdbgbnaibgaaRows
import Derived.WalkKit
import Derived.ProofKit
import Derived.OpenShut
namespace Go.Proofs.Ytfppdbgbnaibgaa.wideRounds
open Go.ChangeShapes Go.WideShapes Go.ChangeAt Go.RowKit Go.Sx
set_option linter.unusedVariables false
set_option linter.unusedSimpArgs false
set_option maxRecDepth 100000

noncomputable def cxL : Cx Try.prog := { ps := [head1S, muldivS, rmdS, heldS], es := [], is := [], n0 := 0, loops := fun _ => none, cuts := fun _ => none }
set_option maxHeartbeats 16000000 in
theorem runs (a b c r : Int) (ha : I64 a) (hb : I64 b) (hc : I64 c) (hr : I64 r) : Runs cxL Try.f14 [int_ .i64 a, int_ .i64 b, int_ .i64 c, int_ .i64 r] [] yes := by
  unfold I64 at *
  repeat' (first | exact trivial | with_reducible exact rfl | exact Nat.le_refl _ | with_reducible exact (fun _ _ => rfl) | ((conv => whnf); first | (refine fun _ => ?_) | refine ⟨?_, ?_⟩ | exact trivial | exact lex_q (by kernel_rfl) | exact lex_t (by kernel_rfl) | exact lex_h (by kernel_rfl) | fail))
  all_goals (try dsimp only at *)
  all_goals (try omega)
  all_goals first
    | exact absurd (by assumption : (!true) = true) (by decide)
    | exact absurd trivial (by assumption)
    | (have hh : ¬ mdE a b c r = 10 := by assumption
       unfold mdH; rw [if_neg hh]; simp; done)
    | (have hh : mdE a b c r = 10 := by omega
       unfold mdH mdM
       rcases Decidable.em (a < 0) with h | h
       · first
         | omega
         | (simp only [hh, h]; simp [*]; done)
       · first
         | omega
         | (simp only [hh, h]; simp [*]; done))
    | (simp [*]; done)

theorem own : ownKnob Try.prog.godebug = none := by kernel_rfl

set_option maxRecDepth 100000 in
theorem lifted (os : Os) (started : os.Started) (H : Type) (enc : TypeId × Value → H) :
    ReturnsInHanded {} Try.checked os 14 .any (Rows.wideRoundsSpec.pre6 enc Try.prog Try.f14 Rows.wideRoundsRow.domain false) (Rows.wideRoundsSpec.post enc Try.prog Try.f14 false true false false) := by
  refine returnsInHanded_of_change (C := Try.checked) own started (by kernel_rfl) Try.func14
    (ChangeSpec.witness6 (enc := enc) (C := Try.checked) false ⟨#[], #[.int .i64 0, .int .i64 0, .int .i64 0, .int .i64 0], []⟩ 8 (by kernel_rfl) (by kernel_rfl) (by kernel_rfl) (by kernel_rfl)) ?_
  intro W base args ds gs before hval0 hW hcnd _
  have hval : ∀ (j : Nat) t v, Try.f14.params[j]? = some t → args[j]? = some v → Value.okWide Try.prog W .any base t v := hval0
  have hW' := hW
  obtain ⟨p, q, hA0, hV, rfl, hfz, hnd⟩ := hW
  have hA : DataW.TrodAll enc Try.prog W 0 (fun _ => true) true Try.f14.params.toList args.toList ds p := hA0
  rw [Try.params14] at hA hval
  obtain ⟨v0, vs0, d0, ds0, p0, q0, hargs0, rfl, rfl, h0, r0⟩ := trodAll_cons hA
  obtain ⟨v1, vs1, d1, ds1, p1, q1, hargs1, rfl, rfl, h1, r1⟩ := trodAll_cons r0
  obtain ⟨v2, vs2, d2, ds2, p2, q2, hargs2, rfl, rfl, h2, r2⟩ := trodAll_cons r1
  obtain ⟨v3, vs3, d3, ds3, p3, q3, hargs3, rfl, rfl, h3, r3⟩ := trodAll_cons r2
  obtain ⟨rfl, rfl, rfl⟩ := trodAll_nil r3
  obtain ⟨rfl, rfl⟩ := trodVars_none hV
  obtain rfl : args = #[v0, v1, v2, v3] := by cases args; simp_all
  obtain ⟨a0, rfl, rfl, rfl, w0⟩ := open_int Try.underlying3 (hval 0 3 v0 rfl rfl) h0
  obtain ⟨a1, rfl, rfl, rfl, w1⟩ := open_int Try.underlying3 (hval 1 3 v1 rfl rfl) h1
  obtain ⟨a2, rfl, rfl, rfl, w2⟩ := open_int Try.underlying3 (hval 2 3 v2 rfl rfl) h2
  obtain ⟨a3, rfl, rfl, rfl, w3⟩ := open_int Try.underlying3 (hval 3 3 v3 rfl rfl) h3
  refine Calls.mono (law_calls mixed Try.func14 (runs a0 a1 a2 a3 (i64_of w0) (i64_of w1) (i64_of w2) (i64_of w3)) (rel_nil (fun _ => none) W) (Nat.le_refl 0) rfl) fun e W' ⟨he, hb⟩ => ?_
  subst he
  exact ⟨_, rfl, law_post hW' rfl rfl (by kernel_rfl) (by decide +kernel) rfl Try.underlying4 hb⟩

theorem over : Rows.wideRoundsRow.holds Try.pinned (OpenSpec.ofChange Rows.wideRoundsSpec) :=
  OpenClaim.holds_of_wide 14 Try.f14 rfl rfl rfl rfl rfl rfl rfl ⟨rfl, rfl, rfl, rfl, rfl⟩ rfl rfl rfl rfl rfl (by kernel_rfl) Try.func14 (by kernel_rfl)
    (of_decide_eq_true (by kernel_rfl)) (by unfold Func.isWrapper; first | (rw [if_pos (by decide +kernel)]; kernel_rfl) | (rw [if_neg (by decide +kernel)]; exact ⟨rfl, rfl⟩))
    (fun os started H enc _ => lifted os started H enc)

/-- WideRounds -/
theorem proved : Rows.WideRoundsSaid := over
#print axioms proved
end Go.Proofs.Ytfppdbgbnaibgaa.wideRounds
