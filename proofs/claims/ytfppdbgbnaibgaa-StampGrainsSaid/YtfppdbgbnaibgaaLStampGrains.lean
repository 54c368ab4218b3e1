/-
  For all whole numbers the law StampGrains answers true and leaves all memory as it was.
-/
import Derived.Test.YtfppdbgbnaibgaaSx
import Derived.Test.YtfppdbgbnaibgaaWideNum
import Derived.Test.YtfppdbgbnaibgaaRefA
import Derived.Test.YtfppdbgbnaibgaaRefB
import Derived.Test.YtfppdbgbnaibgaaRefM
import Derived.Test.YtfppdbgbnaibgaaRefD
import Derived.Test.YtfppdbgbnaibgaaWideU
import Derived.Test.YtfppdbgbnaibgaaLen
import Derived.Test.YtfppdbgbnaibgaaDiv64
import Derived.Test.YtfppdbgbnaibgaaDivU
import Derived.Test.YtfppdbgbnaibgaaMulDiv
import Derived.Test.YtfppdbgbnaibgaaRefE
import Derived.Test.YtfppdbgbnaibgaaRefF
import Derived.Test.YtfppdbgbnaibgaaRefG
import Derived.Test.YtfppdbgbnaibgaaStampA
import Derived.Test.YtfppdbgbnaibgaaRefH
import Derived.Test.YtfppdbgbnaibgaaRows
import Derived.WalkKit
import Derived.ProofKit
import Derived.OpenShut
namespace Go.Proofs.Ytfppdbgbnaibgaa.stampGrains
open Go.ChangeShapes Go.WideShapes Go.ChangeAt Go.RowKit Go.Sx
set_option linter.unusedVariables false
set_option linter.unusedSimpArgs false
set_option maxRecDepth 100000

noncomputable def cxL : Cx Try.prog := { ps := [head3S, grainS, rgrainS, floorS, rfloorS], es := [], is := [], n0 := 0, loops := fun _ => none, cuts := fun _ => none }
set_option maxHeartbeats 16000000 in
theorem runs (s n : Int) (ha : I64 s) (hb : I64 n) : Runs cxL Try.f15 [int_ .i64 s, int_ .i64 n] [] yes := by
  unfold I64 at *
  repeat' (first | exact trivial | with_reducible exact rfl | exact Nat.le_refl _ | with_reducible exact (fun _ _ => rfl) | ((conv => whnf); first | (refine fun _ => ?_) | refine ⟨?_, ?_⟩ | exact trivial | exact lex_q (by kernel_rfl) | exact lex_t (by kernel_rfl) | exact lex_h (by kernel_rfl) | fail))
  all_goals (try dsimp only at *)
  all_goals first | omega | exact absurd (by assumption : (!true) = true) (by decide) | exact absurd trivial (by assumption) | (simp [*]; done) | (simp at *; done)

theorem own : ownKnob Try.prog.godebug = none := by kernel_rfl

set_option maxRecDepth 100000 in
theorem lifted (os : Os) (started : os.Started) (H : Type) (enc : TypeId × Value → H) :
    ReturnsInHanded {} Try.checked os 15 .any (Rows.stampGrainsSpec.pre6 enc Try.prog Try.f15 Rows.stampGrainsRow.domain false) (Rows.stampGrainsSpec.post enc Try.prog Try.f15 false true false false) := by
  refine returnsInHanded_of_change (C := Try.checked) own started (by kernel_rfl) Try.func15
    (ChangeSpec.witness6 (enc := enc) (C := Try.checked) false ⟨#[], #[.int .i64 0, .int .i64 0], []⟩ 8 (by kernel_rfl) (by kernel_rfl) (by kernel_rfl) (by kernel_rfl)) ?_
  intro W base args ds gs before hval0 hW hcnd _
  have hval : ∀ (j : Nat) t v, Try.f15.params[j]? = some t → args[j]? = some v → Value.okWide Try.prog W .any base t v := hval0
  have hW' := hW
  obtain ⟨p, q, hA0, hV, rfl, hfz, hnd⟩ := hW
  have hA : DataW.TrodAll enc Try.prog W 0 (fun _ => true) true Try.f15.params.toList args.toList ds p := hA0
  rw [Try.params15] at hA hval
  obtain ⟨v0, vs0, d0, ds0, p0, q0, hargs0, rfl, rfl, h0, r0⟩ := trodAll_cons hA
  obtain ⟨v1, vs1, d1, ds1, p1, q1, hargs1, rfl, rfl, h1, r1⟩ := trodAll_cons r0
  obtain ⟨rfl, rfl, rfl⟩ := trodAll_nil r1
  obtain ⟨rfl, rfl⟩ := trodVars_none hV
  obtain rfl : args = #[v0, v1] := by cases args; simp_all
  obtain ⟨a0, rfl, rfl, rfl, w0⟩ := open_int Try.underlying3 (hval 0 3 v0 rfl rfl) h0
  obtain ⟨a1, rfl, rfl, rfl, w1⟩ := open_int Try.underlying3 (hval 1 3 v1 rfl rfl) h1
  refine Calls.mono (law_calls mixed Try.func15 (runs a0 a1 (i64_of w0) (i64_of w1)) (rel_nil (fun _ => none) W) (Nat.le_refl 0) rfl) fun e W' ⟨he, hb⟩ => ?_
  subst he
  exact ⟨_, rfl, law_post hW' rfl rfl (by kernel_rfl) (by decide +kernel) rfl Try.underlying4 hb⟩

theorem over : Rows.stampGrainsRow.holds Try.pinned (OpenSpec.ofChange Rows.stampGrainsSpec) :=
  OpenClaim.holds_of_wide 15 Try.f15 rfl rfl rfl rfl rfl rfl rfl ⟨rfl, rfl, rfl, rfl, rfl⟩ rfl rfl rfl rfl rfl (by kernel_rfl) Try.func15 (by kernel_rfl)
    (of_decide_eq_true (by kernel_rfl)) (by unfold Func.isWrapper; first | (rw [if_pos (by decide +kernel)]; kernel_rfl) | (rw [if_neg (by decide +kernel)]; exact ⟨rfl, rfl⟩))
    (fun os started H enc _ => lifted os started H enc)

/-- StampGrains -/
theorem proved : Rows.StampGrainsSaid := over
#print axioms proved
end Go.Proofs.Ytfppdbgbnaibgaa.stampGrains
