/-
  For all whole numbers the law StampNear answers true and leaves all memory as it was.
-/
import Derived.Test.YtfppdbgbnaibgaaSx
import Derived.Test.YtfppdbgbnaibgaaWideNum
import Derived.Test.YtfppdbgbnaibgaaRefA
import Derived.Test.YtfppdbgbnaibgaaRefB
import Derived.Test.YtfppdbgbnaibgaaWideU
import Derived.Test.YtfppdbgbnaibgaaLen
import Derived.Test.YtfppdbgbnaibgaaDiv64
import Derived.Test.YtfppdbgbnaibgaaDivU
import Derived.Test.YtfppdbgbnaibgaaMulDiv
import Derived.Test.YtfppdbgbnaibgaaStampA
import Derived.Test.YtfppdbgbnaibgaaStampB
import Derived.Test.YtfppdbgbnaibgaaRows
import Derived.WalkKit
import Derived.ProofKit
import Derived.OpenShut
namespace Go.Proofs.Ytfppdbgbnaibgaa.stampNear
open Go.ChangeShapes Go.WideShapes Go.ChangeAt Go.RowKit Go.Sx
set_option linter.unusedVariables false
set_option linter.unusedSimpArgs false
set_option maxRecDepth 100000

noncomputable def cxL : Cx Try.prog := { ps := [head3S, grainS, ssubS], es := [], is := [], n0 := 0, loops := fun _ => none, cuts := fun _ => none }
set_option maxHeartbeats 16000000 in
theorem runs (s ns : Int) (ha : I64 s) (hb : I64 ns) : Runs cxL Try.f18 [int_ .i64 s, int_ .i64 ns] [] yes := by
  have f6 := and20 ns
  have f7 : IntKind.i64.wrap (1 + ns % 1048576) = 1 + ns % 1048576 := w64' (by omega) (by omega)
  have n1 : 1 ≤ 1 + ns % 1048576 := by omega
  have n2 : 1 + ns % 1048576 ≤ 1048576 := by omega
  have f8 : IntKind.i64.wrap ((1 + ns % 1048576) * 65536) = (1 + ns % 1048576) * 65536 := w64' (by omega) (by omega)
  obtain ⟨q, r, g1, g2, g3, g4, g5⟩ := near3 (s := s) n1 n2
  have gx : grX s (1 + ns % 1048576) = if s - r < -9223372036854775808 then 0 else s - r := by unfold grX; rw [if_neg (by omega), g1]
  have ge : grE s (1 + ns % 1048576) = if s - r < -9223372036854775808 then 10 else 0 := by unfold grE; rw [if_neg (by omega), g1]
  have f9 : I64 r := by unfold I64; omega
  have d1 : smX (s - (s - r)) = r := by rw [show s - (s - r) = r by omega]; exact if_pos f9
  have d2 : smE (s - (s - r)) = 0 := by rw [show s - (s - r) = r by omega]; exact if_pos f9
  by_cases h : s - r < -9223372036854775808
  · rw [if_pos h] at gx ge
    unfold I64 at *
    repeat' (first | exact trivial | with_reducible exact rfl | exact Nat.le_refl _ | with_reducible exact (fun _ _ => rfl) | ((conv => whnf); first | (refine fun _ => ?_) | refine ⟨?_, ?_⟩ | exact trivial | exact lex_q (by kernel_rfl) | exact lex_t (by kernel_rfl) | exact lex_h (by kernel_rfl) | fail))
    all_goals (try dsimp only at *)
    all_goals (try simp only [f6, f7] at *)
    all_goals (try simp only [gx, ge] at *)
    all_goals first | omega | exact absurd (by assumption : (!true) = true) (by decide) | exact absurd trivial (by assumption) | (simp [*]; done) | (simp; omega) | (simp [*] at *; done)
  · rw [if_neg h] at gx ge
    have hx : grX (s - r) (1 + ns % 1048576) = s - r := by unfold grX; rw [if_neg (by omega), g5, if_neg h]
    have he : grE (s - r) (1 + ns % 1048576) = 0 := by unfold grE; rw [if_neg (by omega), g5, if_neg h]
    have tz : IntKind.i64.wrap (Int.tmod (s - r) 65536) = 0 := by rw [g4, tmod_mul]; rfl
    unfold I64 at *
    repeat' (first | exact trivial | with_reducible exact rfl | exact Nat.le_refl _ | with_reducible exact (fun _ _ => rfl) | ((conv => whnf); first | (refine fun _ => ?_) | refine ⟨?_, ?_⟩ | exact trivial | exact lex_q (by kernel_rfl) | exact lex_t (by kernel_rfl) | exact lex_h (by kernel_rfl) | fail))
    all_goals (try dsimp only at *)
    all_goals (try simp only [f6, f7] at *)
    all_goals (try simp only [gx, ge, hx, he, d1, d2, f8, tz] at *)
    all_goals first | omega | exact absurd (by assumption : (!true) = true) (by decide) | exact absurd trivial (by assumption) | (simp [*]; done) | (simp [*] at *; done)

theorem own : ownKnob Try.prog.godebug = none := by kernel_rfl

set_option maxRecDepth 100000 in
theorem lifted (os : Os) (started : os.Started) (H : Type) (enc : TypeId × Value → H) :
    ReturnsInHanded {} Try.checked os 18 .any (Rows.stampNearSpec.pre6 enc Try.prog Try.f18 Rows.stampNearRow.domain false) (Rows.stampNearSpec.post enc Try.prog Try.f18 false true false false) := by
  refine returnsInHanded_of_change (C := Try.checked) own started (by kernel_rfl) Try.func18
    (ChangeSpec.witness6 (enc := enc) (C := Try.checked) false ⟨#[], #[.int .i64 0, .int .i64 0], []⟩ 8 (by kernel_rfl) (by kernel_rfl) (by kernel_rfl) (by kernel_rfl)) ?_
  intro W base args ds gs before hval0 hW hcnd _
  have hval : ∀ (j : Nat) t v, Try.f18.params[j]? = some t → args[j]? = some v → Value.okWide Try.prog W .any base t v := hval0
  have hW' := hW
  obtain ⟨p, q, hA0, hV, rfl, hfz, hnd⟩ := hW
  have hA : DataW.TrodAll enc Try.prog W 0 (fun _ => true) true Try.f18.params.toList args.toList ds p := hA0
  rw [Try.params18] at hA hval
  obtain ⟨v0, vs0, d0, ds0, p0, q0, hargs0, rfl, rfl, h0, r0⟩ := trodAll_cons hA
  obtain ⟨v1, vs1, d1, ds1, p1, q1, hargs1, rfl, rfl, h1, r1⟩ := trodAll_cons r0
  obtain ⟨rfl, rfl, rfl⟩ := trodAll_nil r1
  obtain ⟨rfl, rfl⟩ := trodVars_none hV
  obtain rfl : args = #[v0, v1] := by cases args; simp_all
  obtain ⟨a0, rfl, rfl, rfl, w0⟩ := open_int Try.underlying3 (hval 0 3 v0 rfl rfl) h0
  obtain ⟨a1, rfl, rfl, rfl, w1⟩ := open_int Try.underlying3 (hval 1 3 v1 rfl rfl) h1
  refine Calls.mono (law_calls mixed Try.func18 (runs a0 a1 (i64_of w0) (i64_of w1)) (rel_nil (fun _ => none) W) (Nat.le_refl 0) rfl) fun e W' ⟨he, hb⟩ => ?_
  subst he
  exact ⟨_, rfl, law_post hW' rfl rfl (by kernel_rfl) (by decide +kernel) rfl Try.underlying4 hb⟩

theorem over : Rows.stampNearRow.holds Try.pinned (OpenSpec.ofChange Rows.stampNearSpec) :=
  OpenClaim.holds_of_wide 18 Try.f18 rfl rfl rfl rfl rfl rfl rfl ⟨rfl, rfl, rfl, rfl, rfl⟩ rfl rfl rfl rfl rfl (by kernel_rfl) Try.func18 (by kernel_rfl)
    (of_decide_eq_true (by kernel_rfl)) (by unfold Func.isWrapper; first | (rw [if_pos (by decide +kernel)]; kernel_rfl) | (rw [if_neg (by decide +kernel)]; exact ⟨rfl, rfl⟩))
    (fun os started H enc _ => lifted os started H enc)

/-- StampNear -/
theorem proved : Rows.StampNearSaid := over
#print axioms proved
end Go.Proofs.Ytfppdbgbnaibgaa.stampNear
