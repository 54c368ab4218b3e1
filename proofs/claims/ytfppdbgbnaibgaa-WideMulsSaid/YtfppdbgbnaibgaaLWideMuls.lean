/-
  For all pairs of numbers of 64 bits the law WideMuls answers true and leaves all memory as it was.
-/
import Derived.Test.YtfppdbgbnaibgaaSx
import Derived.Test.YtfppdbgbnaibgaaWideNum
import Derived.Test.YtfppdbgbnaibgaaRefA
import Derived.Test.YtfppdbgbnaibgaaRefB
import Derived.Test.YtfppdbgbnaibgaaWideU
import Derived.Test.YtfppdbgbnaibgaaRefM
import Derived.Test.YtfppdbgbnaibgaaRows
import Derived.WalkKit
import Derived.ProofKit
import Derived.OpenShut
namespace Go.Proofs.Ytfppdbgbnaibgaa.wideMuls
open Go.ChangeShapes Go.WideShapes Go.ChangeAt Go.RowKit Go.Sx
set_option linter.unusedVariables false
set_option linter.unusedSimpArgs false
set_option maxRecDepth 100000

noncomputable def cxL : Cx Try.prog := { ps := [mulS, sameS], es := [ofRefS, mulRefS], is := [], n0 := 0, loops := fun _ => none, cuts := fun _ => none }
theorem dv_len400 {n : Int} {y : DS} (h : DV n y) (hn : n < 340282366920938463463374607431768211456) : y.len ≤ 400 := by
  obtain ⟨_, _, _, _, h5, _⟩ := h
  rcases Nat.lt_or_ge 8 y.len with h8 | h8
  · have := h5 h8; omega
  · omega
theorem mul_same {a b : Int} {y z w : DS} (h1 : DV a y) (h2 : DV b z) (h3 : DV (nv ⟨y.len, y.cap, y.cap - 0, fun q => y.g (q + 0)⟩ * nv ⟨z.len, z.cap, z.cap - 0, fun q => z.g (q + 0)⟩) w) :
    true = decide (val2 (a * b / 18446744073709551616, a * b % 18446744073709551616) = nv ⟨w.len, w.cap, w.cap - 0, fun q => w.g (q + 0)⟩) := by
  rw [h3.2.2.1, h1.2.2.1, h2.2.2.1]
  symm; apply decide_eq_true
  unfold val2; dsimp only; omega
set_option maxHeartbeats 16000000 in
theorem runs (a b : Int) (ha : U64 a) (hb : U64 b) : Runs cxL Try.f3 [int_ .u64 a, int_ .u64 b] [] yes := by
  have pp : 0 ≤ a * b := Int.mul_nonneg ha.1 hb.1
  have pq : a * b < 18446744073709551616 * 18446744073709551616 := by
    have h1 : a * b ≤ a * 18446744073709551616 := Int.mul_le_mul_of_nonneg_left (by unfold U64 at hb; omega) ha.1
    unfold U64 at ha; omega
  unfold U64 at *
  repeat' (first | exact trivial | with_reducible exact rfl | exact Nat.le_refl _ | with_reducible exact (fun _ _ => rfl) | ((conv => whnf); first | (refine fun (x : DS) => ?_) | (refine fun (y : DS) => ?_) | (refine fun (z : DS) => ?_) | (refine fun _ => ?_) | refine ⟨?_, ?_⟩ | exact trivial | exact lex_q (by kernel_rfl) | exact lex_t (by kernel_rfl) | exact lex_h (by kernel_rfl) | fail))
  all_goals (try dsimp only at *)
  all_goals (try omega)
  all_goals first
    | exact eq24
    | exact (by assumption : DV a _).2.1
    | exact (by assumption : DV b _).2.1
    | exact (by assumption : DV (_ * _) _).2.1
    | exact dv_len400 (by assumption : DV a _) (by omega)
    | exact dv_len400 (by assumption : DV b _) (by omega)
    | exact mul_same (by assumption : DV a _) (by assumption : DV b _) (by assumption)
    | (exfalso; revert ‹(_ && _) = false›; decide)

theorem own : ownKnob Try.prog.godebug = none := by kernel_rfl

set_option maxRecDepth 100000 in
theorem lifted (os : Os) (started : os.Started) (H : Type) (enc : TypeId × Value → H) :
    ReturnsInHanded {} Try.checked os 3 .any (Rows.wideMulsSpec.pre6 enc Try.prog Try.f3 Rows.wideMulsRow.domain false) (Rows.wideMulsSpec.post enc Try.prog Try.f3 false true false false) := by
  refine returnsInHanded_of_change (C := Try.checked) own started (by kernel_rfl) Try.func3
    (ChangeSpec.witness6 (enc := enc) (C := Try.checked) false ⟨#[], #[.int .u64 0, .int .u64 0], []⟩ 8 (by kernel_rfl) (by kernel_rfl) (by kernel_rfl) (by kernel_rfl)) ?_
  intro W base args ds gs before hval0 hW hcnd _
  have hval : ∀ (j : Nat) t v, Try.f3.params[j]? = some t → args[j]? = some v → Value.okWide Try.prog W .any base t v := hval0
  have hW' := hW
  obtain ⟨p, q, hA0, hV, rfl, hfz, hnd⟩ := hW
  have hA : DataW.TrodAll enc Try.prog W 0 (fun _ => true) true Try.f3.params.toList args.toList ds p := hA0
  rw [Try.params3] at hA hval
  obtain ⟨v0, vs0, d0, ds0, p0, q0, hargs0, rfl, rfl, h0, r0⟩ := trodAll_cons hA
  obtain ⟨v1, vs1, d1, ds1, p1, q1, hargs1, rfl, rfl, h1, r1⟩ := trodAll_cons r0
  obtain ⟨rfl, rfl, rfl⟩ := trodAll_nil r1
  obtain ⟨rfl, rfl⟩ := trodVars_none hV
  obtain rfl : args = #[v0, v1] := by cases args; simp_all
  obtain ⟨a0, rfl, rfl, rfl, w0⟩ := open_int Try.underlying22 (hval 0 22 v0 rfl rfl) h0
  obtain ⟨a1, rfl, rfl, rfl, w1⟩ := open_int Try.underlying22 (hval 1 22 v1 rfl rfl) h1
  refine Calls.mono (law_calls mixed Try.func3 (runs a0 a1 (u64_of w0) (u64_of w1)) (rel_nil (fun _ => none) W) (Nat.le_refl 0) rfl) fun e W' ⟨he, hb⟩ => ?_
  subst he
  exact ⟨_, rfl, law_post hW' rfl rfl (by kernel_rfl) (by decide +kernel) rfl Try.underlying4 hb⟩

theorem over : Rows.wideMulsRow.holds Try.pinned (OpenSpec.ofChange Rows.wideMulsSpec) :=
  OpenClaim.holds_of_wide 3 Try.f3 rfl rfl rfl rfl rfl rfl rfl ⟨rfl, rfl, rfl, rfl, rfl⟩ rfl rfl rfl rfl rfl (by kernel_rfl) Try.func3 (by kernel_rfl)
    (of_decide_eq_true (by kernel_rfl)) (by unfold Func.isWrapper; first | (rw [if_pos (by decide +kernel)]; kernel_rfl) | (rw [if_neg (by decide +kernel)]; exact ⟨rfl, rfl⟩))
    (fun os started H enc _ => lifted os started H enc)

/-- WideMuls -/
theorem proved : Rows.WideMulsSaid := over
#print axioms proved
end Go.Proofs.Ytfppdbgbnaibgaa.wideMuls
