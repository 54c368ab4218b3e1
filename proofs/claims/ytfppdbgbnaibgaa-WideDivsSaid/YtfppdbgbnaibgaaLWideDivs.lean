/-
  For all numbers of 128 bits and of 64 bits the law WideDivs answers true and leaves all memory as it was.
-/
import Derived.Test.YtfppdbgbnaibgaaSx
import Derived.Test.YtfppdbgbnaibgaaWideNum
import Derived.Test.YtfppdbgbnaibgaaRefA
import Derived.Test.YtfppdbgbnaibgaaRefB
import Derived.Test.YtfppdbgbnaibgaaWideU
import Derived.Test.YtfppdbgbnaibgaaLen
import Derived.Test.YtfppdbgbnaibgaaDiv64
import Derived.Test.YtfppdbgbnaibgaaDivU
import Derived.Test.YtfppdbgbnaibgaaRefM
import Derived.Test.YtfppdbgbnaibgaaRefD
import Derived.Test.YtfppdbgbnaibgaaRows
import Derived.WalkKit
import Derived.ProofKit
import Derived.OpenShut
namespace Go.Proofs.Ytfppdbgbnaibgaa.wideDivs
open Go.ChangeShapes Go.WideShapes Go.ChangeAt Go.RowKit Go.Sx
set_option linter.unusedVariables false
set_option linter.unusedSimpArgs false
set_option maxRecDepth 100000

noncomputable def cxL : Cx Try.prog := { ps := [ofS, divuS, sameS, cmpRefS], es := [pairRefS, ofRefS, divRefS], is := [], n0 := 0, loops := fun _ => none, cuts := fun _ => none }
theorem dv_len800 {n : Int} {y : DS} (h : DV n y) (hn : n < 340282366920938463463374607431768211456) : y.len ≤ 800 := by
  obtain ⟨_, _, _, _, h5, _⟩ := h
  rcases Nat.lt_or_ge 8 y.len with h8 | h8
  · have := h5 h8; omega
  · omega
set_option maxHeartbeats 16000000 in
theorem runs (a c b : Int) (ha : U64 a) (hc : U64 c) (hb : U64 b) : Runs cxL Try.f9 [.one (u2 a c), int_ .u64 b] [] yes := by
  obtain ⟨d1, d2, d3, d4⟩ := du_facts ((a, c), b) ⟨ha, hc, hb⟩
  have s1 : duH ((0, 7), 2) = 0 := by decide
  have s2 : duL ((0, 7), 2) = 3 := by decide
  have s3 : duR ((0, 7), 2) = 1 := by decide
  have vv : val2 (a, c) = a * 18446744073709551616 + c := rfl
  have z : b = 0 → duH ((a, c), b) = 0 ∧ duL ((a, c), b) = 0 ∧ duR ((a, c), b) = 0 := fun h => by unfold duH duL duR; simp [h]
  unfold U64 at *
  repeat' (first | exact trivial | with_reducible exact rfl | exact Nat.le_refl _ | with_reducible exact (fun _ _ => rfl) | ((conv => whnf); first | (refine fun (x : DS) => ?_) | (refine fun (y : DS × DS) => ?_) | (refine fun _ => ?_) | refine ⟨?_, ?_⟩ | exact trivial | exact lex_q (by kernel_rfl) | exact lex_t (by kernel_rfl) | exact lex_h (by kernel_rfl) | fail))
  all_goals (try dsimp only at *)
  any_goals first
    | exact eq24
    | omega
  all_goals (try (exfalso; simp [s1, s2, s3] at *; done))
  all_goals first
    | exact (by assumption : DV (a * 18446744073709551616 + c) _).2.1
    | exact (by assumption : DV b _).2.1
    | exact (by assumption : DV (duR _) _).2.1
    | exact dv_len800 (by assumption : DV (a * 18446744073709551616 + c) _) (by omega)
    | exact dv_len800 (by assumption : DV b _) (by omega)
    | exact (by assumption : DV _ y.1 ∧ DV _ y.2).1.2.1
    | exact (by assumption : DV _ y.1 ∧ DV _ y.2).2.2.1
    | (have w := (by assumption : DV b _).2.2.1
       rw [w]; omega)
    | (have hz : b = 0 := by assumption
       obtain ⟨z1, z2, z3⟩ := z hz
       simp only [z1, z2, z3] at *
       first | rfl | (simp at *; done))
    | (have h0 : ¬ b = 0 := by assumption
       obtain ⟨e1, e2, e3⟩ := d4 h0
       have w1 := (by assumption : DV (a * 18446744073709551616 + c) _).2.2.1
       have w2 := (by assumption : DV b _).2.2.1
       have h3 := (by assumption : DV _ y.1 ∧ DV _ y.2)
       rw [w1, w2, ← vv, ← e1, ← e2] at h3
       have w3 := h3.1.2.2.1
       have w4 := h3.2.2.2.1
       first
       | (exfalso
          have hf := (by assumption : decide (val2 (duH _, duL _) = _) = false)
          rw [w3] at hf
          exact of_decide_eq_false hf rfl)
       | (have w5 := (by assumption : DV (duR _) _).2.2.1
          rw [w5, w4]
          symm; apply decide_eq_true
          exact (cmpI3_eq _ _).2 rfl))

theorem own : ownKnob Try.prog.godebug = none := by kernel_rfl

set_option maxRecDepth 100000 in
theorem lifted (os : Os) (started : os.Started) (H : Type) (enc : TypeId × Value → H) :
    ReturnsInHanded {} Try.checked os 9 .any (Rows.wideDivsSpec.pre6 enc Try.prog Try.f9 Rows.wideDivsRow.domain false) (Rows.wideDivsSpec.post enc Try.prog Try.f9 false true false false) := by
  refine returnsInHanded_of_change (C := Try.checked) own started (by kernel_rfl) Try.func9
    (ChangeSpec.witness6 (enc := enc) (C := Try.checked) false ⟨#[], #[.agg #[.int .u64 0, .int .u64 0], .int .u64 0], []⟩ 8 (by kernel_rfl) (by kernel_rfl) (by kernel_rfl) (by kernel_rfl)) ?_
  intro W base args ds gs before hval0 hW hcnd _
  have hval : ∀ (j : Nat) t v, Try.f9.params[j]? = some t → args[j]? = some v → Value.okWide Try.prog W .any base t v := hval0
  have hW' := hW
  obtain ⟨p, q, hA0, hV, rfl, hfz, hnd⟩ := hW
  have hA : DataW.TrodAll enc Try.prog W 0 (fun _ => true) true Try.f9.params.toList args.toList ds p := hA0
  rw [Try.params9] at hA hval
  obtain ⟨v0, vs0, d0, ds0, p0, q0, hargs0, rfl, rfl, h0, r0⟩ := trodAll_cons hA
  obtain ⟨v1, vs1, d1, ds1, p1, q1, hargs1, rfl, rfl, h1, r1⟩ := trodAll_cons r0
  obtain ⟨rfl, rfl, rfl⟩ := trodAll_nil r1
  obtain ⟨rfl, rfl⟩ := trodVars_none hV
  obtain rfl : args = #[v0, v1] := by cases args; simp_all
  obtain ⟨cs0, hv0, hl0, hc0⟩ := agg_open (d := 6) (row := [some .u64, some .u64]) (by kernel_rfl) (by kernel_rfl) (hval 0 24 v0 rfl rfl) h0
  have g0_0 := listIs_of hl0 hc0
  clear hl0 hc0
  obtain ⟨_, cs0_1, rfl, ⟨b0_0, rfl, w0_0⟩, g0_1⟩ := listIs_cons g0_0
  obtain ⟨_, cs0_2, rfl, ⟨b0_1, rfl, w0_1⟩, g0_2⟩ := listIs_cons g0_1
  obtain rfl := listIs_nil g0_2
  subst hv0
  obtain ⟨a1, rfl, rfl, rfl, w1⟩ := open_int Try.underlying22 (hval 1 22 v1 rfl rfl) h1
  refine Calls.mono (law_calls mixed Try.func9 (runs b0_0 b0_1 a1 (u64_of w0_0) (u64_of w0_1) (u64_of w1)) (rel_nil (fun _ => none) W) (Nat.le_refl 0) rfl) fun e W' ⟨he, hb⟩ => ?_
  subst he
  exact ⟨_, rfl, law_post hW' rfl rfl (by kernel_rfl) (by decide +kernel) rfl Try.underlying4 hb⟩

theorem over : Rows.wideDivsRow.holds Try.pinned (OpenSpec.ofChange Rows.wideDivsSpec) :=
  OpenClaim.holds_of_wide 9 Try.f9 rfl rfl rfl rfl rfl rfl rfl ⟨rfl, rfl, rfl, rfl, rfl⟩ rfl rfl rfl rfl rfl (by kernel_rfl) Try.func9 (by kernel_rfl)
    (of_decide_eq_true (by kernel_rfl)) (by unfold Func.isWrapper; first | (rw [if_pos (by decide +kernel)]; kernel_rfl) | (rw [if_neg (by decide +kernel)]; exact ⟨rfl, rfl⟩))
    (fun os started H enc _ => lifted os started H enc)

/-- WideDivs -/
theorem proved : Rows.WideDivsSaid := over
#print axioms proved
end Go.Proofs.Ytfppdbgbnaibgaa.wideDivs
