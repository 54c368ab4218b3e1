/-
  For all numbers of 128 bits and of 64 bits the law WideParts answers true and leaves all memory as it was.
-/
import Derived.Test.YtfppdbgbnaibgaaSx
import Derived.Test.YtfppdbgbnaibgaaWideNum
import Derived.Test.YtfppdbgbnaibgaaRefA
import Derived.Test.YtfppdbgbnaibgaaRefB
import Derived.Test.YtfppdbgbnaibgaaWideU
import Derived.Test.YtfppdbgbnaibgaaLen
import Derived.Test.YtfppdbgbnaibgaaDiv64
import Derived.Test.YtfppdbgbnaibgaaDivU
import Derived.Test.YtfppdbgbnaibgaaRows
import Derived.WalkKit
import Derived.ProofKit
import Derived.OpenShut
namespace Go.Proofs.Ytfppdbgbnaibgaa.wideParts
open Go.ChangeShapes Go.WideShapes Go.ChangeAt Go.RowKit Go.Sx
set_option linter.unusedVariables false
set_option linter.unusedSimpArgs false
set_option maxRecDepth 100000

noncomputable def cxL : Cx Try.prog := { ps := [ofS, divuS, mulS, addS], es := [], is := [], n0 := 0, loops := fun _ => none, cuts := fun _ => none, held := fun i => match i with | 12 => some (true, .take 0 (.take 1 (.two 2 (.two 3 (.take 4 (.take 5 (.take 6 (.one 7 (.one 8 (.take 9 .done)))))) 7 (.one 3 (.take 4 (.take 5 (.take 6 (.one 8 (.take 9 .done))))))) 7 (.one 2 (.one 3 (.take 4 (.take 5 (.take 6 (.one 8 (.take 9 .done)))))))))) | _ => none }
theorem parts_facts (a c b : Int) (ha : U64 a) (hc : U64 c) (hb : U64 b) (h0 : b ≠ 0) : ∃ PH PL : Int, duH ((a, c), b) * b = PH ∧ duL ((a, c), b) * b = PL ∧ 0 ≤ PH ∧ PH ≤ a ∧ 0 ≤ PL ∧ 0 ≤ duR ((a, c), b) ∧ duR ((a, c), b) < b ∧ PH * 18446744073709551616 + PL + duR ((a, c), b) = a * 18446744073709551616 + c := by
  obtain ⟨d1, d2, d3, d4⟩ := du_facts ((a, c), b) ⟨ha, hc, hb⟩
  obtain ⟨e1, e2, e3⟩ := d4 h0
  have hh : duH ((a, c), b) = a / b := by unfold duH; rw [if_neg h0]
  unfold U64 at *
  have q1 := Int.mul_ediv_add_emod a b
  have r1 := Int.emod_nonneg a h0
  have q2 := Int.mul_ediv_add_emod (val2 (a, c)) b
  have q3 : 0 ≤ a / b := Int.ediv_nonneg ha.1 (by omega)
  refine ⟨_, _, rfl, rfl, Int.mul_nonneg d1.1 (by omega), ?_, Int.mul_nonneg d2.1 (by omega), d3.1, e3, ?_⟩
  · rw [hh, Int.mul_comm]; omega
  · rw [Int.mul_right_comm, ← Int.add_mul, e1, e2, Int.mul_comm]; exact q2
set_option maxHeartbeats 16000000 in
theorem runs (a c b : Int) (ha : U64 a) (hc : U64 c) (hb : U64 b) : Runs cxL Try.f10 [.one (u2 a c), int_ .u64 b] [] yes := by
  obtain ⟨d1, d2, d3, d4⟩ := du_facts ((a, c), b) ⟨ha, hc, hb⟩
  have pf := parts_facts a c b ha hc hb
  have s1 : duH ((0, 7), 2) = 0 := by decide
  have s2 : duL ((0, 7), 2) = 3 := by decide
  have s3 : duR ((0, 7), 2) = 1 := by decide
  unfold U64 at *
  repeat' (first | exact trivial | with_reducible exact rfl | exact Nat.le_refl _ | with_reducible exact (fun _ _ => rfl) | ((conv => whnf); first | (refine fun _ => ?_) | refine ⟨?_, ?_⟩ | exact trivial | exact lex_q (by kernel_rfl) | exact lex_t (by kernel_rfl) | exact lex_h (by kernel_rfl) | fail))
  all_goals (try dsimp only at *)
  any_goals first
    | exact eq24
    | omega
  all_goals (try (exfalso; simp [s1, s2, s3] at *; done))
  all_goals
    have h0 : ¬ b = 0 := by assumption
    obtain ⟨PH, PL, e1, e2, f1, f2, f3, f4, f5, f6⟩ := pf h0
    have k1 : addC (PL / 18446744073709551616) (PL % 18446744073709551616) (PH % 18446744073709551616) 0 = 0 := by unfold addC carry; omega
    have k2 : addH (PL / 18446744073709551616) (PL % 18446744073709551616) (PH % 18446744073709551616) 0 = PL / 18446744073709551616 + PH := by unfold addH carry low64; omega
    have k3 : low64 (PL % 18446744073709551616 + 0 + 0) = PL % 18446744073709551616 := by unfold low64; omega
    have k4 : addC (PL / 18446744073709551616 + PH) (PL % 18446744073709551616) 0 (duR ((a, c), b)) = 0 := by unfold addC carry; omega
    have k5 : addH (PL / 18446744073709551616 + PH) (PL % 18446744073709551616) 0 (duR ((a, c), b)) = a := by unfold addH carry low64; omega
    have k6 : low64 (PL % 18446744073709551616 + duR ((a, c), b) + 0) = c := by unfold low64; omega
    clear pf s1 s2 s3 d4
    simp only [e1, e2, k1, k2, k3, k4, k5, k6, h0, if_true, if_false] at *
  all_goals first
    | omega
    | (exfalso; omega)
    | (simp; done)
    | exact absurd trivial (by assumption)

theorem own : ownKnob Try.prog.godebug = none := by kernel_rfl

set_option maxRecDepth 100000 in
theorem lifted (os : Os) (started : os.Started) (H : Type) (enc : TypeId × Value → H) :
    ReturnsInHanded {} Try.checked os 10 .any (Rows.widePartsSpec.pre6 enc Try.prog Try.f10 Rows.widePartsRow.domain false) (Rows.widePartsSpec.post enc Try.prog Try.f10 false true false false) := by
  refine returnsInHanded_of_change (C := Try.checked) own started (by kernel_rfl) Try.func10
    (ChangeSpec.witness6 (enc := enc) (C := Try.checked) false ⟨#[], #[.agg #[.int .u64 0, .int .u64 0], .int .u64 0], []⟩ 8 (by kernel_rfl) (by kernel_rfl) (by kernel_rfl) (by kernel_rfl)) ?_
  intro W base args ds gs before hval0 hW hcnd _
  have hval : ∀ (j : Nat) t v, Try.f10.params[j]? = some t → args[j]? = some v → Value.okWide Try.prog W .any base t v := hval0
  have hW' := hW
  obtain ⟨p, q, hA0, hV, rfl, hfz, hnd⟩ := hW
  have hA : DataW.TrodAll enc Try.prog W 0 (fun _ => true) true Try.f10.params.toList args.toList ds p := hA0
  rw [Try.params10] at hA hval
  obtain ⟨v0, vs0, d0, ds0, p0, q0, hargs0, rfl, rfl, h0, r0⟩ := trodAll_cons hA
  obtain ⟨v1, vs1, d1, ds1, p1, q1, hargs1, rfl, rfl, h1, r1⟩ := trodAll_cons r0
  obtain ⟨rfl, rfl, rfl⟩ := trodAll_nil r1
  obtain ⟨rfl, rfl⟩ := trodVars_none hV
  obtain rfl : args = #[v0, v1] := by cases args; simp_all
  obtain ⟨cs0, hv0, hl0, hc0⟩ := agg_open (d := 6) (row := [some .u64, some .u64]) (by kernel_rfl) (by kernel_rfl) (hval 0 24 v0 rfl rfl) h0
  have g0_0 := listIs_of hl0 hc0
  clear hl0 hc0
  obtain ⟨_, cs0_1, rfl, ⟨b0_0, rfl, w0_0⟩, g0_1⟩ := listIs_cons g0_0
  obtain ⟨_, cs0_2, rfl, ⟨b0_1, rfl, w0_1⟩, g0_2⟩ := listIs_cons g0_1
  obtain rfl := listIs_nil g0_2
  subst hv0
  obtain ⟨a1, rfl, rfl, rfl, w1⟩ := open_int Try.underlying22 (hval 1 22 v1 rfl rfl) h1
  refine Calls.mono (law_calls mixed Try.func10 (runs b0_0 b0_1 a1 (u64_of w0_0) (u64_of w0_1) (u64_of w1)) (rel_nil (fun _ => none) W) (Nat.le_refl 0) rfl) fun e W' ⟨he, hb⟩ => ?_
  subst he
  exact ⟨_, rfl, law_post hW' rfl rfl (by kernel_rfl) (by decide +kernel) rfl Try.underlying4 hb⟩

theorem over : Rows.widePartsRow.holds Try.pinned (OpenSpec.ofChange Rows.widePartsSpec) :=
  OpenClaim.holds_of_wide 10 Try.f10 rfl rfl rfl rfl rfl rfl rfl ⟨rfl, rfl, rfl, rfl, rfl⟩ rfl rfl rfl rfl rfl (by kernel_rfl) Try.func10 (by kernel_rfl)
    (of_decide_eq_true (by kernel_rfl)) (by unfold Func.isWrapper; first | (rw [if_pos (by decide +kernel)]; kernel_rfl) | (rw [if_neg (by decide +kernel)]; exact ⟨rfl, rfl⟩))
    (fun os started H enc _ => lifted os started H enc)

/-- WideParts -/
theorem proved : Rows.WidePartsSaid := over
#print axioms proved
end Go.Proofs.Ytfppdbgbnaibgaa.wideParts
