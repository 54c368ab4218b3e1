/-
  WideTurns answers true for every two numbers of 128 bits: the statement WideTurnsSaid; conditions: those of the statement alone.
-/
import Derived.Test.YtfppdbgbnaibgaaSx
import Derived.Test.YtfppdbgbnaibgaaWideShared
import Derived.Test.YtfppdbgbnaibgaaRows
import Derived.WalkKit
import Derived.ProofKit
import Derived.OpenShut
namespace Go.Proofs.Ytfppdbgbnaibgaa.wideTurns
open Go.ChangeShapes Go.WideShapes Go.ChangeAt Go.RowKit Go.Sx
set_option linter.unusedVariables false

set_option maxRecDepth 100000
set_option maxHeartbeats 4000000 in
theorem runs (a b c d : Int) (ha : U64 a) (hb : U64 b) (hc : U64 c) (hd : U64 d) : Runs cx3 Try.f6 [.one (u2 a b), .one (u2 c d)] [] yes := by
  unfold U64 at *
  have hs : addC a b c d = addC c d a b ∧ addH a b c d = addH c d a b ∧ low64 (b + d + 0) = low64 (d + b + 0) := by
    unfold addC addH carry low64
    rw [Int.add_comm b d, Int.add_comm a c]; exact ⟨rfl, rfl, rfl⟩
  obtain ⟨s1, s2, s3⟩ := hs
  have h0 : 0 ≤ low64 (b + d + 0) ∧ low64 (b + d + 0) < 18446744073709551616 := by unfold low64; omega
  have h1 : 0 ≤ addH a b c d ∧ addH a b c d < 18446744073709551616 := by unfold addH low64; omega
  have hc1 : cmpI 0 7 0 8 = -1 := by decide
  have hcc : cmpI a b c d = IntKind.i64.wrap (0 - cmpI c d a b) := by
    have hw : ∀ x : Int, -2 ≤ x → x ≤ 2 → IntKind.i64.wrap x = x := fun x _ _ => w64 (by omega)
    unfold cmpI
    repeat' split
    all_goals rw [hw _ (by omega) (by omega)]
    all_goals omega
  have back : addC a b c d = 0 → ¬ cmpI (addH a b c d) (low64 (b + d + 0)) c d < 0 ∧ low64 (addH a b c d - c - borrow (low64 (b + d + 0)) d 0) = a ∧ low64 (low64 (b + d + 0) - d - 0) = b ∧ 0 ≤ cmpI (addH a b c d) (low64 (b + d + 0)) a b := by
    intro h
    unfold addC carry at h
    unfold cmpI borrow addH carry low64
    refine ⟨?_, ?_, ?_, ?_⟩
    · repeat' split
      all_goals omega
    · split <;> omega
    · omega
    · repeat' split
      all_goals omega
  by_cases hz : addC a b c d = 0
  · obtain ⟨b1, b2, b3, b4⟩ := back hz
    have hz' : addC c d a b = 0 := by rw [← s1]; exact hz
    repeat' (first | (refine fun _ => ?_) | refine ⟨?_, ?_⟩ | exact trivial | exact eq24 | exact lex_q (by kernel_rfl) | fail)
    all_goals try simp only [if_pos hz, if_pos hz', if_neg b1, s2.symm, s3.symm, b2, b3, hc1] at *
    all_goals first
      | omega
      | rfl
      | (rename_i h; exact absurd rfl h)
      | (rename_i h; simp at h; done)
      | (simp; omega)
      | (simp; simpa using hcc)
  · have hz' : ¬ addC c d a b = 0 := by rw [← s1]; exact hz
    clear back
    repeat' (first | (refine fun _ => ?_) | refine ⟨?_, ?_⟩ | exact trivial | exact eq24 | exact lex_q (by kernel_rfl) | fail)
    all_goals try simp only [if_neg hz, if_neg hz', s2.symm, s3.symm, hc1] at *
    all_goals first
      | omega
      | rfl
      | (rename_i h; exact absurd rfl h)
      | (rename_i h; simp at h; done)

theorem own : ownKnob Try.prog.godebug = none := by kernel_rfl

set_option maxRecDepth 100000 in
theorem lifted (os : Os) (started : os.Started) (H : Type) (enc : TypeId × Value → H) :
    ReturnsInHanded {} Try.checked os 6 .any (Rows.wideTurnsSpec.pre6 enc Try.prog Try.f6 Rows.wideTurnsRow.domain false) (Rows.wideTurnsSpec.post enc Try.prog Try.f6 false true false false) := by
  refine returnsInHanded_of_change (C := Try.checked) own started (by kernel_rfl) Try.func6
    (ChangeSpec.witness6 (enc := enc) (C := Try.checked) false ⟨#[], #[.agg #[.int .u64 0, .int .u64 0], .agg #[.int .u64 0, .int .u64 0]], []⟩ 8 (by kernel_rfl) (by kernel_rfl) (by kernel_rfl) (by kernel_rfl)) ?_
  intro W base args ds gs before hval0 hW hcnd _
  have hval : ∀ (j : Nat) t v, Try.f6.params[j]? = some t → args[j]? = some v → Value.okWide Try.prog W .any base t v := hval0
  have hW' := hW
  obtain ⟨p, q, hA0, hV, rfl, hfz, hnd⟩ := hW
  have hA : DataW.TrodAll enc Try.prog W 0 (fun _ => true) true Try.f6.params.toList args.toList ds p := hA0
  rw [Try.params6] at hA hval
  obtain ⟨v0, vs0, d0, ds0, p0, q0, hargs0, rfl, rfl, h0, r0⟩ := trodAll_cons hA
  obtain ⟨v1, vs1, d1, ds1, p1, q1, hargs1, rfl, rfl, h1, r1⟩ := trodAll_cons r0
  obtain ⟨rfl, rfl, rfl⟩ := trodAll_nil r1
  obtain ⟨rfl, rfl⟩ := trodVars_none hV
  obtain rfl : args = #[v0, v1] := by cases args; simp_all
  obtain ⟨cs0, hv0, hl0, hc0⟩ := agg_open (d := 6) (row := [some .u64, some .u64]) (by kernel_rfl) (by kernel_rfl) (hval 0 24 v0 rfl rfl) h0
  have g0_0 := listIs_of hl0 hc0
  clear hl0 hc0
  obtain ⟨_, cs0_1, rfl, ⟨b0_0, rfl, w0_0⟩, g0_1⟩ := listIs_cons g0_0
  obtain ⟨_, cs0_2, rfl, ⟨b0_1, rfl, w0_1⟩, g0_2⟩ := listIs_cons g0_1
  obtain rfl := listIs_nil g0_2
  subst hv0
  obtain ⟨cs1, hv1, hl1, hc1⟩ := agg_open (d := 6) (row := [some .u64, some .u64]) (by kernel_rfl) (by kernel_rfl) (hval 1 24 v1 rfl rfl) h1
  have g1_0 := listIs_of hl1 hc1
  clear hl1 hc1
  obtain ⟨_, cs1_1, rfl, ⟨b1_0, rfl, w1_0⟩, g1_1⟩ := listIs_cons g1_0
  obtain ⟨_, cs1_2, rfl, ⟨b1_1, rfl, w1_1⟩, g1_2⟩ := listIs_cons g1_1
  obtain rfl := listIs_nil g1_2
  subst hv1
  refine Calls.mono (law_calls mixed Try.func6 (runs b0_0 b0_1 b1_0 b1_1 (u64_of w0_0) (u64_of w0_1) (u64_of w1_0) (u64_of w1_1)) (rel_nil (fun _ => none) W) (Nat.le_refl 0) rfl) fun e W' ⟨he, hb⟩ => ?_
  subst he
  exact ⟨_, rfl, law_post hW' rfl rfl (by kernel_rfl) (by decide +kernel) rfl Try.underlying4 hb⟩

theorem over : Rows.wideTurnsRow.holds Try.pinned (OpenSpec.ofChange Rows.wideTurnsSpec) :=
  OpenClaim.holds_of_wide 6 Try.f6 rfl rfl rfl rfl rfl rfl rfl ⟨rfl, rfl, rfl, rfl, rfl⟩ rfl rfl rfl rfl rfl (by kernel_rfl) Try.func6 (by kernel_rfl)
    (of_decide_eq_true (by kernel_rfl)) (by unfold Func.isWrapper; first | (rw [if_pos (by decide +kernel)]; kernel_rfl) | (rw [if_neg (by decide +kernel)]; exact ⟨rfl, rfl⟩))
    (fun os started H enc _ => lifted os started H enc)

/-- WideTurns -/
theorem proved : Rows.WideTurnsSaid := over
#print axioms proved
end Go.Proofs.Ytfppdbgbnaibgaa.wideTurns
