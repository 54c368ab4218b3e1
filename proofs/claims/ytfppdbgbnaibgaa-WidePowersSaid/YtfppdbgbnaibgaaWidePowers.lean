/-
  WidePowers answers true for every number of 64 bits and every whole number: the statement WidePowersSaid; conditions: those of the statement alone.
-/
import Derived.Test.YtfppdbgbnaibgaaSx
import Derived.Test.YtfppdbgbnaibgaaWideShared
import Derived.Test.YtfppdbgbnaibgaaRows
import Derived.WalkKit
import Derived.ProofKit
import Derived.OpenShut
namespace Go.Proofs.Ytfppdbgbnaibgaa.widePowers
open Go.ChangeShapes Go.WideShapes Go.ChangeAt Go.RowKit Go.Sx
set_option linter.unusedVariables false

set_option maxRecDepth 100000
theorem runs (a n : Int) (ha : U64 a) : Runs cx3 Try.f4 [.one (u64_ a), int_ .i64 n] [] yes := by
  have hk : bits BinOp.and IntKind.i64 n 63 = n % 64 := and_mask n 6 (by decide)
  obtain ⟨k, hk', hlt⟩ : ∃ k : Nat, n % 64 = (k : Int) ∧ k < 64 := ⟨(n % 64).toNat, by omega, by omega⟩
  have e1 : bits BinOp.and IntKind.i64 n 63 = (k : Int) := hk.trans hk'
  have e2 : IntKind.u64.wrap (k : Int) = k := by rw [wu64]; omega
  have e3 : min (Int.toNat (k : Int)) IntKind.u64.bits = k := by show min k 64 = k; omega
  have p1 : (2 : Int) ^ k ≤ 2 ^ 63 := by
    have : (2 : Nat) ^ k ≤ 2 ^ 63 := Nat.pow_le_pow_right (by decide) (by omega)
    exact_mod_cast this
  have p0 : (0 : Int) < 2 ^ k := Int.pow_pos (by decide)
  have e4 : IntKind.u64.wrap (1 * 2 ^ k) = 2 ^ k := by rw [wu64]; omega
  have e5 : IntKind.u64.wrap (IntKind.i64.wrap (64 - (k : Int))) = ((64 - k : Nat) : Int) := by rw [w64 (by omega), wu64]; omega
  have e6 : min (Int.toNat ((64 - k : Nat) : Int)) IntKind.u64.bits = 64 - k := by show min (64 - k) 64 = 64 - k; omega
  have pq : (2 : Int) ^ k * 2 ^ (64 - k) = 18446744073709551616 := by
    rw [← Int.pow_add, show k + (64 - k) = 64 by omega]; decide
  have q0 : (0 : Int) < 2 ^ (64 - k) := Int.pow_pos (by decide)
  have e7 : a * 2 ^ k / 18446744073709551616 = a.fdiv (2 ^ (64 - k)) := by
    rw [Int.fdiv_eq_ediv_of_nonneg _ (by omega), ← pq, Int.mul_comm a, Int.mul_ediv_mul_of_pos _ _ p0]
  have e8 : ¬ 0 < (k : Int) → a * 2 ^ k / 18446744073709551616 = 0 := by
    intro h
    obtain rfl : k = 0 := by omega
    unfold U64 at ha
    omega
  have e9 : (2 : Int) ^ k * a = a * 2 ^ k := Int.mul_comm _ _
  unfold U64 at ha
  repeat' (first | exact trivial | exact eq24 | (refine fun _ => ?_) | refine ⟨?_, ?_⟩ | fail)
  all_goals simp only [e1, e2, e3, e4, e5, e6, e9, wu64, e7, Bool.and_true, Bool.and_eq_true, Bool.and_eq_false_iff, decide_eq_true_eq, decide_eq_false_iff_not, true_and] at *
  all_goals first
    | omega
    | rfl
    | (simp only [e8 (by assumption)]; simp; done)
    | (rename_i h; simp at h; done)

theorem own : ownKnob Try.prog.godebug = none := by kernel_rfl

set_option maxRecDepth 100000 in
theorem lifted (os : Os) (started : os.Started) (H : Type) (enc : TypeId × Value → H) :
    ReturnsInHanded {} Try.checked os 4 .any (Rows.widePowersSpec.pre6 enc Try.prog Try.f4 Rows.widePowersRow.domain false) (Rows.widePowersSpec.post enc Try.prog Try.f4 false true false false) := by
  refine returnsInHanded_of_change (C := Try.checked) own started (by kernel_rfl) Try.func4
    (ChangeSpec.witness6 (enc := enc) (C := Try.checked) false ⟨#[], #[.int .u64 0, .int .i64 0], []⟩ 8 (by kernel_rfl) (by kernel_rfl) (by kernel_rfl) (by kernel_rfl)) ?_
  intro W base args ds gs before hval0 hW hcnd _
  have hval : ∀ (j : Nat) t v, Try.f4.params[j]? = some t → args[j]? = some v → Value.okWide Try.prog W .any base t v := hval0
  have hW' := hW
  obtain ⟨p, q, hA0, hV, rfl, hfz, hnd⟩ := hW
  have hA : DataW.TrodAll enc Try.prog W 0 (fun _ => true) true Try.f4.params.toList args.toList ds p := hA0
  rw [Try.params4] at hA hval
  obtain ⟨v0, vs0, d0, ds0, p0, q0, hargs0, rfl, rfl, h0, r0⟩ := trodAll_cons hA
  obtain ⟨v1, vs1, d1, ds1, p1, q1, hargs1, rfl, rfl, h1, r1⟩ := trodAll_cons r0
  obtain ⟨rfl, rfl, rfl⟩ := trodAll_nil r1
  obtain ⟨rfl, rfl⟩ := trodVars_none hV
  obtain rfl : args = #[v0, v1] := by cases args; simp_all
  obtain ⟨a0, rfl, rfl, rfl, w0⟩ := open_int Try.underlying22 (hval 0 22 v0 rfl rfl) h0
  obtain ⟨a1, rfl, rfl, rfl, w1⟩ := open_int Try.underlying3 (hval 1 3 v1 rfl rfl) h1
  refine Calls.mono (law_calls mixed Try.func4 (runs a0 a1 (u64_of w0)) (rel_nil (fun _ => none) W) (Nat.le_refl 0) rfl) fun e W' ⟨he, hb⟩ => ?_
  subst he
  exact ⟨_, rfl, law_post hW' rfl rfl (by kernel_rfl) (by decide +kernel) rfl Try.underlying4 hb⟩

theorem over : Rows.widePowersRow.holds Try.pinned (OpenSpec.ofChange Rows.widePowersSpec) :=
  OpenClaim.holds_of_wide 4 Try.f4 rfl rfl rfl rfl rfl rfl rfl ⟨rfl, rfl, rfl, rfl, rfl⟩ rfl rfl rfl rfl rfl (by kernel_rfl) Try.func4 (by kernel_rfl)
    (of_decide_eq_true (by kernel_rfl)) (by unfold Func.isWrapper; first | (rw [if_pos (by decide +kernel)]; kernel_rfl) | (rw [if_neg (by decide +kernel)]; exact ⟨rfl, rfl⟩))
    (fun os started H enc _ => lifted os started H enc)

/-- WidePowers -/
theorem proved : Rows.WidePowersSaid := over
#print axioms proved
end Go.Proofs.Ytfppdbgbnaibgaa.widePowers
