/-
  Contracts of functions, and plain facts about them, that a claim of this seat uses.
-/
import Derived.Test.YtfppdbgbnaibgaaSx
import Derived.Test.YtfppdbgbnaibgaaWideNum
import Derived.Test.YtfppdbgbnaibgaaRefA
import Derived.Test.YtfppdbgbnaibgaaRefB
import Derived.Test.YtfppdbgbnaibgaaWideU
import Derived.Test.YtfppdbgbnaibgaaLen
import Derived.Test.YtfppdbgbnaibgaaDiv64
import Derived.Test.YtfppdbgbnaibgaaDivU
import Derived.Test.YtfppdbgbnaibgaaMulDiv
import Derived.Test.YtfppdbgbnaibgaaStampA
import Derived.Test.YtfppdbgbnaibgaaProg
namespace Go.Proofs.Ytfppdbgbnaibgaa
open Go.Sx
set_option linter.unusedVariables false
set_option linter.unusedSimpArgs false
set_option maxRecDepth 100000

/-! plain facts of times. -/
theorem and40 (a : Int) : bits .and .i64 a 1099511627775 = a % 1099511627776 := by
  have h1 : ((BitVec.ofInt 64 a).toNat : Int) = a % 18446744073709551616 := by rw [BitVec.toNat_ofInt]; omega
  have h3 : (BitVec.ofInt 64 a &&& BitVec.ofInt 64 1099511627775).toNat = (BitVec.ofInt 64 a).toNat % 1099511627776 := by
    rw [BitVec.toNat_and, show (BitVec.ofInt 64 1099511627775).toNat = 2 ^ 40 - 1 from rfl, Nat.and_two_pow_sub_one_eq_mod]
  show IntKind.i64.wrap ((BitVec.ofInt 64 a &&& BitVec.ofInt 64 1099511627775).toNat : Int) = _
  rw [h3, w64' (by omega) (by omega)]; omega
theorem and20 (a : Int) : bits .and .i64 a 1048575 = a % 1048576 := by
  have h1 : ((BitVec.ofInt 64 a).toNat : Int) = a % 18446744073709551616 := by rw [BitVec.toNat_ofInt]; omega
  have h3 : (BitVec.ofInt 64 a &&& BitVec.ofInt 64 1048575).toNat = (BitVec.ofInt 64 a).toNat % 1048576 := by
    rw [BitVec.toNat_and, show (BitVec.ofInt 64 1048575).toNat = 2 ^ 20 - 1 from rfl, Nat.and_two_pow_sub_one_eq_mod]
  show IntKind.i64.wrap ((BitVec.ofInt 64 a &&& BitVec.ofInt 64 1048575).toNat : Int) = _
  rw [h3, w64' (by omega) (by omega)]; omega
theorem ns_facts {m : Int} (h0 : 0 ≤ m) (h1 : m < 1099511627776) : mdE m 65536 1 0 = 0 ∧ mdX m 65536 1 0 = m * 65536 := by
  have am : absI m = m := by unfold absI; omega
  have q : mdQ0 m 65536 1 = m * 65536 := by unfold mdQ0; rw [am]; show m * 65536 / 1 = _; omega
  have rr : mdR m 65536 1 = 0 := by unfold mdR; rw [am]; show m * 65536 % 1 = _; omega
  have e : mdQ m 65536 1 0 = m * 65536 := by unfold mdQ mdMore; rw [if_pos rr, q]; rfl
  have hm : mdM m 65536 1 = false := by unfold mdM; simp; omega
  unfold mdE mdX mdMost
  rw [e, hm, if_neg (by omega), if_neg (by omega), if_neg (by simp; omega), if_neg (by simp; omega)]
  exact ⟨rfl, rfl⟩
theorem near3 {s n : Int} (h0 : 1 ≤ n) (h1 : n ≤ 1048576) : ∃ q r : Int, grF s n = s - r ∧ 0 ≤ r ∧ r < n * 65536 ∧ s - r = 65536 * q ∧ grF (s - r) n = s - r := by
  have hg : 0 < n * 65536 := by omega
  have e := Int.mul_ediv_add_emod s (n * 65536)
  have r0 := Int.emod_nonneg s (show n * 65536 ≠ 0 by omega)
  have r1 := Int.emod_lt_of_pos s hg
  have k : s - s % (n * 65536) = n * 65536 * (s / (n * 65536)) := by omega
  refine ⟨n * (s / (n * 65536)), s % (n * 65536), rfl, r0, r1, ?_, ?_⟩
  · rw [k, Int.mul_comm n 65536, Int.mul_assoc]
  · unfold grF
    rw [k, Int.mul_emod_right]; omega
theorem tmod_mul (q : Int) : Int.tmod (65536 * q) 65536 = 0 := Int.mul_tmod_right _ _

end Go.Proofs.Ytfppdbgbnaibgaa
