/-
  Contracts of functions, and plain facts about them, that a claim of this seat uses.
-/
import Derived.Test.YtkehcpafbkmapaaSx
import Derived.Test.YtkehcpafbkmapaaGatesNum
import Derived.Test.YtkehcpafbkmapaaGatesA
import Derived.Test.YtkehcpafbkmapaaGatesB
import Derived.Test.YtkehcpafbkmapaaGatesH
import Derived.Test.YtkehcpafbkmapaaProg
namespace Go.Proofs.Ytkehcpafbkmapaa
open Go.Sx
set_option linter.unusedVariables false
set_option linter.unusedSimpArgs false
set_option maxRecDepth 100000

/-! plain facts of gates for the laws. -/
theorem and24 (a : Int) : bits .and .i64 a 16777215 = a % 16777216 := by
  have h1 : ((BitVec.ofInt 64 a).toNat : Int) = a % 18446744073709551616 := by rw [BitVec.toNat_ofInt]; omega
  have h3 : (BitVec.ofInt 64 a &&& BitVec.ofInt 64 16777215).toNat = (BitVec.ofInt 64 a).toNat % 16777216 := by
    rw [BitVec.toNat_and, show (BitVec.ofInt 64 16777215).toNat = 2 ^ 24 - 1 from rfl, Nat.and_two_pow_sub_one_eq_mod]
  show IntKind.i64.wrap ((BitVec.ofInt 64 a &&& BitVec.ofInt 64 16777215).toNat : Int) = _
  rw [h3, w64' (by omega) (by omega)]; omega
theorem and32i (a : Int) : bits .and .i64 a 4294967295 = a % 4294967296 := by
  have h1 : ((BitVec.ofInt 64 a).toNat : Int) = a % 18446744073709551616 := by rw [BitVec.toNat_ofInt]; omega
  have h3 : (BitVec.ofInt 64 a &&& BitVec.ofInt 64 4294967295).toNat = (BitVec.ofInt 64 a).toNat % 4294967296 := by
    rw [BitVec.toNat_and, show (BitVec.ofInt 64 4294967295).toNat = 2 ^ 32 - 1 from rfl, Nat.and_two_pow_sub_one_eq_mod]
  show IntKind.i64.wrap ((BitVec.ofInt 64 a &&& BitVec.ofInt 64 4294967295).toNat : Int) = _
  rw [h3, w64' (by omega) (by omega)]; omega
theorem and3 (a : Int) : bits .and .i64 a 7 = a % 8 := by
  have h1 : ((BitVec.ofInt 64 a).toNat : Int) = a % 18446744073709551616 := by rw [BitVec.toNat_ofInt]; omega
  have h3 : (BitVec.ofInt 64 a &&& BitVec.ofInt 64 7).toNat = (BitVec.ofInt 64 a).toNat % 8 := by
    rw [BitVec.toNat_and, show (BitVec.ofInt 64 7).toNat = 2 ^ 3 - 1 from rfl, Nat.and_two_pow_sub_one_eq_mod]
  show IntKind.i64.wrap ((BitVec.ofInt 64 a &&& BitVec.ofInt 64 7).toNat : Int) = _
  rw [h3, w64' (by omega) (by omega)]; omega
/-- a list with another base -/
def mv (l : GL) (b : Int) : GL := ⟨b, l.cyc, l.len, l.cap, l.N, l.op, l.ln⟩
theorem stay_mv (l : GL) (b p k o : Int) (hc : 0 ≤ l.cyc) : stayV (mv l b) p k o = stayV l p k o := by
  have h := stay_is (l := l) (p := p) (k := k) (o := o) hc
  exact IsStay.val (l := mv l b) ⟨h.lo, h.hi, h.all, h.end_⟩ hc
theorem ph_mv (l : GL) (a d : Int) : phV (mv l (l.base + d)) (a + d) = phV l a := by
  unfold phV mv
  rw [show a + d - (l.base + d) = a - l.base by omega]
theorem shift_facts {l : GL} {a d k : Int} (h1 : chk l = 0) (h2 : chk (mv l (l.base + d)) = 0) (ha : inR a) (had : inR (a + d)) :
    stateV l a = stateV (mv l (l.base + d)) (a + d) ∧ leftV l a k = leftV (mv l (l.base + d)) (a + d) k ∧ nextV l a k = nextV (mv l (l.base + d)) (a + d) k ∧ nextB l a k = nextB (mv l (l.base + d)) (a + d) k := by
  have hc := (chk_ok h1).c1
  have e := ph_mv l a d
  have s : ∀ p o, stayV (mv l (l.base + d)) p k o = stayV l p k o := fun p o => stay_mv l _ p k o (by omega)
  have ec : (mv l (l.base + d)).cyc = l.cyc := rfl
  unfold stateV leftV nextV nextB
  simp only [h1, h2, ha, had, true_and, and_true, if_true, e, s, ec]
  rfl

end Go.Proofs.Ytkehcpafbkmapaa
