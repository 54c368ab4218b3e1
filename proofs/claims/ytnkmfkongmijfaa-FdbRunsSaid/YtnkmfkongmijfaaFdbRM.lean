/-
  Contracts of functions, and plain facts about them, that a claim of this seat uses.
-/
import Derived.Test.YtnkmfkongmijfaaSx
import Derived.Test.YtnkmfkongmijfaaFdbRL
import Derived.Test.YtnkmfkongmijfaaFdbP
import Derived.Test.YtnkmfkongmijfaaProg
namespace Go.Proofs.Ytnkmfkongmijfaa
open Go.Sx
set_option linter.unusedVariables false
set_option linter.unusedSimpArgs false
set_option maxRecDepth 100000

/-! fdb: numbers as sets; the reference's way and the program's. -/
theorem hs_bit {s : Int} (h : 0 ≤ s ∧ s < 256) (k : Nat) : hasB s (k : Int) = s.toNat.testBit k := by
  obtain ⟨n, rfl⟩ := Int.eq_ofNat_of_zero_le h.1
  have e := (hv_ok h k).1
  unfold hasB
  rw [Int.toNat_natCast, Int.toNat_natCast, e, Nat.testBit_eq_decide_div_mod_eq, show (2 : Int) ^ k = ((2 ^ k : Nat) : Int) by simp, ← Int.natCast_ediv, decide_eq_decide, Int.tmod_eq_emod_of_nonneg (Int.natCast_nonneg _)]
  generalize n / 2 ^ k = q
  omega
theorem mod_p2 (x i : Nat) : x % 2 ^ (i + 1) = x % 2 ^ i + 2 ^ i * (x.testBit i).toNat := by
  rw [Nat.pow_succ, Nat.mod_mul, Nat.testBit_eq_decide_div_mod_eq]
  congr 2
  rcases Nat.mod_two_eq_zero_or_one (x / 2 ^ i) with h | h <;> rw [h] <;> rfl
theorem boX_nat {a b : Int} (ha : 0 ≤ a ∧ a < 256) (hb : 0 ≤ b ∧ b < 256) : ∀ k, boX a b k = (((a.toNat &&& b.toNat) % 2 ^ k : Nat) : Int)
  | 0 => by simp [boX, Nat.mod_one]
  | k + 1 => by
    have ih := boX_nat ha hb k
    unfold boX
    rw [hs_bit ha, hs_bit hb, ih, mod_p2, Nat.testBit_and]
    cases a.toNat.testBit k <;> cases b.toNat.testBit k <;> simp
theorem and_nat {a b : Int} (ha : 0 ≤ a ∧ a < 256) (hb : 0 ≤ b ∧ b < 256) : bits .and .i64 a b = ((a.toNat &&& b.toNat : Nat) : Int) := by
  show IntKind.i64.wrap ((bv a &&& bv b).toNat : Int) = _
  have h : (bv a &&& bv b).toNat = a.toNat &&& b.toNat := by rw [BitVec.toNat_and, bv_nat ha, bv_nat hb]
  rw [h]
  have h2 : a.toNat &&& b.toNat ≤ a.toNat := Nat.and_le_left
  exact w64' (by omega) (by omega)
theorem boX_and {a b : Int} (ha : 0 ≤ a ∧ a < 256) (hb : 0 ≤ b ∧ b < 256) : boX a b 8 = bits .and .i64 a b := by
  rw [boX_nat ha hb, and_nat ha hb]
  have h2 : a.toNat &&& b.toNat ≤ a.toNat := Nat.and_le_left
  rw [Nat.mod_eq_of_lt]
  show a.toNat &&& b.toNat < 256
  omega
theorem bv_lsb {a : Int} (ha : 0 ≤ a ∧ a < 256) (k : Nat) : (bv a).getLsbD k = a.toNat.testBit k := by
  show (bv a).toNat.testBit k = _
  rw [bv_nat ha]
theorem bit_pow {a : Int} (h : 0 ≤ a ∧ a < 8) : bitI a = 2 ^ a.toNat := by
  rcases (by omega : a = 0 ∨ a = 1 ∨ a = 2 ∨ a = 3 ∨ a = 4 ∨ a = 5 ∨ a = 6 ∨ a = 7) with rfl | rfl | rfl | rfl | rfl | rfl | rfl | rfl <;> decide
theorem bit_rg {a : Int} (h : 0 ≤ a ∧ a < 8) : 0 < bitI a ∧ bitI a < 256 := by
  rcases (by omega : a = 0 ∨ a = 1 ∨ a = 2 ∨ a = 3 ∨ a = 4 ∨ a = 5 ∨ a = 6 ∨ a = 7) with rfl | rfl | rfl | rfl | rfl | rfl | rfl | rfl <;> decide
theorem bit_nat {a : Int} (h : 0 ≤ a ∧ a < 8) : (bitI a).toNat = 2 ^ a.toNat := by
  rcases (by omega : a = 0 ∨ a = 1 ∨ a = 2 ∨ a = 3 ∨ a = 4 ∨ a = 5 ∨ a = 6 ∨ a = 7) with rfl | rfl | rfl | rfl | rfl | rfl | rfl | rfl <;> decide
theorem bit_lsb {a : Int} (h : 0 ≤ a ∧ a < 8) (k : Nat) : (bv (bitI a)).getLsbD k = decide ((k : Int) = a) := by
  have h1 := bit_rg h
  rw [bv_lsb ⟨by omega, h1.2⟩, bit_nat h, Nat.testBit_two_pow, decide_eq_decide]
  omega
/-- the bits of b lie in p -/
theorem sub_iff {b p : Int} (hp : 0 ≤ p ∧ p < 256) (hb : -9223372036854775808 ≤ b ∧ b ≤ 9223372036854775807) : bits .andNot .i64 b p = 0 ↔ ((0 ≤ b ∧ b ≤ p) ∧ boX b p 8 = b) := by
  have e : bv b &&& bv p = bv b → (0 ≤ b ∧ b ≤ p) ∧ boX b p 8 = b := fun h => by
    have h1 : (bv b).toNat ≤ p.toNat := by
      rw [← h, BitVec.toNat_and, bv_nat hp]; exact Nat.and_le_right
    have h2 : (bv b).toNat = (b % 18446744073709551616).toNat := by unfold bv; rw [BitVec.toNat_ofInt]; rfl
    have h3 : 0 ≤ b ∧ b ≤ p := by omega
    have h4 : 0 ≤ b ∧ b < 256 := by omega
    refine ⟨h3, ?_⟩
    rw [boX_and h4 hp, and_nat h4 hp, ← bv_nat h4, ← bv_nat hp, ← BitVec.toNat_and, h, bv_nat h4]
    omega
  constructor
  · intro h
    apply e
    have h1 : IntKind.i64.wrap ((bv b &&& ~~~ bv p).toNat : Int) = 0 := h
    have h2 := (bv b &&& ~~~ bv p).isLt
    rw [IntKind.wrap_i64] at h1
    have h3 : (bv b &&& ~~~ bv p).toNat = 0 := by omega
    have h4 : bv b &&& ~~~ bv p = 0 := BitVec.eq_of_toNat_eq h3
    refine BitVec.eq_of_getLsbD_eq fun i hi => ?_
    have h5 : (bv b &&& ~~~ bv p).getLsbD i = false := by rw [h4]; exact BitVec.getLsbD_zero
    rw [BitVec.getLsbD_and, BitVec.getLsbD_not, decide_eq_true hi] at h5
    rw [BitVec.getLsbD_and]
    revert h5
    cases (bv b).getLsbD i <;> cases (bv p).getLsbD i <;> decide
  · rintro ⟨h3, h⟩
    have h4 : 0 ≤ b ∧ b < 256 := by omega
    rw [boX_and h4 hp, and_nat h4 hp] at h
    apply not_zero
    have h5 : bv b &&& bv p = bv b := by
      apply BitVec.eq_of_toNat_eq
      rw [BitVec.toNat_and, bv_nat h4, bv_nat hp]; omega
    rw [← h5]
    ext i hi
    simp
theorem all_ok {n : Nat} (h : n ≤ 8) : allN (n : Int) = ((2 ^ n : Nat) : Int) - 1 ∧ ((2 ^ n : Nat) : Int) ≤ 256 ∧ 1 ≤ ((2 ^ n : Nat) : Int) := by
  have h1 := pow_8 h
  unfold allN
  rw [Int.toNat_natCast]
  have h2 : (2 : Int) ^ n = ((2 ^ n : Nat) : Int) := by simp
  rw [h2] at h1 ⊢
  omega
theorem sv_iff {t : Ft} {x po ba : Int} (hn : t.n ≤ 8) (hb : -9223372036854775808 ≤ ba ∧ ba ≤ 9223372036854775807) : svBad t x ⟨po, ba⟩ ↔ svNo (t.n : Int) x po ba := by
  obtain ⟨h1, h2, h3⟩ := all_ok hn
  unfold svBad svNo
  dsimp only
  rw [h1]
  by_cases hp : 0 ≤ po ∧ po < ((2 ^ t.n : Nat) : Int)
  · have h4 := sub_iff (b := ba) (p := po) (by omega) hb
    by_cases h5 : bits .andNot .i64 ba po = 0
    · have h6 := h4.1 h5
      omega
    · have h7 : ¬ ((0 ≤ ba ∧ ba ≤ po) ∧ boX ba po 8 = ba) := fun h => h5 (h4.2 h)
      by_cases h8 : boX ba po 8 = ba
      · have h9 : ¬ (0 ≤ ba ∧ ba ≤ po) := fun h => h7 ⟨h, h8⟩
        by_cases h10 : 0 ≤ ba
        · by_cases h11 : ba ≤ ((2 ^ t.n : Nat) : Int) - 1
          · exfalso
            have h12 : 0 ≤ ba ∧ ba < 256 := by omega
            rw [boX_and h12 (by omega), and_nat h12 (by omega)] at h8
            have h13 : ba.toNat &&& po.toNat ≤ po.toNat := Nat.and_le_right
            omega
          · omega
        · omega
      · omega
  · omega

end Go.Proofs.Ytnkmfkongmijfaa
