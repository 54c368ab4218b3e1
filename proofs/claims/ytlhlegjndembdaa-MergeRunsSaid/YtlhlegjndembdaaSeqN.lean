/-
  Contracts of functions, and plain facts about them, that a claim of this seat uses.
-/
import Derived.Test.YtlhlegjndembdaaSx
import Derived.Test.YtlhlegjndembdaaProg
namespace Go.Proofs.Ytlhlegjndembdaa
open Go.Sx
set_option linter.unusedVariables false
set_option linter.unusedSimpArgs false
set_option maxRecDepth 100000

/-! a window's bits. -/
def U6 (h : Int) : Prop := 0 ≤ h ∧ h < 18446744073709551616
def bt (h : Int) (k : Nat) : Bool := h.toNat.testBit k
theorem bits_nat {op : BitVec 64 → BitVec 64 → BitVec 64} {a b : Int} (ha : U6 a) (hb : U6 b) : BitVec.ofInt 64 a = BitVec.ofNat 64 a.toNat ∧ BitVec.ofInt 64 b = BitVec.ofNat 64 b.toNat ∧ a.toNat < 2 ^ 64 ∧ b.toNat < 2 ^ 64 := by
  unfold U6 at ha hb
  refine ⟨?_, ?_, by omega, by omega⟩
  · apply BitVec.eq_of_toNat_eq
    rw [BitVec.toNat_ofInt, BitVec.toNat_ofNat]; omega
  · apply BitVec.eq_of_toNat_eq
    rw [BitVec.toNat_ofInt, BitVec.toNat_ofNat]; omega
theorem or_nat {a b : Int} (ha : U6 a) (hb : U6 b) : bits .or .u64 a b = ((a.toNat ||| b.toNat : Nat) : Int) ∧ U6 (bits .or .u64 a b) := by
  obtain ⟨e1, e2, h1, h2⟩ := bits_nat (op := fun a _ => a) ha hb
  have h3 : a.toNat ||| b.toNat < 2 ^ 64 := Nat.or_lt_two_pow h1 h2
  have e : bits .or .u64 a b = ((a.toNat ||| b.toNat : Nat) : Int) := by
    show IntKind.u64.wrap ((BitVec.ofInt 64 a ||| BitVec.ofInt 64 b).toNat : Int) = _
    rw [e1, e2, BitVec.toNat_or, BitVec.toNat_ofNat, BitVec.toNat_ofNat, Nat.mod_eq_of_lt h1, Nat.mod_eq_of_lt h2]
    exact wu64' (by omega) (by omega)
  refine ⟨e, ?_⟩
  rw [e]; unfold U6; omega
theorem and_nat {a b : Int} (ha : U6 a) (hb : U6 b) : bits .and .u64 a b = ((a.toNat &&& b.toNat : Nat) : Int) := by
  obtain ⟨e1, e2, h1, h2⟩ := bits_nat (op := fun a _ => a) ha hb
  have h3 : a.toNat &&& b.toNat < 2 ^ 64 := Nat.lt_of_le_of_lt Nat.and_le_left h1
  show IntKind.u64.wrap ((BitVec.ofInt 64 a &&& BitVec.ofInt 64 b).toNat : Int) = _
  rw [e1, e2, BitVec.toNat_and, BitVec.toNat_ofNat, BitVec.toNat_ofNat, Nat.mod_eq_of_lt h1, Nat.mod_eq_of_lt h2]
  exact wu64' (by omega) (by omega)
theorem bt_or {a b : Int} (ha : U6 a) (hb : U6 b) (k : Nat) : bt (bits .or .u64 a b) k = (bt a k || bt b k) := by
  unfold bt
  rw [(or_nat ha hb).1, Int.toNat_natCast, Nat.testBit_or]
theorem bt_one (k : Nat) : bt 1 k = decide (k = 0) := by
  unfold bt
  rw [show (1 : Int).toNat = 2 ^ 0 from rfl, Nat.testBit_two_pow]
  exact decide_eq_decide.2 ⟨fun h => h.symm, fun h => h.symm⟩
theorem pow_u6 {k : Nat} (hk : k < 64) : U6 ((2 : Int) ^ k) ∧ ((2 : Int) ^ k).toNat = 2 ^ k := by
  have h : ((2 : Int) ^ k) = ((2 ^ k : Nat) : Int) := by rw [Int.natCast_pow]; rfl
  have h1 : 2 ^ k < 2 ^ 64 := Nat.pow_lt_pow_right (by decide) hk
  rw [h]
  exact ⟨⟨Int.natCast_nonneg _, Int.lt_of_lt_of_le (Int.ofNat_lt.2 h1) (by decide)⟩, Int.toNat_natCast _⟩
theorem bt_pow {k j : Nat} (hk : k < 64) : bt ((2 : Int) ^ k) j = decide (k = j) := by
  unfold bt
  rw [(pow_u6 hk).2, Nat.testBit_two_pow]
theorem and_pow {a : Int} (ha : U6 a) {k : Nat} (hk : k < 64) : bits .and .u64 a ((2 : Int) ^ k) = 0 ↔ bt a k = false := by
  rw [and_nat ha (pow_u6 hk).1, (pow_u6 hk).2]
  unfold bt
  constructor
  · intro h
    have h1 : a.toNat &&& 2 ^ k = 0 := Int.ofNat_eq_zero.1 h
    have h2 := Nat.testBit_and a.toNat (2 ^ k) k
    rw [h1, Nat.testBit_two_pow, decide_eq_true rfl, Bool.and_true, Nat.zero_testBit] at h2
    exact h2.symm
  · intro h
    have h1 : a.toNat &&& 2 ^ k = 0 := by
      apply Nat.eq_of_testBit_eq
      intro i
      rw [Nat.testBit_and, Nat.testBit_two_pow, Nat.zero_testBit]
      by_cases e : k = i
      · subst e; rw [h]; rfl
      · rw [decide_eq_false e, Bool.and_false]
    rw [h1]; rfl
theorem and_shr {a : Int} (ha : U6 a) {k : Nat} (hk : k < 64) : bits .and .u64 (a.fdiv ((2 : Int) ^ k)) 1 = 0 ↔ bt a k = false := by
  have h1 : ((2 : Int) ^ k) = ((2 ^ k : Nat) : Int) := by rw [Int.natCast_pow]; rfl
  have ha' := ha
  unfold U6 at ha'
  have e : a.fdiv ((2 : Int) ^ k) = ((a.toNat / 2 ^ k : Nat) : Int) := by
    rw [h1, Int.fdiv_eq_ediv_of_nonneg _ (Int.natCast_nonneg _), Int.natCast_ediv, Int.toNat_of_nonneg ha'.1]
  have hu : U6 ((a.toNat / 2 ^ k : Nat) : Int) := by
    have := Nat.div_le_self a.toNat (2 ^ k)
    generalize a.toNat / 2 ^ k = q at *
    unfold U6; omega
  rw [e, and_nat hu ⟨by decide, by decide⟩, Int.toNat_natCast, show (1 : Int).toNat = 1 from rfl, Nat.and_one_is_mod]
  unfold bt
  rw [Nat.testBit_eq_decide_div_mod_eq]
  generalize a.toNat / 2 ^ k = q at *
  constructor
  · intro h; exact decide_eq_false (by omega)
  · intro h; have := of_decide_eq_false h; omega
theorem bt_shl {a : Int} (ha : U6 a) : U6 (IntKind.u64.wrap (a * 2)) ∧ (∀ k : Nat, k + 1 < 64 → bt (IntKind.u64.wrap (a * 2)) (k + 1) = bt a k) ∧ bt (IntKind.u64.wrap (a * 2)) 0 = false := by
  have ha' := ha
  unfold U6 at ha'
  have e : IntKind.u64.wrap (a * 2) = ((a.toNat * 2 % 2 ^ 64 : Nat) : Int) := by
    rw [wu64]; omega
  refine ⟨?_, fun k hk => ?_, ?_⟩
  · rw [e]; unfold U6; omega
  · unfold bt
    rw [e, Int.toNat_natCast, Nat.testBit_mod_two_pow, decide_eq_true hk, Bool.true_and, Nat.testBit_eq_decide_div_mod_eq, Nat.testBit_eq_decide_div_mod_eq, Nat.pow_succ, Nat.mul_comm (2 ^ k), ← Nat.div_div_eq_div_mul, Nat.mul_div_cancel _ (by decide)]
  · unfold bt
    rw [e, Int.toNat_natCast, Nat.testBit_mod_two_pow, Nat.testBit_eq_decide_div_mod_eq]
    simp
/-! how many numbers fall out -/
def inc : Nat → Int → Int
  | 0, x => x
  | n + 1, x => IntKind.i64.wrap (inc n x + 1)
/-- of a, .., a + n - 1: how many hold not -/
def cnt (P : Int → Bool) (a : Int) : Nat → Nat
  | 0 => 0
  | n + 1 => cnt P a n + if P (a + n) = true then 0 else 1
theorem cnt_low (P : Int → Bool) (a : Int) : ∀ n, cnt P a (n + 1) = (if P a = true then 0 else 1) + cnt P (a + 1) n
  | 0 => by simp [cnt]
  | n + 1 => by
    rw [cnt, cnt_low P a n, cnt, show a + ((n + 1 : Nat) : Int) = a + 1 + (n : Int) by omega]; omega
theorem cnt_congr {P Q : Int → Bool} {a : Int} : ∀ {n : Nat}, (∀ k : Nat, k < n → P (a + k) = Q (a + k)) → cnt P a n = cnt Q a n
  | 0, _ => rfl
  | n + 1, h => by
    rw [cnt, cnt, cnt_congr fun k hk => h k (by omega), h n (by omega)]

end Go.Proofs.Ytlhlegjndembdaa
