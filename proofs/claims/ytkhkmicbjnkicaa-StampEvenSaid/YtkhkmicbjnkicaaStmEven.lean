/-
  Contracts of functions, and plain facts about them, that a claim of this seat uses.
-/
import Derived.Test.YtkhkmicbjnkicaaSx
import Derived.Test.YtkhkmicbjnkicaaProg
namespace Go.Proofs.Ytkhkmicbjnkicaa
open Go.Sx
set_option linter.unusedVariables false
set_option linter.unusedSimpArgs false
set_option maxRecDepth 100000

/-! a time by a rate and by its other way, plainly. -/
theorem mulB {a b A B : Int} (ha : -A ≤ a ∧ a ≤ A) (hb : -B ≤ b ∧ b ≤ B) : -(A * B) ≤ a * b ∧ a * b ≤ A * B := by
  have h1 : 0 ≤ (A - a) * (B + b) := Int.mul_nonneg (by omega) (by omega)
  have h2 : 0 ≤ (A + a) * (B - b) := Int.mul_nonneg (by omega) (by omega)
  have h3 : 0 ≤ (A - a) * (B - b) := Int.mul_nonneg (by omega) (by omega)
  have h4 : 0 ≤ (A + a) * (B + b) := Int.mul_nonneg (by omega) (by omega)
  have e1 : (A - a) * (B + b) + (A + a) * (B - b) = 2 * (A * B) - 2 * (a * b) := by
    rw [Int.sub_mul, Int.add_mul, Int.mul_add, Int.mul_add, Int.mul_sub, Int.mul_sub]; omega
  have e2 : (A - a) * (B - b) + (A + a) * (B + b) = 2 * (A * B) + 2 * (a * b) := by
    rw [Int.sub_mul, Int.add_mul, Int.mul_sub, Int.mul_sub, Int.mul_add, Int.mul_add]; omega
  omega
/-- as near as it goes -/
def nearTo (a c q : Int) : Prop := -c ≤ 2 * (q * c - a) ∧ 2 * (q * c - a) ≤ c
theorem even_core {x r y q z : Int} (hx : 0 ≤ x ∧ x < 281474976710656) (hr : 1099511627776 ≤ r ∧ r ≤ 4398046511104)
    (hy : nearTo (x * r) 2199023255552 y) (hq : nearTo (2199023255552 * 2199023255552) r q) (hz : nearTo (y * q) 2199023255552 z) : -256 ≤ z - x ∧ z - x ≤ 256 := by
  obtain ⟨e1, h1⟩ : ∃ e1, e1 = y * 2199023255552 - x * r := ⟨_, rfl⟩
  obtain ⟨e2, h2⟩ : ∃ e2, e2 = q * r - 2199023255552 * 2199023255552 := ⟨_, rfl⟩
  obtain ⟨e3, h3⟩ : ∃ e3, e3 = z * 2199023255552 - y * q := ⟨_, rfl⟩
  obtain ⟨d, hd⟩ : ∃ d, d = z - x := ⟨_, rfl⟩
  unfold nearTo at hy hq hz
  rw [← h1] at hy
  rw [← h2] at hq
  rw [← h3] at hz
  rw [← hd]
  have ex : z = x + d := by omega
  -- the one equation
  have key : d * r * (2199023255552 * 2199023255552) = x * e2 * r + e1 * (2199023255552 * 2199023255552) + e1 * e2 + e3 * r * 2199023255552 := by
    have k1 : y * 2199023255552 = x * r + e1 := by omega
    have k2 : q * r = 2199023255552 * 2199023255552 + e2 := by omega
    have k3 : z * 2199023255552 = y * q + e3 := by omega
    have m1 : (y * 2199023255552) * (q * r) = (x * r + e1) * (2199023255552 * 2199023255552 + e2) := by rw [k1, k2]
    have m2 : (y * 2199023255552) * (q * r) = (y * q) * r * 2199023255552 := by
      rw [Int.mul_assoc, Int.mul_assoc, Int.mul_assoc]
      congr 1
      rw [Int.mul_comm 2199023255552, ← Int.mul_assoc]
    have m3 : (z * 2199023255552) * r * 2199023255552 = (y * q) * r * 2199023255552 + e3 * r * 2199023255552 := by rw [k3, Int.add_mul, Int.add_mul]
    have m4 : (z * 2199023255552) * r * 2199023255552 = x * r * (2199023255552 * 2199023255552) + d * r * (2199023255552 * 2199023255552) := by
      rw [ex, Int.add_mul, Int.add_mul, Int.add_mul]
      rw [show x * 2199023255552 * r * 2199023255552 = x * r * (2199023255552 * 2199023255552) by rw [Int.mul_assoc x, Int.mul_comm 2199023255552 r, ← Int.mul_assoc x, Int.mul_assoc (x * r)]]
      rw [show d * 2199023255552 * r * 2199023255552 = d * r * (2199023255552 * 2199023255552) by rw [Int.mul_assoc d, Int.mul_comm 2199023255552 r, ← Int.mul_assoc d, Int.mul_assoc (d * r)]]
    have m5 : (x * r + e1) * (2199023255552 * 2199023255552 + e2) = x * r * (2199023255552 * 2199023255552) + x * e2 * r + (e1 * (2199023255552 * 2199023255552) + e1 * e2) := by
      rw [Int.add_mul, Int.mul_add, Int.mul_add]
      rw [show x * r * e2 = x * e2 * r by rw [Int.mul_assoc, Int.mul_comm r, ← Int.mul_assoc]]
    omega
  have b2 : -2199023255552 ≤ e2 ∧ e2 ≤ 2199023255552 := by omega
  have b1 : x * e2 ≤ 281474976710656 * 2199023255552 ∧ -(281474976710656 * 2199023255552) ≤ x * e2 := by
    have := mulB (a := x) (b := e2) (A := 281474976710656) (B := 2199023255552) (by omega) b2
    exact ⟨this.2, this.1⟩
  have b3 := mulB (a := x * e2) (b := r) (A := 281474976710656 * 2199023255552) (B := r) (by omega) (by omega)
  have b4 := mulB (a := e1) (b := e2) (A := 1099511627776) (B := 2199023255552) (by omega) b2
  have b5 := mulB (a := e3) (b := r) (A := 1099511627776) (B := r) (by omega) (by omega)
  by_cases c1 : 257 ≤ d
  · have c2 : 257 * r ≤ d * r := Int.mul_le_mul_of_nonneg_right c1 (by omega)
    exfalso; omega
  by_cases c3 : d ≤ -257
  · have c2 : d * r ≤ -257 * r := Int.mul_le_mul_of_nonneg_right c3 (by omega)
    exfalso; omega
  omega

end Go.Proofs.Ytkhkmicbjnkicaa
