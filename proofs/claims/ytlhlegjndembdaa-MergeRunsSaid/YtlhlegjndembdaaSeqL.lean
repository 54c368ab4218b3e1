/-
  Contracts of functions, and plain facts about them, that a claim of this seat uses.
-/
import Derived.Test.YtlhlegjndembdaaSx
import Derived.Test.YtlhlegjndembdaaSeqN
import Derived.Test.YtlhlegjndembdaaProg
namespace Go.Proofs.Ytlhlegjndembdaa
open Go.Sx
set_option linter.unusedVariables false
set_option linter.unusedSimpArgs false
set_option maxRecDepth 100000

/-! lists of numbers. -/
structure LS where
  len : Nat
  cap : Nat
  g : Nat → Int
def hasN (g : Nat → Int) : Nat → Int → Bool
  | 0, _ => false
  | n + 1, k => hasN g n k || decide (g n = k)
theorem hasN_congr {g h : Nat → Int} {k : Int} : ∀ {n : Nat}, (∀ i, i < n → h i = g i) → hasN h n k = hasN g n k
  | 0, _ => rfl
  | n + 1, e => by rw [hasN, hasN, hasN_congr fun i hi => e i (by omega), e n (by omega)]
theorem hasN_yes {g : Nat → Int} {k : Int} : ∀ {n i : Nat}, i < n → g i = k → hasN g n k = true
  | n + 1, i, hi, e => by
    rw [hasN]
    by_cases h : i = n
    · subst h; rw [decide_eq_true e, Bool.or_true]
    · rw [hasN_yes (show i < n by omega) e]; rfl
theorem hasN_push {g h : Nat → Int} {n : Nat} {v k : Int} (e : ∀ i, i < n → h i = g i) (ev : h n = v) : hasN h (n + 1) k = (hasN g n k || decide (v = k)) := by rw [hasN, hasN_congr e, ev]
theorem hasN_ex {g : Nat → Int} {k : Int} : ∀ {n : Nat}, hasN g n k = true → ∃ i, i < n ∧ g i = k
  | n + 1, h => by
    rw [hasN] at h
    cases h1 : hasN g n k with
    | true => obtain ⟨i, hi, e⟩ := hasN_ex h1; exact ⟨i, by omega, e⟩
    | false => rw [h1, Bool.false_or] at h; exact ⟨n, by omega, of_decide_eq_true h⟩
def Ent (g : Nat → Int) (n : Nat) : Prop := ∀ i, i < n → 0 ≤ g i ∧ g i < 64
theorem hasN_neg {g : Nat → Int} {n : Nat} {k : Int} (h : Ent g n) (hk : k < 0) : hasN g n k = false := by
  cases h1 : hasN g n k with
  | false => rfl
  | true => obtain ⟨i, hi, e⟩ := hasN_ex h1; have := h i hi; omega
theorem hasN_no {g : Nat → Int} {n : Nat} {k : Int} (h : ∀ i, i < n → g i ≠ k) : hasN g n k = false := by
  cases h1 : hasN g n k with
  | false => rfl
  | true => obtain ⟨i, hi, e⟩ := hasN_ex h1; exact absurd e (h i hi)
/-- 0, and those that are d more and still below len -/
def sh (g : Nat → Int) (i : Nat) (d len k : Int) : Bool := decide (k = 0) || (hasN g i (k - d) && decide (k < len))
theorem sh_take {g : Nat → Int} {i : Nat} {d len : Int} (c : g i + d < len) (k : Int) : sh g (i + 1) d len k = (sh g i d len k || decide (g i + d = k)) := by
  unfold sh
  rw [hasN]
  by_cases e : g i + d = k
  · rw [decide_eq_true (show g i = k - d by omega), decide_eq_true e, decide_eq_true (show k < len by omega)]
    simp
  · rw [decide_eq_false (show ¬ g i = k - d by omega), decide_eq_false e, Bool.or_false, Bool.or_false]
theorem sh_skip {g : Nat → Int} {i : Nat} {d len : Int} (c : ¬ g i + d < len) (k : Int) : sh g (i + 1) d len k = sh g i d len k := by
  unfold sh
  rw [hasN]
  by_cases e : g i = k - d
  · rw [decide_eq_false (show ¬ k < len by omega)]; simp
  · rw [decide_eq_false e, Bool.or_false]
theorem sh_zero (g : Nat → Int) (d len k : Int) : sh g 0 d len k = decide (k = 0) := by
  unfold sh; rw [hasN, Bool.false_and, Bool.or_false]
theorem one_has {g : Nat → Int} (h : g 0 = 0) (k : Int) : hasN g 1 k = decide (k = 0) := by
  rw [hasN, hasN, Bool.false_or, h, decide_eq_decide]
  exact ⟨fun h => h.symm, fun h => h.symm⟩
theorem inc_yes {P : Int → Bool} {a : Int} {n : Nat} {x : Int} (h : P (a + n) = true) : inc (cnt P a (n + 1)) x = inc (cnt P a n) x := by rw [cnt, if_pos h]; rfl
theorem inc_no {P : Int → Bool} {a : Int} {n : Nat} {x : Int} (h : P (a + n) = false) : inc (cnt P a (n + 1)) x = IntKind.i64.wrap (inc (cnt P a n) x + 1) := by rw [cnt, if_neg (by rw [h]; decide)]; rfl

end Go.Proofs.Ytlhlegjndembdaa
