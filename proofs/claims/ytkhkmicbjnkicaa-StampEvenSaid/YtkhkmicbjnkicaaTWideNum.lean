/-
  Contracts of functions, and plain facts about them, that a claim of this seat uses.
-/
import Derived.Test.YtkhkmicbjnkicaaSx
import Derived.Test.YtkhkmicbjnkicaaProg
namespace Go.Proofs.Ytkhkmicbjnkicaa
open Go.Sx
set_option linter.unusedVariables false
set_option linter.unusedSimpArgs false
set_option maxRecDepth 100000

/-! Numbers by their digits: plain, without the program. -/
def B (n : Nat) : Int := 65536 ^ n
theorem B_zero : B 0 = 1 := rfl
theorem B_succ (n : Nat) : B (n + 1) = 65536 * B n := by unfold B; rw [Int.pow_succ, Int.mul_comm]
theorem B_pos (n : Nat) : 0 < B n := Int.pow_pos (by decide)
/-- the value of n digits -/
def pv (g : Nat → Int) : Nat → Int
  | 0 => 0
  | n + 1 => pv g n + g n * B n
theorem pv_congr {g h : Nat → Int} : ∀ {n : Nat}, (∀ r, r < n → g r = h r) → pv g n = pv h n
  | 0, _ => rfl
  | n + 1, hh => by simp only [pv]; rw [pv_congr fun r hr => hh r (by omega), hh n (by omega)]
def Dig (g : Nat → Int) (n : Nat) : Prop := ∀ r, r < n → 0 ≤ g r ∧ g r < 65536
theorem pv_bd {g : Nat → Int} : ∀ {n : Nat}, Dig g n → 0 ≤ pv g n ∧ pv g n < B n
  | 0, _ => by simp [pv, B_zero]
  | n + 1, h => by
    obtain ⟨h1, h2⟩ := pv_bd (g := g) (n := n) fun r hr => h r (by omega)
    obtain ⟨h3, h4⟩ := h n (by omega)
    have hb := B_pos n
    have h5 : 0 ≤ g n * B n := Int.mul_nonneg h3 (by omega)
    have h6 : g n * B n ≤ 65535 * B n := Int.mul_le_mul_of_nonneg_right (by omega) (by omega)
    simp only [pv, B_succ]
    omega
theorem pv_top {g : Nat → Int} {n : Nat} (h : Dig g (n + 1)) (ht : g n ≠ 0) : B n ≤ pv g (n + 1) := by
  obtain ⟨h1, _⟩ := pv_bd (g := g) (n := n) fun r hr => h r (by omega)
  obtain ⟨h3, _⟩ := h n (by omega)
  have hb := B_pos n
  have h6 : 1 * B n ≤ g n * B n := Int.mul_le_mul_of_nonneg_right (by omega) (by omega)
  simp only [pv]; omega
theorem B_mono {m n : Nat} (h : m ≤ n) : B m ≤ B n := by
  induction h with
  | refl => exact Int.le_refl _
  | step _ ih => rw [B_succ]; have := B_pos m; omega
/-- how many digits are left without noughts ahead -/
def tl (g : Nat → Int) : Nat → Nat
  | 0 => 0
  | n + 1 => if g n = 0 then tl g n else n + 1
theorem tl_succ (g : Nat → Int) (k : Int) (h : 0 < k) : tl g k.toNat = if g (k - 1).toNat = 0 then tl g (k - 1).toNat else k.toNat := by
  obtain ⟨n, rfl⟩ : ∃ n : Nat, k = n + 1 := ⟨(k - 1).toNat, by omega⟩
  simp [tl]
theorem tl_le (g : Nat → Int) : ∀ n, tl g n ≤ n
  | 0 => Nat.le_refl _
  | n + 1 => by simp only [tl]; split; exact Nat.le_succ_of_le (tl_le g n); exact Nat.le_refl _
theorem tl_pv (g : Nat → Int) : ∀ n, pv g (tl g n) = pv g n
  | 0 => rfl
  | n + 1 => by
    simp only [tl]; split
    · rename_i h
      simp only [pv, h, Int.zero_mul, Int.add_zero]; exact tl_pv g n
    · rfl
theorem tl_top (g : Nat → Int) : ∀ n, tl g n = 0 ∨ g (tl g n - 1) ≠ 0
  | 0 => .inl rfl
  | n + 1 => by
    simp only [tl]; split
    · exact tl_top g n
    · rename_i h
      exact .inr h
theorem tl_id {g : Nat → Int} {n : Nat} (h : n = 0 ∨ g (n - 1) ≠ 0) : tl g n = n := by
  cases n with
  | zero => rfl
  | succ n =>
    simp only [tl]
    rw [if_neg (by rcases h with h | h; omega; exact h)]
/-- digits without noughts ahead, in a slice -/
structure Wf (s : IS) : Prop where
  dig : Dig s.g s.len
  top : s.len = 0 ∨ s.g (s.len - 1) ≠ 0
  cap : s.len ≤ s.cap
  max : s.cap ≤ 9223372036854775807
  n : s.len ≤ s.N
  small : s.len ≤ 1000
/-- their value -/
def nv (s : IS) : Int := pv s.g s.len
theorem Wf.nonneg {s : IS} (h : Wf s) : 0 ≤ nv s := (pv_bd h.dig).1
/-- fewer digits: less -/
theorem Wf.len_lt {a b : IS} (ha : Wf a) (hb : Wf b) (h : a.len < b.len) : nv a < nv b := by
  have h1 := (pv_bd ha.dig).2
  obtain ⟨n, hn⟩ : ∃ n, b.len = n + 1 := ⟨b.len - 1, by omega⟩
  have h2 : B n ≤ nv b := by
    unfold nv
    rw [hn]
    refine pv_top (by rw [← hn]; exact hb.dig) ?_
    rcases hb.top with h0 | h0
    · omega
    · rw [hn] at h0; exact h0
  have h3 : B a.len ≤ B n := B_mono (by omega)
  unfold nv at *; omega
theorem Wf.zero {s : IS} (h : Wf s) : nv s = 0 ↔ s.len = 0 := by
  constructor
  · intro h0
    cases hl : s.len with
    | zero => rfl
    | succ n =>
      exfalso
      have : B n ≤ nv s := by
        unfold nv; rw [hl]
        refine pv_top (by rw [← hl]; exact h.dig) ?_
        rcases h.top with h0 | h0
        · omega
        · rw [hl] at h0; exact h0
      have := B_pos n
      omega
  · intro h0; unfold nv; rw [h0]; rfl
/-- the same digits above: the highest one that differs decides -/
theorem pv_above {g h : Nat → Int} : ∀ {n i : Nat}, i ≤ n → (∀ r, i ≤ r → r < n → g r = h r) → pv g n - pv g i = pv h n - pv h i
  | 0, i, hi, _ => by
    obtain rfl : i = 0 := by omega
    simp
  | n + 1, i, hi, hh => by
    rcases Nat.lt_or_ge n i with hlt | hge
    · obtain rfl : i = n + 1 := by omega
      omega
    · have := pv_above (g := g) (h := h) hge fun r h1 h2 => hh r h1 (by omega)
      simp only [pv, hh n hge (by omega)]
      omega
theorem pv_cmp {g h : Nat → Int} {n i : Nat} (hi : i < n) (hg : Dig g n) (hh : Dig h n) (he : ∀ r, i < r → r < n → g r = h r) (hl : g i < h i) : pv g n < pv h n := by
  have h1 := pv_above (g := g) (h := h) (n := n) (i := i + 1) hi fun r h1 h2 => he r (by omega) h2
  obtain ⟨h2, h3⟩ := pv_bd (g := g) (n := i) fun r hr => hg r (by omega)
  obtain ⟨h4, h5⟩ := pv_bd (g := h) (n := i) fun r hr => hh r (by omega)
  have hb := B_pos i
  have h6 : (g i + 1) * B i ≤ h i * B i := Int.mul_le_mul_of_nonneg_right (by omega) (by omega)
  rw [Int.add_mul] at h6
  simp only [pv] at h1
  omega
def cmpI3 (x y : Int) : Int := if x < y then -1 else if x = y then 0 else 1
/-- a digit, or nought beyond -/
def ext (s : IS) (r : Nat) : Int := if r < s.len then s.g r else 0
theorem ext_pv {s : IS} : ∀ {n : Nat}, s.len ≤ n → pv (ext s) n = nv s := by
  intro n h
  induction h with
  | refl => exact pv_congr fun r hr => by simp [ext, hr]
  | @step m hm ih =>
    have hm : s.len ≤ m := hm
    simp only [pv]
    rw [ih]
    simp [ext, Nat.not_lt.2 hm]
theorem ext_in {s : IS} {r : Nat} (h : r < s.len) : ext s r = s.g r := if_pos h
theorem ext_out {s : IS} {r : Nat} (h : ¬ r < s.len) : ext s r = 0 := if_neg h
theorem ext_bd {s : IS} (h : Wf s) (r : Nat) : 0 ≤ ext s r ∧ ext s r < 65536 := by
  unfold ext
  split
  · exact h.dig r (by assumption)
  · omega

end Go.Proofs.Ytkhkmicbjnkicaa
