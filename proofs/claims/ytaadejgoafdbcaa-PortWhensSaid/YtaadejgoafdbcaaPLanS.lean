/-
  Contracts of functions, and plain facts about them, that a claim of this seat uses.
-/
import Derived.Test.YtaadejgoafdbcaaSx
import Derived.Test.YtaadejgoafdbcaaPLanH
import Derived.Test.YtaadejgoafdbcaaPLanW
import Derived.Test.YtaadejgoafdbcaaProg
namespace Go.Proofs.Ytaadejgoafdbcaa
open Go.Sx
set_option linter.unusedVariables false
set_option linter.unusedSimpArgs false
set_option maxRecDepth 100000

/-! lanes: how many wait in all. -/
theorem sum_8 (l : Ln) : sumN l 8 = (l.n 0 : Int) + l.n 1 + l.n 2 + l.n 3 + l.n 4 + l.n 5 + l.n 6 + l.n 7 := by
  show 0 + (l.n 0 : Int) + l.n 1 + l.n 2 + l.n 3 + l.n 4 + l.n 5 + l.n 6 + l.n 7 = _
  omega
theorem sum_up {l l' : Ln} {k v : Nat} (hk : k < 8) (h : l'.n = up l.n k v) : sumN l' 8 = sumN l 8 - l.n k + v := by
  rw [sum_8, sum_8, h]
  unfold up
  rcases (by omega : k = 0 ∨ k = 1 ∨ k = 2 ∨ k = 3 ∨ k = 4 ∨ k = 5 ∨ k = 6 ∨ k = 7) with rfl | rfl | rfl | rfl | rfl | rfl | rfl | rfl <;> simp <;> omega
theorem put_cls {l : Ln} {c : Int} {x : It} (h : putE l c x = 0) : 0 ≤ c ∧ c ≤ 7 := by
  unfold putE at h
  split at h
  · cases h
  · split at h
    · cases h
    · omega
theorem sum_put {l : Ln} {c : Int} {x : It} (h : putE l c x = 0) : sumN (putL l c x) 8 = sumN l 8 + 1 := by
  have hc := put_cls h
  rw [sum_up (k := c.toNat) (by omega) (put_n h)]
  omega
theorem sum_put' {l : Ln} {c : Int} {x : It} (h : putE l c x ≠ 0) : sumN (putL l c x) 8 = sumN l 8 := by
  rw [sum_8, sum_8, put_n' h]
theorem pk_fits {l : Ln} {a : A8} : ∀ {m k : Nat}, pkFrom l a m = some k → k < m ∧ fits l a k
  | m + 1, k, h => by
    have h : (if fits l a m then some m else pkFrom l a m) = some k := h
    split at h
    · rename_i hf
      cases h
      exact ⟨by omega, hf⟩
    · obtain ⟨h1, h2⟩ := pk_fits h
      exact ⟨by omega, h2⟩
theorem sum_pop {l : Ln} {a : A8} (h : pkB (pk l a) = true) : sumN (popL l (pk l a)) 8 = sumN l 8 - 1 := by
  cases hp : pk l a with
  | none => rw [hp] at h; cases h
  | some k =>
    obtain ⟨h1, h2⟩ := pk_fits hp
    have h3 := h2.1
    rw [sum_up (l := l) (k := k) (v := l.n k - 1) h1 rfl]
    omega
theorem sum_pop' {l : Ln} {a : A8} (h : pkB (pk l a) = false) : popL l (pk l a) = l := by
  cases hp : pk l a with
  | none => rfl
  | some k => rw [hp] at h; cases h
theorem sum_clr (l : Ln) : sumN (clrL l) 8 = 0 := rfl
theorem sum_new (a : A8) : sumN (new0 a) 8 = 0 := rfl
theorem pop_okA {l : Ln} (h : LnOK l) (a : A8) : LnOK (popL l (pk l a)) := by
  cases hp : pk l a with
  | none => exact h
  | some k =>
    obtain ⟨h1, h2⟩ := pk_fits hp
    exact pop_ok h k (by have := h2.1; omega)
theorem sum_pos (l : Ln) : 0 ≤ sumN l 8 := by rw [sum_8]; omega
theorem sum_0 (l : Ln) : sumN l 0 = 0 := rfl
theorem sum_s (l : Ln) (k : Nat) : sumN l (k + 1) = sumN l k + l.n k := rfl
theorem sum_step (l : Ln) (k : Nat) : sumN l k ≤ sumN l (k + 1) := by rw [sum_s]; omega
theorem sum_ge (l : Ln) : ∀ k, 0 ≤ sumN l k
  | 0 => Int.le_refl _
  | k + 1 => by have := sum_ge l k; rw [sum_s]; omega
theorem sum_add (l : Ln) (k : Nat) : ∀ m, sumN l k ≤ sumN l (k + m)
  | 0 => Int.le_refl _
  | m + 1 => by
    have h1 := sum_add l k m
    have h2 := sum_step l (k + m)
    exact Int.le_trans h1 h2
theorem sum_mono (l : Ln) (k : Nat) (hk : k ≤ 8) : 0 ≤ sumN l k ∧ sumN l k ≤ sumN l 8 := by
  refine ⟨sum_ge l k, ?_⟩
  have h := sum_add l k (8 - k)
  rw [show k + (8 - k) = 8 by omega] at h
  exact h
theorem sum_len (l : Ln) {c : Nat} (hc : c < 8) : sumN l (c + 1) = sumN l c + lenV l c := by
  rw [sum_s]; unfold lenV; rw [if_neg (by omega)]; rfl

end Go.Proofs.Ytaadejgoafdbcaa
