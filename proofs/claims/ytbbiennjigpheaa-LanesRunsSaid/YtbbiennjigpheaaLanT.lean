/-
  Contracts of functions, and plain facts about them, that a claim of this seat uses.
-/
import Derived.Test.YtbbiennjigpheaaSx
import Derived.Test.YtbbiennjigpheaaLanH
import Derived.Test.YtbbiennjigpheaaLanS
import Derived.Test.YtbbiennjigpheaaProg
namespace Go.Proofs.Ytbbiennjigpheaa
open Go.Sx
set_option linter.unusedVariables false
set_option linter.unusedSimpArgs false
set_option maxRecDepth 100000

/-! lanes: what is picked where all fits. -/
theorem pk_no {l : Ln} {a : A8} : ∀ {m : Nat}, pkFrom l a m = none → ∀ j, j < m → ¬ fits l a j
  | m + 1, h, j, hj => by
    have h : (if fits l a m then some m else pkFrom l a m) = none := h
    split at h
    · cases h
    · rename_i hf
      rcases (by omega : j < m ∨ j = m) with h1 | rfl
      · exact pk_no h j h1
      · exact hf
theorem pk_top {l : Ln} {a : A8} : ∀ {m k : Nat}, pkFrom l a m = some k → ∀ j, k < j → j < m → ¬ fits l a j
  | m + 1, k, h, j, hk, hj => by
    have h : (if fits l a m then some m else pkFrom l a m) = some k := h
    split at h
    · rename_i hf
      cases h
      omega
    · rename_i hf
      rcases (by omega : j < m ∨ j = m) with h1 | rfl
      · exact pk_top h j hk h1
      · exact hf
theorem f_eight (n : Int) (k : Nat) (hk : k < 8) : (eightC n).f k = n := by
  rcases (by omega : k = 0 ∨ k = 1 ∨ k = 2 ∨ k = 3 ∨ k = 4 ∨ k = 5 ∨ k = 6 ∨ k = 7) with rfl | rfl | rfl | rfl | rfl | rfl | rfl | rfl <;> rfl
theorem and7 (a : Int) : bits .and .i64 a 7 = a % 8 := and_mask a 3 (by decide)
theorem and1023 (a : Int) : bits .and .i64 a 1023 = a % 1024 := and_mask a 10 (by decide)
/-- who waits: numbers below N, of the classes C, in order -/
structure Wait (l : Ln) (N : Nat) (C : Nat → Int) : Prop where
  room : ∀ k, k < 8 → l.room k = 100
  row : ∀ k, k < 8 → ∀ r, r < l.n k → 0 ≤ l.id k r ∧ l.id k r < N ∧ C (l.id k r).toNat % 8 = k ∧ 0 ≤ l.sz k r ∧ l.sz k r ≤ 1023
  inc : ∀ k, k < 8 → ∀ r, r + 1 < l.n k → l.id k r < l.id k (r + 1)
theorem wait_new (C : Nat → Int) : Wait (new0 (eightC 100)) 0 C :=
  ⟨fun k hk => f_eight 100 k hk, fun k hk r hr => absurd hr (Nat.not_lt_zero r), fun k hk r hr => absurd hr (Nat.not_lt_zero _)⟩
theorem n_le (l : Ln) {k : Nat} (hk : k < 8) : (l.n k : Int) ≤ sumN l 8 := by
  rw [sum_8]
  rcases (by omega : k = 0 ∨ k = 1 ∨ k = 2 ∨ k = 3 ∨ k = 4 ∨ k = 5 ∨ k = 6 ∨ k = 7) with rfl | rfl | rfl | rfl | rfl | rfl | rfl | rfl <;> omega
theorem wait_putE {l : Ln} {N : Nat} {C : Nat → Int} (h : Wait l N C) (hs : sumN l 8 < 100) {c s i : Int} : putE l (bits .and .i64 c 7) ⟨i, bits .and .i64 s 1023, false⟩ = 0 := by
  rw [and7, and1023]
  refine put_0 (fun h2 => ?_) (by omega) (fun h2 => ?_)
  · have h2 : s % 1024 < 0 ∨ 1600 < s % 1024 := h2
    omega
  · rcases h2 with h2 | ⟨h2, _⟩
    · have h3 := h.room (c % 8).toNat (by omega)
      have h4 := n_le l (k := (c % 8).toNat) (by omega)
      omega
    · cases h2
theorem wait_put {l : Ln} {N : Nat} {C : Nat → Int} (h : Wait l N C) (hs : sumN l 8 < 100) {s : Int} : Wait (putL l (bits .and .i64 (C N) 7) ⟨(N : Int), bits .and .i64 s 1023, false⟩) (N + 1) C := by
  have he := wait_putE h hs (c := C N) (s := s) (i := N)
  rw [and7, and1023] at he ⊢
  have hk8 : (C N % 8).toNat < 8 := by omega
  refine ⟨h.room, fun k hk r hr => ?_, fun k hk r hr => ?_⟩
  · rw [put_n he] at hr
    rw [put_id he, put_sz he]
    by_cases hkc : k = (C N % 8).toNat
    · subst hkc
      rw [up_at] at hr
      rw [up_at, up_at]
      by_cases h1 : r < l.n (C N % 8).toNat
      · rw [if_pos h1, if_pos h1]
        obtain ⟨e1, e2, e3, e4, e5⟩ := h.row _ hk r h1
        exact ⟨e1, by omega, e3, e4, e5⟩
      · rw [if_neg h1, if_neg h1]
        exact ⟨by show (0 : Int) ≤ N; omega, by show (N : Int) < (N + 1 : Nat); omega, by show C (N : Int).toNat % 8 = ((C N % 8).toNat : Int); rw [Int.toNat_natCast]; omega, by show 0 ≤ s % 1024; omega, by show s % 1024 ≤ 1023; omega⟩
    · rw [up_ne _ _ hkc] at hr
      rw [up_ne _ _ hkc, up_ne _ _ hkc]
      obtain ⟨e1, e2, e3, e4, e5⟩ := h.row _ hk r hr
      exact ⟨e1, by omega, e3, e4, e5⟩
  · rw [put_n he] at hr
    rw [put_id he]
    by_cases hkc : k = (C N % 8).toNat
    · subst hkc
      rw [up_at] at hr
      rw [up_at]
      show (if r < l.n (C N % 8).toNat then l.id (C N % 8).toNat r else (N : Int)) < (if r + 1 < l.n (C N % 8).toNat then l.id (C N % 8).toNat (r + 1) else (N : Int))
      rw [if_pos (by omega)]
      by_cases h1 : r + 1 < l.n (C N % 8).toNat
      · rw [if_pos h1]; exact h.inc _ hk r h1
      · rw [if_neg h1]; exact (h.row _ hk r (by omega)).2.1
    · rw [up_ne _ _ hkc] at hr
      rw [up_ne _ _ hkc]
      exact h.inc k hk r hr
/-- what was picked last: nothing of a higher class waits, and of its class only what came behind it -/
structure Past (l : Ln) (last id : Int) : Prop where
  lo : 0 ≤ last
  hi : last ≤ 8
  high : ∀ k : Nat, k < 8 → last < k → l.n k = 0
  same : ∀ k : Nat, k < 8 → (k : Int) = last → ∀ r : Nat, r < l.n k → id < l.id k r
theorem past_new (l : Ln) : Past l 8 (-1) := ⟨by decide, by decide, fun k hk h => by omega, fun k hk h => by omega⟩
theorem wait_fits {l : Ln} {N : Nat} {C : Nat → Int} (h : Wait l N C) {k : Nat} (hk : k < 8) : fits l (eightC 1048576) k ↔ 0 < l.n k := by
  refine ⟨fun h2 => h2.1, fun h2 => ⟨h2, ?_⟩⟩
  rw [f_eight _ _ hk]
  have := (h.row k hk 0 h2).2.2.2.2
  omega
theorem past_pick {l : Ln} {N : Nat} {C : Nat → Int} {last id : Int} (h : Wait l N C) (hp : Past l last id) (hs : 0 < sumN l 8) :
    pkB (pk l (eightC 1048576)) = true ∧ ¬ last < pkC (pk l (eightC 1048576)) ∧ (pkC (pk l (eightC 1048576)) = last → ¬ (pkI l (pk l (eightC 1048576))).id ≤ id) ∧ ¬ (pkI l (pk l (eightC 1048576))).id < 0 ∧ ¬ (N : Int) ≤ (pkI l (pk l (eightC 1048576))).id ∧ bits .and .i64 (C (0 + (pkI l (pk l (eightC 1048576))).id.toNat)) 7 = pkC (pk l (eightC 1048576)) ∧
    Wait (popL l (pk l (eightC 1048576))) N C ∧ Past (popL l (pk l (eightC 1048576))) (pkC (pk l (eightC 1048576))) (pkI l (pk l (eightC 1048576))).id := by
  cases ho : pk l (eightC 1048576) with
  | none =>
    have h1 := pk_no ho
    have key : ∀ k, k < 8 → l.n k = 0 := fun k hk => by
      have := h1 k hk
      rw [wait_fits h hk] at this
      omega
    rw [sum_8, key 0 (by decide), key 1 (by decide), key 2 (by decide), key 3 (by decide), key 4 (by decide), key 5 (by decide), key 6 (by decide), key 7 (by decide)] at hs
    omega
  | some k =>
    obtain ⟨hk, hf⟩ := pk_fits ho
    have ht := pk_top ho
    have hn := (wait_fits h hk).1 hf
    obtain ⟨e1, e2, e3, e4, e5⟩ := h.row k hk 0 hn
    have hle : (k : Int) ≤ last := by
      rcases Int.lt_or_le last k with h2 | h2
      · have := hp.high k hk h2; omega
      · exact h2
    refine ⟨rfl, by show ¬ last < (k : Int); omega, fun h2 => ?_, by show ¬ l.id k 0 < 0; omega, by show ¬ (N : Int) ≤ l.id k 0; omega, ?_, ⟨h.room, fun j hj r hr => ?_, fun j hj r hr => ?_⟩, ⟨by show (0 : Int) ≤ k; omega, by show (k : Int) ≤ 8; omega, fun j hj h2 => ?_, fun j hj h2 r hr => ?_⟩⟩
    · have := hp.same k hk h2 0 hn
      show ¬ l.id k 0 ≤ id
      omega
    · show bits .and .i64 (C (0 + (l.id k 0).toNat)) 7 = (k : Int)
      rw [and7, Nat.zero_add]; exact e3
    · have hr : r < up l.n k (l.n k - 1) j := hr
      show 0 ≤ up l.id k (fun r => l.id k (r + 1)) j r ∧ up l.id k (fun r => l.id k (r + 1)) j r < N ∧ C (up l.id k (fun r => l.id k (r + 1)) j r).toNat % 8 = j ∧ 0 ≤ up l.sz k (fun r => l.sz k (r + 1)) j r ∧ up l.sz k (fun r => l.sz k (r + 1)) j r ≤ 1023
      by_cases hjk : j = k
      · subst hjk
        rw [up_at] at hr
        rw [up_at, up_at]
        exact h.row j hj (r + 1) (by omega)
      · rw [up_ne _ _ hjk] at hr
        rw [up_ne _ _ hjk, up_ne _ _ hjk]
        exact h.row j hj r hr
    · have hr : r + 1 < up l.n k (l.n k - 1) j := hr
      show up l.id k (fun r => l.id k (r + 1)) j r < up l.id k (fun r => l.id k (r + 1)) j (r + 1)
      by_cases hjk : j = k
      · subst hjk
        rw [up_at] at hr
        rw [up_at]
        exact h.inc j hj (r + 1) (by omega)
      · rw [up_ne _ _ hjk] at hr
        rw [up_ne _ _ hjk]
        exact h.inc j hj r hr
    · have h2 : (k : Int) < j := h2
      show up l.n k (l.n k - 1) j = 0
      rw [up_ne _ _ (by omega)]
      have := ht j (by omega) hj
      rw [wait_fits h hj] at this
      omega
    · have h2 : (j : Int) = k := h2
      obtain rfl : j = k := by omega
      have hr : r < up l.n j (l.n j - 1) j := hr
      rw [up_at] at hr
      show l.id j 0 < up l.id j (fun r => l.id j (r + 1)) j r
      rw [up_at]
      show l.id j 0 < l.id j (r + 1)
      have key : ∀ q, q + 1 < l.n j → l.id j 0 < l.id j (q + 1) := by
        intro q
        induction q with
        | zero => exact fun h3 => h.inc j hj 0 h3
        | succ q ih => exact fun h3 => Int.lt_trans (ih (by omega)) (h.inc j hj (q + 1) h3)
      exact key r (by omega)
theorem empty_pick {l : Ln} {a : A8} (hs : sumN l 8 = 0) : pkB (pk l a) = false := by
  cases ho : pk l a with
  | none => rfl
  | some k =>
    obtain ⟨hk, hf⟩ := pk_fits ho
    have h1 := hf.1
    have h2 := n_le l hk
    omega

end Go.Proofs.Ytbbiennjigpheaa
