/-
  Contracts of functions, and plain facts about them, that a claim of this seat uses.
-/
import Derived.Test.YtkhkmicbjnkicaaSx
import Derived.Test.YtkhkmicbjnkicaaProg
namespace Go.Proofs.Ytkhkmicbjnkicaa
open Go.Sx
set_option linter.unusedVariables false
set_option linter.unusedSimpArgs false
set_option maxRecDepth 100000

/-! the middle one of some numbers, plainly. -/
/-- what stands in a list so far -/
def upL (g : Nat → Int) (n : Nat) : List Int := (List.range n).map g
theorem upL_succ (g : Nat → Int) (n : Nat) : upL g (n + 1) = upL g n ++ [g n] := by simp [upL, List.range_succ]
theorem upL_len (g : Nat → Int) (n : Nat) : (upL g n).length = n := by simp [upL]
theorem upL_mem {g : Nat → Int} {n r : Nat} (h : r < n) : g r ∈ upL g n := List.mem_map.2 ⟨r, List.mem_range.2 h, rfl⟩
theorem upL_out {g : Nat → Int} {n : Nat} {x : Int} (h : x ∈ upL g n) : ∃ r, r < n ∧ g r = x := by
  obtain ⟨r, hr, he⟩ := List.mem_map.1 h
  exact ⟨r, List.mem_range.1 hr, he⟩
theorem upL_get {g : Nat → Int} {n r : Nat} (h : r < n) : (upL g n)[r]? = some (g r) := by simp [upL, h]
/-- how many lie below x, how many are x, how many lie above -/
def bel (x : Int) (l : List Int) : Nat := l.countP fun y => decide (y < x)
def sam (x : Int) (l : List Int) : Nat := l.countP fun y => decide (y = x)
def abv (x : Int) (l : List Int) : Nat := l.countP fun y => decide (x < y)
theorem bel_cons (x a : Int) (l : List Int) : bel x (a :: l) = bel x l + if a < x then 1 else 0 := by unfold bel; rw [List.countP_cons]; simp
theorem sam_cons (x a : Int) (l : List Int) : sam x (a :: l) = sam x l + if a = x then 1 else 0 := by unfold sam; rw [List.countP_cons]; simp
theorem abv_cons (x a : Int) (l : List Int) : abv x (a :: l) = abv x l + if x < a then 1 else 0 := by unfold abv; rw [List.countP_cons]; simp
theorem bel_up (x : Int) (g : Nat → Int) (n : Nat) : bel x (upL g (n + 1)) = bel x (upL g n) + if g n < x then 1 else 0 := by unfold bel; rw [upL_succ, List.countP_append]; simp [List.countP_cons]
theorem sam_up (x : Int) (g : Nat → Int) (n : Nat) : sam x (upL g (n + 1)) = sam x (upL g n) + if g n = x then 1 else 0 := by unfold sam; rw [upL_succ, List.countP_append]; simp [List.countP_cons]
theorem abv_up (x : Int) (g : Nat → Int) (n : Nat) : abv x (upL g (n + 1)) = abv x (upL g n) + if x < g n then 1 else 0 := by unfold abv; rw [upL_succ, List.countP_append]; simp [List.countP_cons]
theorem all_cnt (x : Int) : ∀ l : List Int, bel x l + sam x l + abv x l = l.length
  | [] => rfl
  | a :: l => by
    have := all_cnt x l
    rw [bel_cons, sam_cons, abv_cons, List.length_cons]
    split <;> split <;> split <;> omega
theorem bel_0 {x : Int} {l : List Int} (h : ∀ y, y ∈ l → x ≤ y) : bel x l = 0 := List.countP_eq_zero.2 fun y hy => by have := h y hy; simp; omega
theorem sam_0 {x : Int} {l : List Int} (h : ∀ y, y ∈ l → x < y) : sam x l = 0 := List.countP_eq_zero.2 fun y hy => by have := h y hy; simp; omega
/-- in order: which one stands at a place -/
theorem at_iff {x : Int} : ∀ {l : List Int}, l.Pairwise (fun a b => a ≤ b) → ∀ {i : Nat}, i < l.length → (l[i]? = some x ↔ bel x l ≤ i ∧ i < bel x l + sam x l)
  | [], _, i, h => absurd h (Nat.not_lt_zero i)
  | a :: l, hp, i, h => by
    obtain ⟨h1, h2⟩ := List.pairwise_cons.1 hp
    rw [bel_cons, sam_cons]
    rcases (by omega : a < x ∨ a = x ∨ x < a) with hx | hx | hx
    · rw [if_pos hx, if_neg (by omega)]
      cases i with
      | zero =>
        simp
        omega
      | succ i =>
        rw [List.getElem?_cons_succ, at_iff h2 (by simpa using h)]
        omega
    · subst hx
      rw [if_neg (by omega), if_pos rfl]
      have h0 : bel a l = 0 := bel_0 h1
      cases i with
      | zero => simp [h0]
      | succ i =>
        rw [List.getElem?_cons_succ, at_iff h2 (by simpa using h), h0]
        omega
    · rw [if_neg (by omega), if_neg (by omega)]
      have h0 : bel x l = 0 := bel_0 fun y hy => by have := h1 y hy; omega
      have h3 : sam x l = 0 := sam_0 fun y hy => by have := h1 y hy; omega
      rw [h0, h3]
      constructor
      · intro h4
        have h5 := List.mem_of_getElem? h4
        rcases List.mem_cons.1 h5 with h6 | h6
        · omega
        · have := h1 x h6; omega
      · omega
def srt (l : List Int) : List Int := l.mergeSort fun x y => decide (x ≤ y)
/-- the middle one, of two the lesser -/
def mid (l : List Int) : Int := ((srt l)[(l.length - 1) / 2]?).getD 0
theorem srt_perm (l : List Int) : (srt l).Perm l := List.mergeSort_perm _ _
theorem srt_len (l : List Int) : (srt l).length = l.length := (srt_perm l).length_eq
theorem srt_in (l : List Int) : (srt l).Pairwise (fun a b => a ≤ b) := by
  have h := List.pairwise_mergeSort (le := fun x y : Int => decide (x ≤ y)) (fun a b c h1 h2 => by simp at *; omega) (fun a b => by simp; omega) l
  exact h.imp fun h => of_decide_eq_true h
theorem mid_at {l : List Int} (h : 0 < l.length) : (srt l)[(l.length - 1) / 2]? = some (mid l) := by
  have h1 : (l.length - 1) / 2 < (srt l).length := by rw [srt_len]; omega
  unfold mid
  rw [List.getElem?_eq_getElem h1]; rfl
theorem mid_iff {l : List Int} (h : 0 < l.length) (x : Int) : mid l = x ↔ bel x l ≤ (l.length - 1) / 2 ∧ (l.length - 1) / 2 < bel x l + sam x l := by
  have h1 : (l.length - 1) / 2 < (srt l).length := by rw [srt_len]; omega
  have h2 := at_iff (x := x) (srt_in l) h1
  rw [mid_at h] at h2
  have e1 : bel x (srt l) = bel x l := (srt_perm l).countP_eq _
  have e2 : sam x (srt l) = sam x l := (srt_perm l).countP_eq _
  rw [e1, e2] at h2
  rw [← h2]
  exact ⟨fun h => by rw [h], fun h => by injection h⟩
theorem mid_mem {l : List Int} (h : 0 < l.length) : mid l ∈ l := (srt_perm l).mem_iff.1 (List.mem_of_getElem? (mid_at h))
theorem mid_half {l : List Int} (h : 0 < l.length) : 2 * bel (mid l) l ≤ l.length ∧ 2 * abv (mid l) l ≤ l.length := by
  have h1 := (mid_iff h (mid l)).1 rfl
  have h2 := all_cnt (mid l) l
  omega

end Go.Proofs.Ytkhkmicbjnkicaa
