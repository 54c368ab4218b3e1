/-
  Contracts of functions, and plain facts about them, that a claim of this seat uses.
-/
import Derived.Test.YtbbiennjigpheaaSx
import Derived.Test.YtbbiennjigpheaaLanT
import Derived.Test.YtbbiennjigpheaaProg
namespace Go.Proofs.Ytbbiennjigpheaa
open Go.Sx
set_option linter.unusedVariables false
set_option linter.unusedSimpArgs false
set_option maxRecDepth 100000

/-! lanes: frames of one class are nothing to another one. -/
/-- time for one class alone -/
def oneA (c : Int) : A8 := ⟨if c = 0 then 1048576 else -1, if c = 1 then 1048576 else -1, if c = 2 then 1048576 else -1, if c = 3 then 1048576 else -1, if c = 4 then 1048576 else -1, if c = 5 then 1048576 else -1, if c = 6 then 1048576 else -1, if c = 7 then 1048576 else -1⟩
theorem f_one (c : Int) {k : Nat} (hk : k < 8) : (oneA c).f k = if c = k then 1048576 else -1 := by
  rcases (by omega : k = 0 ∨ k = 1 ∨ k = 2 ∨ k = 3 ∨ k = 4 ∨ k = 5 ∨ k = 6 ∨ k = 7) with rfl | rfl | rfl | rfl | rfl | rfl | rfl | rfl <;> rfl
structure Szs (l : Ln) : Prop where
  room : ∀ j, j < 8 → l.room j = 5
  sz : ∀ j, j < 8 → ∀ r, r < l.n j → 0 ≤ l.sz j r ∧ l.sz j r ≤ 1023
structure Both (a b : Ln) (k : Nat) : Prop where
  sa : Szs a
  sb : Szs b
  n : a.n k = b.n k
  lost : a.lost k = b.lost k
  row : ∀ r, r < a.n k → a.id k r = b.id k r ∧ a.sz k r = b.sz k r ∧ a.dr k r = b.dr k r
theorem both_new (k : Nat) : Both (new0 (eightC 5)) (new0 (eightC 5)) k :=
  ⟨⟨fun j hj => f_eight 5 j hj, fun j hj r hr => absurd hr (Nat.not_lt_zero r)⟩, ⟨fun j hj => f_eight 5 j hj, fun j hj r hr => absurd hr (Nat.not_lt_zero r)⟩, rfl, rfl, fun r hr => absurd hr (Nat.not_lt_zero r)⟩
theorem szs_put {l : Ln} (h : Szs l) {c : Int} {x : It} (hx : 0 ≤ x.sz ∧ x.sz ≤ 1023) : Szs (putL l c x) := by
  refine ⟨h.room, fun j hj r hr => ?_⟩
  by_cases he : putE l c x = 0
  · rw [put_n he] at hr
    rw [put_sz he]
    by_cases hjc : j = c.toNat
    · subst hjc
      rw [up_at] at hr
      rw [up_at]
      by_cases h1 : r < l.n c.toNat
      · rw [if_pos h1]; exact h.sz _ hj r h1
      · rw [if_neg h1]; exact hx
    · rw [up_ne _ _ hjc] at hr
      rw [up_ne _ _ hjc]; exact h.sz _ hj r hr
  · rw [put_n' he] at hr
    rw [put_sz' he]
    exact h.sz _ hj r hr
/-- a class that is not put to -/
theorem put_off {l : Ln} {c : Int} {x : It} {k : Nat} (hk : k ≠ c.toNat) : (putL l c x).n k = l.n k ∧ (putL l c x).lost k = l.lost k ∧ (putL l c x).id k = l.id k ∧ (putL l c x).sz k = l.sz k ∧ (putL l c x).dr k = l.dr k := by
  by_cases he : putE l c x = 0
  · rw [put_n he, put_id he, put_sz he, put_dr he, put_lost' (by rw [he]; decide), up_ne _ _ hk, up_ne _ _ hk, up_ne _ _ hk, up_ne _ _ hk]
    exact ⟨rfl, rfl, rfl, rfl, rfl⟩
  · rw [put_n' he, put_id' he, put_sz' he, put_dr' he]
    refine ⟨rfl, ?_, rfl, rfl, rfl⟩
    by_cases h3 : putE l c x = 30
    · rw [put_lost h3, up_ne _ _ hk]
    · rw [put_lost' h3]
theorem both_ne {a b : Ln} {k : Nat} {c : Int} {x : It} (h : Both a b k) (hc : k ≠ c.toNat) (hx : 0 ≤ x.sz ∧ x.sz ≤ 1023) : Both (putL a c x) b k := by
  obtain ⟨e1, e2, e3, e4, e5⟩ := put_off (l := a) (x := x) hc
  exact ⟨szs_put h.sa hx, h.sb, by rw [e1]; exact h.n, by rw [e2]; exact h.lost, fun r hr => by rw [e1] at hr; rw [e3, e4, e5]; exact h.row r hr⟩
theorem full_same {a b : Ln} {k : Nat} (h : Both a b k) (hk : k < 8) (d : Bool) : full a k d ↔ full b k d := by
  unfold full
  rw [h.sa.room k hk, h.sb.room k hk, h.n]
theorem putE_same {a b : Ln} {k : Nat} {c : Int} {x : It} (h : Both a b k) (hk : k < 8) (hc : c.toNat = k) : putE b c x = putE a c x := by
  unfold putE
  subst hc
  by_cases h1 : full a c.toNat x.dr
  · rw [if_pos h1, if_pos ((full_same h hk _).1 h1)]
  · rw [if_neg h1, if_neg (fun h2 => h1 ((full_same h hk _).2 h2))]
theorem both_put {a b : Ln} {k : Nat} {c : Int} {x : It} (h : Both a b k) (hk : k < 8) (hc : c.toNat = k) (hx : 0 ≤ x.sz ∧ x.sz ≤ 1023) : Both (putL a c x) (putL b c x) k := by
  have hs := putE_same (x := x) h hk hc
  subst hc
  refine ⟨szs_put h.sa hx, szs_put h.sb hx, ?_, ?_, fun r hr => ?_⟩
  · by_cases he : putE a c x = 0
    · rw [put_n he, put_n (hs.trans he), up_at, up_at, h.n]
    · rw [put_n' he, put_n' (fun e => he (hs.symm.trans e)), h.n]
  · by_cases he : putE a c x = 30
    · rw [put_lost he, put_lost (hs.trans he), up_at, up_at, h.lost]
    · rw [put_lost' he, put_lost' (fun e => he (hs.symm.trans e)), h.lost]
  · by_cases he : putE a c x = 0
    · rw [put_n he, up_at] at hr
      rw [put_id he, put_sz he, put_dr he, put_id (hs.trans he), put_sz (hs.trans he), put_dr (hs.trans he), up_at, up_at, up_at, up_at, up_at, up_at]
      by_cases h1 : r < a.n c.toNat
      · have h2 : r < b.n c.toNat := h.n ▸ h1
        rw [if_pos h1, if_pos h1, if_pos h1, if_pos h2, if_pos h2, if_pos h2]
        exact h.row r h1
      · have h2 : ¬ r < b.n c.toNat := h.n ▸ h1
        rw [if_neg h1, if_neg h1, if_neg h1, if_neg h2, if_neg h2, if_neg h2]
        exact ⟨rfl, rfl, rfl⟩
    · have he' : putE b c x ≠ 0 := fun e => he (hs.symm.trans e)
      rw [put_n' he] at hr
      rw [put_id' he, put_sz' he, put_dr' he, put_id' he', put_sz' he', put_dr' he']
      exact h.row r hr
theorem one_fits {l : Ln} {c : Int} (h : Szs l) {j : Nat} (hj : j < 8) : fits l (oneA c) j ↔ c = j ∧ 0 < l.n j := by
  unfold fits
  rw [f_one c hj]
  refine ⟨fun ⟨h1, h2⟩ => ?_, fun ⟨h1, h2⟩ => ⟨h2, ?_⟩⟩
  · have := h.sz j hj 0 h1
    by_cases hc : c = j
    · exact ⟨hc, h1⟩
    · rw [if_neg hc] at h2; omega
  · have := h.sz j hj 0 h2
    rw [if_pos h1]; omega
theorem one_pk {l : Ln} {c : Int} (h : Szs l) (hc : 0 ≤ c ∧ c < 8) : pk l (oneA c) = if 0 < l.n c.toNat then some c.toNat else none := by
  have hc8 : c.toNat < 8 := by omega
  cases ho : pk l (oneA c) with
  | none =>
    have := pk_no ho c.toNat hc8
    rw [one_fits h hc8] at this
    rw [if_neg (fun h2 => this ⟨by omega, h2⟩)]
  | some k =>
    obtain ⟨hk, hf⟩ := pk_fits ho
    obtain ⟨h1, h2⟩ := (one_fits h hk).1 hf
    have h3 : c.toNat = k := by omega
    rw [h3, if_pos h2]
theorem szs_pop {l : Ln} (h : Szs l) (o : Option Nat) : Szs (popL l o) := by
  cases o with
  | none => exact h
  | some k =>
    refine ⟨h.room, fun j hj r hr => ?_⟩
    have hr : r < up l.n k (l.n k - 1) j := hr
    show 0 ≤ up l.sz k (fun r => l.sz k (r + 1)) j r ∧ up l.sz k (fun r => l.sz k (r + 1)) j r ≤ 1023
    by_cases hjk : j = k
    · subst hjk
      rw [up_at] at hr
      rw [up_at]
      exact h.sz j hj (r + 1) (by omega)
    · rw [up_ne _ _ hjk] at hr
      rw [up_ne _ _ hjk]
      exact h.sz j hj r hr
theorem both_pick {a b : Ln} {c : Int} (hc : 0 ≤ c ∧ c < 8) (h : Both a b c.toNat) : pkI a (pk a (oneA c)) = pkI b (pk b (oneA c)) ∧ pkB (pk a (oneA c)) = pkB (pk b (oneA c)) ∧ Both (popL a (pk a (oneA c))) (popL b (pk b (oneA c))) c.toNat := by
  rw [one_pk h.sa hc, one_pk h.sb hc]
  by_cases hn : 0 < a.n c.toNat
  · have hm : 0 < b.n c.toNat := h.n ▸ hn
    rw [if_pos hn, if_pos hm]
    obtain ⟨e1, e2, e3⟩ := h.row 0 hn
    refine ⟨?_, rfl, ⟨szs_pop h.sa _, szs_pop h.sb _, ?_, h.lost, fun r hr => ?_⟩⟩
    · show It.mk _ _ _ = It.mk _ _ _
      rw [e1, e2, e3]
    · show up a.n c.toNat (a.n c.toNat - 1) c.toNat = up b.n c.toNat (b.n c.toNat - 1) c.toNat
      rw [up_at, up_at, h.n]
    · have hr : r < up a.n c.toNat (a.n c.toNat - 1) c.toNat := hr
      rw [up_at] at hr
      show up a.id c.toNat (fun r => a.id c.toNat (r + 1)) c.toNat r = up b.id c.toNat (fun r => b.id c.toNat (r + 1)) c.toNat r ∧ up a.sz c.toNat (fun r => a.sz c.toNat (r + 1)) c.toNat r = up b.sz c.toNat (fun r => b.sz c.toNat (r + 1)) c.toNat r ∧ up a.dr c.toNat (fun r => a.dr c.toNat (r + 1)) c.toNat r = up b.dr c.toNat (fun r => b.dr c.toNat (r + 1)) c.toNat r
      rw [up_at, up_at, up_at, up_at, up_at, up_at]
      exact h.row (r + 1) (by omega)
  · have hm : ¬ 0 < b.n c.toNat := h.n ▸ hn
    rw [if_neg hn, if_neg hm]
    exact ⟨rfl, rfl, h⟩
theorem both_len {a b : Ln} {c : Int} (hc : 0 ≤ c ∧ c < 8) (h : Both a b c.toNat) : lenV a c = lenV b c ∧ lostV a c = lostV b c := by
  unfold lenV lostV
  rw [if_neg (by omega), if_neg (by omega), if_neg (by omega), if_neg (by omega), h.n, h.lost]
  exact ⟨rfl, rfl⟩

end Go.Proofs.Ytbbiennjigpheaa
