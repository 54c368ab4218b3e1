/-
  Contracts of functions, and plain facts about them, that a claim of this seat uses.
-/
import Derived.Test.YtnkmfkongmijfaaSx
import Derived.Test.YtnkmfkongmijfaaFdbF
import Derived.Test.YtnkmfkongmijfaaProg
namespace Go.Proofs.Ytnkmfkongmijfaa
open Go.Sx
set_option linter.unusedVariables false
set_option linter.unusedSimpArgs false
set_option maxRecDepth 100000

/-! fdb: what is forgotten while a map is gone through. -/
def sweep (L : List MRow) (d : MRow → Bool) (seen : List MRow) : List MRow := L.filter fun r => !(d r && seen.any fun s => decide (s.b = r.b))
def unmet (L seen : List MRow) : List MRow := L.filter fun r => !(seen.any fun s => decide (s.b = r.b))
theorem pw_ne : ∀ {L : List MRow}, (L.Pairwise fun r s => r.k ≠ s.k ∧ r.b ≠ s.b) → ∀ {r s : MRow}, r ∈ L → s ∈ L → (r.k = s.k ∨ r.b = s.b) → r = s
  | [], _, _, _, hr, _, _ => by cases hr
  | x :: L, hp, r, s, hr, hs, hk => by
    rw [List.pairwise_cons] at hp
    rcases List.mem_cons.1 hr with h1 | h1 <;> rcases List.mem_cons.1 hs with h2 | h2
    · rw [h1, h2]
    · have := hp.1 s h2
      rw [← h1] at this
      rcases hk with hk | hk
      · exact absurd hk this.1
      · exact absurd hk this.2
    · have := hp.1 r h1
      rw [← h2] at this
      rcases hk with hk | hk
      · exact absurd hk.symm this.1
      · exact absurd hk.symm this.2
    · exact pw_ne hp.2 h1 h2 hk
theorem row_eq {ks : List IntKind} {L : List MRow} {c : Nat} (h : MpOK ks L c) {r s : MRow} (hr : r ∈ L) (hs : s ∈ L) (hk : r.k = s.k ∨ r.b = s.b) : r = s := pw_ne h.ap hr hs hk
theorem sw_0 (L : List MRow) (d : MRow → Bool) : sweep L d [] = L := by
  unfold sweep
  simp
theorem sw_sub {L : List MRow} {d : MRow → Bool} {seen : List MRow} {r : MRow} (h : r ∈ sweep L d seen) : r ∈ L := (List.mem_filter.1 h).1
theorem sw_del {ks : List IntKind} {L : List MRow} {c : Nat} (hL : MpOK ks L c) {d : MRow → Bool} {seen : List MRow} {r : MRow} (h : r ∈ sweep L d seen) (hd : d r = true) : mpDel (sweep L d seen) r.k = sweep L d (r :: seen) := by
  unfold mpDel sweep
  rw [List.filter_filter]
  refine List.filter_congr fun s hs => ?_
  have h1 : s.k = r.k ↔ r.b = s.b := ⟨fun hh => by rw [row_eq hL hs (sw_sub h) (.inl hh)], fun hh => by rw [row_eq hL hs (sw_sub h) (.inr hh.symm)]⟩
  rw [List.any_cons]
  by_cases hk : r.b = s.b
  · have h2 : s = r := row_eq hL hs (sw_sub h) (.inr hk.symm)
    subst h2
    simp [hd]
  · have h2 : ¬ s.k = r.k := fun hh => hk (h1.1 hh)
    simp [hk, h2]
theorem sw_keep {ks : List IntKind} {L : List MRow} {c : Nat} (hL : MpOK ks L c) {d : MRow → Bool} {seen : List MRow} {r : MRow} (h : r ∈ L) (hd : d r = false) : sweep L d (r :: seen) = sweep L d seen := by
  unfold sweep
  refine List.filter_congr fun s hs => ?_
  rw [List.any_cons]
  by_cases hk : r.b = s.b
  · have h2 : s = r := row_eq hL hs h (.inr hk.symm)
    subst h2
    simp [hd]
  · simp [hk]
theorem sw_end {L : List MRow} {d : MRow → Bool} {seen : List MRow} (h : ∀ r, r ∈ sweep L d seen → ∃ s, s ∈ seen ∧ s.b = r.b) : sweep L d seen = L.filter fun r => !d r := by
  unfold sweep
  refine List.filter_congr fun r hr => ?_
  cases hd : d r with
  | false => rfl
  | true =>
    cases ha : seen.any fun s => decide (s.b = r.b) with
    | true => rfl
    | false =>
      obtain ⟨s, hs, he⟩ := h r (List.mem_filter.2 ⟨hr, by rw [hd, ha]; rfl⟩)
      have : seen.any (fun s => decide (s.b = r.b)) = true := List.any_eq_true.2 ⟨s, hs, decide_eq_true he⟩
      rw [ha] at this; cases this
theorem del_one {ks : List IntKind} {L : List MRow} {c : Nat} (hL : MpOK ks L c) {r : MRow} (h : r ∈ L) : (mpDel L r.k).length + 1 = L.length := by
  have key : ∀ L : List MRow, (L.Pairwise fun r s => r.k ≠ s.k ∧ r.b ≠ s.b) → r ∈ L → (mpDel L r.k).length + 1 = L.length := by
    intro L
    induction L with
    | nil => intro _ h; cases h
    | cons s L ih =>
      intro hp hr
      rw [List.pairwise_cons] at hp
      unfold mpDel at *
      rcases List.mem_cons.1 hr with rfl | hr
      · have : L.filter (fun s => !decide (s.k = r.k)) = L := List.filter_eq_self.2 fun s hs => by
          have := (hp.1 s hs).1
          have h2 : ¬ s.k = r.k := fun hh => this hh.symm
          simp [h2]
        rw [List.filter_cons_of_neg (by simp), this]; rfl
      · have h1 := (hp.1 r hr).1
        rw [List.filter_cons_of_pos (by simp [h1]), List.length_cons, List.length_cons, ih hp.2 hr]
  exact key L hL.ap h
theorem sw_ok {ks : List IntKind} {L : List MRow} {c : Nat} (hL : MpOK ks L c) (d : MRow → Bool) (seen : List MRow) : MpOK ks (sweep L d seen) c :=
  ⟨fun r hr => hL.len r (sw_sub hr), fun r hr => hL.lt r (sw_sub hr), hL.ap.filter _⟩
theorem fl_ok {ks : List IntKind} {L : List MRow} {c : Nat} (hL : MpOK ks L c) (d : MRow → Bool) : MpOK ks (L.filter d) c :=
  ⟨fun r hr => hL.len r (List.mem_filter.1 hr).1, fun r hr => hL.lt r (List.mem_filter.1 hr).1, hL.ap.filter _⟩
theorem un_lt {L seen : List MRow} {r : MRow} (h : r ∈ L) (hs : ∀ s, s ∈ seen → s.b ≠ r.b) : (unmet L (r :: seen)).length < (unmet L seen).length := by
  have e : unmet L (r :: seen) = (unmet L seen).filter fun s => !decide (r.b = s.b) := by
    unfold unmet
    rw [List.filter_filter]
    refine List.filter_congr fun s _ => ?_
    rw [List.any_cons, Bool.not_or]
  rw [e]
  have hr : r ∈ unmet L seen := List.mem_filter.2 ⟨h, by
    rw [Bool.not_eq_true', List.any_eq_false]
    intro s hss
    simpa using hs s hss⟩
  rcases Nat.lt_or_ge ((unmet L seen).filter fun s => !decide (r.b = s.b)).length (unmet L seen).length with h1 | h1
  · exact h1
  · have h2 := List.filter_sublist (p := fun s : MRow => !decide (r.b = s.b)) (l := unmet L seen) |>.eq_of_length_le h1
    have h3 := List.filter_eq_self.1 h2 r hr
    simp at h3
theorem key_7 {k : List Int} (h : KeyW AT.ks k) : [k.getD 0 0, k.getD 1 0, k.getD 2 0, k.getD 3 0, k.getD 4 0, k.getD 5 0, k.getD 6 0] = k := by
  obtain ⟨a, b, c, d, e, f, g, rfl⟩ := len7 h.len
  rfl

end Go.Proofs.Ytnkmfkongmijfaa
