/-
  Contracts of functions, and plain facts about them, that a claim of this seat uses.
-/
import Derived.Test.YtaadejgoafdbcaaSx
import Derived.Test.YtaadejgoafdbcaaPortG
import Derived.Test.YtaadejgoafdbcaaProg
namespace Go.Proofs.Ytaadejgoafdbcaa
open Go.Sx
set_option linter.unusedVariables false
set_option linter.unusedSimpArgs false
set_option maxRecDepth 100000

/-! the port, plainly: one frame alone, one slot alone. -/
theorem lf8_f {l : GL} {fr : Int} {w : Bool} {now : Int} {k : Nat} (hk : k < 8) : (lf8 l fr w now).f k = lfV l fr w now k := by
  rcases (by omega : k = 0 ∨ k = 1 ∨ k = 2 ∨ k = 3 ∨ k = 4 ∨ k = 5 ∨ k = 6 ∨ k = 7) with rfl | rfl | rfl | rfl | rfl | rfl | rfl | rfl <;> rfl
theorem lfV_no {l : GL} {fr now c : Int} : lfV l fr false now c = leftV l now c := if_neg (by decide)
theorem lfV_yes {l : GL} {fr now c : Int} : lfV l fr true now c = if IntKind.i64.wrap (fr - now) < leftV l now c then IntKind.i64.wrap (fr - now) else leftV l now c := if_pos rfl
theorem sw_no {g : Gs} {now : Int} (h : g.wait = false) : ¬ swB g now := fun hh => by have := hh.1; rw [h] at this; exact absurd this (by decide)
/-- one frame waits, and no other -/
structure One (q : Ln) (c : Nat) (x : It) : Prop where
  n : ∀ k, k ≠ c → q.n k = 0
  n1 : q.n c = 1
  id : q.id c 0 = x.id
  sz : q.sz c 0 = x.sz
  dr : q.dr c 0 = x.dr
theorem one_put {n : Int} {c : Nat} {x : It} (hn : 1 ≤ n ∧ n ≤ 4096) (hc : c < 8) (hs : 0 ≤ x.sz ∧ x.sz ≤ 1600) : putE (new0 (eightC n)) c x = 0 ∧ One (putL (new0 (eightC n)) c x) c x := by
  have hr : (new0 (eightC n)).room c = n := by
    rcases (by omega : c = 0 ∨ c = 1 ∨ c = 2 ∨ c = 3 ∨ c = 4 ∨ c = 5 ∨ c = 6 ∨ c = 7) with rfl | rfl | rfl | rfl | rfl | rfl | rfl | rfl <;> rfl
  have h0 : putE (new0 (eightC n)) c x = 0 := by
    unfold putE
    rw [if_neg (by omega), if_neg (by omega), if_neg]
    unfold full
    rw [Int.toNat_natCast, hr, show (new0 (eightC n)).n c = 0 from rfl]
    omega
  refine ⟨h0, ?_, ?_, ?_, ?_, ?_⟩
  · intro k hk
    show (if putE (new0 (eightC n)) c x = 0 then up (new0 (eightC n)).n (c : Int).toNat ((new0 (eightC n)).n (c : Int).toNat + 1) else (new0 (eightC n)).n) k = 0
    rw [if_pos h0, up_ne _ _ (by rw [Int.toNat_natCast]; exact hk)]; rfl
  · show (if putE (new0 (eightC n)) c x = 0 then up (new0 (eightC n)).n (c : Int).toNat ((new0 (eightC n)).n (c : Int).toNat + 1) else (new0 (eightC n)).n) c = 1
    rw [if_pos h0, Int.toNat_natCast, up_at]; rfl
  · show (if putE (new0 (eightC n)) c x = 0 then up (new0 (eightC n)).id (c : Int).toNat (fun r => if r < (new0 (eightC n)).n (c : Int).toNat then (new0 (eightC n)).id (c : Int).toNat r else x.id) else (new0 (eightC n)).id) c 0 = x.id
    rw [if_pos h0, Int.toNat_natCast, up_at]; rfl
  · show (if putE (new0 (eightC n)) c x = 0 then up (new0 (eightC n)).sz (c : Int).toNat (fun r => if r < (new0 (eightC n)).n (c : Int).toNat then (new0 (eightC n)).sz (c : Int).toNat r else x.sz) else (new0 (eightC n)).sz) c 0 = x.sz
    rw [if_pos h0, Int.toNat_natCast, up_at]; rfl
  · show (if putE (new0 (eightC n)) c x = 0 then up (new0 (eightC n)).dr (c : Int).toNat (fun r => if r < (new0 (eightC n)).n (c : Int).toNat then (new0 (eightC n)).dr (c : Int).toNat r else x.dr) else (new0 (eightC n)).dr) c 0 = x.dr
    rw [if_pos h0, Int.toNat_natCast, up_at]; rfl
theorem pk_one {q : Ln} {a : A8} {c : Nat} {x : It} (h : One q c x) (hc : c < 8) : pk q a = if 8 * x.sz ≤ a.f c then some c else none := by
  have key : ∀ n, pkFrom q a n = if c < n ∧ 8 * x.sz ≤ a.f c then some c else none := by
    intro n
    induction n with
    | zero => rw [if_neg (by omega)]; rfl
    | succ n ih =>
      show (if fits q a n then some n else pkFrom q a n) = _
      by_cases hnc : n = c
      · subst hnc
        by_cases hs : 8 * x.sz ≤ a.f n
        · rw [if_pos ⟨by rw [h.n1]; decide, by rw [h.sz]; exact hs⟩, if_pos ⟨by omega, hs⟩]
        · rw [if_neg (fun hh => hs (by rw [← h.sz]; exact hh.2)), ih, if_neg (by omega), if_neg (fun hh => hs hh.2)]
      · rw [if_neg (fun hh => by have := hh.1; rw [h.n n hnc] at this; omega), ih]
        by_cases hs : 8 * x.sz ≤ a.f c
        · by_cases hl : c < n
          · rw [if_pos ⟨hl, hs⟩, if_pos ⟨by omega, hs⟩]
          · rw [if_neg (by omega), if_neg (by omega)]
        · rw [if_neg (fun hh => hs hh.2), if_neg (fun hh => hs hh.2)]
  show pkFrom q a 8 = _
  rw [key 8]
  by_cases hs : 8 * x.sz ≤ a.f c
  · rw [if_pos ⟨hc, hs⟩, if_pos hs]
  · rw [if_neg (fun hh => hs hh.2), if_neg hs]
theorem lenV_n {q : Ln} {k : Nat} (hk : k < 8) : lenV q k = q.n k := by unfold lenV; rw [if_neg (by omega), Int.toNat_natCast]
theorem any_up {q : Ln} {k : Nat} (h : anyTo q k = true) : ∀ {m : Nat}, k ≤ m → anyTo q m = true
  | 0, hm => by rw [show k = 0 by omega] at h; exact h
  | m + 1, hm => by
    rcases (by omega : k = m + 1 ∨ k ≤ m) with rfl | hk
    · exact h
    · rw [any_s, any_up h hk]; rfl
theorem any_pos {q : Ln} {c : Nat} (hc : c < 8) (h : 0 < q.n c) : anyTo q 8 = true := by
  refine any_up (k := c + 1) ?_ (by omega)
  rw [any_s, lenV_n hc, decide_eq_true (by omega)]
  simp
theorem any_one {q : Ln} {c : Nat} {x : It} (h : One q c x) (hc : c < 8) : anyTo q 8 = true := any_pos hc (by rw [h.n1]; decide)
theorem hdO_0 {q : Ln} {k : Nat} (h : q.n k = 0) : hdO q k = none := if_pos (.inr (.inr (by rw [Int.toNat_natCast]; exact h)))
theorem hdO_1 {q : Ln} {k : Nat} (hk : k < 8) (h : 0 < q.n k) : hdO q k = some k := by
  unfold hdO; rw [if_neg (by rw [Int.toNat_natCast]; omega), Int.toNat_natCast]
theorem wl_after {l : GL} {q : Ln} {a : A8} {now : Int} {b : Int} {f : Bool} {c : Nat} {x : It} (h : One q c x) : ∀ k j, c < j → whL l q a now k j b f = some (b, f)
  | 0, _, _ => rfl
  | k + 1, j, hj => by
    show (if pkB (hdO q j) = false then whL l q a now k (j + 1) b f else _) = _
    rw [hdO_0 (h.n j (by omega)), if_pos (show pkB none = false from rfl)]
    exact wl_after h k (j + 1) (by omega)
theorem wl_one {l : GL} {q : Ln} {a : A8} {now : Int} {c : Nat} {x : It} (h : One q c x) (hc : c < 8) : ∀ k j, j + k = 8 → j ≤ c → whL l q a now k j 0 false = if IntKind.i64.wrap (8 * x.sz) ≤ a.f c then none else if whOpens l a now c then some (whAt l a now c, true) else some (0, false)
  | 0, j, hk, hj => by omega
  | k + 1, j, hk, hj => by
    show (if pkB (hdO q j) = false then whL l q a now k (j + 1) 0 false else if IntKind.i64.wrap (8 * (pkI q (hdO q j)).sz) ≤ a.f j then none else if whOpens l a now j ∧ (false = false ∨ whAt l a now j < 0) then whL l q a now k (j + 1) (whAt l a now j) true else whL l q a now k (j + 1) 0 false) = _
    rcases (by omega : j < c ∨ j = c) with hj | rfl
    · rw [hdO_0 (h.n j (by omega)), if_pos (show pkB none = false from rfl)]
      exact wl_one h hc k (j + 1) (by omega) (by omega)
    · rw [hdO_1 hc (by rw [h.n1]; decide), if_neg (show ¬ (pkB (some j) = false) from (by decide : ¬ (true = false))), show (pkI q (some j)).sz = x.sz from h.sz, wl_after h k (j + 1) (by omega), wl_after h k (j + 1) (by omega)]
      split
      · rfl
      · by_cases ho : whOpens l a now j
        · rw [if_pos ⟨ho, .inl rfl⟩, if_pos ho]
        · rw [if_neg (fun hh => ho hh.1), if_neg ho]
/-! lists of one slot -/
def lst1 (b c o : Int) : GL := ⟨b, c, 1, 1, 1, fun r => [o].getD r 0, fun r => [c].getD r 0⟩
theorem slot1 {l : GL} (h : GOk l) (h1 : l.len = 1) {p : Int} (hp : 0 ≤ p ∧ p < l.cyc) : slotI l p = 0 := by
  have := (h.slot hp).1; omega
theorem all1 {l : GL} (h : GOk l) (h1 : l.len = 1) {k : Int} {o : Int} (ho : l.op 0 / 2 ^ k.toNat % 2 = o) (p : Int) : stayV l p k o = 2 * l.cyc := by
  have c1 := h.c1
  refine IsStay.val ⟨by omega, Int.le_refl _, fun j _ _ => ?_, fun hh => absurd hh (Int.lt_irrefl _)⟩ (by omega)
  unfold gAt
  rw [slot1 h h1 ⟨Int.emod_nonneg _ (by omega), Int.emod_lt_of_pos _ (by omega)⟩]
  exact ho
theorem none1 {l : GL} (h : GOk l) (h1 : l.len = 1) {k : Int} {o : Int} (ho : l.op 0 / 2 ^ k.toNat % 2 ≠ o) (p : Int) : stayV l p k o = 0 := by
  have c1 := h.c1
  refine IsStay.val ⟨Int.le_refl _, by omega, fun j h2 h3 => absurd h3 (by omega), fun hh => ?_⟩ (by omega)
  unfold gAt
  rw [slot1 h h1 ⟨Int.emod_nonneg _ (by omega), Int.emod_lt_of_pos _ (by omega)⟩]
  exact ho
theorem left_open {l : GL} (h : chk l = 0) (h1 : l.len = 1) {at_ k : Int} (ha : inR at_) (hk : gateR k) (ho : l.op 0 / 2 ^ k.toNat % 2 = 1) : leftV l at_ k = 2147483648 := by
  unfold leftV
  rw [if_pos ⟨h, ha, hk⟩, all1 (chk_ok h) h1 ho, if_pos rfl]
theorem left_shut {l : GL} (h : chk l = 0) (h1 : l.len = 1) {at_ k : Int} (ho : l.op 0 / 2 ^ k.toNat % 2 ≠ 1) : leftV l at_ k = 0 := by
  unfold leftV
  have ok := chk_ok h
  have c1 := ok.c1
  split
  · rw [none1 ok h1 ho, if_neg (by omega)]
  · rfl
theorem next_shut {l : GL} (h : chk l = 0) (h1 : l.len = 1) {at_ k : Int} (ho : l.op 0 / 2 ^ k.toNat % 2 = 0) : nextB l at_ k = false := by
  unfold nextB
  refine decide_eq_false fun hh => hh.2.2.2 ?_
  exact all1 (chk_ok h) h1 ho _

end Go.Proofs.Ytaadejgoafdbcaa
