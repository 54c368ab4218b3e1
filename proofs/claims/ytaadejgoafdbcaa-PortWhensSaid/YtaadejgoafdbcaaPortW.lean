/-
  Contracts of functions, and plain facts about them, that a claim of this seat uses.
-/
import Derived.Test.YtaadejgoafdbcaaSx
import Derived.Test.YtaadejgoafdbcaaPortH
import Derived.Test.YtaadejgoafdbcaaProg
namespace Go.Proofs.Ytaadejgoafdbcaa
open Go.Sx
set_option linter.unusedVariables false
set_option linter.unusedSimpArgs false
set_option maxRecDepth 100000

/-! PortWhens, plainly: gates by time, slots that begin. -/
/-- gate k at time t -/
def gT (l : GL) (k t : Int) : Int := gAt l k (t - l.base)
theorem gT_per {l : GL} {k t : Int} (m : Int) : gT l k (t + l.cyc * m) = gT l k t := by
  unfold gT
  refine gAt_mod ?_
  rw [show t + l.cyc * m - l.base = t - l.base + l.cyc * m by omega, Int.add_mul_emod_self_left]
theorem gT_01 (l : GL) (k t : Int) : gT l k t = 0 ∨ gT l k t = 1 := by
  unfold gT gAt; omega
theorem gT_ph {l : GL} {k t j : Int} : gAt l k (phV l t + j) = gT l k (t + j) := by
  unfold gT
  refine gAt_mod ?_
  unfold phV
  rw [show t + j - l.base = (t - l.base) + j by omega, Int.emod_add_emod]
/-- open for w from t on -/
def Op (l : GL) (k t w : Int) : Prop := ∀ j, 0 ≤ j → j < w → gT l k (t + j) = 1
theorem stay_T {l : GL} {k t o : Int} (h : chk l = 0) : 0 ≤ stayV l (phV l t) k o ∧ stayV l (phV l t) k o ≤ 2 * l.cyc ∧ (∀ j, 0 ≤ j → j < stayV l (phV l t) k o → gT l k (t + j) = o) ∧ (stayV l (phV l t) k o < 2 * l.cyc → gT l k (t + stayV l (phV l t) k o) ≠ o) := by
  have c1 := (chk_ok h).c1
  have s := stay_is (l := l) (p := phV l t) (k := k) (o := o) (by omega)
  exact ⟨s.lo, s.hi, fun j h1 h2 => by rw [← gT_ph]; exact s.all j h1 h2, fun h9 => by rw [← gT_ph]; exact s.end_ h9⟩
theorem two_all {l : GL} {k t o : Int} (h : chk l = 0) (ha : ∀ j, 0 ≤ j → j < 2 * l.cyc → gT l k (t + j) = o) (u : Int) : gT l k u = o := by
  have c1 := (chk_ok h).c1
  have e1 := Int.emod_nonneg (u - t) (show l.cyc ≠ 0 by omega)
  have e2 := Int.emod_lt_of_pos (u - t) (show 0 < l.cyc by omega)
  have e3 := Int.mul_ediv_add_emod (u - t) l.cyc
  have e4 : u = (t + (u - t) % l.cyc) + l.cyc * ((u - t) / l.cyc) := by omega
  rw [e4, gT_per]
  exact ha _ e1 (by omega)
theorem left_iff {l : GL} {k t w : Int} (h : chk l = 0) (ht : inR t) (hk : gateR k) (hw : w ≤ 2147483648) : w ≤ leftV l t k ↔ Op l k t w := by
  obtain ⟨s1, s2, s3, s4⟩ := stay_T (k := k) (t := t) (o := 1) h
  have ok := chk_ok h
  obtain ⟨c1, c2⟩ : _ ∧ _ := ⟨ok.c1, ok.c2⟩
  unfold leftV
  rw [if_pos ⟨h, ht, hk⟩]
  by_cases h2 : stayV l (phV l t) k 1 = 2 * l.cyc
  · rw [if_pos h2]
    rw [h2] at s3
    exact ⟨fun _ j _ _ => two_all h s3 _, fun _ => hw⟩
  · rw [if_neg h2]
    refine ⟨fun h3 j h4 h5 => s3 j h4 (by omega), fun h3 => ?_⟩
    rcases Int.lt_or_le (stayV l (phV l t) k 1) w with h4 | h4
    · exact absurd (h3 _ s1 h4) (s4 (by omega))
    · exact h4
/-- where a gate is not open for w, it is open for `leftV`, and then closed -/
theorem left_not {l : GL} {k t w : Int} (h : chk l = 0) (ht : inR t) (hk : gateR k) (hw : w ≤ 2147483648) (hn : ¬ w ≤ leftV l t k) : 0 ≤ leftV l t k ∧ leftV l t k < w ∧ leftV l t k < 2 * l.cyc ∧ (∀ j, 0 ≤ j → j < leftV l t k → gT l k (t + j) = 1) ∧ gT l k (t + leftV l t k) = 0 := by
  obtain ⟨s1, s2, s3, s4⟩ := stay_T (k := k) (t := t) (o := 1) h
  have e : leftV l t k = if stayV l (phV l t) k 1 = 2 * l.cyc then 2147483648 else stayV l (phV l t) k 1 := by unfold leftV; rw [if_pos ⟨h, ht, hk⟩]
  by_cases h2 : stayV l (phV l t) k 1 = 2 * l.cyc
  · rw [if_pos h2] at e; omega
  · rw [if_neg h2] at e
    rw [e] at hn ⊢
    have h9 := s4 (by omega)
    have := gT_01 l k (t + stayV l (phV l t) k 1)
    exact ⟨s1, by omega, by omega, s3, by omega⟩
theorem next_some {l : GL} {k t : Int} (hb : nextB l t k = true) : 0 ≤ nextV l t k ∧ nextV l t k < 2 * l.cyc ∧ (∀ j, 0 ≤ j → j < nextV l t k → gT l k (t + j) = 0) ∧ gT l k (t + nextV l t k) = 1 := by
  unfold nextB at hb
  have hb := of_decide_eq_true hb
  obtain ⟨s1, s2, s3, s4⟩ := stay_T (k := k) (t := t) (o := 0) hb.1
  have e : nextV l t k = stayV l (phV l t) k 0 := by unfold nextV; rw [if_pos hb]
  have h9 := s4 (by have := hb.2.2.2; omega)
  have := gT_01 l k (t + stayV l (phV l t) k 0)
  rw [e]
  exact ⟨s1, by have := hb.2.2.2; omega, s3, by omega⟩
theorem next_none {l : GL} {k t : Int} (h : chk l = 0) (ht : inR t) (hk : gateR k) (hb : nextB l t k = false) (u : Int) : gT l k u = 0 := by
  obtain ⟨s1, s2, s3, s4⟩ := stay_T (k := k) (t := t) (o := 0) h
  unfold nextB at hb
  have hb := of_decide_eq_false hb
  have e : stayV l (phV l t) k 0 = 2 * l.cyc := by
    rcases Int.lt_or_le (stayV l (phV l t) k 0) (2 * l.cyc) with h9 | h9
    · exact absurd ⟨h, ht, hk, by omega⟩ hb
    · omega
  rw [e] at s3
  exact two_all h s3 u
theorem next_first {l : GL} {k t u : Int} (h : chk l = 0) (ht : inR t) (hk : gateR k) (hu : t ≤ u) (h1 : gT l k u = 1) : nextB l t k = true ∧ t + nextV l t k ≤ u := by
  have hb : nextB l t k = true := by
    cases hb : nextB l t k with
    | true => rfl
    | false => have := next_none h ht hk hb u; omega
  obtain ⟨s1, s2, s3, s4⟩ := next_some hb
  refine ⟨hb, ?_⟩
  rcases Int.lt_or_le u (t + nextV l t k) with h9 | h9
  · have := s3 (u - t) (by omega) (by omega)
    rw [show t + (u - t) = u by omega] at this
    omega
  · exact h9
/-- where a gate opens a slot begins -/
theorem begins {l : GL} {k t : Int} (h : chk l = 0) (h1 : gT l k t = 1) (h0 : gT l k (t - 1) = 0) : ∃ i, i < l.len ∧ (t - (l.base + psum l.ln i)) % l.cyc = 0 := by
  have ok := chk_ok h
  have c1 := ok.c1
  have e1 := Int.emod_nonneg (t - l.base) (show l.cyc ≠ 0 by omega)
  have e2 := Int.emod_lt_of_pos (t - l.base) (show 0 < l.cyc by omega)
  have e3 := Int.mul_ediv_add_emod (t - l.base) l.cyc
  obtain ⟨s1, s2, s3, s4⟩ := ok.slot (p := (t - l.base) % l.cyc) ⟨e1, e2⟩
  refine ⟨_, s1, ?_⟩
  rcases Int.lt_or_le (psum l.ln (slotI l ((t - l.base) % l.cyc))) ((t - l.base) % l.cyc) with h9 | h9
  · exfalso
    have p0 := psum_le ok.ln (i := 0) (j := slotI l ((t - l.base) % l.cyc)) (by omega) (by omega)
    have hz : psum l.ln 0 = 0 := rfl
    have r := ok.uniq (p := (t - l.base) % l.cyc - 1) ⟨by omega, by omega⟩ s1 (by omega) (by omega)
    have e4 : gT l k (t - 1) = gT l k t := by
      unfold gT gAt
      rw [show (t - 1 - l.base) % l.cyc = (t - l.base) % l.cyc - 1 by
        rw [show t - 1 - l.base = ((t - l.base) % l.cyc - 1) + l.cyc * ((t - l.base) / l.cyc) by omega, Int.add_mul_emod_self_left, Int.emod_eq_of_lt (by omega) (by omega)], r]
    omega
  · rw [show t - (l.base + psum l.ln (slotI l ((t - l.base) % l.cyc))) = l.cyc * ((t - l.base) / l.cyc) by omega]
    exact Int.mul_emod_right _ _
/-- how many slots begin behind a, up to b -/
def bndK (l : GL) (a b : Int) : Nat → Int
  | 0 => 0
  | k + 1 => bndK l a b k + ((b - (l.base + psum l.ln k)) / l.cyc - (a - (l.base + psum l.ln k)) / l.cyc)
def bnd (l : GL) (a b : Int) : Int := bndK l a b l.len
theorem bndK_mono {l : GL} {a t b : Int} (hc : 0 < l.cyc) (h : a ≤ t) : ∀ k, bndK l t b k ≤ bndK l a b k
  | 0 => Int.le_refl _
  | k + 1 => by
    have h1 := bndK_mono (b := b) hc h k
    have h2 := Int.ediv_le_ediv hc (show a - (l.base + psum l.ln k) ≤ t - (l.base + psum l.ln k) by omega)
    simp only [bndK]; omega
theorem bndK_0 {l : GL} {a b : Int} (hc : 0 < l.cyc) (h : a ≤ b) : ∀ k, 0 ≤ bndK l a b k
  | 0 => Int.le_refl _
  | k + 1 => by
    have h1 := bndK_0 hc h k
    have h2 := Int.ediv_le_ediv hc (show a - (l.base + psum l.ln k) ≤ b - (l.base + psum l.ln k) by omega)
    simp only [bndK]; omega
theorem bndK_le {l : GL} {a b : Int} (hc : 0 < l.cyc) (h : b ≤ a + l.cyc) : ∀ k, bndK l a b k ≤ (k : Int)
  | 0 => Int.le_refl _
  | k + 1 => by
    have h1 := bndK_le hc h k
    have h2 := Int.ediv_le_ediv hc (show b - (l.base + psum l.ln k) ≤ (a - (l.base + psum l.ln k)) + l.cyc * 1 by omega)
    rw [Int.add_mul_ediv_left _ _ (by omega)] at h2
    simp only [bndK]; omega
theorem bndK_drop {l : GL} {a t b : Int} (hc : 0 < l.cyc) (h : a < t) {i : Nat} (hi : (t - (l.base + psum l.ln i)) % l.cyc = 0) : ∀ k, i < k → bndK l t b k + 1 ≤ bndK l a b k
  | k + 1, hk => by
    rcases (by omega : i < k ∨ i = k) with h1 | rfl
    · have h2 := bndK_drop (b := b) hc h hi k h1
      have h3 := Int.ediv_le_ediv hc (show a - (l.base + psum l.ln k) ≤ t - (l.base + psum l.ln k) by omega)
      simp only [bndK]; omega
    · have h2 := bndK_mono (b := b) hc (show a ≤ t by omega) i
      have h3 := Int.mul_ediv_add_emod (t - (l.base + psum l.ln i)) l.cyc
      have h4 : (a - (l.base + psum l.ln i)) / l.cyc < (t - (l.base + psum l.ln i)) / l.cyc := Int.ediv_lt_of_lt_mul hc (by rw [Int.mul_comm]; omega)
      simp only [bndK]; omega

end Go.Proofs.Ytaadejgoafdbcaa
