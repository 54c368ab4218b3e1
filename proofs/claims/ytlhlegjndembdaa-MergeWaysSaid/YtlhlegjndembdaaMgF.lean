/-
  Contracts of functions, and plain facts about them, that a claim of this seat uses.
-/
import Derived.Test.YtlhlegjndembdaaSx
import Derived.Test.YtlhlegjndembdaaMgB
import Derived.Test.YtlhlegjndembdaaProg
namespace Go.Proofs.Ytlhlegjndembdaa
open Go.Sx
set_option linter.unusedVariables false
set_option linter.unusedSimpArgs false
set_option maxRecDepth 100000

/-! merge, plainly: how what was counted grows; the ways the other way round. -/
def kk (s : Sq) : Int × Int × Int × Int := (s.k0, s.k1, s.k2, s.k3)
theorem kk_turn (s : Sq) (n : Int) : kk (s.turn n) = kk s := by
  unfold Sq.turn Sq.anew; split <;> rfl
theorem kk_match (s : Sq) (q : Int) : kk (s.match_ q).2 = kk s := by
  unfold Sq.match_
  split
  · split <;> rfl
  · rfl
theorem kk_vec (s : Sq) (q : Int) : kk (s.vector q).2 = kk s := by
  unfold Sq.vector
  dsimp only
  split
  · rfl
  · split
    · rfl
    · split
      · split <;> rfl
      · rfl
theorem kk_mid (s : Sq) (n q : Int) : kk (s.mid n q).2 = kk s := by
  unfold Sq.mid
  split
  · rw [kk_vec, kk_match, kk_turn]
  · rw [kk_match, kk_turn]
/-- what becomes of what was counted -/
structure Cnt (s : Sq) (r : Int × Int × Sq) : Prop where
  er : r.2.1 = 0
  rg : 0 ≤ r.1 ∧ r.1 < 4
  k0 : r.2.2.k0 = if r.1 = 0 then IntKind.i64.wrap (s.k0 + 1) else s.k0
  k1 : r.2.2.k1 = if r.1 = 1 then IntKind.i64.wrap (s.k1 + 1) else s.k1
  k2 : r.2.2.k2 = if r.1 = 2 then IntKind.i64.wrap (s.k2 + 1) else s.k2
  k3 : r.2.2.k3 = if r.1 = 3 then IntKind.i64.wrap (s.k3 + 1) else s.k3
def LenOK (s : Sq) : Prop := 1 ≤ s.len ∧ s.len ≤ 9223372036854775807
theorem in_cnt {s : Sq} {n q : Int} (hl : LenOK s) (hq : ¬ (q < 0 ∨ 65536 ≤ q)) : Cnt s (s.in_ n q) := by
  have e := in_mid (s := s) (n := n) (q := q) (w := (s.mid n q).1) (t := (s.mid n q).2) hq rfl
  have mo := mid_ok s n q hl
  have hk := kk_mid s n q
  have hr : 0 ≤ (s.mid n q).1 ∧ (s.mid n q).1 < 4 := by
    unfold Sq.mid
    split
    · exact mo.2.2
    · exact mo.2.1
  simp only [kk, Prod.mk.injEq] at hk
  obtain ⟨g0, g1, g2, g3⟩ := hk
  rw [e]
  have f : ∀ (u : Sq) (w : Int), ((u.bump w).fin w n).k0 = (if w = 0 then IntKind.i64.wrap (u.k0 + 1) else u.k0) ∧ ((u.bump w).fin w n).k1 = (if w = 1 then IntKind.i64.wrap (u.k1 + 1) else u.k1) ∧ ((u.bump w).fin w n).k2 = (if w = 2 then IntKind.i64.wrap (u.k2 + 1) else u.k2) ∧ ((u.bump w).fin w n).k3 = (if w = 3 then IntKind.i64.wrap (u.k3 + 1) else u.k3) := fun u w => by
    unfold Sq.fin Sq.bump
    dsimp only
    split <;> exact ⟨rfl, rfl, rfl, rfl⟩
  obtain ⟨f0, f1, f2, f3⟩ := f (s.mid n q).2 (s.mid n q).1
  exact ⟨rfl, hr, by rw [f0, g0], by rw [f1, g1], by rw [f2, g2], by rw [f3, g3]⟩
theorem in_len' {s : Sq} {n q : Int} (h : LenOK s) : LenOK (s.in_ n q).2.2 := by
  unfold LenOK; rw [(in_len s n q).1]; exact h
def ps (s : Sq) : Int := s.k0 + s.k3
def sumP (f : Nat → Sq) : Nat → Int
  | 0 => 0
  | n + 1 => sumP f n + ps (f n)
theorem sumP_same {f g : Nat → Sq} : ∀ n, (∀ k, k < n → ps (f k) = ps (g k)) → sumP f n = sumP g n
  | 0, _ => rfl
  | n + 1, h => by
    show sumP f n + ps (f n) = sumP g n + ps (g n)
    rw [sumP_same n fun k hk => h k (by omega), h n (by omega)]
theorem sumP_upd (f : Nat → Sq) (k : Nat) (s : Sq) : ∀ n, k < n → sumP (upd f k s) n = sumP f n + ps s - ps (f k)
  | 0, h => absurd h (Nat.not_lt_zero _)
  | n + 1, h => by
    show sumP (upd f k s) n + ps (upd f k s n) = sumP f n + ps (f n) + ps s - ps (f k)
    by_cases e : k = n
    · subst e
      rw [sumP_same (g := f) k (fun j hj => by unfold upd; rw [if_neg (by omega)]), show upd f k s k = s from if_pos rfl]
      omega
    · rw [sumP_upd f k s n (by omega), show upd f k s n = f n from if_neg (by omega)]
      omega
def KB (s : Sq) (i : Nat) : Prop := (0 ≤ s.k0 ∧ s.k0 ≤ i) ∧ (0 ≤ s.k1 ∧ s.k1 ≤ i) ∧ (0 ≤ s.k2 ∧ s.k2 ≤ i) ∧ (0 ≤ s.k3 ∧ s.k3 ≤ i)
structure Ad (t : Mg) (i : Nat) (tk : Int) : Prop where
  len : ∀ k, k < t.w → LenOK (t.ones k)
  alen : LenOK t.all
  one : ∀ k, k < t.w → KB (t.ones k) i
  all : KB t.all i
  sum : t.all.k0 + t.all.k1 + t.all.k2 + t.all.k3 = sumP t.ones t.w
  tk : t.all.k0 + t.all.k3 = tk
theorem kb_up {s : Sq} {i : Nat} (h : KB s i) : KB s (i + 1) := by unfold KB at h ⊢; omega
theorem kb_in {s : Sq} {i : Nat} {r : Int × Int × Sq} (h : KB s i) (hi : i ≤ 1000) (c : Cnt s r) : KB r.2.2 (i + 1) ∧ ps r.2.2 = ps s + (if r.1 = 0 ∨ r.1 = 3 then 1 else 0) ∧ r.2.2.k0 + r.2.2.k1 + r.2.2.k2 + r.2.2.k3 = s.k0 + s.k1 + s.k2 + s.k3 + 1 := by
  obtain ⟨_, h0, h1, h2, h3, h4⟩ := c
  unfold KB at h
  rw [w64' (n := s.k0 + 1) (by omega) (by omega)] at h1
  rw [w64' (n := s.k1 + 1) (by omega) (by omega)] at h2
  rw [w64' (n := s.k2 + 1) (by omega) (by omega)] at h3
  rw [w64' (n := s.k3 + 1) (by omega) (by omega)] at h4
  unfold KB ps
  rcases (by omega : r.1 = 0 ∨ r.1 = 1 ∨ r.1 = 2 ∨ r.1 = 3) with e | e | e | e <;> rw [e] at h1 h2 h3 h4 ⊢ <;> simp at h1 h2 h3 h4 ⊢ <;> omega
def tk_ (b : Bool) (tk : Int) : Int := if b then tk + 1 else tk
theorem ad_t1 {t : Mg} {i : Nat} {tk n y q : Int} (h : Ad t i tk) (hi : i ≤ 1000) (hy : ¬ (y < 0 ∨ (t.w : Int) ≤ y)) (hq : ¬ (q < 0 ∨ 65536 ≤ q)) :
    (∀ k, k < t.w → LenOK ((mgT1 t n y q).ones k)) ∧ (∀ k, k < t.w → KB ((mgT1 t n y q).ones k) (i + 1)) ∧ sumP (mgT1 t n y q).ones t.w = sumP t.ones t.w + (if (mgOne t n y q).1 = 0 ∨ (mgOne t n y q).1 = 3 then 1 else 0) ∧ Cnt (t.ones y.toNat) (mgOne t n y q) := by
  have hk : y.toNat < t.w := by omega
  have c := in_cnt (n := n) (h.len _ hk) hq
  have b := kb_in (h.one _ hk) hi c
  refine ⟨fun k hk2 => ?_, fun k hk2 => ?_, ?_, c⟩
  · show LenOK (upd t.ones y.toNat (mgOne t n y q).2.2 k)
    unfold upd; split
    · exact in_len' (h.len _ hk)
    · exact h.len k hk2
  · show KB (upd t.ones y.toNat (mgOne t n y q).2.2 k) (i + 1)
    unfold upd; split
    · exact b.1
    · exact kb_up (h.one k hk2)
  · show sumP (upd t.ones y.toNat (mgOne t n y q).2.2) t.w = _
    rw [sumP_upd _ _ _ _ hk, show ps (mgOne t n y q).2.2 = _ from b.2.1]
    show _ + (ps (t.ones y.toNat) + (if (mgOne t n y q).1 = 0 ∨ (mgOne t n y q).1 = 3 then (1 : Int) else 0)) - _ = _
    omega
theorem ad_step {t : Mg} {i : Nat} {tk n y q : Int} (h : Ad t i tk) (hi : i ≤ 1000) : Ad (mgIn t n y q).2.2 (i + 1) (tk_ (mgIn t n y q).1 tk) := by
  have keep : Ad t (i + 1) tk := ⟨h.len, h.alen, fun k hk => kb_up (h.one k hk), kb_up h.all, h.sum, h.tk⟩
  by_cases hy : y < 0 ∨ (t.w : Int) ≤ y
  · rw [mi_40 hy]; exact keep
  by_cases hq : q < 0 ∨ 65536 ≤ q
  · have e1 : mgOne t n y q = (2, 1, t.ones y.toNat) := in_bad hq
    have e2 : mgT1 t n y q = t := by
      unfold mgT1
      rw [e1]
      have : upd t.ones y.toNat (t.ones y.toNat) = t.ones := by funext j; unfold upd; split <;> simp_all
      show { t with ones := upd t.ones y.toNat (t.ones y.toNat) } = t
      rw [this]
    rw [mi_e hy (by rw [e1]; show ¬ (1 : Int) = 0; decide), e2]; exact keep
  obtain ⟨g1, g2, g3, c⟩ := ad_t1 (n := n) h hi hy hq
  have one : (mgOne t n y q).1 = 1 ∨ (mgOne t n y q).1 = 2 → Ad (mgT1 t n y q) (i + 1) tk := fun h9 => by
    rw [if_neg (by omega)] at g3
    exact ⟨g1, h.alen, g2, kb_up h.all, by rw [show (mgT1 t n y q).w = t.w from rfl, g3]; have := h.sum; show t.all.k0 + t.all.k1 + t.all.k2 + t.all.k3 = _; omega, h.tk⟩
  have c2 := in_cnt (n := n) h.alen hq
  have b2 := kb_in h.all hi c2
  have two : ¬ ((mgOne t n y q).1 = 1 ∨ (mgOne t n y q).1 = 2) → Ad (mgT2 t n y q) (i + 1) (tk + if (mgAll t n q).1 = 0 ∨ (mgAll t n q).1 = 3 then 1 else 0) := fun h9 => by
    have hr := c.rg
    rw [if_pos (by omega)] at g3
    refine ⟨g1, in_len' h.alen, g2, b2.1, ?_, ?_⟩
    · rw [show (mgT2 t n y q).w = t.w from rfl, show (mgT2 t n y q).ones = (mgT1 t n y q).ones from rfl, g3, ← h.sum]
      exact b2.2.2
    · show ps (t.all.in_ n q).2.2 = _
      rw [b2.2.1, ← h.tk]; rfl
  by_cases h3 : (mgOne t n y q).1 = 1 ∨ (mgOne t n y q).1 = 2
  · rw [mi_no hy c.er h3]; exact one h3
  have t2 := two h3
  by_cases h4 : (mgAll t n q).1 = 0 ∨ (mgAll t n q).1 = 3
  · rw [mi_yes hy c.er h3 h4]
    rw [if_pos h4] at t2
    exact ⟨t2.len, t2.alen, t2.one, t2.all, t2.sum, t2.tk⟩
  rw [if_neg h4, Int.add_zero] at t2
  by_cases h5 : (mgAll t n q).1 = 1
  · rw [mi_ag hy c.er h3 h4 h5]
    exact ⟨t2.len, t2.alen, t2.one, t2.all, t2.sum, t2.tk⟩
  · rw [mi_ro hy c.er h3 h4 h5]
    exact t2
/-! the ways the other way round -/
structure Wy (a b : Mg) : Prop where
  w : b.w = a.w
  all : b.all = a.all
  one : ∀ k, k < a.w → b.ones (a.w - 1 - k) = a.ones k
theorem wy_step {a b : Mg} {n y y' q : Int} (h : Wy a b) (hy : ¬ (y < 0 ∨ (a.w : Int) ≤ y)) (hy' : y' = (a.w : Int) - 1 - y) :
    (mgIn b n y' q).1 = (mgIn a n y q).1 ∧ (mgIn b n y' q).2.1 = (mgIn a n y q).2.1 ∧ Wy (mgIn a n y q).2.2 (mgIn b n y' q).2.2 := by
  have hw := h.w
  have hk : y.toNat < a.w := by omega
  have hk' : y'.toNat = a.w - 1 - y.toNat := by omega
  have hyb : ¬ (y' < 0 ∨ (b.w : Int) ≤ y') := by omega
  have e1 : mgOne b n y' q = mgOne a n y q := by unfold mgOne; rw [hk', h.one _ hk]
  have e2 : mgAll b n q = mgAll a n q := by unfold mgAll; rw [h.all]
  have w1 : Wy (mgT1 a n y q) (mgT1 b n y' q) := by
    refine ⟨h.w, h.all, fun k hk2 => ?_⟩
    have hk2 : k < a.w := hk2
    show upd b.ones y'.toNat (mgOne b n y' q).2.2 (a.w - 1 - k) = upd a.ones y.toNat (mgOne a n y q).2.2 k
    rw [e1, hk']
    unfold upd
    by_cases hh : k = y.toNat
    · rw [if_pos (by omega), if_pos hh]
    · rw [if_neg (by omega), if_neg hh]; exact h.one k hk2
  have w2 : Wy (mgT2 a n y q) (mgT2 b n y' q) := ⟨w1.w, by show (mgAll b n q).2.2 = (mgAll a n q).2.2; rw [e2], w1.one⟩
  by_cases h2 : (mgOne a n y q).2.1 = 0
  · by_cases h3 : (mgOne a n y q).1 = 1 ∨ (mgOne a n y q).1 = 2
    · rw [mi_no hy h2 h3, mi_no hyb (e1 ▸ h2) (e1 ▸ h3)]; exact ⟨rfl, rfl, w1⟩
    · by_cases h4 : (mgAll a n q).1 = 0 ∨ (mgAll a n q).1 = 3
      · rw [mi_yes hy h2 h3 h4, mi_yes hyb (e1 ▸ h2) (e1 ▸ h3) (e2 ▸ h4)]; exact ⟨rfl, rfl, ⟨w2.w, w2.all, w2.one⟩⟩
      · by_cases h5 : (mgAll a n q).1 = 1
        · rw [mi_ag hy h2 h3 h4 h5, mi_ag hyb (e1 ▸ h2) (e1 ▸ h3) (e2 ▸ h4) (e2 ▸ h5)]; exact ⟨rfl, rfl, ⟨w2.w, w2.all, w2.one⟩⟩
        · rw [mi_ro hy h2 h3 h4 h5, mi_ro hyb (e1 ▸ h2) (e1 ▸ h3) (e2 ▸ h4) (e2 ▸ h5)]; exact ⟨rfl, rfl, w2⟩
  · rw [mi_e hy h2, mi_e hyb (e1 ▸ h2)]
    exact ⟨rfl, by show (mgOne b n y' q).2.1 = (mgOne a n y q).2.1; rw [e1], w1⟩

end Go.Proofs.Ytlhlegjndembdaa
