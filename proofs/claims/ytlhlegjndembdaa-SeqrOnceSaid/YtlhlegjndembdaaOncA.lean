/-
  Contracts of functions, and plain facts about them, that a claim of this seat uses.
-/
import Derived.Test.YtlhlegjndembdaaSx
import Derived.Test.YtlhlegjndembdaaSeqO
import Derived.Test.YtlhlegjndembdaaProg
namespace Go.Proofs.Ytlhlegjndembdaa
open Go.Sx
set_option linter.unusedVariables false
set_option linter.unusedSimpArgs false
set_option maxRecDepth 100000

/-! numbers that come on two ways, plainly: what is taken once. -/
theorem o_turn {s : Sq} {n : Int} (hr : s.reset = 1099511627776) (hw : 0 ≤ s.wen ∧ s.wen ≤ 1000) (hn : 0 ≤ n ∧ n ≤ 1000) : s.turn n = s := by
  unfold Sq.turn
  refine if_neg fun h9 => ?_
  have h0 := h9.2.1
  have h1 := h9.2.2
  rw [hr, wu64' (n := 1099511627776) (by decide) (by decide), wu64' (n := n) (by omega) (by omega), wu64' (n := s.wen) (by omega) (by omega), wu64' (by omega) (by omega)] at h1
  omega
theorem o_mid {s : Sq} {q n : Int} (hw : s.way = 0) (ht : s.turn n = s) : s.mid n q = s.vector q := by
  have hm : s.match_ q = (0, s) := by unfold Sq.match_; exact if_neg (by omega)
  unfold Sq.mid
  rw [ht, hm]
  exact if_pos hw
theorem o_ahead {f : Int} {k H : Nat} (hf : 0 ≤ f ∧ f ≤ 65535) (h1 : k ≤ H + 15) (h2 : H ≤ k + 15) : aheadM ((f + k) % 65536) ((f + H) % 65536) = (k : Int) - H := by
  have h : bits .and .i64 (IntKind.i64.wrap ((f + k) % 65536 - (f + H) % 65536)) 65535 = IntKind.i64.wrap ((f + k) % 65536 - (f + H) % 65536) % 65536 := and_mask _ 16 (by decide)
  unfold aheadM
  simp only [h]
  rw [w64' (n := (f + k) % 65536 - (f + H) % 65536) (by omega) (by omega)]
  split
  · rw [w64' (by omega) (by omega)]; omega
  · omega
def setC (C : Nat → Bool) (k : Nat) : Nat → Bool := fun j => decide (j = k) || C j
/-- all that came: the window knows those near the highest -/
structure OnI (f L : Int) (C : Nat → Bool) (s : Sq) : Prop where
  way : s.way = 0
  len : s.len = L
  reset : s.reset = 1099511627776
  wen : 0 ≤ s.wen ∧ s.wen ≤ 1000
  u : U6 s.had
  st : (s.any = true ∧ ∀ k, C k = false) ∨ (s.any = false ∧ ∃ H : Nat, C H = true ∧ (∀ k, C k = true → k ≤ H) ∧ s.last = (f + H) % 65536 ∧ ∀ j : Nat, j ≤ H → (j : Int) < L → bt s.had j = C (H - j))
theorem on_fin {f L : Int} {C : Nat → Bool} {t : Sq} {w n : Int} (hw : w = 0 ∨ w = 3) (hn : 0 ≤ n ∧ n ≤ 1000) (h1 : t.way = 0) (h2 : t.len = L) (h3 : t.reset = 1099511627776) (h4 : U6 t.had)
    (h5 : ∃ H : Nat, C H = true ∧ (∀ k, C k = true → k ≤ H) ∧ t.last = (f + H) % 65536 ∧ ∀ j : Nat, j ≤ H → (j : Int) < L → bt t.had j = C (H - j)) : OnI f L C ((t.bump w).fin w n) := by
  have e : (t.bump w).fin w n = { t.bump w with wen := n, any := false } := if_pos hw
  rw [e]
  exact ⟨h1, h2, h3, hn, h4, .inr ⟨rfl, h5⟩⟩
theorem one_u6 : U6 1 := ⟨by decide, by decide⟩
theorem give {f L : Int} {C : Nat → Bool} {s : Sq} {k : Nat} (h : OnI f L C s) (hf : 0 ≤ f ∧ f ≤ 65535) (hL : 16 ≤ L ∧ L ≤ 47) (hk : k ≤ 1000) (near : ∀ H, C H = true → (∀ j, C j = true → j ≤ H) → k ≤ H + 15 ∧ H ≤ k + 15) :
    (s.in_ k ((f + k) % 65536)).2.1 = 0 ∧ (C k = false → (s.in_ k ((f + k) % 65536)).1 = 0 ∨ (s.in_ k ((f + k) % 65536)).1 = 3) ∧ (C k = true → (s.in_ k ((f + k) % 65536)).1 = 1) ∧ OnI f L (setC C k) (s.in_ k ((f + k) % 65536)).2.2 := by
  have hq : 0 ≤ (f + (k : Int)) % 65536 ∧ (f + (k : Int)) % 65536 < 65536 := by omega
  have ht := o_turn h.reset h.wen (n := k) (by omega)
  have hm := o_mid (q := (f + k) % 65536) h.way ht
  have step : ∀ (w : Int) (t : Sq), s.vector ((f + k) % 65536) = (w, t) → s.in_ k ((f + k) % 65536) = (w, 0, (t.bump w).fin w k) := fun w t e => in_mid (by omega) (by rw [hm, e])
  rcases h.st with ⟨ha, hC⟩ | ⟨ha, H, hH, hmax, hlast, hbits⟩
  · have e : s.vector ((f + k) % 65536) = (0, { s with last := (f + k) % 65536, had := 1 }) := by unfold Sq.vector; exact if_pos ha
    rw [step _ _ e]
    refine ⟨rfl, fun _ => .inl rfl, fun hc => (by rw [hC] at hc; cases hc), on_fin (.inl rfl) (by omega) h.way h.len h.reset one_u6 ⟨k, by simp [setC], fun j hj => ?_, rfl, fun j hj _ => ?_⟩⟩
    · simp only [setC, hC, Bool.or_false, decide_eq_true_eq] at hj; omega
    · show bt 1 j = setC C k (k - j)
      simp only [setC, hC, Bool.or_false, bt_one, decide_eq_decide]; omega
  · obtain ⟨n1, n2⟩ := near H hH hmax
    have hd : aheadM ((f + k) % 65536) s.last = (k : Int) - H := by rw [hlast]; exact o_ahead hf n1 n2
    have hn : IntKind.i64.wrap (0 - s.len) = 0 - s.len := by rw [h.len]; exact w64' (by omega) (by omega)
    have h5 : ¬ (s.len ≤ (k : Int) - H ∨ (k : Int) - H ≤ 0 - s.len) := by rw [h.len]; omega
    by_cases hkH : H < k
    · have e : s.vector ((f + k) % 65536) = (0, { s with had := bits .or .u64 (outs s.len ((k : Int) - H).toNat (s.had, s.lost)).1 1, lost := (outs s.len ((k : Int) - H).toNat (s.had, s.lost)).2, last := (f + k) % 65536 }) := by
        unfold Sq.vector
        simp only [ha, hd, hn, Bool.false_eq_true, if_false, if_neg h5]
        rw [if_neg (by omega)]
      have hdn : ((k : Int) - H).toNat = k - H := by omega
      rw [step _ _ e, hdn]
      obtain ⟨o1, o2, o3, _⟩ := outs_eq (lost := s.lost) (by rw [h.len]; omega : 1 ≤ s.len ∧ s.len ≤ 64) h.u (k - H) (by rw [h.len]; omega)
      have hCk : C k = false := by
        cases hc : C k with
        | false => rfl
        | true => have := hmax k hc; omega
      refine ⟨rfl, fun _ => .inl rfl, fun hc => (by rw [hCk] at hc; cases hc), on_fin (.inl rfl) (by omega) h.way h.len h.reset (or_nat o1 one_u6).2 ⟨k, by simp [setC], fun j hj => ?_, rfl, fun j hj hjL => ?_⟩⟩
      · simp only [setC, Bool.or_eq_true, decide_eq_true_eq] at hj
        rcases hj with hj | hj
        · omega
        · have := hmax j hj; omega
      · show bt (bits .or .u64 (outs s.len (k - H) (s.had, s.lost)).1 1) j = setC C k (k - j)
        rw [bt_or o1 one_u6, bt_one]
        by_cases hj0 : j = 0
        · subst hj0; simp [setC]
        · rw [decide_eq_false hj0, Bool.or_false]
          have hkj : ¬ k - j = k := by omega
          simp only [setC, decide_eq_false hkj, Bool.false_or]
          by_cases hjd : j < k - H
          · rw [o3 j hjd]
            cases hc : C (k - j) with
            | false => rfl
            | true => have := hmax _ hc; omega
          · have e1 : j = (j - (k - H)) + (k - H) := by omega
            rw [e1, o2 (j - (k - H)) (by omega), hbits _ (by omega) (by omega)]
            congr 1
            omega
    · have hm64 : H - k < 64 := by omega
      have e1 : IntKind.i64.wrap (0 - ((k : Int) - H)) = ((H - k : Nat) : Int) := by rw [w64' (by omega) (by omega)]; omega
      have hp := pow_u6 hm64
      have e2 : IntKind.u64.wrap (1 * 2 ^ min (IntKind.i64.wrap (0 - ((k : Int) - H))).toNat IntKind.u64.bits) = 2 ^ (H - k) := by
        rw [e1, Int.toNat_natCast, show min (H - k) IntKind.u64.bits = H - k from Nat.min_eq_left (Nat.le_of_lt hm64), Int.one_mul]
        exact wu64' hp.1.1 hp.1.2
      have hb := hbits (H - k) (by omega) (by omega)
      rw [show H - (H - k) = k by omega] at hb
      have d0 : (k : Int) - H ≤ 0 := by omega
      by_cases hz : bits .and .u64 s.had (2 ^ (H - k)) = 0
      · have e : s.vector ((f + k) % 65536) = (3, { s with had := bits .or .u64 s.had (2 ^ (H - k)) }) := by
          unfold Sq.vector
          simp only [ha, hd, hn, e2, Bool.false_eq_true, if_false, if_neg h5, if_pos d0, if_pos hz]
        have hC0 : C k = false := by rw [← hb]; exact (and_pow h.u hm64).1 hz
        rw [step _ _ e]
        refine ⟨rfl, fun _ => .inr rfl, fun hc => (by rw [hC0] at hc; cases hc), on_fin (.inr rfl) (by omega) h.way h.len h.reset (or_nat h.u hp.1).2 ⟨H, by simp [setC, hH], fun j hj => ?_, hlast, fun j hj hjL => ?_⟩⟩
        · simp only [setC, Bool.or_eq_true, decide_eq_true_eq] at hj
          rcases hj with hj | hj
          · omega
          · exact hmax j hj
        · show bt (bits .or .u64 s.had (2 ^ (H - k))) j = setC C k (H - j)
          rw [bt_or h.u hp.1, bt_pow hm64, hbits j hj hjL, Bool.or_comm]
          simp only [setC]
          congr 1
          rw [decide_eq_decide]; omega
      · have e : s.vector ((f + k) % 65536) = (1, s) := by
          unfold Sq.vector
          simp only [ha, hd, hn, e2, Bool.false_eq_true, if_false, if_neg h5, if_pos d0, if_neg hz]
        have hC1 : C k = true := by
          rw [← hb]
          cases hc : bt s.had (H - k) with
          | true => rfl
          | false => exact absurd ((and_pow h.u hm64).2 hc) hz
        rw [step _ _ e]
        have es : setC C k = C := by
          funext j
          simp only [setC]
          by_cases hj : j = k
          · subst hj; rw [hC1]; simp
          · rw [decide_eq_false hj, Bool.false_or]
        have e3 : (s.bump 1).fin 1 k = s.bump 1 := if_neg (by decide)
        refine ⟨rfl, fun hc => (by rw [hC1] at hc; cases hc), fun _ => rfl, ?_⟩
        rw [es]
        show OnI f L C ((s.bump 1).fin 1 k)
        rw [e3]
        exact ⟨h.way, h.len, h.reset, h.wen, h.u, .inr ⟨ha, H, hH, hmax, hlast, hbits⟩⟩

end Go.Proofs.Ytlhlegjndembdaa
