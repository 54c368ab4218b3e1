/-
  Contracts of functions, and plain facts about them, that a claim of this seat uses.
-/
import Derived.Test.YtlhlegjndembdaaSx
import Derived.Test.YtlhlegjndembdaaMgC
import Derived.Test.YtlhlegjndembdaaMgD
import Derived.Test.YtlhlegjndembdaaMgF
import Derived.Test.YtlhlegjndembdaaProg
namespace Go.Proofs.Ytlhlegjndembdaa
open Go.Sx
set_option linter.unusedVariables false
set_option linter.unusedSimpArgs false
set_option maxRecDepth 100000

/-! merge, plainly: numbers that come in order on two ways. -/
theorem and1_ne {x : Int} (h : bits .and .u64 x 1 = 1) : bits .and .u64 x 1 ≠ 0 := by omega
theorem or_and1 (x : Int) : bits .and .u64 (bits .or .u64 x 1) 1 = 1 := by
  have h1 : BitVec.ofInt 64 (bits .or .u64 x 1) = BitVec.ofInt 64 x ||| BitVec.ofInt 64 1 := by
    show BitVec.ofInt 64 (IntKind.u64.wrap ((BitVec.ofInt 64 x ||| BitVec.ofInt 64 1).toNat : Int)) = _
    rw [wu64' (by omega) (by have := (BitVec.ofInt 64 x ||| BitVec.ofInt 64 1).isLt; omega), BitVec.ofInt_natCast, BitVec.ofNat_toNat]
    simp
  have h2 : (BitVec.ofInt 64 x ||| BitVec.ofInt 64 1) &&& BitVec.ofInt 64 1 = BitVec.ofInt 64 1 := by
    apply BitVec.eq_of_getLsbD_eq
    intro i hi
    rw [BitVec.getLsbD_and, BitVec.getLsbD_or]
    cases (BitVec.ofInt 64 x).getLsbD i <;> cases (BitVec.ofInt 64 1).getLsbD i <;> rfl
  show IntKind.u64.wrap ((BitVec.ofInt 64 (bits .or .u64 x 1) &&& BitVec.ofInt 64 1).toNat : Int) = 1
  rw [h1, h2]
  decide
theorem ahead_self' {q : Int} : aheadM q q = 0 := by
  unfold aheadM
  rw [Int.sub_self]
  decide
/-- number q comes next, at n or behind -/
structure S1 (s : Sq) (q n : Int) : Prop where
  way : s.way = 0
  len : s.len = 16
  reset : s.reset = 1099511627776
  wen : 0 ≤ s.wen ∧ s.wen ≤ n
  st : s.any = true ∨ (s.any = false ∧ s.last = q - 1 ∧ 0 < q)
/-- number q was the last -/
structure S2 (s : Sq) (q n : Int) : Prop where
  way : s.way = 0
  len : s.len = 16
  reset : s.reset = 1099511627776
  wen : 0 ≤ s.wen ∧ s.wen ≤ n
  any : s.any = false
  last : s.last = q
  had : bits .and .u64 s.had 1 = 1
theorem s2_1 {s : Sq} {q n n' : Int} (h : S2 s q n) (hq : 0 ≤ q) (hn : n ≤ n') : S1 s (q + 1) n' := ⟨h.way, h.len, h.reset, ⟨h.wen.1, by have := h.wen.2; omega⟩, .inr ⟨h.any, by rw [h.last]; omega, by omega⟩⟩
theorem s1_up {s : Sq} {q n n' : Int} (h : S1 s q n) (hn : n ≤ n') : S1 s q n' := ⟨h.way, h.len, h.reset, ⟨h.wen.1, by have := h.wen.2; omega⟩, h.st⟩
theorem no_turn {s : Sq} {n : Int} (hr : s.reset = 1099511627776) (hw : 0 ≤ s.wen ∧ s.wen ≤ n) (hn : n ≤ 1000) : s.turn n = s := by
  unfold Sq.turn
  refine if_neg fun h9 => ?_
  have h1 := h9.2.2
  rw [hr, wu64' (n := 1099511627776) (by decide) (by decide), wu64' (n := n) (by omega) (by omega), wu64' (n := s.wen) (by omega) (by omega), wu64' (by omega) (by omega)] at h1
  omega
theorem match_0 {s : Sq} {q : Int} (h : s.way = 0) : s.match_ q = (0, s) := by unfold Sq.match_; exact if_neg (by omega)
theorem mid_v {s : Sq} {q n : Int} (hw : s.way = 0) (ht : s.turn n = s) : s.mid n q = s.vector q := by
  unfold Sq.mid
  rw [ht, match_0 hw]
  exact if_pos hw
theorem ahead_1 {q : Int} : aheadM q (q - 1) = 1 := by
  unfold aheadM
  rw [show q - (q - 1) = 1 by omega]
  decide
theorem fin_s2 {t : Sq} {w q n : Int} (hw : w = 0) (h1 : t.way = 0) (h2 : t.len = 16) (h3 : t.reset = 1099511627776) (h4 : t.last = q) (h5 : bits .and .u64 t.had 1 = 1) (hn : 0 ≤ n) : S2 ((t.bump w).fin w n) q n := by
  subst hw
  have e : (t.bump 0).fin 0 n = { t.bump 0 with wen := n, any := false } := if_pos (.inl rfl)
  rw [e]
  exact ⟨h1, h2, h3, ⟨hn, Int.le_refl _⟩, rfl, h4, h5⟩
theorem sq_new {s : Sq} {q n : Int} (h : S1 s q n) (hq : 0 ≤ q ∧ q < 65536) (hn : 0 ≤ n ∧ n ≤ 1000) : (s.in_ n q).1 = 0 ∧ (s.in_ n q).2.1 = 0 ∧ S2 (s.in_ n q).2.2 q n := by
  have ht := no_turn h.reset h.wen hn.2
  have hm := mid_v (q := q) h.way ht
  have hv : (s.vector q).1 = 0 ∧ (s.vector q).2.way = 0 ∧ (s.vector q).2.len = 16 ∧ (s.vector q).2.reset = 1099511627776 ∧ (s.vector q).2.last = q ∧ bits .and .u64 (s.vector q).2.had 1 = 1 := by
    rcases h.st with ha | ⟨ha, hl, h0⟩
    · have e : s.vector q = (0, { s with last := q, had := 1 }) := by unfold Sq.vector; exact if_pos ha
      rw [e]
      exact ⟨rfl, h.way, h.len, h.reset, rfl, by show bits .and .u64 1 1 = 1; decide⟩
    · have hd : aheadM q s.last = 1 := by rw [hl]; exact ahead_1
      have e : s.vector q = (0, { s with had := bits .or .u64 (outs s.len (1 : Int).toNat (s.had, s.lost)).1 1, lost := (outs s.len (1 : Int).toNat (s.had, s.lost)).2, last := q }) := by
        have hw16 : IntKind.i64.wrap (0 - 16) = -16 := by decide
        unfold Sq.vector
        simp only [ha, hd, h.len, hw16, Bool.false_eq_true, if_false]
        rw [if_neg (by omega), if_neg (by omega)]
      rw [e]
      exact ⟨rfl, h.way, h.len, h.reset, rfl, or_and1 _⟩
  have e := in_mid (s := s) (n := n) (q := q) (w := (s.vector q).1) (t := (s.vector q).2) (by omega) (by rw [hm])
  rw [e]
  exact ⟨hv.1, rfl, fin_s2 hv.1 hv.2.1 hv.2.2.1 hv.2.2.2.1 hv.2.2.2.2.1 hv.2.2.2.2.2 hn.1⟩
theorem sq_again {s : Sq} {q n : Int} (h : S2 s q n) (hq : 0 ≤ q ∧ q < 65536) (hn : n ≤ 1000) : (s.in_ n q).1 = 1 ∧ (s.in_ n q).2.1 = 0 ∧ S2 (s.in_ n q).2.2 q n := by
  have ht := no_turn h.reset h.wen hn
  have hm := mid_v (q := q) h.way ht
  have e : s.vector q = (1, s) := by
    have hw16 : IntKind.i64.wrap (0 - 16) = -16 := by decide
    have hb : IntKind.u64.wrap (1 * 2 ^ min (IntKind.i64.wrap (0 - 0)).toNat IntKind.u64.bits) = 1 := by decide
    unfold Sq.vector
    simp only [h.any, h.last, ahead_self', h.len, hw16, Bool.false_eq_true, if_false]
    rw [if_neg (by omega), if_pos (Int.le_refl _), hb, if_neg (and1_ne h.had)]
  have e2 := in_mid (s := s) (n := n) (q := q) (w := 1) (t := s) (by omega) (by rw [hm, e])
  rw [e2]
  have e3 : (s.bump 1).fin 1 n = s.bump 1 := if_neg (by decide)
  rw [e3]
  exact ⟨rfl, rfl, ⟨h.way, h.len, h.reset, h.wen, h.any, h.last, h.had⟩⟩
/-! the rounds -/
structure Sl (li : Int) (t : Mg) (p a nx : Int) : Prop where
  w : t.w = 2
  ev : t.every = 10
  li : t.limit = li
  ne : t.next = nx
  pa : t.passed = p
  ag : t.again = a
  si : t.silent = 0
theorem sl_take {li : Int} {t : Mg} {p a nx n q : Int} {y : Nat} (h : Sl li t p a nx) (hy : y < 2) (hq : 0 ≤ q ∧ q < 65536) (hn : 0 ≤ n ∧ n ≤ 1000) (hp : 0 ≤ p ∧ p ≤ 1000) (h1 : S1 (t.ones y) q n) (h2 : S1 t.all q n) :
    (mgIn t n y q).2.1 = 0 ∧ Sl li (mgIn t n y q).2.2 (p + 1) a nx ∧ S2 ((mgIn t n y q).2.2.ones y) q n ∧ S2 (mgIn t n y q).2.2.all q n ∧ ∀ k, k ≠ y → (mgIn t n y q).2.2.ones k = t.ones k := by
  have r1 := sq_new h1 hq hn
  have r2 := sq_new h2 hq hn
  have hw := h.w
  have e : mgIn t n y q = _ := mi_yes (by omega) r1.2.1 (by show ¬ (((t.ones y).in_ n q).1 = 1 ∨ ((t.ones y).in_ n q).1 = 2); rw [r1.1]; decide) (.inl r2.1)
  rw [e]
  refine ⟨rfl, ⟨h.w, h.ev, h.li, h.ne, ?_, h.ag, h.si⟩, ?_, r2.2.2, fun k hk => ?_⟩
  · show IntKind.i64.wrap (t.passed + 1) = p + 1
    rw [h.pa, w64' (by omega) (by omega)]
  · show S2 (upd t.ones (y : Int).toNat ((t.ones y).in_ n q).2.2 y) q n
    rw [show upd t.ones (y : Int).toNat ((t.ones y).in_ n q).2.2 y = ((t.ones y).in_ n q).2.2 from if_pos rfl]
    exact r1.2.2
  · exact if_neg (by omega)
theorem sl_twice {li : Int} {t : Mg} {p a nx n q : Int} {y : Nat} (h : Sl li t p a nx) (hy : y < 2) (hq : 0 ≤ q ∧ q < 65536) (hn : 0 ≤ n ∧ n ≤ 1000) (hp : 0 ≤ a ∧ a ≤ 1000) (h1 : S1 (t.ones y) q n) (h2 : S2 t.all q n) :
    (mgIn t n y q).2.1 = 0 ∧ Sl li (mgIn t n y q).2.2 p (a + 1) nx ∧ S2 ((mgIn t n y q).2.2.ones y) q n ∧ S2 (mgIn t n y q).2.2.all q n ∧ ∀ k, k ≠ y → (mgIn t n y q).2.2.ones k = t.ones k := by
  have r1 := sq_new h1 hq hn
  have r2 := sq_again h2 hq hn.2
  have hw := h.w
  have e : mgIn t n y q = _ := mi_ag (by omega) r1.2.1 (by show ¬ (((t.ones y).in_ n q).1 = 1 ∨ ((t.ones y).in_ n q).1 = 2); rw [r1.1]; decide) (by show ¬ ((t.all.in_ n q).1 = 0 ∨ (t.all.in_ n q).1 = 3); rw [r2.1]; decide) r2.1
  rw [e]
  refine ⟨rfl, ⟨h.w, h.ev, h.li, h.ne, h.pa, ?_, h.si⟩, ?_, r2.2.2, fun k hk => ?_⟩
  · show IntKind.i64.wrap (t.again + 1) = a + 1
    rw [h.ag, w64' (by omega) (by omega)]
  · show S2 (upd t.ones (y : Int).toNat ((t.ones y).in_ n q).2.2 y) q n
    rw [show upd t.ones (y : Int).toNat ((t.ones y).in_ n q).2.2 y = ((t.ones y).in_ n q).2.2 from if_pos rfl]
    exact r1.2.2
  · exact if_neg (by omega)
def stA (li : Int) : Nat → Mg
  | 0 => mg0 ⟨2, 0, 16, 1099511627776, 0, 16, 1099511627776, 10, li⟩ 0
  | i + 1 => (mgIn (mgIn (stA li i) i 0 i).2.2 i 1 i).2.2
def stB (li : Int) (n : Nat) : Nat → Mg
  | 0 => (lkIn (stA li n) 100).2
  | j + 1 => (mgIn (stB li n j) (200 + j) 1 (n + j)).2.2
structure PA (li : Int) (t : Mg) (i : Nat) : Prop where
  s : Sl li t i i 10
  h0 : S1 (t.ones 0) i i
  h1 : S1 (t.ones 1) i i
  a : S1 t.all i i
theorem pa_half {li : Int} {t : Mg} {i : Nat} (h : PA li t i) (hi : i ≤ 100) : (mgIn t i 0 i).2.1 = 0 ∧ (mgIn (mgIn t i 0 i).2.2 i 1 i).2.1 = 0 ∧ PA li (mgIn (mgIn t i 0 i).2.2 i 1 i).2.2 (i + 1) := by
  obtain ⟨a1, a2, a3, a4, a5⟩ := sl_take (y := 0) (n := i) (q := i) h.s (by decide) (by omega) (by omega) (by omega) h.h0 h.a
  have e1 := a5 1 (by decide)
  obtain ⟨b1, b2, b3, b4, b5⟩ := sl_twice (y := 1) (n := i) (q := i) a2 (by decide) (by omega) (by omega) (by omega) (by rw [e1]; exact h.h1) a4
  have e2 := b5 0 (by decide)
  refine ⟨a1, b1, ⟨?_, ?_, s2_1 b3 (by omega) (by omega), s2_1 b4 (by omega) (by omega)⟩⟩
  · have := b2
    rw [show ((i : Int) + 1) = ((i + 1 : Nat) : Int) by omega] at this
    exact this
  · show S1 ((mgIn (mgIn t i 0 i).2.2 i 1 i).2.2.ones 0) _ _
    have := s2_1 a3 (n' := ((i + 1 : Nat) : Int)) (by omega) (by omega)
    rw [show ((i + 1 : Nat) : Int) = (i : Int) + 1 by omega]
    rw [show ((i + 1 : Nat) : Int) = (i : Int) + 1 by omega] at this
    exact e2 ▸ this
theorem pa_all {li : Int} : ∀ i : Nat, i ≤ 64 → PA li (stA li i) i
  | 0, _ => ⟨⟨rfl, rfl, rfl, by show IntKind.i64.wrap (0 + 10) = 10; decide, rfl, rfl, rfl⟩, ⟨rfl, rfl, rfl, by show (0 : Int) ≤ 0 ∧ (0 : Int) ≤ ((0 : Nat) : Int); decide, .inl rfl⟩, ⟨rfl, rfl, rfl, by show (0 : Int) ≤ 0 ∧ (0 : Int) ≤ ((0 : Nat) : Int); decide, .inl rfl⟩, ⟨rfl, rfl, rfl, by show (0 : Int) ≤ 0 ∧ (0 : Int) ≤ ((0 : Nat) : Int); decide, .inl rfl⟩⟩
  | i + 1, h => (pa_half (pa_all i (by omega)) (by omega)).2.2
structure PB (li : Int) (t : Mg) (n j : Nat) : Prop where
  s : Sl li t j 0 110
  h1 : S1 (t.ones 1) (n + j) (200 + j)
  a : S1 t.all (n + j) (200 + j)
theorem pb_0 {li : Int} {n : Nat} (hn : n ≤ 63) (hl : 0 ≤ li ∧ li ≤ 15) : (lkIn (stA li n) 100).1 = false ∧ PB li (stB li n 0) n 0 := by
  have h := pa_all (li := li) n (by omega)
  have e : lkIn (stA li n) 100 = (false, lkT (stA li n) 100 (stA li n).silent) := lk_f (by rw [h.s.ne]; decide) (by decide) (by
    unfold lkB
    rw [h.s.li, h.s.pa, h.s.ag, h.s.w, show IntKind.i64.wrap (((2 : Nat) : Int) - 1) = 1 by decide, Int.mul_one, w64' (n := (n : Int)) (by omega) (by omega), w64' (by omega) (by omega)]
    omega)
  show (lkIn (stA li n) 100).1 = false ∧ PB li (lkIn (stA li n) 100).2 n 0
  rw [e]
  refine ⟨rfl, ⟨⟨h.s.w, h.s.ev, h.s.li, ?_, rfl, rfl, h.s.si⟩, ?_, ?_⟩⟩
  · show IntKind.i64.wrap (100 + (stA li n).every) = 110
    rw [h.s.ev]; decide
  · have := s1_up h.h1 (n' := 200 + ((0 : Nat) : Int)) (by omega)
    rw [show (n : Int) + ((0 : Nat) : Int) = n by omega]
    exact this
  · have := s1_up h.a (n' := 200 + ((0 : Nat) : Int)) (by omega)
    rw [show (n : Int) + ((0 : Nat) : Int) = n by omega]
    exact this
theorem pb_step {li : Int} {t : Mg} {n j : Nat} (h : PB li t n j) (hn : n ≤ 63) (hj : j ≤ 100) : (mgIn t (200 + j) 1 (n + j)).2.1 = 0 ∧ PB li (mgIn t (200 + j) 1 (n + j)).2.2 n (j + 1) := by
  obtain ⟨a1, a2, a3, a4, a5⟩ := sl_take (y := 1) (n := 200 + (j : Int)) (q := (n : Int) + j) h.s (by decide) (by omega) (by omega) (by omega) h.h1 h.a
  refine ⟨a1, ⟨?_, ?_, ?_⟩⟩
  · rw [show ((j + 1 : Nat) : Int) = (j : Int) + 1 by omega]; exact a2
  · have := s2_1 a3 (n' := 200 + ((j + 1 : Nat) : Int)) (by omega) (by omega)
    rw [show (n : Int) + ((j + 1 : Nat) : Int) = (n : Int) + j + 1 by omega]
    exact this
  · have := s2_1 a4 (n' := 200 + ((j + 1 : Nat) : Int)) (by omega) (by omega)
    rw [show (n : Int) + ((j + 1 : Nat) : Int) = (n : Int) + j + 1 by omega]
    exact this
theorem pb_all {li : Int} {n : Nat} (hn : n ≤ 63) (hl : 0 ≤ li ∧ li ≤ 15) : ∀ j : Nat, j ≤ 20 → PB li (stB li n j) n j
  | 0, _ => (pb_0 hn hl).2
  | j + 1, h => (pb_step (pb_all hn hl j (by omega)) hn (by omega)).2
theorem pb_end {li : Int} {t : Mg} {n j : Nat} (h : PB li t n j) (hj : (j : Int) = li + 1) (hl : 0 ≤ li ∧ li ≤ 15) : (lkIn t 300).1 = true ∧ (lkIn (lkIn t 300).2 301).1 = false ∧ (lkIn (lkIn t 300).2 301).2.silent = 1 := by
  have e : lkIn t 300 = (true, lkT t 300 (IntKind.i64.wrap (t.silent + 1))) := lk_t (by rw [h.s.ne]; decide) (by decide) (by
    unfold lkB
    rw [h.s.li, h.s.pa, h.s.ag, h.s.w, show IntKind.i64.wrap (((2 : Nat) : Int) - 1) = 1 by decide, Int.mul_one, w64' (n := (j : Int)) (by omega) (by omega), w64' (by omega) (by omega)]
    omega)
  rw [e]
  have e2 : lkIn (lkT t 300 (IntKind.i64.wrap (t.silent + 1))) 301 = (false, _) := lk_no (.inl (by
    show 301 < IntKind.i64.wrap (300 + t.every)
    rw [h.s.ev]; decide))
  show true = true ∧ _ ∧ _
  rw [e2]
  exact ⟨rfl, rfl, by show IntKind.i64.wrap (t.silent + 1) = 1; rw [h.s.si]; decide⟩

end Go.Proofs.Ytlhlegjndembdaa
