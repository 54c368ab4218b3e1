/-
  Contracts of functions, and plain facts about them, that a claim of this seat uses.
-/
import Derived.Test.YtaadejgoafdbcaaSx
import Derived.Test.YtaadejgoafdbcaaProg
namespace Go.Proofs.Ytaadejgoafdbcaa
open Go.Sx
set_option linter.unusedVariables false
set_option linter.unusedSimpArgs false
set_option maxRecDepth 100000

/-! lists of gates, plainly -/
def chkFrom (op ln : Nat → Int) (cyc : Int) : Nat → Nat → Int → Int
  | 0, _, _ => 0
  | k + 1, i, s => if op i < 0 ∨ 255 < op i ∨ ln i < 1 ∨ 1073741824 < ln i then 1 else if cyc < s + ln i then 61 else chkFrom op ln cyc k (i + 1) (s + ln i)
/-- a list: when a cycle begins, how long it is, its slots -/
structure GL where
  base : Int
  cyc : Int
  len : Nat
  cap : Nat
  N : Nat
  op : Nat → Int
  ln : Nat → Int
def chk (l : GL) : Int := if 64 < l.len then 4 else if l.len = 0 ∨ l.cyc < 1 ∨ 1073741824 < l.cyc ∨ l.base < 0 ∨ 1099511627776 < l.base then 1 else chkFrom l.op l.ln l.cyc l.len 0 0
/-- where slot k begins -/
def psum (ln : Nat → Int) : Nat → Int
  | 0 => 0
  | k + 1 => psum ln k + ln k
structure GOk (l : GL) : Prop where
  n1 : 1 ≤ l.len
  n2 : l.len ≤ 64
  c1 : 1 ≤ l.cyc
  c2 : l.cyc ≤ 1073741824
  b1 : 0 ≤ l.base
  b2 : l.base ≤ 1099511627776
  op : ∀ i, i < l.len → 0 ≤ l.op i ∧ l.op i ≤ 255
  ln : ∀ i, i < l.len → 1 ≤ l.ln i ∧ l.ln i ≤ 1073741824
  sum : ∀ i, i ≤ l.len → psum l.ln i ≤ l.cyc
theorem chkFrom_ok {op ln : Nat → Int} {cyc : Int} : ∀ {k i : Nat} {s : Int}, s = psum ln i → chkFrom op ln cyc k i s = 0 → ∀ j, i ≤ j → j < i + k → (0 ≤ op j ∧ op j ≤ 255) ∧ (1 ≤ ln j ∧ ln j ≤ 1073741824) ∧ psum ln (j + 1) ≤ cyc
  | 0, i, s, _, _, j, h1, h2 => by omega
  | k + 1, i, s, hs, h, j, h1, h2 => by
    simp only [chkFrom] at h
    split at h
    · cases h
    · split at h
      · cases h
      · rcases Nat.lt_or_ge i j with h3 | h3
        · exact chkFrom_ok (k := k) (i := i + 1) (s := s + ln i) (by rw [hs]; rfl) h j h3 (by omega)
        · obtain rfl : j = i := by omega
          have h5 : psum ln (j + 1) = s + ln j := by rw [hs]; rfl
          omega
theorem chk_ok {l : GL} (h : chk l = 0) : GOk l := by
  unfold chk at h
  split at h
  · cases h
  · split at h
    · cases h
    · have key := chkFrom_ok (s := 0) rfl h
      refine ⟨by omega, by omega, by omega, by omega, by omega, by omega, fun i hi => (key i (by omega) (by omega)).1, fun i hi => (key i (by omega) (by omega)).2.1, fun i hi => ?_⟩
      cases i with
      | zero => show (0 : Int) ≤ _; omega
      | succ i => exact (key i (by omega) (by omega)).2.2
theorem psum_le {ln : Nat → Int} {n : Nat} (h : ∀ i, i < n → 1 ≤ ln i ∧ ln i ≤ 1073741824) : ∀ {i j : Nat}, i ≤ j → j ≤ n → psum ln i + ((j : Int) - i) ≤ psum ln j
  | i, 0, h1, _ => by obtain rfl : i = 0 := by omega
                      simp
  | i, j + 1, h1, h2 => by
    rcases Nat.lt_or_ge i (j + 1) with h3 | h3
    · have := psum_le h (i := i) (j := j) (by omega) (by omega)
      have := h j (by omega)
      simp only [psum]; omega
    · obtain rfl : i = j + 1 := by omega
      omega
/-- the slot of a place in the cycle -/
def slFrom (ln : Nat → Int) (n : Nat) (p : Int) : Nat → Nat → Nat
  | 0, _ => n - 1
  | k + 1, i => if p < psum ln (i + 1) then i else slFrom ln n p k (i + 1)
def slotI (l : GL) (p : Int) : Nat := slFrom l.ln l.len p l.len 0
/-- where slot i ends -/
def endE (l : GL) (i : Nat) : Int := if i = l.len - 1 then l.cyc else psum l.ln (i + 1)
theorem slFrom_ok {ln : Nat → Int} {n : Nat} {p : Int} : ∀ {k i : Nat}, i + k = n → psum ln i ≤ p → 1 ≤ n → (∀ i, i < n → 1 ≤ ln i ∧ ln i ≤ 1073741824) →
    slFrom ln n p k i < n ∧ psum ln (slFrom ln n p k i) ≤ p ∧ (p < psum ln (slFrom ln n p k i + 1) ∨ slFrom ln n p k i = n - 1)
  | 0, i, hk, hp, hn, hl => by
    simp only [slFrom]
    refine ⟨by omega, ?_, .inr trivial⟩
    have := psum_le hl (i := n - 1) (j := i) (by omega) (by omega)
    have : ((n - 1 : Nat) : Int) ≤ (i : Int) := by omega
    omega
  | k + 1, i, hk, hp, hn, hl => by
    simp only [slFrom]
    by_cases h : p < psum ln (i + 1)
    · rw [if_pos h]; exact ⟨by omega, hp, .inl h⟩
    · rw [if_neg h]
      exact slFrom_ok (by omega) (by omega) hn hl
theorem GOk.slot {l : GL} (h : GOk l) {p : Int} (hp : 0 ≤ p ∧ p < l.cyc) : slotI l p < l.len ∧ psum l.ln (slotI l p) ≤ p ∧ p < endE l (slotI l p) ∧ endE l (slotI l p) ≤ l.cyc := by
  obtain ⟨h1, h2, h3⟩ := slFrom_ok (ln := l.ln) (n := l.len) (p := p) (k := l.len) (i := 0) (by omega) hp.1 h.n1 h.ln
  refine ⟨h1, h2, ?_, ?_⟩
  · unfold endE
    split
    · exact hp.2
    · rcases h3 with h3 | h3
      · exact h3
      · exact absurd h3 (by assumption)
  · unfold endE
    split
    · omega
    · exact h.sum _ (by have : slotI l p < l.len := h1; omega)
theorem GOk.uniq {l : GL} (h : GOk l) {p : Int} (hp : 0 ≤ p ∧ p < l.cyc) {i : Nat} (hi : i < l.len) (h1 : psum l.ln i ≤ p) (h2 : p < endE l i) : slotI l p = i := by
  obtain ⟨g1, g2, g3, _⟩ := h.slot hp
  have key : ∀ {a b : Nat}, a < b → b < l.len → psum l.ln b ≤ p → p < endE l a → False := by
    intro a b hab hb h3 h4
    unfold endE at h4
    rw [if_neg (by omega)] at h4
    have := psum_le h.ln (i := a + 1) (j := b) (by omega) (by omega)
    omega
  rcases Nat.lt_trichotomy (slotI l p) i with h3 | h3 | h3
  · exact (key h3 hi h1 g3).elim
  · exact h3
  · exact (key h3 g1 g2 h2).elim
/-- gate k at q behind a cycle's begin -/
def gAt (l : GL) (k q : Int) : Int := l.op (slotI l (q % l.cyc)) / 2 ^ k.toNat % 2
/-- how long a gate stays as asked for, two cycles at most -/
def stFrom (l : GL) (k o p : Int) : Nat → Nat → Int
  | 0, m => m
  | f + 1, m => if gAt l k (p + m) = o then stFrom l k o p f (m + 1) else m
def stayV (l : GL) (p k o : Int) : Int := stFrom l k o p (2 * l.cyc).toNat 0
structure IsStay (l : GL) (p k o v : Int) : Prop where
  lo : 0 ≤ v
  hi : v ≤ 2 * l.cyc
  all : ∀ j, 0 ≤ j → j < v → gAt l k (p + j) = o
  end_ : v < 2 * l.cyc → gAt l k (p + v) ≠ o
theorem stFrom_is {l : GL} {k o p : Int} : ∀ {f m : Nat}, ((m : Int) + f = 2 * l.cyc) → (∀ j : Int, 0 ≤ j → j < m → gAt l k (p + j) = o) → IsStay l p k o (stFrom l k o p f m)
  | 0, m, h, ha => ⟨by simp only [stFrom]; omega, by simp only [stFrom]; omega, ha, fun h9 => by simp only [stFrom] at h9; omega⟩
  | f + 1, m, h, ha => by
    simp only [stFrom]
    by_cases hg : gAt l k (p + m) = o
    · rw [if_pos hg]
      refine stFrom_is (by omega) fun j h1 h2 => ?_
      rcases Int.lt_or_le j m with h3 | h3
      · exact ha j h1 h3
      · obtain rfl : j = m := by omega
        exact hg
    · rw [if_neg hg]
      exact ⟨by omega, by omega, ha, fun _ => hg⟩
theorem stay_is {l : GL} {p k o : Int} (hc : 0 ≤ l.cyc) : IsStay l p k o (stayV l p k o) := stFrom_is (by omega) fun j h1 h2 => by omega
theorem IsStay.uniq {l : GL} {p k o v u : Int} (h1 : IsStay l p k o v) (h2 : IsStay l p k o u) : v = u := by
  rcases Int.lt_trichotomy v u with h | h | h
  · exact absurd (h2.all v h1.lo h) (h1.end_ (by have := h2.hi; omega))
  · exact h
  · exact absurd (h1.all u h2.lo h) (h2.end_ (by have := h1.hi; omega))
theorem IsStay.val {l : GL} {p k o v : Int} (h : IsStay l p k o v) (hc : 0 ≤ l.cyc) : stayV l p k o = v := (stay_is hc).uniq h
theorem gAt_mod {l : GL} {k q r : Int} (h : q % l.cyc = r % l.cyc) : gAt l k q = gAt l k r := by unfold gAt; rw [h]
/-- in one slot a gate is as it is at its begin -/
theorem GOk.run {l : GL} (h : GOk l) {p k : Int} (hp : 0 ≤ p ∧ p < l.cyc) {q : Int} (h1 : p ≤ q) (h2 : q < endE l (slotI l p)) : gAt l k q = l.op (slotI l p) / 2 ^ k.toNat % 2 := by
  obtain ⟨g1, g2, g3, g4⟩ := h.slot hp
  unfold gAt
  rw [Int.emod_eq_of_lt (a := q) (by omega) (by omega), h.uniq (p := q) (by omega) g1 (by omega) h2]
def phV (l : GL) (at_ : Int) : Int := (at_ - l.base) % l.cyc
def inR (at_ : Int) : Prop := -1099511627776 ≤ at_ ∧ at_ ≤ 2199023255552
instance (a : Int) : Decidable (inR a) := by unfold inR; exact inferInstance
def stateV (l : GL) (at_ : Int) : Int := if chk l = 0 ∧ inR at_ then l.op (slotI l (phV l at_)) else 0
def gateR (k : Int) : Prop := 0 ≤ k ∧ k ≤ 7
instance (a : Int) : Decidable (gateR a) := by unfold gateR; exact inferInstance
def leftV (l : GL) (at_ k : Int) : Int := if chk l = 0 ∧ inR at_ ∧ gateR k then (if stayV l (phV l at_) k 1 = 2 * l.cyc then 2147483648 else stayV l (phV l at_) k 1) else 0
def nextV (l : GL) (at_ k : Int) : Int := if chk l = 0 ∧ inR at_ ∧ gateR k ∧ stayV l (phV l at_) k 0 ≠ 2 * l.cyc then stayV l (phV l at_) k 0 else 0
def nextB (l : GL) (at_ k : Int) : Bool := decide (chk l = 0 ∧ inR at_ ∧ gateR k ∧ stayV l (phV l at_) k 0 ≠ 2 * l.cyc)
def turnV (l : GL) (at_ : Int) : Int := if chk l = 0 ∧ inR at_ then (if phV l at_ = 0 then at_ else at_ + (l.cyc - phV l at_)) else 0
def turnB (l : GL) (at_ : Int) : Bool := decide (chk l = 0 ∧ inR at_)

end Go.Proofs.Ytaadejgoafdbcaa
