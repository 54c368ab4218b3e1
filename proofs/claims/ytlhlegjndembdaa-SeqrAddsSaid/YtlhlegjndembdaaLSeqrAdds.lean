/-
  For every setup and all numbers the law SeqrAdds answers true and leaves all memory as it was.
-/
import Derived.Test.YtlhlegjndembdaaSx
import Derived.Test.YtlhlegjndembdaaSeqA
import Derived.Test.YtlhlegjndembdaaSeqB
import Derived.Test.YtlhlegjndembdaaSeqC
import Derived.Test.YtlhlegjndembdaaRows
import Derived.WalkKit
import Derived.ProofKit
import Derived.OpenShut
namespace Go.Proofs.Ytlhlegjndembdaa.seqrAdds
open Go.ChangeShapes Go.WideShapes Go.ChangeAt Go.RowKit Go.Sx
set_option linter.unusedVariables false
set_option linter.unusedSimpArgs false
set_option maxRecDepth 100000

theorem and16 (a : Int) : bits .and .i64 a 65535 = a % 65536 := and_mask a 16 (by decide)
theorem or_and {x b : Int} (hb : 0 ≤ b ∧ b < 18446744073709551616) : bits .and .u64 (bits .or .u64 x b) b = b := by
  have h1 : BitVec.ofInt 64 (bits .or .u64 x b) = BitVec.ofInt 64 x ||| BitVec.ofInt 64 b := by
    show BitVec.ofInt 64 (IntKind.u64.wrap ((BitVec.ofInt 64 x ||| BitVec.ofInt 64 b).toNat : Int)) = _
    rw [wu64' (by omega) (by have := (BitVec.ofInt 64 x ||| BitVec.ofInt 64 b).isLt; omega), BitVec.ofInt_natCast, BitVec.ofNat_toNat]
    simp
  have h2 : (BitVec.ofInt 64 x ||| BitVec.ofInt 64 b) &&& BitVec.ofInt 64 b = BitVec.ofInt 64 b := by
    apply BitVec.eq_of_getLsbD_eq
    intro i hi
    rw [BitVec.getLsbD_and, BitVec.getLsbD_or]
    cases (BitVec.ofInt 64 x).getLsbD i <;> cases (BitVec.ofInt 64 b).getLsbD i <;> rfl
  show IntKind.u64.wrap ((BitVec.ofInt 64 (bits .or .u64 x b) &&& BitVec.ofInt 64 b).toNat : Int) = b
  rw [h1, h2]
  have h3 : ((BitVec.ofInt 64 b).toNat : Int) = b := by rw [BitVec.toNat_ofInt]; omega
  rw [h3]
  exact wu64' hb.1 hb.2
theorem ahead_self {q : Int} : aheadM q q = 0 := by
  unfold aheadM
  rw [Int.sub_self]
  decide
structure SA_ (c1 c2 c3 : Int) (s : Sq) : Prop where
  way : s.way = c1
  len : s.len = c2
  reset : s.reset = c3
  wen : s.wen = 0
  resets : s.resets = 0
theorem turn0 {c1 c2 c3 : Int} {s : Sq} (h : SA_ c1 c2 c3 s) (hc : 1 ≤ c3 ∧ c3 ≤ 1099511627776) : s.turn 0 = s := by
  unfold Sq.turn
  refine if_neg fun h9 => ?_
  have h1 := h9.2.2
  rw [h.reset, h.wen, wu64' (n := c3) (by omega) (by omega)] at h1
  have : IntKind.u64.wrap (IntKind.u64.wrap 0 - IntKind.u64.wrap 0) = 0 := by decide
  omega
/-- it comes again, if it comes once more -/
def Ag (s : Sq) (q : Int) : Prop := (s.mid 0 q).1 = 1
theorem ag_new {c2 q : Int} {s : Sq} (hw : s.way = 0) (hl : s.len = c2) (hc : 1 ≤ c2 ∧ c2 ≤ 64) (ha : s.any = false) (hq : s.last = q) (x : Int) (hh : s.had = bits .or .u64 x 1 ∨ s.had = 1) : (s.vector q).1 = 1 := by
  have hn : IntKind.i64.wrap (0 - s.len) = 0 - s.len := w64' (by omega) (by omega)
  unfold Sq.vector
  simp only [ha, hq, ahead_self, hn, Bool.false_eq_true, if_false]
  rw [if_neg (by omega), if_pos (Int.le_refl _)]
  have hb : IntKind.u64.wrap (1 * 2 ^ min (IntKind.i64.wrap (0 - 0)).toNat IntKind.u64.bits) = 1 := by decide
  rw [hb]
  have hx : bits .and .u64 s.had 1 = 1 := by
    rcases hh with hh | hh
    · rw [hh]; exact or_and ⟨by decide, by decide⟩
    · rw [hh]; decide
  rw [hx]
  rfl
theorem pow_bd {k : Nat} (h : k < 64) : 0 < (2 : Int) ^ k ∧ (2 : Int) ^ k < 18446744073709551616 := by
  have h1 : (2 : Nat) ^ k < 2 ^ 64 := Nat.pow_lt_pow_right (by decide) h
  have h2 : (2 : Int) ^ k = ((2 ^ k : Nat) : Int) := by simp
  have h3 : 0 < (2 : Nat) ^ k := Nat.pow_pos (by decide)
  rw [h2]
  generalize (2 : Nat) ^ k = z at *
  omega
theorem vec_ag {c2 q : Int} {s : Sq} (hw : s.way = 0) (hl : s.len = c2) (hc : 1 ≤ c2 ∧ c2 ≤ 64) (b : Sq → Sq) (hb : ∀ t : Sq, (b t).way = t.way ∧ (b t).len = t.len ∧ (b t).last = t.last ∧ (b t).had = t.had) (h0 : (s.vector q).1 = 0 ∨ (s.vector q).1 = 3 → (b (s.vector q).2).any = false) (h1 : (s.vector q).1 = 1 → (b (s.vector q).2).any = (s.vector q).2.any) :
    (s.vector q).1 = 2 ∨ ((b (s.vector q).2).vector q).1 = 1 := by
  have hn : IntKind.i64.wrap (0 - s.len) = 0 - s.len := w64' (by omega) (by omega)
  have hbd := ahead_bounds q s.last
  by_cases ha : s.any = true
  · have e : s.vector q = (0, { s with last := q, had := 1 }) := by unfold Sq.vector; exact if_pos ha
    right
    rw [e] at h0 ⊢
    obtain ⟨b1, b2, b3, b4⟩ := hb { s with last := q, had := 1 }
    exact ag_new (b1.trans hw) (b2.trans hl) hc (h0 (.inl rfl)) b3 0 (.inr b4)
  · have ha' : s.any = false := by simpa using ha
    by_cases h5 : s.len ≤ aheadM q s.last ∨ aheadM q s.last ≤ 0 - s.len
    · left
      unfold Sq.vector
      simp only [ha', hn, Bool.false_eq_true, if_false, if_pos h5]
    · right
      by_cases h6 : aheadM q s.last ≤ 0
      · have e1 : IntKind.i64.wrap (0 - aheadM q s.last) = 0 - aheadM q s.last := w64' (by omega) (by omega)
        have hk : (0 - aheadM q s.last).toNat < 64 := by omega
        have hp := pow_bd hk
        have e2 : IntKind.u64.wrap (1 * 2 ^ min (IntKind.i64.wrap (0 - aheadM q s.last)).toNat IntKind.u64.bits) = 2 ^ (0 - aheadM q s.last).toNat := by
          rw [e1, show min (0 - aheadM q s.last).toNat IntKind.u64.bits = (0 - aheadM q s.last).toNat from Nat.min_eq_left (Nat.le_of_lt hk), Int.one_mul]
          exact wu64' (Int.le_of_lt hp.1) hp.2
        have again : ∀ t : Sq, t.way = 0 → t.len = s.len → t.last = s.last → t.any = false → bits .and .u64 t.had (2 ^ (0 - aheadM q s.last).toNat) ≠ 0 → (t.vector q).1 = 1 := by
          intro t g1 g2 g3 g4 g5
          unfold Sq.vector
          simp only [g4, g2, g3, hn, e2, Bool.false_eq_true, if_false, if_neg h5, if_pos h6, if_neg g5]
        by_cases h7 : bits .and .u64 s.had (2 ^ (0 - aheadM q s.last).toNat) = 0
        · have e : s.vector q = (3, { s with had := bits .or .u64 s.had (2 ^ (0 - aheadM q s.last).toNat) }) := by
            unfold Sq.vector
            simp only [ha', hn, e2, Bool.false_eq_true, if_false, if_neg h5, if_pos h6, if_pos h7]
          rw [e] at h0 ⊢
          obtain ⟨b1, b2, b3, b4⟩ := hb { s with had := bits .or .u64 s.had (2 ^ (0 - aheadM q s.last).toNat) }
          refine again _ (b1.trans hw) b2 b3 (h0 (.inr rfl)) ?_
          rw [b4]
          dsimp only
          rw [or_and ⟨Int.le_of_lt hp.1, hp.2⟩]
          omega
        · have e : s.vector q = (1, s) := by
            unfold Sq.vector
            simp only [ha', hn, e2, Bool.false_eq_true, if_false, if_neg h5, if_pos h6, if_neg h7]
          rw [e] at h1 ⊢
          obtain ⟨b1, b2, b3, b4⟩ := hb s
          exact again _ (b1.trans hw) b2 b3 ((h1 rfl).trans ha') (by rw [b4]; exact h7)
      · have e : s.vector q = (0, { s with had := bits .or .u64 (outs s.len (aheadM q s.last).toNat (s.had, s.lost)).1 1, lost := (outs s.len (aheadM q s.last).toNat (s.had, s.lost)).2, last := q }) := by
          unfold Sq.vector
          simp only [ha', hn, Bool.false_eq_true, if_false, if_neg h5, if_neg h6]
        rw [e] at h0 ⊢
        obtain ⟨b1, b2, b3, b4⟩ := hb { s with had := bits .or .u64 (outs s.len (aheadM q s.last).toNat (s.had, s.lost)).1 1, lost := (outs s.len (aheadM q s.last).toNat (s.had, s.lost)).2, last := q }
        exact ag_new (b1.trans hw) (b2.trans hl) hc (h0 (.inl rfl)) b3 _ (.inl b4)
theorem sa_vec {c1 c2 c3 q : Int} {s : Sq} (h : SA_ c1 c2 c3 s) : SA_ c1 c2 c3 (s.vector q).2 := by
  obtain ⟨h1, h2, h3, h4, h5⟩ := h
  unfold Sq.vector
  dsimp only
  split
  · exact ⟨h1, h2, h3, h4, h5⟩
  · split
    · exact ⟨h1, h2, h3, h4, h5⟩
    · split
      · split <;> exact ⟨h1, h2, h3, h4, h5⟩
      · exact ⟨h1, h2, h3, h4, h5⟩
theorem sa_match {c1 c2 c3 q : Int} {s : Sq} (h : SA_ c1 c2 c3 s) : SA_ c1 c2 c3 (s.match_ q).2 := by
  obtain ⟨h1, h2, h3, h4, h5⟩ := h
  unfold Sq.match_
  split
  · split <;> exact ⟨h1, h2, h3, h4, h5⟩
  · exact ⟨h1, h2, h3, h4, h5⟩
theorem sa_mid {c1 c2 c3 q : Int} {s : Sq} (h : SA_ c1 c2 c3 s) (hc : 1 ≤ c3 ∧ c3 ≤ 1099511627776) : SA_ c1 c2 c3 (s.mid 0 q).2 := by
  unfold Sq.mid
  rw [turn0 h hc]
  split
  · exact sa_vec (sa_match h)
  · exact sa_match h
theorem sa_fin {c1 c2 c3 w : Int} {t : Sq} (h : SA_ c1 c2 c3 t) : SA_ c1 c2 c3 ((t.bump w).fin w 0) := by
  obtain ⟨h1, h2, h3, h4, h5⟩ := h
  unfold Sq.fin Sq.bump
  dsimp only
  split
  · exact ⟨h1, h2, h3, rfl, h5⟩
  · exact ⟨h1, h2, h3, h4, h5⟩
theorem fin_keep (t : Sq) (w : Int) : ((t.bump w).fin w 0).way = t.way ∧ ((t.bump w).fin w 0).len = t.len ∧ ((t.bump w).fin w 0).last = t.last ∧ ((t.bump w).fin w 0).had = t.had := by
  unfold Sq.fin Sq.bump
  dsimp only
  split <;> exact ⟨rfl, rfl, rfl, rfl⟩
theorem fin_any0 (t : Sq) {w : Int} (h : w = 0 ∨ w = 3) : ((t.bump w).fin w 0).any = false := by
  unfold Sq.fin
  rw [if_pos h]
theorem fin_any1 (t : Sq) {w : Int} (h : w = 1) : ((t.bump w).fin w 0).any = t.any := by
  unfold Sq.fin
  rw [if_neg (by omega)]; rfl
theorem mid0 {c1 c2 c3 q : Int} {s : Sq} (h : SA_ c1 c2 c3 s) (hc : 1 ≤ c3 ∧ c3 ≤ 1099511627776) (h0 : c1 = 0) : s.mid 0 q = s.vector q := by
  have hm : s.match_ q = (0, s) := by unfold Sq.match_; exact if_neg (by rw [h.way]; omega)
  unfold Sq.mid
  rw [turn0 h hc, hm]
  exact if_pos (h.way.trans h0)
theorem mid1 {c1 c2 c3 q : Int} {s : Sq} (h : SA_ c1 c2 c3 s) (hc : 1 ≤ c3 ∧ c3 ≤ 1099511627776) (h1 : c1 = 1) : s.mid 0 q = if s.any = false ∧ s.last = q then (1, s) else (0, { s with last := q }) := by
  have hm : s.match_ q = if s.any = false ∧ s.last = q then (1, s) else (0, { s with last := q }) := by unfold Sq.match_; exact if_pos (h.way.trans h1)
  unfold Sq.mid
  rw [turn0 h hc, if_neg (by rw [(sa_match (q := q) h).way]; omega), hm]
theorem ag_step {c1 c2 c3 q : Int} {s : Sq} (h : SA_ c1 c2 c3 s) (hcf : (c1 = 0 ∨ c1 = 1) ∧ (1 ≤ c2 ∧ c2 ≤ 64) ∧ 1 ≤ c3 ∧ c3 ≤ 1099511627776) : (s.mid 0 q).1 = 2 ∨ Ag (((s.mid 0 q).2.bump (s.mid 0 q).1).fin (s.mid 0 q).1 0) q := by
  have g := sa_fin (w := (s.mid 0 q).1) (sa_mid (q := q) h hcf.2.2)
  unfold Ag
  rcases hcf.1 with h0 | h1
  · rw [mid0 g hcf.2.2 h0, mid0 h hcf.2.2 h0]
    exact vec_ag (h.way.trans h0) h.len hcf.2.1 (fun t => (t.bump (s.vector q).1).fin (s.vector q).1 0) (fun t => fin_keep t _) (fun hw => fin_any0 _ hw) (fun hw => fin_any1 _ hw)
  · right
    rw [mid1 g hcf.2.2 h1, mid1 h hcf.2.2 h1]
    obtain ⟨k1, k2, k3, k4⟩ := fin_keep (s.mid 0 q).2 (s.mid 0 q).1
    by_cases hh : s.any = false ∧ s.last = q
    · rw [if_pos hh, if_pos ⟨by rw [fin_any1 s rfl]; exact hh.1, by rw [(fin_keep s 1).2.2.1]; exact hh.2⟩]
    · rw [if_neg hh, if_pos ⟨fin_any0 _ (.inl rfl), by rw [(fin_keep { s with last := q } 0).2.2.1]⟩]
theorem add_step {c1 c2 c3 q : Int} {s : Sq} (h : SA_ c1 c2 c3 s) (hcf : (c1 = 0 ∨ c1 = 1) ∧ (1 ≤ c2 ∧ c2 ≤ 64) ∧ 1 ≤ c3 ∧ c3 ≤ 1099511627776) (hq : 0 ≤ q ∧ q ≤ 65535)
    (hk : 0 ≤ s.k0 ∧ 0 ≤ s.k1 ∧ 0 ≤ s.k2 ∧ 0 ≤ s.k3) (hs : s.k0 + s.k1 + s.k2 + s.k3 ≤ 1000) :
    (s.in_ 0 q).2.1 = 0 ∧ SA_ c1 c2 c3 (s.in_ 0 q).2.2 ∧ ((s.in_ 0 q).1 = 2 ∨ ((s.in_ 0 q).2.2.in_ 0 q).1 = 1) ∧
    (0 ≤ (s.in_ 0 q).2.2.k0 ∧ 0 ≤ (s.in_ 0 q).2.2.k1 ∧ 0 ≤ (s.in_ 0 q).2.2.k2 ∧ 0 ≤ (s.in_ 0 q).2.2.k3) ∧ (s.in_ 0 q).2.2.k0 + (s.in_ 0 q).2.2.k1 + (s.in_ 0 q).2.2.k2 + (s.in_ 0 q).2.2.k3 = s.k0 + s.k1 + s.k2 + s.k3 + 1 ∧ (0 ≤ (s.in_ 0 q).1 ∧ (s.in_ 0 q).1 < 4) := by
  have e := in_mid (s := s) (n := 0) (q := q) (w := (s.mid 0 q).1) (t := (s.mid 0 q).2) (by omega) rfl
  have g := sa_mid (q := q) h hcf.2.2
  have ag := ag_step (q := q) h hcf
  have mo := mid_ok s 0 q (by rw [h.len]; omega)
  have kk : (s.mid 0 q).2.k0 = s.k0 ∧ (s.mid 0 q).2.k1 = s.k1 ∧ (s.mid 0 q).2.k2 = s.k2 ∧ (s.mid 0 q).2.k3 = s.k3 ∧ (0 ≤ (s.mid 0 q).1 ∧ (s.mid 0 q).1 < 4) := by
    have k1 : ∀ t : Sq, (t.match_ q).2.k0 = t.k0 ∧ (t.match_ q).2.k1 = t.k1 ∧ (t.match_ q).2.k2 = t.k2 ∧ (t.match_ q).2.k3 = t.k3 := by
      intro t
      unfold Sq.match_
      split
      · split <;> exact ⟨rfl, rfl, rfl, rfl⟩
      · exact ⟨rfl, rfl, rfl, rfl⟩
    have k2 : ∀ t : Sq, (t.vector q).2.k0 = t.k0 ∧ (t.vector q).2.k1 = t.k1 ∧ (t.vector q).2.k2 = t.k2 ∧ (t.vector q).2.k3 = t.k3 := by
      intro t
      unfold Sq.vector
      dsimp only
      split
      · exact ⟨rfl, rfl, rfl, rfl⟩
      · split
        · exact ⟨rfl, rfl, rfl, rfl⟩
        · split
          · split <;> exact ⟨rfl, rfl, rfl, rfl⟩
          · exact ⟨rfl, rfl, rfl, rfl⟩
    rw [turn0 h hcf.2.2] at mo
    unfold Sq.mid
    rw [turn0 h hcf.2.2]
    have a1 := k1 s
    have a2 := k2 (s.match_ q).2
    split
    · exact ⟨a2.1.trans a1.1, a2.2.1.trans a1.2.1, a2.2.2.1.trans a1.2.2.1, a2.2.2.2.trans a1.2.2.2, mo.2.2⟩
    · exact ⟨a1.1, a1.2.1, a1.2.2.1, a1.2.2.2, mo.2.1⟩
  rw [e]
  refine ⟨rfl, sa_fin g, ?_, ?_⟩
  · rcases ag with ag | ag
    · exact .inl ag
    · right
      dsimp only
      rw [in_mid (s := ((s.mid 0 q).2.bump (s.mid 0 q).1).fin (s.mid 0 q).1 0) (n := 0) (q := q) (w := ((((s.mid 0 q).2.bump (s.mid 0 q).1).fin (s.mid 0 q).1 0).mid 0 q).1) (t := ((((s.mid 0 q).2.bump (s.mid 0 q).1).fin (s.mid 0 q).1 0).mid 0 q).2) (by omega) rfl]
      exact ag
  · have fk : ∀ (t : Sq) (w : Int), ((t.bump w).fin w 0).k0 = (t.bump w).k0 ∧ ((t.bump w).fin w 0).k1 = (t.bump w).k1 ∧ ((t.bump w).fin w 0).k2 = (t.bump w).k2 ∧ ((t.bump w).fin w 0).k3 = (t.bump w).k3 := by
      intro t w
      unfold Sq.fin
      split <;> exact ⟨rfl, rfl, rfl, rfl⟩
    obtain ⟨f0, f1, f2, f3⟩ := fk (s.mid 0 q).2 (s.mid 0 q).1
    obtain ⟨m0, m1, m2, m3, m4⟩ := kk
    dsimp only
    rw [f0, f1, f2, f3]
    unfold Sq.bump
    dsimp only
    rw [m0, m1, m2, m3, w64' (n := s.k0 + 1) (by omega) (by omega), w64' (n := s.k1 + 1) (by omega) (by omega), w64' (n := s.k2 + 1) (by omega) (by omega), w64' (n := s.k3 + 1) (by omega) (by omega)]
    generalize (s.mid 0 q).1 = w at *
    rcases (by omega : w = 0 ∨ w = 1 ∨ w = 2 ∨ w = 3) with hw | hw | hw | hw <;> subst hw <;> simp <;> omega
def roQ (a : IS) : Option Reg := some ⟨false, .tab a.N [.int .i64 a.g]⟩
def Qw (a : IS) : Prop := a.len ≤ a.cap ∧ a.len ≤ a.N ∧ a.cap ≤ 9223372036854775807
def cfV (c : Int × Int × Int) : SV := .one (.agg [i_ c.1, i_ c.2.1, i_ c.2.2])
theorem den_on {x y z : Int} {A : Option Addr} {n cap : Nat} : #[(cfV (x, y, z)).den (envOf [A]), SV.den (envOf [A]) (.one (.a (.slc 0 1 0 n cap)))] = #[.agg #[.int .i64 x, .int .i64 y, .int .i64 z], .slice A n cap] := by
  show #[Value.agg _, SA.den (envOf [A]) (.slc 0 1 0 n cap)] = _
  rw [den_slc (A := A) rfl]; rfl
structure PZ where
  i : Nat
  last : Int
  s : Sq
abbrev laP (sq : IS) (c : Int × Int × Int) : LA where
  ι := PZ
  inv := fun x => x.i ≤ sq.len ∧ SA_ c.1 c.2.1 c.2.2 x.s ∧ (0 ≤ x.s.k0 ∧ 0 ≤ x.s.k1 ∧ 0 ≤ x.s.k2 ∧ 0 ≤ x.s.k3) ∧ x.s.k0 + x.s.k1 + x.s.k2 + x.s.k3 = x.i ∧ (x.last = -1 ∨ (x.s.in_ 0 x.last).1 = 1)
  T := fun x => ⟨87, [(1, .one (.a (.slc 0 1 0 sq.len sq.cap))), (5, .one (.a (.ptr 1 0))), (7, int_ .i64 x.last), (32, .one (.a (.slc 0 1 0 sq.len sq.cap))), (33, int_ .i64 sq.len), (34, int_ .i64 x.i)], [roQ sq, some ⟨true, .flat x.s.cells⟩]⟩
  μ := fun x => sq.len - x.i
  ren := fun S => [0, S.ix 5]
/-- the first i counts together -/
def psK (s : Sq) : Nat → Int
  | 0 => 0
  | 1 => s.k0
  | 2 => s.k0 + s.k1
  | 3 => s.k0 + s.k1 + s.k2
  | _ => s.k0 + s.k1 + s.k2 + s.k3
theorem ps_next {s : Sq} {i : Nat} {k : Int} (h0 : 0 ≤ s.k0) (h1 : 0 ≤ s.k1) (h2 : 0 ≤ s.k2) (h3 : 0 ≤ s.k3) (hs : s.k0 + s.k1 + s.k2 + s.k3 ≤ 1000) (h : (i = 0 ∧ k = s.k0) ∨ (i = 1 ∧ k = s.k1) ∨ (i = 2 ∧ k = s.k2) ∨ (i = 3 ∧ k = s.k3)) : psK s (i + 1) = IntKind.i64.wrap (psK s i + k) := by
  rcases h with ⟨hi, hk⟩ | ⟨hi, hk⟩ | ⟨hi, hk⟩ | ⟨hi, hk⟩ <;> subst hi <;> subst hk <;> simp only [psK] <;> rw [w64' (by omega) (by omega)] <;> omega
structure QZ where
  i : Nat
  s : Sq
abbrev laQ (sq : IS) (c : Int × Int × Int) : LA where
  ι := QZ
  inv := fun x => x.i ≤ 4 ∧ SA_ c.1 c.2.1 c.2.2 x.s ∧ (0 ≤ x.s.k0 ∧ 0 ≤ x.s.k1 ∧ 0 ≤ x.s.k2 ∧ 0 ≤ x.s.k3) ∧ x.s.k0 + x.s.k1 + x.s.k2 + x.s.k3 = sq.len
  T := fun x => ⟨87, [(1, .one (.a (.slc 0 1 0 sq.len sq.cap))), (5, .one (.a (.ptr 1 0))), (12, int_ .i64 (psK x.s x.i)), (70, .one (.agg [i_ x.s.k0, i_ x.s.k1, i_ x.s.k2, i_ x.s.k3])), (71, int_ .i64 x.i)], [roQ sq, some ⟨true, .flat x.s.cells⟩]⟩
  μ := fun x => 4 - x.i
  ren := fun S => [0, S.ix 5]
noncomputable def cxL (sq : IS) (c : Int × Int × Int) : Cx Try.prog := { ps := [hdS, chkCS, countsS, resetsS], es := [inS], is := [inl fn15 cxNew], n0 := 1, loops := fun i => match i with | 10 => some (.inv (laP sq c)) | 22 => some (.inv (laQ sq c)) | _ => none, cuts := fun _ => none }
attribute [local irreducible] enter anyAlt
set_option maxHeartbeats 16000000 in
theorem runs (c1 c2 c3 : Int) (sq : IS) (hv : Qw sq) : Runs (cxL sq (c1, c2, c3)) Try.f7 [cfV (c1, c2, c3), .one (.a (.slc 0 1 0 sq.len sq.cap))] [roQ sq] yes := by
  obtain ⟨v1, v2, v3⟩ := hv
  repeat' (first | with_reducible exact trivial | with_reducible exact rfl | with_reducible exact Nat.le_refl _ | with_reducible exact (fun _ _ => rfl) | ((conv => whnf); first | (refine fun (x : PZ) => ?_) | (refine fun (y : QZ) => ?_) | (refine fun _ => ?_) | refine ⟨?_, ?_⟩ | exact trivial | exact Nat.le_refl _ | exact lex_q (by kernel_rfl) | exact lex_t (by kernel_rfl) | exact lex_h (by kernel_rfl) | fail))
  all_goals (try (have hi := (by assumption : (laP sq (c1, c2, c3)).inv x); dsimp only [laP] at hi))
  all_goals (try (have hj := (by assumption : (laQ sq (c1, c2, c3)).inv y); dsimp only [laQ] at hj))
  all_goals (try exact absurd (by assumption : (!true) = true) (by decide))
  all_goals (try exact absurd (by assumption : ¬ chkC (c1, c2, c3) = 0) (by assumption))
  all_goals (try exact absurd rfl (by assumption : ¬ (0 : Int) = 0))
  all_goals (have hc := cf_of (by assumption : ¬ ¬ chkC (c1, c2, c3) = 0))
  all_goals (unfold CfOK at hc; dsimp only at hc)
  all_goals (try (have hl1 : 1 ≤ x.s.len := by rw [hi.2.1.len]; omega))
  all_goals (try (have hl2 : x.s.len ≤ 9223372036854775807 := by rw [hi.2.1.len]; omega))
  all_goals (try first | exact hl1 | exact hl2)
  any_goals first
    | (refine enter_mk (la := laP sq (c1, c2, c3)) ⟨0, -1, sq0 c1 c2 c3 0⟩ ?_ (by (repeat' (first | ((conv => whnf); first | refine ⟨?_, ?_⟩ | exact trivial | fail) | (dsimp only; done) | ((try dsimp only); first | with_reducible exact rfl | exact Nat.le_refl _ | with_reducible exact (fun _ _ => rfl)))); first | ((all_goals ((try dsimp only [laP] at *); (all_goals (try simp (disch := omega) only [w64', wu64', tdiv_pos, tmod_pos, Int.toNat_natCast, Nat.zero_add] at *)); (all_goals ((first | rfl | omega))))); done) | fail))
    | (refine enter_mk (la := laP sq (c1, c2, c3)) ⟨x.i + 1, -1, (x.s.in_ 0 (sq.g x.i % 65536)).2.2⟩ ?_ (by (repeat' (first | ((conv => whnf); first | refine ⟨?_, ?_⟩ | exact trivial | fail) | (dsimp only; done) | ((try dsimp only); first | with_reducible exact rfl | exact Nat.le_refl _ | with_reducible exact (fun _ _ => rfl)))); first | ((all_goals ((try dsimp only [laP] at *); (all_goals (try simp (disch := omega) only [w64', wu64', tdiv_pos, tmod_pos, Int.toNat_natCast, Nat.zero_add] at *)); (all_goals ((first | rfl | omega | (rw [w64' (by omega) (by omega)]; omega) | (simp only [and16]; done)))))); done) | fail))
    | (refine enter_mk (la := laP sq (c1, c2, c3)) ⟨x.i + 1, sq.g x.i % 65536, (x.s.in_ 0 (sq.g x.i % 65536)).2.2⟩ ?_ (by (repeat' (first | ((conv => whnf); first | refine ⟨?_, ?_⟩ | exact trivial | fail) | (dsimp only; done) | ((try dsimp only); first | with_reducible exact rfl | exact Nat.le_refl _ | with_reducible exact (fun _ _ => rfl)))); first | ((all_goals ((try dsimp only [laP] at *); (all_goals (try simp (disch := omega) only [w64', wu64', tdiv_pos, tmod_pos, Int.toNat_natCast, Nat.zero_add] at *)); (all_goals ((first | rfl | omega | (rw [w64' (by omega) (by omega)]; omega) | (simp only [and16]; done)))))); done) | fail))
    | (refine enter_mk (la := laQ sq (c1, c2, c3)) ⟨0, x.s⟩ ?_ (by (repeat' (first | ((conv => whnf); first | refine ⟨?_, ?_⟩ | exact trivial | fail) | (dsimp only; done) | ((try dsimp only); first | with_reducible exact rfl | exact Nat.le_refl _ | with_reducible exact (fun _ _ => rfl)))); first | ((all_goals ((try dsimp only [laQ] at *); (all_goals (try simp (disch := omega) only [w64', wu64', tdiv_pos, tmod_pos, Int.toNat_natCast, Nat.zero_add] at *)); (all_goals ((first | rfl | omega))))); done) | fail))
    | (refine enter_mk (la := laQ sq (c1, c2, c3)) ⟨y.i + 1, y.s⟩ ?_ (by (repeat' (first | ((conv => whnf); first | refine ⟨?_, ?_⟩ | exact trivial | fail) | (dsimp only; done) | ((try dsimp only); first | with_reducible exact rfl | exact Nat.le_refl _ | with_reducible exact (fun _ _ => rfl)))); first | ((all_goals ((try dsimp only [laQ] at *); (all_goals (try simp (disch := omega) only [w64', wu64', tdiv_pos, tmod_pos, Int.toNat_natCast, Nat.zero_add] at *)); (all_goals ((first | rfl | omega | (rw [w64' (by omega) (by omega)]; omega) | exact ps_next (by omega) (by omega) (by omega) (by omega) (by omega) (by first | exact .inl ⟨by omega, rfl⟩ | exact .inr (.inl ⟨by omega, rfl⟩) | exact .inr (.inr (.inl ⟨by omega, rfl⟩)) | exact .inr (.inr (.inr ⟨by omega, rfl⟩)))))))); done) | fail))
    | fail
  all_goals (try dsimp only [laP, laQ] at *)
  all_goals (try simp only [sq_eta, and16, Int.toNat_natCast, Nat.zero_add] at *)
  all_goals (try omega)
  all_goals (try (have hq : 0 ≤ sq.g x.i % 65536 ∧ sq.g x.i % 65536 ≤ 65535 := by omega))
  all_goals (try (have k := add_step hi.2.1 hc hq hi.2.2.1 (by have := hi.2.2.2.1; omega)))
  all_goals first
    | exact ⟨Nat.zero_le _, ⟨rfl, rfl, rfl, rfl, rfl⟩, ⟨Int.le_refl _, Int.le_refl _, Int.le_refl _, Int.le_refl _⟩, rfl, .inl trivial⟩
    | exact absurd k.1 (by assumption)
    | (have hl := hi.2.2.2.2
       rw [← (by assumption : sq.g x.i % 65536 = x.last)] at hl
       exact absurd (hl.resolve_left (by omega)) (by assumption))
    | exact ⟨by omega, k.2.1, k.2.2.2.1, by have := k.2.2.2.2.1; have := hi.2.2.2.1; omega, .inl trivial⟩
    | exact ⟨by omega, k.2.1, k.2.2.2.1, by have := k.2.2.2.2.1; have := hi.2.2.2.1; omega, .inr (k.2.2.1.resolve_left (by omega))⟩
    | exact ⟨Nat.zero_le _, hi.2.1, hi.2.2.1, by have := hi.2.2.2.1; omega⟩
    | exact ⟨by omega, hj.2.1, hj.2.2.1, hj.2.2.2⟩
    | (symm; apply decide_eq_true; exact hj.2.1.resets)
    | (exfalso
       have e4 : y.i = 4 := by omega
       have hs := hj.2.2.2
       have hn := (by assumption : ¬ psK y.s y.i = sq.len)
       rw [e4] at hn
       exact hn hs)

theorem own : ownKnob Try.prog.godebug = none := by kernel_rfl

set_option maxRecDepth 100000 in
theorem lifted (os : Os) (started : os.Started) (H : Type) (enc : TypeId × Value → H) :
    ReturnsInHanded {} Try.checked os 7 .any (Rows.seqrAddsSpec.pre6 enc Try.prog Try.f7 Rows.seqrAddsRow.domain false) (Rows.seqrAddsSpec.post enc Try.prog Try.f7 false true false false) := by
  refine returnsInHanded_of_change (C := Try.checked) own started (by kernel_rfl) Try.func7
    (ChangeSpec.witness6 (enc := enc) (C := Try.checked) false ⟨#[], #[.agg #[.int .i64 0, .int .i64 0, .int .i64 0], .slice none 0 0], []⟩ 8 (by kernel_rfl) (by kernel_rfl) (by kernel_rfl) (by kernel_rfl)) ?_
  intro W base args ds gs before hval0 hW hcnd _
  have hval : ∀ (j : Nat) t v, Try.f7.params[j]? = some t → args[j]? = some v → Value.okWide Try.prog W .any base t v := hval0
  have hW' := hW
  obtain ⟨p, q, hA0, hV, rfl, hfz, hnd⟩ := hW
  have hA : DataW.TrodAll enc Try.prog W 0 (fun _ => true) true Try.f7.params.toList args.toList ds p := hA0
  rw [Try.params7] at hA hval
  obtain ⟨v0, vs0, d0, ds0, p0, q0, hargs0, rfl, rfl, h0, r0⟩ := trodAll_cons hA
  obtain ⟨v1, vs1, d1, ds1, p1, q1, hargs1, rfl, rfl, h1, r1⟩ := trodAll_cons r0
  obtain ⟨rfl, rfl, rfl⟩ := trodAll_nil r1
  obtain ⟨rfl, rfl⟩ := trodVars_none hV
  obtain rfl : args = #[v0, v1] := by cases args; simp_all
  obtain ⟨cs0, hv0, hl0, hc0⟩ := agg_open (d := 6) (row := [some .i64, some .i64, some .i64]) (by kernel_rfl) (by kernel_rfl) (hval 0 34 v0 rfl rfl) h0
  have g0_0 := listIs_of hl0 hc0
  clear hl0 hc0
  obtain ⟨_, cs0_1, rfl, ⟨b0_0, rfl, w0_0⟩, g0_1⟩ := listIs_cons g0_0
  obtain ⟨_, cs0_2, rfl, ⟨b0_1, rfl, w0_1⟩, g0_2⟩ := listIs_cons g0_1
  obtain ⟨_, cs0_3, rfl, ⟨b0_2, rfl, w0_2⟩, g0_3⟩ := listIs_cons g0_2
  obtain rfl := listIs_nil g0_3
  subst hv0
  obtain ⟨A1, n1, c1, s1⟩ := slice_open (d := 6) (row := [some .i64]) Try.underlying27 (by kernel_rfl) (by kernel_rfl) (hval 1 27 v1 rfl rfl) h1
  refine Calls.mono (law_calls mixed Try.func7 (runs b0_0 b0_1 b0_2 ⟨n1, c1, n1, fun r => intC W A1 (r * 1 + 0)⟩ ⟨s1.le, Nat.le_refl _, s1.max⟩) (e := envOf [A1]) (rel_in1 s1.reg) (Nat.le_refl 1) (by rw [s1.val]; exact den_on.symm)) fun e W' ⟨he, hb⟩ => ?_
  subst he
  exact ⟨_, rfl, law_post hW' rfl rfl (by kernel_rfl) (by decide +kernel) rfl Try.underlying4 hb⟩

theorem over : Rows.seqrAddsRow.holds Try.pinned (OpenSpec.ofChange Rows.seqrAddsSpec) :=
  OpenClaim.holds_of_wide 7 Try.f7 rfl rfl rfl rfl rfl rfl rfl ⟨rfl, rfl, rfl, rfl, rfl⟩ rfl rfl rfl rfl rfl (by kernel_rfl) Try.func7 (by kernel_rfl)
    (of_decide_eq_true (by kernel_rfl)) (by unfold Func.isWrapper; first | (rw [if_pos (by decide +kernel)]; kernel_rfl) | (rw [if_neg (by decide +kernel)]; exact ⟨rfl, rfl⟩))
    (fun os started H enc _ => lifted os started H enc)

/-- SeqrAdds -/
theorem proved : Rows.SeqrAddsSaid := over
#print axioms proved
end Go.Proofs.Ytlhlegjndembdaa.seqrAdds
