/-
  Contracts of functions, and plain facts about them, that a claim of this seat uses.
-/
import Derived.Test.YtlhlegjndembdaaSx
import Derived.Test.YtlhlegjndembdaaSeqN
import Derived.Test.YtlhlegjndembdaaSeqL
import Derived.Test.YtlhlegjndembdaaSeqA
import Derived.Test.YtlhlegjndembdaaSeqB
import Derived.Test.YtlhlegjndembdaaSeqC
import Derived.Test.YtlhlegjndembdaaProg
namespace Go.Proofs.Ytlhlegjndembdaa
open Go.Sx
set_option linter.unusedVariables false
set_option linter.unusedSimpArgs false
set_option maxRecDepth 100000

/-! In, told case by case, by the numbers that came. -/
def I6 (n : Int) : Prop := -9223372036854775808 ≤ n ∧ n ≤ 9223372036854775807
def lgR (s : Sq) (now : Int) : Prop := s.wen ≤ now ∧ s.reset ≤ now - s.wen
instance (s : Sq) (now : Int) : Decidable (lgR s now) := by unfold lgR; exact inferInstance
def dR (q l : Int) : Int := if q - l < -32768 then q - l + 65536 else if 32767 < q - l then q - l - 65536 else q - l
structure SqOK (s : Sq) : Prop where
  way : s.way = 0 ∨ s.way = 1
  len : 1 ≤ s.len ∧ s.len ≤ 64
  reset : 1 ≤ s.reset ∧ s.reset ≤ 1099511627776
  last : 0 ≤ s.last ∧ s.last ≤ 65535
  wen : I6 s.wen
theorem turn_eq {s : Sq} (h : SqOK s) {now : Int} (hn : I6 now) : s.turn now = if s.any = false ∧ lgR s now then s.anew else s := by
  have h1 := h.reset
  have h2 := h.wen
  unfold I6 at hn h2
  unfold Sq.turn lgR
  have e : (s.any = false ∧ s.wen ≤ now ∧ IntKind.u64.wrap s.reset ≤ IntKind.u64.wrap (IntKind.u64.wrap now - IntKind.u64.wrap s.wen)) ↔ (s.any = false ∧ s.wen ≤ now ∧ s.reset ≤ now - s.wen) := by
    rw [wu64 s.reset, wu64 now, wu64 s.wen, wu64]
    constructor
    · rintro ⟨a, b, c⟩; exact ⟨a, b, by omega⟩
    · rintro ⟨a, b, c⟩; exact ⟨a, b, by omega⟩
  by_cases h9 : s.any = false ∧ s.wen ≤ now ∧ s.reset ≤ now - s.wen
  · rw [if_pos (e.2 h9), if_pos h9]
  · rw [if_neg (fun h8 => h9 (e.1 h8)), if_neg h9]
theorem ahead_dR {q l : Int} (hq : 0 ≤ q ∧ q ≤ 65535) (hl : 0 ≤ l ∧ l ≤ 65535) : aheadM q l = dR q l := by
  have h : bits .and .i64 (IntKind.i64.wrap (q - l)) 65535 = (q - l) % 65536 := by
    rw [show bits .and .i64 (IntKind.i64.wrap (q - l)) 65535 = IntKind.i64.wrap (q - l) % 65536 from and_mask _ 16 (by decide), w64' (by omega) (by omega)]
  unfold aheadM dR
  simp only [h]
  split
  · rw [w64' (by omega) (by omega)]
    split
    · omega
    · split <;> omega
  · split
    · omega
    · split <;> omega
theorem dR_bd {q l : Int} (hq : 0 ≤ q ∧ q ≤ 65535) (hl : 0 ≤ l ∧ l ≤ 65535) : -32768 ≤ dR q l ∧ dR q l ≤ 32767 := by
  unfold dR; split
  · omega
  · split <;> omega
/-- the window's bits are the numbers that came -/
structure Win (s : Sq) (P : Int → Bool) : Prop where
  u : U6 s.had
  b : ∀ k : Nat, (k : Int) < s.len → bt s.had k = P k
def cd (h : Int) (l : Nat) : Nat → Nat
  | 0 => 0
  | n + 1 => cd h l n + if bt h (l - 1 - n) = true then 0 else 1
theorem outs_eq {len h lost : Int} (hl : 1 ≤ len ∧ len ≤ 64) (hu : U6 h) : ∀ n : Nat, (n : Int) < len → U6 (outs len n (h, lost)).1 ∧ (∀ k : Nat, k + n < 64 → bt (outs len n (h, lost)).1 (k + n) = bt h k) ∧ (∀ k : Nat, k < n → bt (outs len n (h, lost)).1 k = false) ∧ (outs len n (h, lost)).2 = inc (cd h len.toNat n) lost
  | 0, _ => ⟨hu, fun k _ => rfl, fun k hk => absurd hk (Nat.not_lt_zero k), rfl⟩
  | n + 1, hn => by
    obtain ⟨a1, a2, a3, a4⟩ := outs_eq hl hu n (by omega)
    have e0 : outs len (n + 1) (h, lost) = outW len (outs len n (h, lost)) := rfl
    generalize outs len n (h, lost) = o at *
    have e1 : (outW len o).1 = IntKind.u64.wrap (o.1 * 2) := rfl
    have e3 : bits .and .u64 (o.1.fdiv (2 ^ min (IntKind.i64.wrap (len - 1)).toNat IntKind.u64.bits)) 1 = 0 ↔ bt o.1 (len.toNat - 1) = false := by
      rw [w64' (by omega) (by omega), show min (len - 1).toNat IntKind.u64.bits = len.toNat - 1 from by rw [show IntKind.u64.bits = 64 from rfl]; omega]
      exact and_shr a1 (by omega)
    have e4 : bt o.1 (len.toNat - 1) = bt h (len.toNat - 1 - n) := by
      rw [← a2 (len.toNat - 1 - n) (by omega), show len.toNat - 1 - n + n = len.toNat - 1 by omega]
    obtain ⟨s1, s2, s3⟩ := bt_shl a1
    rw [e0]
    refine ⟨by rw [e1]; exact s1, fun k hk => ?_, fun k hk => ?_, ?_⟩
    · rw [e1, show k + (n + 1) = k + n + 1 by omega, s2 (k + n) (by omega)]; exact a2 k (by omega)
    · rw [e1]
      cases k with
      | zero => exact s3
      | succ k => rw [s2 k (by omega)]; exact a3 k (by omega)
    · show (if bits .and .u64 (o.1.fdiv (2 ^ min (IntKind.i64.wrap (len - 1)).toNat IntKind.u64.bits)) 1 = 0 then IntKind.i64.wrap (o.2 + 1) else o.2) = inc (cd h len.toNat n + if bt h (len.toNat - 1 - n) = true then 0 else 1) lost
      rw [← e4]
      cases hb : bt o.1 (len.toNat - 1) with
      | false => rw [if_pos (e3.2 hb), a4]; rfl
      | true => rw [if_neg (fun h9 => by rw [e3.1 h9] at hb; cases hb), a4]; rfl
theorem cd_cnt {s : Sq} {P : Int → Bool} (hw : Win s P) (hl : 1 ≤ s.len ∧ s.len ≤ 64) : ∀ n : Nat, (n : Int) ≤ s.len → cd s.had s.len.toNat n = cnt P (s.len - n) n
  | 0, _ => rfl
  | n + 1, hn => by
    rw [cnt_low, show s.len - ((n + 1 : Nat) : Int) + 1 = s.len - n by omega, cd, cd_cnt hw hl n (by omega), hw.b (s.len.toNat - 1 - n) (by omega), show ((s.len.toNat - 1 - n : Nat) : Int) = s.len - ((n + 1 : Nat) : Int) by omega]
    omega
theorem in_go {s : Sq} {now q : Int} (_ : SqOK s) (_ : I6 now) (hq : 0 ≤ q ∧ q ≤ 65535) {w : Int} {t : Sq} (hm : s.mid now q = (w, t)) : s.in_ now q = (w, 0, (t.bump w).fin w now) := in_mid (by omega) hm
theorem mid_vec {s : Sq} {now q : Int} (_ : SqOK s) (_ : I6 now) (_ : 0 ≤ q ∧ q ≤ 65535) (hw : s.way = 0) {t : Sq} (ht : s.turn now = t) : s.mid now q = t.vector q := by
  have e1 := turn_len s now
  have e2 : (s.turn now).match_ q = (0, s.turn now) := by
    unfold Sq.match_
    rw [if_neg (by rw [e1.2.1]; omega)]
  unfold Sq.mid
  rw [e2]
  dsimp only
  rw [if_pos (by rw [e1.2.1]; exact hw), ht]
theorem mid_match {s : Sq} {now q : Int} (_ : SqOK s) (_ : I6 now) (_ : 0 ≤ q ∧ q ≤ 65535) (hw : s.way = 1) {t : Sq} (ht : s.turn now = t) : s.mid now q = if t.any = false ∧ t.last = q then (1, t) else (0, { t with last := q }) := by
  have e1 := turn_len s now
  have e2 := match_len (s.turn now) q
  unfold Sq.mid
  rw [if_neg (by rw [e2.2.1, e1.2.1]; omega)]
  unfold Sq.match_
  rw [if_pos (by rw [e1.2.1]; exact hw), ht]
section
variable {s : Sq} {now q : Int} (h : SqOK s) (hn : I6 now) (hq : 0 ≤ q ∧ q ≤ 65535)
include h hn hq
/-- no numbers yet -/
theorem in_first (hw : s.way = 0) (ha : s.any = true) : s.in_ now q = (0, 0, { s with last := q, had := 1, k0 := IntKind.i64.wrap (s.k0 + 1), wen := now, any := false }) := by
  have ht : s.turn now = s := by rw [turn_eq h hn, if_neg (fun h9 => by rw [ha] at h9; cases h9.1)]
  have hm := mid_vec h hn hq hw ht
  unfold Sq.vector at hm
  rw [if_pos ha] at hm
  rw [in_go h hn hq hm]; rfl
theorem in_long (hw : s.way = 0) (ha : s.any = false) (hl : lgR s now) : s.in_ now q = (0, 0, { s with last := q, had := 1, k0 := IntKind.i64.wrap (s.k0 + 1), wen := now, any := false, resets := IntKind.i64.wrap (s.resets + 1) }) := by
  have ht : s.turn now = s.anew := by rw [turn_eq h hn, if_pos ⟨ha, hl⟩]
  have hm := mid_vec h hn hq hw ht
  unfold Sq.vector at hm
  rw [if_pos (show s.anew.any = true from rfl)] at hm
  rw [in_go h hn hq hm]; rfl
theorem in_twice (hw : s.way = 1) (hc : s.any = false ∧ ¬ lgR s now ∧ s.last = q) : s.in_ now q = (1, 0, { s with k1 := IntKind.i64.wrap (s.k1 + 1) }) := by
  have ht : s.turn now = s := by rw [turn_eq h hn, if_neg (fun h9 => hc.2.1 h9.2)]
  have hm := mid_match h hn hq hw ht
  rw [if_pos ⟨hc.1, hc.2.2⟩] at hm
  rw [in_go h hn hq hm]; rfl
theorem in_once (hw : s.way = 1) (hc : s.any = true ∨ (¬ lgR s now ∧ s.last ≠ q)) : s.in_ now q = (0, 0, { s with last := q, k0 := IntKind.i64.wrap (s.k0 + 1), wen := now, any := false }) := by
  have ht : s.turn now = s := by
    rw [turn_eq h hn, if_neg (fun h9 => ?_)]
    rcases hc with hc | hc
    · rw [hc] at h9; cases h9.1
    · exact hc.1 h9.2
  have hm := mid_match h hn hq hw ht
  rw [if_neg (fun h9 => by
    rcases hc with hc | hc
    · rw [hc] at h9; cases h9.1
    · exact hc.2 h9.2)] at hm
  rw [in_go h hn hq hm]; rfl
theorem in_once2 (hw : s.way = 1) (ha : s.any = false) (hl : lgR s now) : s.in_ now q = (0, 0, { s with last := q, had := 0, k0 := IntKind.i64.wrap (s.k0 + 1), wen := now, any := false, resets := IntKind.i64.wrap (s.resets + 1) }) := by
  have ht : s.turn now = s.anew := by rw [turn_eq h hn, if_pos ⟨ha, hl⟩]
  have hm := mid_match h hn hq hw ht
  rw [if_neg (fun h9 => by cases h9.1)] at hm
  rw [in_go h hn hq hm]; rfl
section
variable (hw : s.way = 0) (ha : s.any = false) (hl : ¬ lgR s now)
include hw ha hl
theorem mid_win : s.mid now q = (if s.len ≤ dR q s.last ∨ dR q s.last ≤ 0 - s.len then (2, s)
    else if dR q s.last ≤ 0 then
      if bits .and .u64 s.had ((2 : Int) ^ (0 - dR q s.last).toNat) = 0 then (3, { s with had := bits .or .u64 s.had ((2 : Int) ^ (0 - dR q s.last).toNat) }) else (1, s)
    else (0, { s with had := bits .or .u64 (outs s.len (dR q s.last).toNat (s.had, s.lost)).1 1, lost := (outs s.len (dR q s.last).toNat (s.had, s.lost)).2, last := q })) := by
  have ht : s.turn now = s := by rw [turn_eq h hn, if_neg (fun h9 => hl h9.2)]
  have hm := mid_vec h hn hq hw ht
  have h1 := h.len
  have h2 := dR_bd hq h.last
  unfold Sq.vector at hm
  rw [if_neg (by rw [ha]; decide), ahead_dR hq h.last] at hm
  simp only [w64' (show -9223372036854775808 ≤ 0 - s.len by omega) (show 0 - s.len ≤ 9223372036854775807 by omega)] at hm
  rw [hm]
  by_cases c1 : s.len ≤ dR q s.last ∨ dR q s.last ≤ 0 - s.len
  · rw [if_pos c1, if_pos c1]
  · rw [if_neg c1, if_neg c1]
    by_cases c2 : dR q s.last ≤ 0
    · rw [if_pos c2, if_pos c2]
      have e : IntKind.u64.wrap (1 * 2 ^ min (IntKind.i64.wrap (0 - dR q s.last)).toNat IntKind.u64.bits) = (2 : Int) ^ (0 - dR q s.last).toNat := by
        rw [w64' (by omega) (by omega), show min (0 - dR q s.last).toNat IntKind.u64.bits = (0 - dR q s.last).toNat from by rw [show IntKind.u64.bits = 64 from rfl]; omega, Int.one_mul]
        obtain ⟨⟨u1, u2⟩, _⟩ := pow_u6 (k := (0 - dR q s.last).toNat) (by omega)
        exact wu64' u1 u2
      rw [e]
    · rw [if_neg c2, if_neg c2]
theorem in_rogue (hc : s.len ≤ dR q s.last ∨ dR q s.last ≤ 0 - s.len) : s.in_ now q = (2, 0, { s with k2 := IntKind.i64.wrap (s.k2 + 1) }) := by
  have hm := mid_win h hn hq hw ha hl
  rw [if_pos hc] at hm
  rw [in_go h hn hq hm]; rfl
variable {P : Int → Bool} (hP : Win s P) (hd : ¬ (s.len ≤ dR q s.last ∨ dR q s.last ≤ 0 - s.len))
include hP hd
theorem in_again (h0 : dR q s.last ≤ 0) (hp : P (0 - dR q s.last) = true) : s.in_ now q = (1, 0, { s with k1 := IntKind.i64.wrap (s.k1 + 1) }) := by
  have hm := mid_win h hn hq hw ha hl
  have h1 := h.len
  have hb := hP.b (0 - dR q s.last).toNat (by omega)
  rw [Int.toNat_of_nonneg (by omega), hp] at hb
  rw [if_neg hd, if_pos h0, if_neg (fun h9 => by rw [(and_pow hP.u (by omega)).1 h9] at hb; cases hb)] at hm
  rw [in_go h hn hq hm]; rfl
theorem in_late_ (h0 : dR q s.last ≤ 0) (hp : P (0 - dR q s.last) = false) : ∃ b, s.in_ now q = (3, 0, { s with had := b, k3 := IntKind.i64.wrap (s.k3 + 1), wen := now, any := false }) ∧ U6 b ∧ ∀ k : Nat, (k : Int) < s.len → bt b k = (P k || decide (0 - dR q s.last = k)) := by
  have hm := mid_win h hn hq hw ha hl
  have h1 := h.len
  have hb := hP.b (0 - dR q s.last).toNat (by omega)
  rw [Int.toNat_of_nonneg (by omega), hp] at hb
  rw [if_neg hd, if_pos h0, if_pos ((and_pow hP.u (by omega)).2 hb)] at hm
  obtain ⟨u, _⟩ := pow_u6 (k := (0 - dR q s.last).toNat) (by omega)
  refine ⟨_, ?_, (or_nat hP.u u).2, fun k hk => ?_⟩
  · rw [in_go h hn hq hm]; rfl
  · rw [bt_or hP.u u, hP.b k hk, bt_pow (by omega)]
    congr 1
    rw [decide_eq_decide]; omega
theorem in_ahead (h0 : ¬ dR q s.last ≤ 0) : ∃ b, s.in_ now q = (0, 0, { s with had := b, last := q, lost := inc (cnt P (s.len - dR q s.last) (dR q s.last).toNat) s.lost, k0 := IntKind.i64.wrap (s.k0 + 1), wen := now, any := false }) ∧ U6 b ∧ ∀ k : Nat, (k : Int) < s.len → bt b k = (decide ((k : Int) = 0) || (decide (dR q s.last ≤ k) && P (k - dR q s.last))) := by
  have hm := mid_win h hn hq hw ha hl
  have h1 := h.len
  rw [if_neg hd, if_neg h0] at hm
  obtain ⟨o1, o2, o3, o4⟩ := outs_eq (lost := s.lost) h.len hP.u (dR q s.last).toNat (by omega)
  have e4 := cd_cnt hP h.len (dR q s.last).toNat (by omega)
  rw [e4, show s.len - ((dR q s.last).toNat : Int) = s.len - dR q s.last by omega] at o4
  have u1 : U6 1 := ⟨by decide, by decide⟩
  refine ⟨_, ?_, (or_nat o1 u1).2, fun k hk => ?_⟩
  · rw [in_go h hn hq hm, o4]; rfl
  · rw [bt_or o1 u1, bt_one, Bool.or_comm]
    congr 1
    · rw [decide_eq_decide]; omega
    · by_cases c : dR q s.last ≤ k
      · rw [decide_eq_true c, Bool.true_and]
        have e := o2 (k - (dR q s.last).toNat) (by omega)
        rw [show k - (dR q s.last).toNat + (dR q s.last).toNat = k by omega] at e
        rw [e, hP.b _ (by omega)]
        congr 1
        omega
      · rw [decide_eq_false c, Bool.false_and]
        exact o3 k (by omega)
end
end
/-! the reference's In, as a function -/
structure RO where
  w : Int
  e : Int
  s : Sq
  kind : Nat
  N : Int → Bool
def rW (s : Sq) (P : Int → Bool) (now q : Int) : RO :=
  if q < 0 ∨ 65535 < q then ⟨2, 1, s, 0, P⟩
  else if s.way = 1 then
    if s.any = false ∧ lgR s now then ⟨0, 0, { s with last := q, k0 := IntKind.i64.wrap (s.k0 + 1), wen := now, any := false, resets := IntKind.i64.wrap (s.resets + 1) }, 1, P⟩
    else if s.any = false ∧ s.last = q then ⟨1, 0, { s with k1 := IntKind.i64.wrap (s.k1 + 1) }, 0, P⟩
    else ⟨0, 0, { s with last := q, k0 := IntKind.i64.wrap (s.k0 + 1), wen := now, any := false }, 0, P⟩
  else if s.any = true then ⟨0, 0, { s with last := q, k0 := IntKind.i64.wrap (s.k0 + 1), wen := now, any := false }, 2, fun k => decide (k = 0)⟩
  else if lgR s now then ⟨0, 0, { s with last := q, k0 := IntKind.i64.wrap (s.k0 + 1), wen := now, any := false, resets := IntKind.i64.wrap (s.resets + 1) }, 2, fun k => decide (k = 0)⟩
  else if s.len ≤ dR q s.last ∨ dR q s.last ≤ 0 - s.len then ⟨2, 0, { s with k2 := IntKind.i64.wrap (s.k2 + 1) }, 0, P⟩
  else if dR q s.last ≤ 0 then
    if P (0 - dR q s.last) = true then ⟨1, 0, { s with k1 := IntKind.i64.wrap (s.k1 + 1) }, 0, P⟩
    else ⟨3, 0, { s with k3 := IntKind.i64.wrap (s.k3 + 1), wen := now, any := false }, 2, fun k => P k || decide (0 - dR q s.last = k)⟩
  else ⟨0, 0, { s with last := q, lost := inc (cnt P (s.len - dR q s.last) (dR q s.last).toNat) s.lost, k0 := IntKind.i64.wrap (s.k0 + 1), wen := now, any := false }, 2, fun k => decide (k = 0) || (P (k - dR q s.last) && decide (k < s.len))⟩
def NilS (s : Sq) : Prop := s.way = 1 ∨ s.any = true
def LstS (s : Sq) (P : Int → Bool) : Prop := s.way = 0 ∧ s.any = false ∧ Win s P ∧ ∀ k, k < 0 → P k = false
/-- how the program's In stands to it -/
structure Goes (s : Sq) (P : Int → Bool) (now q : Int) (b : Int) : Prop where
  eq : s.in_ now q = ((rW s P now q).w, (rW s P now q).e, { (rW s P now q).s with had := b })
  ok : SqOK { (rW s P now q).s with had := b }
  keep : (rW s P now q).kind = 0 → (NilS s → NilS { (rW s P now q).s with had := b }) ∧ (LstS s P → LstS { (rW s P now q).s with had := b } P)
  nil : (rW s P now q).kind = 1 → NilS { (rW s P now q).s with had := b }
  new : (rW s P now q).kind = 2 → LstS { (rW s P now q).s with had := b } (rW s P now q).N
theorem goes {s : Sq} {P : Int → Bool} {now q : Int} (h : SqOK s) (hn : I6 now) (hs : NilS s ∨ LstS s P) : ∃ b, Goes s P now q b := by
  by_cases c0 : q < 0 ∨ 65535 < q
  · have e : rW s P now q = ⟨2, 1, s, 0, P⟩ := by unfold rW; rw [if_pos c0]
    refine ⟨s.had, ?_, ?_, ?_, ?_, ?_⟩ <;> rw [e]
    · exact in_bad (by omega)
    · exact h
    · exact fun _ => ⟨id, id⟩
    · exact fun h9 => absurd h9 (by decide : ¬ (0 : Nat) = 1)
    · exact fun h9 => absurd h9 (by decide : ¬ (0 : Nat) = 2)
  have hq : 0 ≤ q ∧ q ≤ 65535 := by omega
  by_cases cw : s.way = 1
  · by_cases c1 : s.any = false ∧ lgR s now
    · have e : rW s P now q = ⟨0, 0, { s with last := q, k0 := IntKind.i64.wrap (s.k0 + 1), wen := now, any := false, resets := IntKind.i64.wrap (s.resets + 1) }, 1, P⟩ := by unfold rW; rw [if_neg c0, if_pos cw, if_pos c1]
      refine ⟨0, ?_, ?_, ?_, ?_, ?_⟩ <;> rw [e]
      · exact in_once2 h hn hq cw c1.1 c1.2
      · exact ⟨h.way, h.len, h.reset, hq, hn⟩
      · exact fun h9 => absurd h9 (by decide : ¬ (1 : Nat) = 0)
      · exact fun _ => .inl cw
      · exact fun h9 => absurd h9 (by decide : ¬ (1 : Nat) = 2)
    by_cases c2 : s.any = false ∧ s.last = q
    · have e : rW s P now q = ⟨1, 0, { s with k1 := IntKind.i64.wrap (s.k1 + 1) }, 0, P⟩ := by unfold rW; rw [if_neg c0, if_pos cw, if_neg c1, if_pos c2]
      refine ⟨s.had, ?_, ?_, ?_, ?_, ?_⟩ <;> rw [e]
      · exact in_twice h hn hq cw ⟨c2.1, fun h9 => c1 ⟨c2.1, h9⟩, c2.2⟩
      · exact ⟨h.way, h.len, h.reset, h.last, h.wen⟩
      · exact fun _ => ⟨id, fun ⟨a, b, c, d⟩ => ⟨a, b, ⟨c.u, c.b⟩, d⟩⟩
      · exact fun h9 => absurd h9 (by decide : ¬ (0 : Nat) = 1)
      · exact fun h9 => absurd h9 (by decide : ¬ (0 : Nat) = 2)
    · have e : rW s P now q = ⟨0, 0, { s with last := q, k0 := IntKind.i64.wrap (s.k0 + 1), wen := now, any := false }, 0, P⟩ := by unfold rW; rw [if_neg c0, if_pos cw, if_neg c1, if_neg c2]
      refine ⟨s.had, ?_, ?_, ?_, ?_, ?_⟩ <;> rw [e]
      · refine in_once h hn hq cw ?_
        cases ha : s.any with
        | true => exact .inl rfl
        | false => exact .inr ⟨fun h9 => c1 ⟨ha, h9⟩, fun h9 => c2 ⟨ha, h9⟩⟩
      · exact ⟨h.way, h.len, h.reset, hq, hn⟩
      · exact fun _ => ⟨fun _ => .inl cw, fun h9 => absurd (h9.1.symm.trans cw) (by decide)⟩
      · exact fun h9 => absurd h9 (by decide : ¬ (0 : Nat) = 1)
      · exact fun h9 => absurd h9 (by decide : ¬ (0 : Nat) = 2)
  have cw0 : s.way = 0 := h.way.resolve_right cw
  have w1 : ∀ t : Sq, t.had = 1 → Win t fun k => decide (k = 0) := fun t ht => ⟨by rw [ht]; exact ⟨by decide, by decide⟩, fun k _ => by
    rw [ht, bt_one, decide_eq_decide]; omega⟩
  have n1 : ∀ k : Int, k < 0 → decide (k = 0) = false := fun k hk => decide_eq_false (by omega)
  by_cases ca : s.any = true
  · have e : rW s P now q = ⟨0, 0, { s with last := q, k0 := IntKind.i64.wrap (s.k0 + 1), wen := now, any := false }, 2, fun k => decide (k = 0)⟩ := by unfold rW; rw [if_neg c0, if_neg cw, if_pos ca]
    refine ⟨1, ?_, ?_, ?_, ?_, ?_⟩ <;> rw [e]
    · exact in_first h hn hq cw0 ca
    · exact ⟨h.way, h.len, h.reset, hq, hn⟩
    · exact fun h9 => absurd h9 (by decide : ¬ (2 : Nat) = 0)
    · exact fun h9 => absurd h9 (by decide : ¬ (2 : Nat) = 1)
    · exact fun _ => ⟨cw0, rfl, w1 _ rfl, n1⟩
  have ca0 : s.any = false := by simpa using ca
  have hL : LstS s P := hs.resolve_left fun h9 => by rcases h9 with h9 | h9; exact cw h9; exact ca h9
  obtain ⟨_, _, hP, hneg⟩ := hL
  by_cases cl : lgR s now
  · have e : rW s P now q = ⟨0, 0, { s with last := q, k0 := IntKind.i64.wrap (s.k0 + 1), wen := now, any := false, resets := IntKind.i64.wrap (s.resets + 1) }, 2, fun k => decide (k = 0)⟩ := by unfold rW; rw [if_neg c0, if_neg cw, if_neg ca, if_pos cl]
    refine ⟨1, ?_, ?_, ?_, ?_, ?_⟩ <;> rw [e]
    · exact in_long h hn hq cw0 ca0 cl
    · exact ⟨h.way, h.len, h.reset, hq, hn⟩
    · exact fun h9 => absurd h9 (by decide : ¬ (2 : Nat) = 0)
    · exact fun h9 => absurd h9 (by decide : ¬ (2 : Nat) = 1)
    · exact fun _ => ⟨cw0, rfl, w1 _ rfl, n1⟩
  by_cases cr : s.len ≤ dR q s.last ∨ dR q s.last ≤ 0 - s.len
  · have e : rW s P now q = ⟨2, 0, { s with k2 := IntKind.i64.wrap (s.k2 + 1) }, 0, P⟩ := by unfold rW; rw [if_neg c0, if_neg cw, if_neg ca, if_neg cl, if_pos cr]
    refine ⟨s.had, ?_, ?_, ?_, ?_, ?_⟩ <;> rw [e]
    · exact in_rogue h hn hq cw0 ca0 cl cr
    · exact ⟨h.way, h.len, h.reset, h.last, h.wen⟩
    · exact fun _ => ⟨id, fun ⟨a, b, c, d⟩ => ⟨a, b, ⟨c.u, c.b⟩, d⟩⟩
    · exact fun h9 => absurd h9 (by decide : ¬ (0 : Nat) = 1)
    · exact fun h9 => absurd h9 (by decide : ¬ (0 : Nat) = 2)
  by_cases cd0 : dR q s.last ≤ 0
  · by_cases cp : P (0 - dR q s.last) = true
    · have e : rW s P now q = ⟨1, 0, { s with k1 := IntKind.i64.wrap (s.k1 + 1) }, 0, P⟩ := by unfold rW; rw [if_neg c0, if_neg cw, if_neg ca, if_neg cl, if_neg cr, if_pos cd0, if_pos cp]
      refine ⟨s.had, ?_, ?_, ?_, ?_, ?_⟩ <;> rw [e]
      · exact in_again h hn hq cw0 ca0 cl hP cr cd0 cp
      · exact ⟨h.way, h.len, h.reset, h.last, h.wen⟩
      · exact fun _ => ⟨id, fun ⟨a, b, c, d⟩ => ⟨a, b, ⟨c.u, c.b⟩, d⟩⟩
      · exact fun h9 => absurd h9 (by decide : ¬ (0 : Nat) = 1)
      · exact fun h9 => absurd h9 (by decide : ¬ (0 : Nat) = 2)
    · have e : rW s P now q = ⟨3, 0, { s with k3 := IntKind.i64.wrap (s.k3 + 1), wen := now, any := false }, 2, fun k => P k || decide (0 - dR q s.last = k)⟩ := by unfold rW; rw [if_neg c0, if_neg cw, if_neg ca, if_neg cl, if_neg cr, if_pos cd0, if_neg cp]
      obtain ⟨b, e1, e2, e3⟩ := in_late_ h hn hq cw0 ca0 cl hP cr cd0 (by simpa using cp)
      refine ⟨b, ?_, ?_, ?_, ?_, ?_⟩ <;> rw [e]
      · exact e1
      · exact ⟨h.way, h.len, h.reset, h.last, hn⟩
      · exact fun h9 => absurd h9 (by decide : ¬ (2 : Nat) = 0)
      · exact fun h9 => absurd h9 (by decide : ¬ (2 : Nat) = 1)
      · exact fun _ => ⟨cw0, rfl, ⟨e2, e3⟩, fun k hk => by dsimp only; rw [hneg k hk, decide_eq_false (by omega)]; rfl⟩
  · have e : rW s P now q = ⟨0, 0, { s with last := q, lost := inc (cnt P (s.len - dR q s.last) (dR q s.last).toNat) s.lost, k0 := IntKind.i64.wrap (s.k0 + 1), wen := now, any := false }, 2, fun k => decide (k = 0) || (P (k - dR q s.last) && decide (k < s.len))⟩ := by unfold rW; rw [if_neg c0, if_neg cw, if_neg ca, if_neg cl, if_neg cr, if_neg cd0]
    obtain ⟨b, e1, e2, e3⟩ := in_ahead h hn hq cw0 ca0 cl hP cr cd0
    refine ⟨b, ?_, ?_, ?_, ?_, ?_⟩ <;> rw [e]
    · exact e1
    · exact ⟨h.way, h.len, h.reset, hq, hn⟩
    · exact fun h9 => absurd h9 (by decide : ¬ (2 : Nat) = 0)
    · exact fun h9 => absurd h9 (by decide : ¬ (2 : Nat) = 1)
    · refine fun _ => ⟨cw0, rfl, ⟨e2, fun k hk => ?_⟩, fun k hk => ?_⟩
      · have hk' : (k : Int) < s.len := hk
        rw [e3 k hk']
        show _ = (decide ((k : Int) = 0) || (P ((k : Int) - dR q s.last) && decide ((k : Int) < s.len)))
        rw [decide_eq_true hk', Bool.and_true]
        congr 1
        by_cases c : dR q s.last ≤ k
        · rw [decide_eq_true c, Bool.true_and]
        · rw [decide_eq_false c, Bool.false_and, hneg _ (by omega)]
      · dsimp only
        rw [n1 k hk, hneg _ (by omega)]; rfl

end Go.Proofs.Ytlhlegjndembdaa
