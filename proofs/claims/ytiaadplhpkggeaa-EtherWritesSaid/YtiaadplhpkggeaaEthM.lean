/-
  Contracts of functions, and plain facts about them, that a claim of this seat uses.
-/
import Derived.Test.YtiaadplhpkggeaaSx
import Derived.Test.YtiaadplhpkggeaaFcsNum
import Derived.Test.YtiaadplhpkggeaaFcsBits
import Derived.Test.YtiaadplhpkggeaaFcsA
import Derived.Test.YtiaadplhpkggeaaFcsB
import Derived.Test.YtiaadplhpkggeaaFcsIn
import Derived.Test.YtiaadplhpkggeaaFcsC
import Derived.Test.YtiaadplhpkggeaaFcsJ
import Derived.Test.YtiaadplhpkggeaaFcsH
import Derived.Test.YtiaadplhpkggeaaEthNum
import Derived.Test.YtiaadplhpkggeaaEthA
import Derived.Test.YtiaadplhpkggeaaEthB
import Derived.Test.YtiaadplhpkggeaaEthD
import Derived.Test.YtiaadplhpkggeaaProg
namespace Go.Proofs.Ytiaadplhpkggeaa
open Go.Sx
set_option linter.unusedVariables false
set_option linter.unusedSimpArgs false
set_option maxRecDepth 100000

/-! frames: a frame's bytes and what is read from them. -/
theorem pre_at0 (f : Fr) (r : Nat) (hr : r < 12) : preC f r = [f.a0, f.a1, f.a2, f.a3, f.a4, f.a5, f.b0, f.b1, f.b2, f.b3, f.b4, f.b5].getD r 0 := by
  unfold preC pre
  rw [List.append_assoc, List.getD_eq_getElem?_getD, List.getD_eq_getElem?_getD, List.getElem?_append_left (by exact hr)]
theorem pre_tag (f : Fr) (h : f.tg = true) (j : Nat) (hj : j < 4) : preC f (12 + j) = [129, 0, hi (tag f), lo (tag f)].getD j 0 := by
  unfold preC pre
  rw [h]
  show List.getD ([f.a0, f.a1, f.a2, f.a3, f.a4, f.a5, f.b0, f.b1, f.b2, f.b3, f.b4, f.b5] ++ [129, 0, hi (tag f), lo (tag f)] ++ _) (12 + j) 0 = _
  rw [List.append_assoc, List.getD_eq_getElem?_getD, List.getD_eq_getElem?_getD, List.getElem?_append_right (by simp), List.getElem?_append_left (by simp; omega)]
  congr 2
  simp
theorem tag_bd {f : Fr} (h : chk f = 0) : 0 ≤ tag f ∧ tag f < 65536 := by
  have := fr_bd h
  unfold tag
  split <;> omega
theorem hilo {x : Int} (h : 0 ≤ x ∧ x < 65536) : hi x * 256 + lo x = x := by unfold hi lo; omega
theorem inG_pre {f : Fr} {r : Nat} (h : r < hl f) : inG f r = preC f r := by unfold inG; rw [if_pos h]; rfl
theorem inG_typ {f : Fr} (j : Nat) (h : j < 4) : inG f (hl f + j) = [hi f.typ, lo f.typ, hi f.data.len, lo f.data.len].getD j 0 := by
  unfold inG
  rw [if_neg (by omega), if_pos (by omega), Nat.add_sub_cancel_left]
theorem inG_data {f : Fr} (j : Nat) (h : j < f.data.len) : inG f (hl f + 4 + j) = f.data.g j := by
  unfold inG
  rw [if_neg (by omega), if_neg (by omega), if_pos (by omega), Nat.add_sub_cancel_left]
theorem inG_zero {f : Fr} {r : Nat} (h : hl f + 4 + f.data.len ≤ r) : inG f r = 0 := by
  unfold inG
  rw [if_neg (by omega), if_neg (by omega), if_neg (by omega)]
theorem ht_hl (f : Fr) : (f.many = true ∧ hl f = ht f + 6) ∨ (f.many = false ∧ hl f = ht f) := by
  unfold hl ht
  cases f.many <;> simp
theorem ht_tg (f : Fr) : (f.tg = true ∧ ht f = 16) ∨ (f.tg = false ∧ ht f = 12) := by
  unfold ht
  cases f.tg <;> simp
theorem len_bd {f : Fr} (h : chk f = 0) : f.data.len ≤ 1580 := by
  have h2 := (chk_0 h).2.2.2.2
  unfold siz at h2
  split at h2 <;> split at h2 <;> omega
/-- what is read out of a frame's bytes -/
structure Parsed (f : Fr) (g : Nat → Int) : Prop where
  t : dT g = f.tg
  m : dM g = f.many
  q1 : o1 g = ht f
  q2 : o2 g = hl f
  v : dV g = f.vid
  p : dP g = f.prio
  d : dD g = f.drop
  s : dS g = f.seq
  y : w16 g (o2 g) = f.typ
  n : dn g = f.data.len
  z : f.many = true → w16 g (o1 g + 2) = 0
  a : g 0 = f.a0 ∧ g 1 = f.a1 ∧ g 2 = f.a2 ∧ g 3 = f.a3 ∧ g 4 = f.a4 ∧ g 5 = f.a5
  b : g 6 = f.b0 ∧ g 7 = f.b1 ∧ g 8 = f.b2 ∧ g 9 = f.b3 ∧ g 10 = f.b4 ∧ g 11 = f.b5
theorem parsed {f : Fr} {g : Nat → Int} (hc : chk f = 0) (hg : ∀ r, r < tot f → g r = inG f r) : Parsed f g := by
  have hbd := fr_bd hc
  obtain ⟨c1, c2, c3, c4, c5⟩ := chk_0 hc
  have htb := tot_bd hc
  have hlc := hl_c f
  have hhl := ht_hl f
  have htg := ht_tg f
  have htt := tag_bd hc
  have hlb := len_bd hc
  have htot : hl f + 4 + f.data.len ≤ tot f := by unfold tot; omega
  have hq : ∀ r, r < hl f → g r = preC f r := fun r hr => (hg r (by omega)).trans (inG_pre hr)
  have hy : ∀ j, j < 4 → g (hl f + j) = [hi f.typ, lo f.typ, hi f.data.len, lo f.data.len].getD j 0 := fun j hj => (hg _ (by omega)).trans (inG_typ j hj)
  have wy : w16 g (hl f) = f.typ := by
    unfold w16
    rw [show g (hl f) = hi f.typ from hy 0 (by omega), show g (hl f + 1) = lo f.typ from hy 1 (by omega)]
    exact hilo (by omega)
  have wn : w16 g (hl f + 2) = f.data.len := by
    unfold w16
    rw [show g (hl f + 2) = hi f.data.len from hy 2 (by omega), show g (hl f + 2 + 1) = lo f.data.len from hy 3 (by omega)]
    exact hilo (by omega)
  have h0 : ∀ r, r < 12 → g r = [f.a0, f.a1, f.a2, f.a3, f.a4, f.a5, f.b0, f.b1, f.b2, f.b3, f.b4, f.b5].getD r 0 := fun r hr => (hq r (by omega)).trans (pre_at0 f r hr)
  have hm : ∀ j, j < 6 → f.many = true → g (ht f + j) = [241, 193, 0, 0, hi f.seq, lo f.seq].getD j 0 := fun j hj h => (hq _ (by rcases hhl with h1 | h1 <;> simp_all <;> omega)).trans (pre_at f h j)
  have ht4 : ∀ j, j < 4 → f.tg = true → g (12 + j) = [129, 0, hi (tag f), lo (tag f)].getD j 0 := fun j hj h => (hq _ (by rcases htg with h1 | h1 <;> simp_all <;> omega)).trans (pre_tag f h j hj)
  have wm : f.many = true → w16 g (ht f) = 61889 ∧ w16 g (ht f + 2) = 0 ∧ w16 g (ht f + 4) = f.seq := fun h => by
    refine ⟨?_, ?_, ?_⟩
    · unfold w16
      rw [show g (ht f) = 241 from hm 0 (by omega) h, show g (ht f + 1) = 193 from hm 1 (by omega) h]; rfl
    · unfold w16
      rw [show g (ht f + 2) = 0 from hm 2 (by omega) h, show g (ht f + 2 + 1) = 0 from hm 3 (by omega) h]; rfl
    · unfold w16
      rw [show g (ht f + 4) = hi f.seq from hm 4 (by omega) h, show g (ht f + 4 + 1) = lo f.seq from hm 5 (by omega) h]
      exact hilo (by omega)
  have wt : f.tg = true → w16 g 12 = 33024 ∧ w16 g 14 = tag f := fun h => by
    refine ⟨?_, ?_⟩
    · unfold w16
      rw [show g 12 = 129 from ht4 0 (by omega) h, show g (12 + 1) = 0 from ht4 1 (by omega) h]; rfl
    · unfold w16
      rw [show g 14 = hi (tag f) from ht4 2 (by omega) h, show g (14 + 1) = lo (tag f) from ht4 3 (by omega) h]
      exact hilo htt
  have eT : dT g = f.tg := by
    cases h : f.tg
    · refine decide_eq_false ?_
      rcases htg with h1 | h1
      · rw [h] at h1; exact absurd h1.1 (by decide)
      · rcases hhl with h2 | h2
        · rw [← h1.2, (wm h2.1).1]; decide
        · rw [← h1.2, ← h2.2, wy]; exact c3
    · exact decide_eq_true (wt h).1
  have e1 : o1 g = ht f := by unfold o1 ht; rw [eT]; split <;> rfl
  have eM : dM g = f.many := by
    unfold dM
    rw [e1]
    cases h : f.many
    · refine decide_eq_false ?_
      rcases hhl with h2 | h2
      · rw [h] at h2; exact absurd h2.1 (by decide)
      · rw [← h2.2, wy]; exact c4
    · exact decide_eq_true (wm h).1
  have e2 : o2 g = hl f := by
    unfold o2
    rw [eM, e1]
    rcases hhl with h2 | h2 <;> rw [h2.1, h2.2] <;> rfl
  have hbt := c2
  unfold BadT at hbt
  refine ⟨eT, eM, e1, e2, ?_, ?_, ?_, ?_, by rw [e2]; exact wy, by unfold dn; rw [e2, wn]; rfl, fun h => by rw [e1]; exact (wm h).2.1, ⟨h0 0 (by omega), h0 1 (by omega), h0 2 (by omega), h0 3 (by omega), h0 4 (by omega), h0 5 (by omega)⟩, h0 6 (by omega), h0 7 (by omega), h0 8 (by omega), h0 9 (by omega), h0 10 (by omega), h0 11 (by omega)⟩
  · unfold dV
    rw [eT]
    cases h : f.tg
    · exact Classical.byContradiction fun hv => hbt (.inl ⟨h, .inl (fun e => hv e.symm)⟩)
    · rw [if_pos rfl, (wt h).2]; unfold tag; split <;> omega
  · unfold dP
    rw [eT]
    cases h : f.tg
    · exact Classical.byContradiction fun hv => hbt (.inl ⟨h, .inr (.inl (fun e => hv e.symm))⟩)
    · rw [if_pos rfl, (wt h).2]; unfold tag; split <;> omega
  · unfold dD
    rw [eT]
    cases h : f.tg
    · cases hd : f.drop
      · rfl
      · exact absurd (Or.inl ⟨h, .inr (.inr hd)⟩) hbt
    · rw [if_pos rfl, (wt h).2]; unfold tag
      cases hd : f.drop
      · exact decide_eq_false (by simp; omega)
      · exact decide_eq_true (by simp; omega)
  · unfold dS
    rw [eM, e1]
    cases h : f.many
    · exact Classical.byContradiction fun hv => hbt (.inr ⟨h, fun e => hv e.symm⟩)
    · rw [if_pos rfl]; exact (wm h).2.2
theorem ht_frD (g : Nat → Int) (d : IS) : ht (frD g d) = o1 g := by
  show 12 + (if dT g = true then 4 else 0) = o1 g
  unfold o1; split <;> rfl
theorem hl_frD (g : Nat → Int) (d : IS) : hl (frD g d) = o2 g := by
  have h1 := ht_frD g d
  rcases ht_hl (frD g d) with h | h
  · rw [h.2, h1]; unfold o2; rw [if_pos (show dM g = true from h.1)]
  · rw [h.2, h1]; unfold o2; rw [if_neg (show ¬ dM g = true from fun h9 => by have h8 : dM g = false := h.1; rw [h8] at h9; cases h9)]
theorem hi_w {g : Nat → Int} {n i : Nat} (hb : Bytes g n) (h : i + 1 < n) : hi (w16 g i) = g i ∧ lo (w16 g i) = g (i + 1) := by
  have h1 := hb i (by omega)
  have h2 := hb (i + 1) h
  unfold hi lo w16; omega
theorem frd_pre {g : Nat → Int} {len : Nat} (hb : Bytes g len) (h64 : 64 ≤ len) (hz : dM g = true → w16 g (o1 g + 2) = 0) (d : IS) (r : Nat) (hr : r < o2 g) : preC (frD g d) r = g r := by
  have ho1 := o1_c g
  have ho2 := o2_c g
  have eh := ht_frD g d
  by_cases h1 : r < 12
  · rw [pre_at0 _ _ h1]
    rcases (by omega : r = 0 ∨ r = 1 ∨ r = 2 ∨ r = 3 ∨ r = 4 ∨ r = 5 ∨ r = 6 ∨ r = 7 ∨ r = 8 ∨ r = 9 ∨ r = 10 ∨ r = 11) with h | h | h | h | h | h | h | h | h | h | h | h <;> subst h <;> rfl
  · by_cases h2 : r < o1 g
    · have hT : dT g = true := by
        rcases ho1 with h | h
        · exact h.1
        · omega
      have e12 : w16 g 12 = 33024 := of_decide_eq_true hT
      have b12 := hb 12 (by omega)
      have b13 := hb 13 (by omega)
      have et : tag (frD g d) = w16 g 14 := by
        obtain ⟨q1, q2, q3, q4⟩ := dT_t hT
        have hbd := w16_bd hb (i := 14) (by omega)
        show dP g * 8192 + (if dD g = true then 4096 else 0) + dV g = _
        rw [q2, q3, q4]
        by_cases hd : w16 g 14 / 4096 % 2 = 1
        · rw [if_pos (decide_eq_true hd)]; omega
        · rw [if_neg (by rw [decide_eq_false hd]; decide)]; omega
      obtain ⟨w1, w2⟩ := hi_w hb (i := 14) (by omega)
      have hp := pre_tag (frD g d) hT (r - 12) (by rcases ho1 with h | h <;> omega)
      rw [show 12 + (r - 12) = r by omega] at hp
      rw [hp, et, w1, w2]
      have e12 : g 12 * 256 + g 13 = 33024 := e12
      rcases (by rcases ho1 with h | h <;> omega : r = 12 ∨ r = 13 ∨ r = 14 ∨ r = 15) with h | h | h | h <;> subst h
      · show 129 = g 12; omega
      · show 0 = g 13; omega
      · rfl
      · rfl
    · have hM : dM g = true := by
        rcases ho2 with h | h
        · exact h.1
        · omega
      have e0 : w16 g (o1 g) = 61889 := of_decide_eq_true hM
      have e2 := hz hM
      obtain ⟨_, eS⟩ := dM_t hM
      have hlt : o1 g + 5 < len := by rcases ho1 with h | h <;> omega
      have c0 := hb (o1 g) (by omega)
      have c1 := hb (o1 g + 1) (by omega)
      have c2 := hb (o1 g + 2) (by omega)
      have c3 := hb (o1 g + 3) (by omega)
      obtain ⟨w1, w2⟩ := hi_w hb (i := o1 g + 4) (by omega)
      have hp := pre_at (frD g d) hM (r - o1 g)
      rw [eh, show o1 g + (r - o1 g) = r by omega] at hp
      rw [hp, show (frD g d).seq = w16 g (o1 g + 4) from eS, w1, w2]
      have e0 : g (o1 g) * 256 + g (o1 g + 1) = 61889 := e0
      have e2 : g (o1 g + 2) * 256 + g (o1 g + 3) = 0 := e2
      rcases (by rcases ho2 with h | h <;> omega : r = o1 g ∨ r = o1 g + 1 ∨ r = o1 g + 2 ∨ r = o1 g + 3 ∨ r = o1 g + 4 ∨ r = o1 g + 5) with h | h | h | h | h | h
      · rw [show r - o1 g = 0 by omega, h]; show 241 = g (o1 g); omega
      · rw [show r - o1 g = 1 by omega, h]; show 193 = g (o1 g + 1); omega
      · rw [show r - o1 g = 2 by omega, h]; show 0 = g (o1 g + 2); omega
      · rw [show r - o1 g = 3 by omega, h]; show 0 = g (o1 g + 3); omega
      · rw [show r - o1 g = 4 by omega, h]; rfl
      · rw [show r - o1 g = 5 by omega, h]; rfl
theorem frd_in {g : Nat → Int} {len : Nat} (hb : Bytes g len) (h64 : 64 ≤ len) (hz : dM g = true → w16 g (o1 g + 2) = 0) (hn : o2 g + 4 + dn g ≤ len - 4) {d : IS} (hd : d.len = dn g) (hdg : ∀ r, r < dn g → d.g r = dG g r) (r : Nat) (hr : r < o2 g + 4 + dn g) : inG (frD g d) r = g r := by
  have eh := hl_frD g d
  have hbd := w16_bd hb (i := o2 g + 2) (by omega)
  have hdn : dn g = (w16 g (o2 g + 2)).toNat := rfl
  by_cases h1 : r < o2 g
  · rw [inG_pre (by omega), frd_pre hb h64 hz d r h1]
  · by_cases h2 : r < o2 g + 4
    · have hp := inG_typ (f := frD g d) (r - o2 g) (by omega)
      rw [eh, show o2 g + (r - o2 g) = r by omega] at hp
      obtain ⟨w1, w2⟩ := hi_w hb (i := o2 g) (by omega)
      obtain ⟨w3, w4⟩ := hi_w hb (i := o2 g + 2) (by omega)
      rw [hp, show (frD g d).typ = w16 g (o2 g) from rfl, show (((frD g d).data.len : Nat) : Int) = w16 g (o2 g + 2) by rw [show (frD g d).data.len = dn g from hd]; omega, w1, w2, w3, w4]
      rcases (by omega : r = o2 g ∨ r = o2 g + 1 ∨ r = o2 g + 2 ∨ r = o2 g + 3) with h | h | h | h
      · rw [show r - o2 g = 0 by omega, h]; rfl
      · rw [show r - o2 g = 1 by omega, h]; rfl
      · rw [show r - o2 g = 2 by omega, h]; rfl
      · rw [show r - o2 g = 3 by omega, h]; rfl
    · have hp := inG_data (f := frD g d) (r - (o2 g + 4)) (by show _ < d.len; omega)
      rw [eh, show o2 g + 4 + (r - (o2 g + 4)) = r by omega] at hp
      rw [hp, show (frD g d).data.g = d.g from rfl, hdg _ (by omega)]
      unfold dG
      rw [show o2 g + 4 + (r - (o2 g + 4)) = r by omega]
theorem op_cl {g : Nat → Int} {len : Nat} (hb : Bytes g len) (h4 : 4 ≤ len) (hm : len ≤ 100000) (ho : opB g len) (r : Nat) (hr : r < len) : clG g (len - 4) r = g r := by
  have hw : Bw ⟨len, len, len, g⟩ := Bw.mk hb (Nat.le_refl _) (Nat.le_refl _) (by show len ≤ _; omega)
  have hk : len - 4 + 4 = len := by omega
  have h := opens_same (a := ⟨len, len, len, g⟩) hw h4 (x := ⟨len, clG g (len - 4)⟩) (k := len - 4) hk ⟨by show len - 4 + 4 ≤ len; omega, by show len ≤ _; omega, fun r _ => rfl⟩
  have h1 : opD ⟨len, len, len, g⟩ = true := decide_eq_true ho
  rw [h1] at h
  have hbk : ∀ r, r < len - 4 → 0 ≤ g r ∧ g r < 256 := fun r hr => hb r (by omega)
  have h2 := (sameB_iff (a := ⟨len - 4 + 4, len, len - 0, fun q => clG g (len - 4) (q + 0)⟩) (b := ⟨len, len, len - 0, fun q => g (q + 0)⟩) (fun r _ => clG_wf hbk r) hb).1 h.symm
  exact h2.2 r (by show r < len - 4 + 4; omega)
theorem dok_eq {g : Nat → Int} {len : Nat} (hb : Bytes g len) (h64 : 64 ≤ len) (hm : len ≤ 1600) (ho : opB g len) (hn : o2 g + 4 + dn g ≤ len - 4) {d : IS} (hd : d.len = dn g) (hdg : ∀ r, r < dn g → d.g r = dG g r) (hc : chk (frD g d) = 0) :
    DOk g len ↔ len = tot (frD g d) + 4 ∧ ∀ r, r < len → clG (inG (frD g d)) (tot (frD g d)) r = g r := by
  have eh := hl_frD g d
  have ht' := ht_frD g d
  have hst := siz_tot (frD g d)
  have esz : siz (frD g d) = siz (frD g (d0 (dn g))) := siz_d hd
  have htot : o2 g + 4 + dn g ≤ tot (frD g d) := by
    unfold tot
    rw [eh, show (frD g d).data.len = dn g from hd]; omega
  constructor
  · intro h
    have e1 : len = tot (frD g d) + 4 := by have h9 := h.s; rw [← esz] at h9; omega
    refine ⟨e1, fun r hr => ?_⟩
    have hin : ∀ q, q < tot (frD g d) → inG (frD g d) q = g q := fun q hq => by
      by_cases h1 : q < o2 g + 4 + dn g
      · exact frd_in hb h64 h.z h.n hd hdg q h1
      · rw [h.f q (by omega) (by omega), inG_zero (by rw [eh, show (frD g d).data.len = dn g from hd]; omega)]
    rw [clG_congr hin r, show tot (frD g d) = len - 4 by omega]
    exact op_cl hb (by omega) (by omega) ho r hr
  · rintro ⟨e1, h⟩
    have hin : ∀ q, q < tot (frD g d) → inG (frD g d) q = g q := fun q hq => by
      have := h q (by omega)
      rw [clG_old hq] at this; exact this
    refine ⟨fun hM => ?_, hn, by rw [← chk_d hd]; exact hc, by rw [← esz]; omega, fun r h1 h2 => ?_⟩
    · have ho2 := o2_c g
      obtain ⟨q1, _⟩ := dM_t hM
      have p2 := pre_at (frD g d) hM 2
      have p3 := pre_at (frD g d) hM 3
      rw [ht'] at p2 p3
      unfold w16
      rw [← hin (o1 g + 2) (by omega), ← hin (o1 g + 2 + 1) (by omega), inG_pre (by omega), inG_pre (by omega), p2, show preC (frD g d) (o1 g + 2 + 1) = 0 from p3]
      rfl
    · rw [← hin r (by omega)]
      exact inG_zero (by rw [eh, show (frD g d).data.len = dn g from hd]; omega)
theorem frD_eta (g : Nat → Int) (n c N : Nat) (x : Nat → Int) : (⟨(frD g (d0 0)).a0, (frD g (d0 0)).a1, (frD g (d0 0)).a2, (frD g (d0 0)).a3, (frD g (d0 0)).a4, (frD g (d0 0)).a5, (frD g (d0 0)).b0, (frD g (d0 0)).b1, (frD g (d0 0)).b2, (frD g (d0 0)).b3, (frD g (d0 0)).b4, (frD g (d0 0)).b5, (frD g (d0 0)).tg, (frD g (d0 0)).vid, (frD g (d0 0)).prio, (frD g (d0 0)).drop, (frD g (d0 0)).many, (frD g (d0 0)).seq, (frD g (d0 0)).typ, ⟨n, c, N, x⟩⟩ : Fr) = frD g ⟨n, c, N, x⟩ := rfl
abbrev fam (n : Nat) (y : CG) : IS := ⟨n, y.cap, y.cap - 0, fun q => y.g (q + 0)⟩
theorem frD_w {a : IS} (hw : Bw a) (h64 : 64 ≤ a.len) (hn : o2 a.g + 4 + dn a.g ≤ a.len - 4) {y : CG} (hy : CB (dn a.g) (dG a.g) y) : FrW (frD a.g (fam (dn a.g) y)) := by
  have hb := hw.out.1
  have ho1 := o1_c a.g
  have ho2 := o2_c a.g
  refine ⟨⟨hb 0 (by omega), hb 1 (by omega), hb 2 (by omega), hb 3 (by omega), hb 4 (by omega), hb 5 (by omega)⟩, ⟨hb 6 (by omega), hb 7 (by omega), hb 8 (by omega), hb 9 (by omega), hb 10 (by omega), hb 11 (by omega)⟩, hy.bw fun r hr => ?_⟩
  exact hb _ (by omega)
theorem dec_enc {a : IS} (hw : Bw a) (h64 : 64 ≤ a.len) (hm : a.len ≤ 1600) (ho : opB a.g a.len) (h : DOk a.g a.len) {y : CG} (hy : CB (dn a.g) (dG a.g) y) :
    FrW (frD a.g (fam (dn a.g) y)) ∧ Sml (frD a.g (fam (dn a.g) y)) ∧ chk (frD a.g (fam (dn a.g) y)) = 0 ∧ a.len = tot (frD a.g (fam (dn a.g) y)) + 4 ∧
      ∀ r, r < a.len → clG (inG (frD a.g (fam (dn a.g) y))) (tot (frD a.g (fam (dn a.g) y))) r = a.g r := by
  have hb := hw.out.1
  have hn := h.n
  have hc : chk (frD a.g (fam (dn a.g) y)) = 0 := (chk_d (d := fam (dn a.g) y) rfl).trans h.c
  have he := (dok_eq hb h64 hm ho h.n (d := fam (dn a.g) y) rfl hy.2.2 hc).1 h
  exact ⟨frD_w hw h64 h.n hy, by show dn a.g ≤ 100000; omega, hc, he⟩
theorem same_fam {a : IS} {n : Nat} {f : Nat → Int} {x : CG} (ha : Bw a) (h1 : a.len = n) (hx : CB n f x) (hf : ∀ r, r < n → f r = a.g r) : sameB a (fam n x) = true :=
  (sameB_iff ha.1 (fun r hr => by
    have hr : r < n := hr
    show 0 ≤ x.g r ∧ x.g r < 256
    rw [hx.2.2 r hr, hf r hr]
    exact ha.1 r (by omega))).2 ⟨h1, fun r hr => by show a.g r = x.g r; rw [hx.2.2 r (by omega), hf r (by omega)]⟩
theorem derr_cases (a : IS) (ho : opB a.g a.len) (hm : a.len ≤ 1600) : (derr a = 20 ∧ a.len < 64) ∨ derr a = 21 ∨ (derr a = 0 ∧ 64 ≤ a.len ∧ DOk a.g a.len) := by
  by_cases h1 : a.len < 64
  · exact .inl ⟨derr_20 h1, h1⟩
  · by_cases h2 : DOk a.g a.len
    · exact .inr (.inr ⟨derr_0 h1 (by omega) ho h2, by omega, h2⟩)
    · exact .inr (.inl (derr_21 h1 (by omega) ho h2))
theorem closed_w {b : IS} (hb : Bw b) {x : CG} (hx : CB (b.len + 4) (clG b.g b.len) x) : Bw (fam (b.len + 4) x) ∧ opB (fam (b.len + 4) x).g (b.len + 4) :=
  ⟨hx.bw fun r _ => clG_wf hb.1 r, close_op hb.1 hx⟩

end Go.Proofs.Ytiaadplhpkggeaa
