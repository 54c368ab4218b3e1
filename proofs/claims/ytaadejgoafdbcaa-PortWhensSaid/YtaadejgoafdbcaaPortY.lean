/-
  Contracts of functions, and plain facts about them, that a claim of this seat uses.
-/
import Derived.Test.YtaadejgoafdbcaaSx
import Derived.Test.YtaadejgoafdbcaaPortX
import Derived.Test.YtaadejgoafdbcaaPLanS
import Derived.Test.YtaadejgoafdbcaaProg
namespace Go.Proofs.Ytaadejgoafdbcaa
open Go.Sx
set_option linter.unusedVariables false
set_option linter.unusedSimpArgs false
set_option maxRecDepth 100000

/-! PortWhens, plainly: how many looks there may be. -/
theorem wh_spec {l : GL} {y : CL} {q : Ln} {now : Int} (hy : CS l.len l y) (h0 : chk l = 0) (hn : 0 ≤ now ∧ now ≤ 549755813888) (hs : SZ q) :
    ((whV (opP l y q) now).2 = true → ((whV (opP l y q) now).1 = now ∧ ∃ j, j < 8 ∧ 0 < q.n j ∧ fit l q now j) ∨ (now < (whV (opP l y q) now).1 ∧ (∀ j, j < 8 → 0 < q.n j → ¬ fit l q now j ∧ (nb l now j → (whV (opP l y q) now).1 ≤ cand l now j)) ∧ ∃ j, j < 8 ∧ 0 < q.n j ∧ nb l now j ∧ (whV (opP l y q) now).1 = cand l now j)) ∧
    ((whV (opP l y q) now).2 = false → ∀ j, j < 8 → 0 < q.n j → ¬ fit l q now j ∧ ¬ nb l now j) := by
  have ha : atG (opP l y q).g now = (opP l y q).g := atG_no (sw_no rfl)
  by_cases hany : anyTo (opP l y q).q 8 = false
  · have e : whV (opP l y q) now = (0, false) := if_pos hany
    rw [e]
    refine ⟨fun h => (by cases h), fun _ j hj hp => ?_⟩
    have := any_pos (q := q) hj hp
    rw [show (opP l y q).q = q from rfl, this] at hany
    cases hany
  · have e : whV (opP l y q) now = match whL (cp l y) q (lf8 (cp l y) 0 false now) now 8 0 0 false with
        | none => (now, true)
        | some (b, f) => whEnd (opP l y q).g now b f := by
      unfold whV lfA
      rw [if_neg hany, ha]; rfl
    have w := wl_spec hy h0 hn hs 8 0 0 false rfl (fun h => by cases h) (fun j hj => absurd hj (Nat.not_lt_zero j))
    cases hw : whL (cp l y) q (lf8 (cp l y) 0 false now) now 8 0 0 false with
    | none =>
      rw [hw] at w e
      rw [e]
      exact ⟨fun _ => .inl ⟨rfl, w⟩, fun h => by cases h⟩
    | some bf =>
      obtain ⟨b, f⟩ := bf
      rw [hw] at w e
      have e2 : whEnd (opP l y q).g now b f = (b, f && decide (now < b)) := if_neg (fun hh => absurd hh.1 (by show ¬ (false = true); decide))
      have e : whV (opP l y q) now = (b, f && decide (now < b)) := e.trans e2
      rw [e]
      obtain ⟨w1, w2⟩ := w
      have hb : f = true → now < b := fun hf => by
        obtain ⟨j, j1, j2, j3, j4⟩ := w2 hf
        obtain ⟨⟨l1, l2⟩, l3, l4, l5⟩ := not_fit h0 hn j1 (hs j j1 0 j2) (w1 j j1 j2).1
        have := nb_pos l4 j3
        rw [j4]; unfold cand; omega
      refine ⟨fun h => .inr ?_, fun h j hj hp => ⟨(w1 j hj hp).1, fun hh => ?_⟩⟩
      · have hf : f = true := by cases f with | true => rfl | false => cases h
        exact ⟨hb hf, fun j hj hp => ⟨(w1 j hj hp).1, fun hh => ((w1 j hj hp).2 hh).2⟩, w2 hf⟩
      · have hf := ((w1 j hj hp).2 hh).1
        have h : (f && decide (now < b)) = false := h
        rw [hf, decide_eq_true (hb hf)] at h
        cases h
theorem wh_p {l : GL} {y : CL} {q : Ln} {now : Int} : whP (opP l y q) now = opP l y q := by
  unfold whP
  split
  · rfl
  · rw [atG_no (sw_no rfl)]; rfl
/-- nothing goes ahead of the time that When says -/
theorem early {l : GL} {q : Ln} {now t at_ : Int} {c : Nat} (h0 : chk l = 0) (hn : 0 ≤ now ∧ now ≤ 549755813888) (hc : c < 8) (hs : 0 ≤ q.sz c 0 ∧ q.sz c 0 ≤ 1600) (hf : ¬ fit l q now c) (hb : nb l now c → at_ ≤ cand l now c) (h1 : now < t) (h2 : t < at_) (ht : t ≤ 1099511627776) : ¬ fit l q t c := by
  obtain ⟨⟨l1, l2⟩, l3, l4, l5⟩ := not_fit h0 hn hc hs hf
  intro h
  have h := (left_iff (k := c) h0 (by unfold inR; omega) (by unfold gateR; omega) (by omega)).1 h
  rcases Int.lt_or_le (now + leftV l now c) t with h9 | h9
  · have g := h 0 (Int.le_refl _) (by omega)
    rw [Int.add_zero] at g
    obtain ⟨e1, e2⟩ := next_first (k := c) h0 l5 (by unfold gateR; omega) (by omega) g
    have := hb e1
    unfold cand at this
    omega
  · have g := h (now + leftV l now c - t) (by omega) (by omega)
    rw [show t + (now + leftV l now c - t) = now + leftV l now c by omega] at g
    omega
/-- the next time that is T modulo the cycle -/
def tn (l : GL) (now T : Int) : Int := now + (T - now) % l.cyc
theorem tn_op {l : GL} {now T w : Int} {k : Int} (h : Op l k T w) : Op l k (tn l now T) w := fun j h1 h2 => by
  have e := Int.mul_ediv_add_emod (T - now) l.cyc
  unfold tn
  rw [show now + (T - now) % l.cyc + j = (T + j) + l.cyc * (-((T - now) / l.cyc)) by rw [Int.mul_neg]; omega, gT_per]
  exact h j h1 h2
theorem tn_bd {l : GL} (hc : 0 < l.cyc) (now T : Int) : now ≤ tn l now T ∧ tn l now T < now + l.cyc := by
  have e1 := Int.emod_nonneg (T - now) (show l.cyc ≠ 0 by omega)
  have e2 := Int.emod_lt_of_pos (T - now) hc
  unfold tn; omega
theorem tn_same {l : GL} {now at_ T : Int} (hc : 0 < l.cyc) (h1 : now ≤ at_) (h2 : at_ ≤ tn l now T) : tn l at_ T = tn l now T := by
  have e := Int.mul_ediv_add_emod (T - now) l.cyc
  obtain ⟨b1, b2⟩ := tn_bd hc now T
  have e3 : T - at_ = (tn l now T - at_) + l.cyc * ((T - now) / l.cyc) := by unfold tn; omega
  show at_ + (T - at_) % l.cyc = _
  rw [e3, Int.add_mul_emod_self_left, Int.emod_eq_of_lt (by omega) (by omega)]
  omega
/-- how many looks there were, and may yet be -/
def Pot (l : GL) (k : Nat) (q : Ln) (now : Int) : Prop := ∀ c, c < 8 → 0 < q.n c → ∀ T, Op l c T 12800 → (k : Int) + 66 * sumN q 8 + bnd l now (tn l now T) ≤ 1384
theorem bnd_bd {l : GL} (h0 : chk l = 0) (now T : Int) : 0 ≤ bnd l now (tn l now T) ∧ bnd l now (tn l now T) ≤ 64 := by
  have ok := chk_ok h0
  have c1 := ok.c1
  have n2 := ok.n2
  obtain ⟨b1, b2⟩ := tn_bd (l := l) (by omega) now T
  have h1 := bndK_0 (l := l) (a := now) (b := tn l now T) (by omega) b1 l.len
  have h2 := bndK_le (l := l) (a := now) (b := tn l now T) (by omega) (by omega) l.len
  unfold bnd; omega
theorem pot_0 {l : GL} {q : Ln} {now : Int} (h0 : chk l = 0) (hw : sumN q 8 ≤ 20) : Pot l 0 q now := fun c _ _ T _ => by
  have := bnd_bd h0 now T
  omega
theorem op_less {l : GL} {k t w v : Int} (h : Op l k t w) (hv : v ≤ w) : Op l k t v := fun j h1 h2 => h j h1 (by omega)
/-- a look at which nothing goes -/
theorem pot_look {l : GL} {k : Nat} {q : Ln} {now at_ : Int} (h0 : chk l = 0) (hn : 0 ≤ now ∧ now ≤ 549755813888) (hcy : l.cyc ≤ 16777216) (hs : SZ q) (hp : Pot l k q now) (hlt : now < at_) (h1 : ∀ j, j < 8 → 0 < q.n j → ¬ fit l q now j ∧ (nb l now j → at_ ≤ cand l now j)) (h2 : ∃ j, j < 8 ∧ 0 < q.n j ∧ nb l now j ∧ at_ = cand l now j) (h3 : ∀ j, j < 8 → 0 < q.n j → ¬ fit l q at_ j) : Pot l (k + 1) q at_ := fun c hc hq T hT => by
  have c1 := (chk_ok h0).c1
  obtain ⟨f1, f2⟩ := h1 c hc hq
  have hsz := hs c hc 0 hq
  obtain ⟨⟨l1, l2⟩, l3, l4, l5⟩ := not_fit h0 hn hc hsz f1
  obtain ⟨b1, b2⟩ := tn_bd (l := l) (by omega) now T
  have hop := tn_op (now := now) hT
  have hle : now + leftV l now c ≤ tn l now T := by
    rcases Int.lt_or_le (tn l now T) (now + leftV l now c) with h9 | h9
    · have := hop (now + leftV l now c - tn l now T) (by omega) (by omega)
      rw [show tn l now T + (now + leftV l now c - tn l now T) = now + leftV l now c by omega] at this
      omega
    · exact h9
  have hg := hop 0 (Int.le_refl _) (by decide)
  rw [Int.add_zero] at hg
  obtain ⟨e1, e2⟩ := next_first (k := c) h0 l5 (by unfold gateR; omega) hle hg
  have hat : at_ ≤ tn l now T := by have := f2 e1; unfold cand at this; omega
  have hne : at_ ≠ tn l now T := fun hh => by
    refine h3 c hc hq ((left_iff (k := c) h0 (by unfold inR; omega) (by unfold gateR; omega) (by omega)).2 ?_)
    rw [hh]; exact op_less hop (by omega)
  obtain ⟨x, x1, x2, x3, x4⟩ := h2
  have xsz := hs x x1 0 x2
  obtain ⟨⟨m1, m2⟩, m3, m4, m5⟩ := not_fit h0 hn x1 xsz (h1 x x1 x2).1
  have xp := nb_pos m4 x3
  obtain ⟨n1, n2, n3, n4⟩ := next_some x3
  have hbeg : ∃ i, i < l.len ∧ (at_ - (l.base + psum l.ln i)) % l.cyc = 0 := by
    refine begins (k := x) h0 (by rw [x4]; exact n4) ?_
    have := n3 (nextV l (now + leftV l now x) x - 1) (by omega) (by omega)
    rw [x4]; unfold cand
    rw [show now + leftV l now x + nextV l (now + leftV l now x) x - 1 = now + leftV l now x + (nextV l (now + leftV l now x) x - 1) by omega]
    exact this
  obtain ⟨i, i1, i2⟩ := hbeg
  have hd := bndK_drop (l := l) (b := tn l now T) (by omega) hlt i2 l.len i1
  have h9 := hp c hc hq T hT
  rw [tn_same (by omega) (by omega) hat]
  unfold bnd at h9 ⊢
  omega
/-- one at which a frame goes -/
theorem pot_go {l : GL} {k : Nat} {q q' : Ln} {now now' : Int} (h0 : chk l = 0) (hp : Pot l k q now) (hw : sumN q' 8 = sumN q 8 - 1) (hq : ∀ c, c < 8 → 0 < q'.n c → 0 < q.n c) : Pot l (k + 1) q' now' := fun c hc hq' T hT => by
  have h9 := hp c hc (hq c hc hq') T hT
  have := bnd_bd h0 now T
  have := bnd_bd h0 now' T
  omega
theorem pot_end {l : GL} {q : Ln} {now : Int} {k : Nat} (h0 : chk l = 0) (hp : Pot l k q now) (hk : 1384 < k) (hw : 0 ≤ sumN q 8) {c : Nat} (hc : c < 8) (hq : 0 < q.n c) {T : Int} (hT : Op l c T 12800) : False := by
  have h9 := hp c hc hq T hT
  have := bnd_bd h0 now T
  omega
theorem never {l : GL} {now T : Int} {c : Nat} (h0 : chk l = 0) (ht : inR (now + leftV l now c)) (hc : c < 8) (hb : ¬ nb l now c) : ¬ Op l c T 12800 := fun hT => by
  have hb : nextB l (now + leftV l now c) c = false := by
    unfold nb at hb
    cases h : nextB l (now + leftV l now c) c with
    | true => exact absurd h hb
    | false => rfl
  have h1 := next_none (k := c) h0 ht (by unfold gateR; omega) hb (T + 0)
  have h2 := hT 0 (Int.le_refl _) (by decide)
  omega

end Go.Proofs.Ytaadejgoafdbcaa
