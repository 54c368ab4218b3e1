/-
  Contracts of functions, and plain facts about them, that a claim of this seat uses.
-/
import Derived.Test.YtaadejgoafdbcaaSx
import Derived.Test.YtaadejgoafdbcaaPortW
import Derived.Test.YtaadejgoafdbcaaPortO
import Derived.Test.YtaadejgoafdbcaaProg
namespace Go.Proofs.Ytaadejgoafdbcaa
open Go.Sx
set_option linter.unusedVariables false
set_option linter.unusedSimpArgs false
set_option maxRecDepth 100000

/-! PortWhens, plainly: what When says where no list is to come. -/
def SZ (q : Ln) : Prop := ∀ c, c < 8 → ∀ r, r < q.n c → 0 ≤ q.sz c r ∧ q.sz c r ≤ 1600
def fit (l : GL) (q : Ln) (now : Int) (c : Nat) : Prop := 8 * q.sz c 0 ≤ leftV l now c
def nb (l : GL) (now : Int) (c : Nat) : Prop := nextB l (now + leftV l now c) c = true
def cand (l : GL) (now : Int) (c : Nat) : Int := now + leftV l now c + nextV l (now + leftV l now c) c
def WlR (l : GL) (q : Ln) (now : Int) : Option (Int × Bool) → Prop
  | none => ∃ j, j < 8 ∧ 0 < q.n j ∧ fit l q now j
  | some (b, f) => (∀ j, j < 8 → 0 < q.n j → ¬ fit l q now j ∧ (nb l now j → f = true ∧ b ≤ cand l now j)) ∧ (f = true → ∃ j, j < 8 ∧ 0 < q.n j ∧ nb l now j ∧ b = cand l now j)
theorem not_fit {l : GL} {q : Ln} {now : Int} {c : Nat} (h0 : chk l = 0) (hn : 0 ≤ now ∧ now ≤ 549755813888) (hc : c < 8) (hs : 0 ≤ q.sz c 0 ∧ q.sz c 0 ≤ 1600) (hf : ¬ fit l q now c) : (0 ≤ leftV l now c ∧ leftV l now c < 8 * q.sz c 0) ∧ (∀ j, 0 ≤ j → j < leftV l now c → gT l c (now + j) = 1) ∧ gT l c (now + leftV l now c) = 0 ∧ inR (now + leftV l now c) := by
  obtain ⟨h1, h2, h3, h4, h5⟩ := left_not (k := c) h0 (by unfold inR; omega) (by unfold gateR; omega) (w := 8 * q.sz c 0) (by omega) hf
  exact ⟨⟨h1, h2⟩, h4, h5, by unfold inR; omega⟩
theorem nb_pos {l : GL} {now : Int} {c : Nat} (h0 : gT l c (now + leftV l now c) = 0) (hb : nb l now c) : 0 < nextV l (now + leftV l now c) c := by
  obtain ⟨h1, h2, h3, h4⟩ := next_some hb
  rcases Int.lt_or_le 0 (nextV l (now + leftV l now c) c) with h | h
  · exact h
  · rw [show nextV l (now + leftV l now c) c = 0 by omega, Int.add_zero] at h4
    omega
theorem wl_spec {l : GL} {y : CL} {q : Ln} {now : Int} (hy : CS l.len l y) (h0 : chk l = 0) (hn : 0 ≤ now ∧ now ≤ 549755813888) (hs : SZ q) : ∀ (k c : Nat) (b : Int) (f : Bool), c + k = 8 → (f = true → ∃ j, j < c ∧ 0 < q.n j ∧ nb l now j ∧ b = cand l now j) → (∀ j, j < c → 0 < q.n j → ¬ fit l q now j ∧ (nb l now j → f = true ∧ b ≤ cand l now j)) →
    WlR l q now (whL (cp l y) q (lf8 (cp l y) 0 false now) now k c b f)
  | 0, c, b, f, hk, hg, ha => ⟨fun j hj => ha j (by omega), fun hf => by obtain ⟨j, h1, h2⟩ := hg hf; exact ⟨j, by omega, h2⟩⟩
  | k + 1, c, b, f, hk, hg, ha => by
    have hc8 : c < 8 := by omega
    have ef : (lf8 (cp l y) 0 false now).f c = leftV l now c := by rw [lf8_f hc8, lfV_no, cp_left hy]
    have c1 := (chk_ok h0).c1
    have c2 := (chk_ok h0).c2
    show WlR l q now (if pkB (hdO q c) = false then whL (cp l y) q (lf8 (cp l y) 0 false now) now k (c + 1) b f else if IntKind.i64.wrap (8 * (pkI q (hdO q c)).sz) ≤ (lf8 (cp l y) 0 false now).f c then none else if whOpens (cp l y) (lf8 (cp l y) 0 false now) now c ∧ (f = false ∨ whAt (cp l y) (lf8 (cp l y) 0 false now) now c < b) then whL (cp l y) q (lf8 (cp l y) 0 false now) now k (c + 1) (whAt (cp l y) (lf8 (cp l y) 0 false now) now c) true else whL (cp l y) q (lf8 (cp l y) 0 false now) now k (c + 1) b f)
    rcases Nat.eq_zero_or_pos (q.n c) with hz | hz
    · rw [hdO_0 hz, if_pos (show pkB none = false from rfl)]
      refine wl_spec hy h0 hn hs k (c + 1) b f (by omega) (fun hf => by obtain ⟨j, h1, h2⟩ := hg hf; exact ⟨j, by omega, h2⟩) fun j hj hp => ?_
      rcases (by omega : j < c ∨ j = c) with h9 | rfl
      · exact ha j h9 hp
      · omega
    · have hsz := hs c hc8 0 hz
      rw [hdO_1 hc8 hz, if_neg (show ¬ (pkB (some c) = false) from (by decide : ¬ (true = false))), show (pkI q (some c)).sz = q.sz c 0 from rfl, w64' (n := 8 * q.sz c 0) (by omega) (by omega), ef]
      by_cases hf : 8 * q.sz c 0 ≤ leftV l now c
      · rw [if_pos hf]
        exact ⟨c, hc8, hz, hf⟩
      · rw [if_neg hf]
        obtain ⟨⟨l1, l2⟩, l3, l4, l5⟩ := not_fit h0 hn hc8 hsz hf
        have eo : whOpens (cp l y) (lf8 (cp l y) 0 false now) now c ↔ nb l now c := by
          unfold whOpens nb
          rw [ef, w64' (by omega) (by omega), cp_nextB hy, cp_nextV hy]
          exact ⟨fun h => h.1, fun h => ⟨h, .inl (nb_pos l4 h)⟩⟩
        have ea : nb l now c → whAt (cp l y) (lf8 (cp l y) 0 false now) now c = cand l now c := fun h => by
          obtain ⟨n1, n2, _⟩ := next_some h
          unfold whAt cand
          rw [ef, w64' (n := now + leftV l now c) (by omega) (by omega), cp_nextV hy, w64' (by omega) (by omega)]
        by_cases hw : whOpens (cp l y) (lf8 (cp l y) 0 false now) now c ∧ (f = false ∨ whAt (cp l y) (lf8 (cp l y) 0 false now) now c < b)
        · rw [if_pos hw]
          have hb := eo.1 hw.1
          have e9 := ea hb
          rw [e9] at hw ⊢
          refine wl_spec hy h0 hn hs k (c + 1) _ true (by omega) (fun _ => ⟨c, by omega, hz, hb, rfl⟩) fun j hj hp => ?_
          rcases (by omega : j < c ∨ j = c) with h9 | rfl
          · obtain ⟨g1, g2⟩ := ha j h9 hp
            refine ⟨g1, fun g3 => ⟨rfl, ?_⟩⟩
            obtain ⟨g4, g5⟩ := g2 g3
            rcases hw.2 with h8 | h8
            · rw [g4] at h8; cases h8
            · omega
          · exact ⟨hf, fun _ => ⟨rfl, Int.le_refl _⟩⟩
        · rw [if_neg hw]
          refine wl_spec hy h0 hn hs k (c + 1) b f (by omega) (fun hf => by obtain ⟨j, h1, h2⟩ := hg hf; exact ⟨j, by omega, h2⟩) fun j hj hp => ?_
          rcases (by omega : j < c ∨ j = c) with h9 | rfl
          · exact ha j h9 hp
          · refine ⟨hf, fun g3 => ?_⟩
            rw [ea g3] at hw
            have h8 : ¬ (f = false ∨ cand l now j < b) := fun hh => hw ⟨eo.2 g3, hh⟩
            cases f with
            | true => exact ⟨rfl, by omega⟩
            | false => exact absurd (.inl rfl) h8

end Go.Proofs.Ytaadejgoafdbcaa
