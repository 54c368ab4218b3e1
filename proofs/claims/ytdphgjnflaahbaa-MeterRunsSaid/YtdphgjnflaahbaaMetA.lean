/-
  Contracts of functions, and plain facts about them, that a claim of this seat uses.
-/
import Derived.Test.YtdphgjnflaahbaaSx
import Derived.Test.YtdphgjnflaahbaaMWideNum
import Derived.Test.YtdphgjnflaahbaaMRefA
import Derived.Test.YtdphgjnflaahbaaMRefB
import Derived.Test.YtdphgjnflaahbaaMWideU
import Derived.Test.YtdphgjnflaahbaaMLen
import Derived.Test.YtdphgjnflaahbaaMDiv64
import Derived.Test.YtdphgjnflaahbaaMDivU
import Derived.Test.YtdphgjnflaahbaaMMulDiv
import Derived.Test.YtdphgjnflaahbaaMHeld
import Derived.Test.YtdphgjnflaahbaaProg
namespace Go.Proofs.Ytdphgjnflaahbaa
open Go.Sx
set_option linter.unusedVariables false
set_option linter.unusedSimpArgs false
set_option maxRecDepth 100000

/-! pails: plain facts. -/
/-- a product, held at the end -/
def prod (a b : Int) : Int := if 9223372036854775807 < a * b then 9223372036854775807 else a * b
theorem held_one {a b : Int} (ha : 0 ≤ a) (hb : 0 ≤ b) : mdH a b 1 0 = prod a b := by
  have ea : absI a = a := by unfold absI; rw [if_neg (by omega)]
  have eb : absI b = b := by unfold absI; rw [if_neg (by omega)]
  have e1 : absI 1 = 1 := by decide
  have hm : mdM a b 1 = false := by
    unfold mdM
    rw [decide_eq_false (by omega), decide_eq_false (by omega)]; rfl
  have hq0 : mdQ0 a b 1 = a * b := by unfold mdQ0; rw [ea, eb, e1, Int.ediv_one]
  have hr : mdR a b 1 = 0 := by unfold mdR; rw [ea, eb, e1, Int.emod_one]
  have hmo : mdMore a b 1 0 = false := by unfold mdMore; rw [if_pos hr]
  have hq : mdQ a b 1 0 = a * b := by unfold mdQ; rw [hmo, hq0]; rfl
  have hM : mdMost a b 1 = 9223372036854775807 := by unfold mdMost; rw [hm]; rfl
  unfold mdH mdE mdX prod
  rw [hq, hM, hm]
  simp only [show ¬ ((0 : Int) < 0 ∨ (2 : Int) < 0) by decide, if_false, show ¬ ((1 : Int) = 0) by decide, false_or, Bool.false_eq_true]
  by_cases h : 9223372036854775807 < a * b
  · simp [h]
  · simp [h]
structure Mt where
  rate : Int
  burst : Int
  more : Int
  beyond : Int
  couple : Bool
  aware : Bool
  shut : Bool
  last : Int
  p0 : Int
  p1 : Int
  off : Bool
def i_ (n : Int) : SA := .v (.int .i64 n)
def b_' (b : Bool) : SA := .v (.bool b)
def Mt.cells (m : Mt) : List SA := [i_ m.rate, i_ m.burst, i_ m.more, i_ m.beyond, b_' m.couple, b_' m.aware, b_' m.shut, i_ m.last, i_ m.p0, i_ m.p1, b_' m.off]
def rdM : List SA → Option Mt
  | [.v (.int .i64 a), .v (.int .i64 b), .v (.int .i64 c), .v (.int .i64 d), e, f, g, .v (.int .i64 h), .v (.int .i64 i), .v (.int .i64 j), k] =>
    (match boolOf e, boolOf f, boolOf g, boolOf k with | some e, some f, some g, some k => some ⟨a, b, c, d, e, f, g, h, i, j, k⟩ | _, _, _, _ => none)
  | _ => none
theorem rdM_ok {cs : List SA} {s : Mt} (h : rdM cs = some s) (ρ : List Nat) : ∃ l, subCon ((Con.flat s.cells).ren ρ) (.flat cs) = some l ∧ Holds l := by
  unfold rdM at h
  split at h
  · split at h
    · rename_i h1 h2 h3 h4
      cases h
      show ∃ l, preSAs _ _ = some l ∧ Holds l
      repeat (first | refine pre_cons (eqSA_int _ _) ?_ | refine pre_cons (eqSA_bool h1) ?_ | refine pre_cons (eqSA_bool h2) ?_ | refine pre_cons (eqSA_bool h3) ?_ | refine pre_cons (eqSA_bool h4) ?_ | exact pre_nil _)
    · cases h
  · cases h
def mn (a b : Int) : Int := if b < a then b else a
def Mt.in0 (m : Mt) (now : Int) : Int := mn (prod m.rate (now - m.last)) (m.burst * 1000000000 - m.p0)
def Mt.over (m : Mt) (now : Int) : Int := prod m.rate (now - m.last) - m.in0 now
def Mt.in1 (m : Mt) (now : Int) : Int := mn (prod m.more (now - m.last)) (m.beyond * 1000000000 - m.p1)
def Mt.in2 (m : Mt) (now : Int) : Int := mn (m.over now) (m.beyond * 1000000000 - (m.p1 + m.in1 now))
def Mt.turn (m : Mt) (now : Int) : Mt := { m with last := now, p0 := m.p0 + m.in0 now, p1 := if m.couple = true then m.p1 + m.in1 now + m.in2 now else m.p1 + m.in1 now }
/-- as it may be -/
structure MOk (m : Mt) : Prop where
  r : 0 ≤ m.rate ∧ m.rate ≤ 8589934592
  b : 0 ≤ m.burst ∧ m.burst ≤ 8589934592
  mo : 0 ≤ m.more ∧ m.more ≤ 8589934592
  be : 0 ≤ m.beyond ∧ m.beyond ≤ 8589934592
  l : 0 ≤ m.last ∧ m.last ≤ 1099511627776
  q0 : 0 ≤ m.p0 ∧ m.p0 ≤ m.burst * 1000000000
  q1 : 0 ≤ m.p1 ∧ m.p1 ≤ m.beyond * 1000000000
theorem prod_bd {a b : Int} (ha : 0 ≤ a) (hb : 0 ≤ b) : 0 ≤ prod a b ∧ prod a b ≤ 9223372036854775807 := by
  have := Int.mul_nonneg ha hb
  unfold prod
  split <;> omega
theorem MOk.turn {m : Mt} (h : MOk m) {now : Int} (h1 : m.last ≤ now) (h2 : now ≤ 1099511627776) : MOk (m.turn now) ∧
    (0 ≤ prod m.rate (now - m.last) ∧ prod m.rate (now - m.last) ≤ 9223372036854775807) ∧ (0 ≤ prod m.more (now - m.last) ∧ prod m.more (now - m.last) ≤ 9223372036854775807) ∧
    (0 ≤ m.in0 now ∧ m.in0 now ≤ m.burst * 1000000000 - m.p0) ∧ (0 ≤ m.over now ∧ m.over now ≤ 9223372036854775807) ∧ (0 ≤ m.in1 now ∧ m.in1 now ≤ m.beyond * 1000000000 - m.p1) ∧ (0 ≤ m.in2 now ∧ m.in2 now ≤ m.beyond * 1000000000 - (m.p1 + m.in1 now)) := by
  obtain ⟨r, b, mo, be, l, q0, q1⟩ := h
  have d0 := prod_bd r.1 (show 0 ≤ now - m.last by omega)
  have d1 := prod_bd mo.1 (show 0 ≤ now - m.last by omega)
  have e0 : 0 ≤ m.in0 now ∧ m.in0 now ≤ m.burst * 1000000000 - m.p0 ∧ m.in0 now ≤ prod m.rate (now - m.last) := by unfold Mt.in0 mn; split <;> omega
  have eo : 0 ≤ m.over now ∧ m.over now ≤ 9223372036854775807 := by unfold Mt.over; omega
  have e1 : 0 ≤ m.in1 now ∧ m.in1 now ≤ m.beyond * 1000000000 - m.p1 := by unfold Mt.in1 mn; split <;> omega
  have e2 : 0 ≤ m.in2 now ∧ m.in2 now ≤ m.beyond * 1000000000 - (m.p1 + m.in1 now) := by unfold Mt.in2 mn; split <;> omega
  refine ⟨⟨r, b, mo, be, ⟨by show 0 ≤ now; omega, h2⟩, ⟨by show 0 ≤ m.p0 + m.in0 now; omega, by show m.p0 + m.in0 now ≤ m.burst * 1000000000; omega⟩, ?_⟩, d0, d1, ⟨e0.1, e0.2.1⟩, eo, e1, e2⟩
  show 0 ≤ (if m.couple = true then m.p1 + m.in1 now + m.in2 now else m.p1 + m.in1 now) ∧ (if m.couple = true then m.p1 + m.in1 now + m.in2 now else m.p1 + m.in1 now) ≤ m.beyond * 1000000000
  split <;> omega
def Mt.in_ (m : Mt) (now size : Int) (y : Bool) : Mt × Int × Int :=
  if size < 0 ∨ 1600 < size then (m, 2, 1)
  else if now < m.last then (m, 2, 31)
  else if 1099511627776 < now then (m, 2, 1)
  else if m.off = true then (m.turn now, 2, 0)
  else if size * 8000000000 ≤ (m.turn now).p0 ∧ ¬ (y = true ∧ m.aware = true) then ({ m.turn now with p0 := (m.turn now).p0 - size * 8000000000 }, 0, 0)
  else if size * 8000000000 ≤ (m.turn now).p1 then ({ m.turn now with p1 := (m.turn now).p1 - size * 8000000000 }, 1, 0)
  else ({ m.turn now with off := m.shut }, 2, 0)
structure Keep (a b : Mt) : Prop where
  rate : a.rate = b.rate
  burst : a.burst = b.burst
  more : a.more = b.more
  beyond : a.beyond = b.beyond
  couple : a.couple = b.couple
  aware : a.aware = b.aware
  shut : a.shut = b.shut
theorem in_ok {m : Mt} (h : MOk m) {now size : Int} (y : Bool) (h1 : m.last ≤ now) (h2 : now ≤ 1099511627776) (hs : 0 ≤ size ∧ size ≤ 1600) :
    MOk (m.in_ now size y).1 ∧ (m.in_ now size y).2.2 = 0 ∧ (m.in_ now size y).1.last = now ∧ Keep (m.in_ now size y).1 m ∧
    ((m.in_ now size y).2.1 = 0 ∨ (m.in_ now size y).2.1 = 1 ∨ (m.in_ now size y).2.1 = 2) ∧
    (m.off = true → (m.in_ now size y).2.1 = 2 ∧ (m.in_ now size y).1.off = true) ∧
    (m.off = false → (m.in_ now size y).2.1 = 2 ∧ (m.in_ now size y).1.off = m.shut ∨ (m.in_ now size y).2.1 ≠ 2 ∧ (m.in_ now size y).1.off = false) ∧
    ((m.in_ now size y).2.1 = 0 → (m.in_ now size y).1.p0 = (m.turn now).p0 - size * 8000000000) ∧ ((m.in_ now size y).2.1 ≠ 0 → (m.in_ now size y).1.p0 = (m.turn now).p0) := by
  obtain ⟨t, _⟩ := h.turn h1 h2
  have hl : (m.turn now).last = now := rfl
  have hk : Keep (m.turn now) m := ⟨rfl, rfl, rfl, rfl, rfl, rfl, rfl⟩
  have ho : (m.turn now).off = m.off := rfl
  unfold Mt.in_
  rw [if_neg (by omega), if_neg (by omega), if_neg (by omega)]
  by_cases h3 : m.off = true
  · rw [if_pos h3]
    dsimp only
    exact ⟨t, rfl, hl, ⟨rfl, rfl, rfl, rfl, rfl, rfl, rfl⟩, .inr (.inr rfl), fun _ => ⟨rfl, h3⟩, fun h => absurd (h3.symm.trans h) (by decide), fun h => absurd h (by decide), fun _ => rfl⟩
  · rw [if_neg h3]
    have h3' : m.off = false := by simpa using h3
    by_cases h4 : size * 8000000000 ≤ (m.turn now).p0 ∧ ¬ (y = true ∧ m.aware = true)
    · rw [if_pos h4]
      dsimp only
      have q0 := t.q0
      have hb : (m.turn now).burst = m.burst := rfl
      exact ⟨⟨t.r, t.b, t.mo, t.be, t.l, ⟨by show 0 ≤ (m.turn now).p0 - size * 8000000000; omega, by show (m.turn now).p0 - size * 8000000000 ≤ (m.turn now).burst * 1000000000; omega⟩, t.q1⟩, rfl, hl, ⟨rfl, rfl, rfl, rfl, rfl, rfl, rfl⟩, .inl rfl, fun h => absurd h h3, fun _ => .inr ⟨by decide, h3'⟩, fun _ => rfl, fun h => absurd rfl h⟩
    · rw [if_neg h4]
      by_cases h5 : size * 8000000000 ≤ (m.turn now).p1
      · rw [if_pos h5]
        dsimp only
        have q1 := t.q1
        have hb : (m.turn now).beyond = m.beyond := rfl
        exact ⟨⟨t.r, t.b, t.mo, t.be, t.l, t.q0, ⟨by show 0 ≤ (m.turn now).p1 - size * 8000000000; omega, by show (m.turn now).p1 - size * 8000000000 ≤ (m.turn now).beyond * 1000000000; omega⟩⟩, rfl, hl, ⟨rfl, rfl, rfl, rfl, rfl, rfl, rfl⟩, .inr (.inl rfl), fun h => absurd h h3, fun _ => .inr ⟨by decide, h3'⟩, fun h => absurd h (by decide), fun _ => rfl⟩
      · rw [if_neg h5]
        dsimp only
        exact ⟨⟨t.r, t.b, t.mo, t.be, t.l, t.q0, t.q1⟩, rfl, hl, ⟨rfl, rfl, rfl, rfl, rfl, rfl, rfl⟩, .inr (.inr rfl), fun h => absurd h h3, fun _ => .inl ⟨rfl, rfl⟩, fun h => absurd h (by decide), fun _ => rfl⟩
theorem in_size {m : Mt} {now size : Int} {y : Bool} (h : size < 0 ∨ 1600 < size) : m.in_ now size y = (m, 2, 1) := by unfold Mt.in_; exact if_pos h
theorem in_late {m : Mt} {now size : Int} {y : Bool} (h : 0 ≤ size ∧ size ≤ 1600) (h1 : now < m.last) : m.in_ now size y = (m, 2, 31) := by
  unfold Mt.in_
  rw [if_neg (by omega)]; exact if_pos h1
theorem p0_gain {m : Mt} (h : MOk m) {now : Int} (h1 : m.last ≤ now) : (m.turn now).p0 ≤ m.p0 + m.rate * (now - m.last) := by
  have h2 := Int.mul_nonneg h.r.1 (show 0 ≤ now - m.last by omega)
  show m.p0 + m.in0 now ≤ _
  have : m.in0 now ≤ m.rate * (now - m.last) := by
    unfold Mt.in0 mn prod
    generalize m.rate * (now - m.last) = z at *
    split <;> split <;> omega
  omega
theorem p0_full {m : Mt} (h : MOk m) {now : Int} (h1 : m.last ≤ now) (h2 : m.burst * 1000000000 ≤ m.rate * (now - m.last)) : (m.turn now).p0 = m.burst * 1000000000 := by
  show m.p0 + m.in0 now = _
  have b := h.b
  have q := h.q0
  unfold Mt.in0 mn prod
  generalize m.rate * (now - m.last) = z at *
  split <;> split <;> omega

end Go.Proofs.Ytdphgjnflaahbaa
