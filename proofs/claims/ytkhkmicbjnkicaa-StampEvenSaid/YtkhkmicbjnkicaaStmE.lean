/-
  Contracts of functions, and plain facts about them, that a claim of this seat uses.
-/
import Derived.Test.YtkhkmicbjnkicaaSx
import Derived.Test.YtkhkmicbjnkicaaStmA
import Derived.Test.YtkhkmicbjnkicaaProg
namespace Go.Proofs.Ytkhkmicbjnkicaa
open Go.Sx
set_option linter.unusedVariables false
set_option linter.unusedSimpArgs false
set_option maxRecDepth 100000

/-! a time by a rate and by its other way, in the program's numbers. -/
theorem md_near {a b c : Int} (ha : 0 ≤ a) (hb : 0 ≤ b) (hc : 0 < c) (hm : a * b ≤ c * 9223372036854775806) : mdE a b c 2 = 0 ∧ nearTo (a * b) c (mdX a b c 2) ∧ 0 ≤ mdX a b c 2 := by
  have hM : mdM a b c = false := by
    unfold mdM
    rw [decide_eq_false (by omega), decide_eq_false (by omega), decide_eq_false (by omega)]; rfl
  have ea : absI a = a := if_neg (by omega)
  have eb : absI b = b := if_neg (by omega)
  have ec : absI c = c := if_neg (by omega)
  have hp : 0 ≤ a * b := Int.mul_nonneg ha hb
  obtain ⟨p, hpe⟩ : ∃ p, p = a * b := ⟨_, rfl⟩
  have e0 : mdQ0 a b c = p / c := by unfold mdQ0; rw [ea, eb, ec, hpe]
  have e1 : mdR a b c = p % c := by unfold mdR; rw [ea, eb, ec, hpe]
  rw [← hpe] at hm hp ⊢
  have d1 := Int.emod_nonneg p (show c ≠ 0 by omega)
  have d2 := Int.emod_lt_of_pos p hc
  have d3 := Int.mul_ediv_add_emod p c
  have d4 : 0 ≤ p / c := Int.ediv_nonneg hp (by omega)
  have d5 : p / c ≤ 9223372036854775806 := Int.ediv_le_of_le_mul hc (by rw [Int.mul_comm]; exact hm)
  obtain ⟨Q, hQ⟩ : ∃ Q, Q = p / c := ⟨_, rfl⟩
  obtain ⟨R, hR⟩ : ∃ R, R = p % c := ⟨_, rfl⟩
  rw [← hQ] at e0 d3 d4 d5
  rw [← hR] at e1 d1 d2 d3
  have hmore : mdMore a b c 2 = if R = 0 then false else decide (c - R < R ∨ R = c - R ∧ Q % 2 = 1) := by
    unfold mdMore
    rw [e1, e0, ec, if_neg (show ¬ (2 : Int) = 0 by decide), if_neg (show ¬ (2 : Int) = 1 by decide)]
  have hq : ∃ z, mdQ a b c 2 = z ∧ (z = Q ∨ z = Q + 1) ∧ nearTo p c z := by
    by_cases h0 : R = 0
    · refine ⟨Q, ?_, .inl rfl, ?_⟩
      · unfold mdQ; rw [hmore, if_pos h0, if_neg (by decide), e0]
      · unfold nearTo; rw [Int.mul_comm Q c]; omega
    · by_cases h1 : c - R < R ∨ R = c - R ∧ Q % 2 = 1
      · refine ⟨Q + 1, ?_, .inr rfl, ?_⟩
        · unfold mdQ; rw [hmore, if_neg h0, if_pos (decide_eq_true h1), e0]
        · unfold nearTo; rw [Int.add_mul, Int.mul_comm Q c]; omega
      · refine ⟨Q, ?_, .inl rfl, ?_⟩
        · unfold mdQ; rw [hmore, if_neg h0, decide_eq_false h1, if_neg (by decide), e0]
        · unfold nearTo; rw [Int.mul_comm Q c]; omega
  obtain ⟨z, hz, hz2, hz3⟩ := hq
  have hmost : mdMost a b c = 9223372036854775807 := by unfold mdMost; rw [hM]; rfl
  have hE : mdE a b c 2 = 0 := by
    unfold mdE; rw [if_neg (by omega), if_neg (by omega), hmost, hz, if_neg (by omega)]
  have hX : mdX a b c 2 = z := by
    unfold mdX; rw [if_neg (by rw [hmost, hz]; omega), hM, if_neg (by decide), hz]
  rw [hX]
  exact ⟨hE, hz3, by omega⟩
theorem and1023 (a : Int) : bits .and .i64 a 1023 = a % 1024 := and_mask a 10 (by decide)
theorem and48 (a : Int) : bits .and .i64 a 281474976710655 = a % 281474976710656 := and_mask a 48 (by decide)
def evX (s : Int) : Int := bits .and .i64 s 281474976710655
def evR (p : Int) : Int := IntKind.i64.wrap (2199023255552 + IntKind.i64.wrap (IntKind.i64.wrap (bits .and .i64 p 1023 - 512) * 2199023))
theorem evX_in (s : Int) : 0 ≤ evX s ∧ evX s < 281474976710656 := by unfold evX; rw [and48]; omega
theorem evR_in (p : Int) : 2000000000000 ≤ evR p ∧ evR p ≤ 3000000000000 := by
  unfold evR
  rw [and1023, w64' (n := p % 1024 - 512) (by omega) (by omega), w64' (n := (p % 1024 - 512) * 2199023) (by omega) (by omega), w64' (by omega) (by omega)]
  omega
theorem even_law (s p : Int) : ∃ y q z : Int, (mdX (evX s) (evR p) 2199023255552 2 = y ∧ mdE (evX s) (evR p) 2199023255552 2 = 0 ∧ I64 y) ∧ (mdX 2199023255552 2199023255552 (evR p) 2 = q ∧ mdE 2199023255552 2199023255552 (evR p) 2 = 0 ∧ I64 q) ∧ (mdX y q 2199023255552 2 = z ∧ mdE y q 2199023255552 2 = 0) ∧ -256 ≤ IntKind.i64.wrap (z - evX s) ∧ IntKind.i64.wrap (z - evX s) ≤ 256 := by
  have hx := evX_in s
  have hr := evR_in p
  obtain ⟨x, ex⟩ : ∃ x, x = evX s := ⟨_, rfl⟩
  obtain ⟨r, er⟩ : ∃ r, r = evR p := ⟨_, rfl⟩
  rw [← ex] at hx ⊢
  rw [← er] at hr ⊢
  have hxr := mulB (a := x) (b := r) (A := 281474976710656) (B := 3000000000000) (by omega) (by omega)
  obtain ⟨a1, a2, a3⟩ := md_near (a := x) (b := r) (c := 2199023255552) hx.1 (by omega) (by decide) (by omega)
  obtain ⟨b1, b2, b3⟩ := md_near (a := 2199023255552) (b := 2199023255552) (c := r) (by decide) (by decide) (by omega) (by omega)
  obtain ⟨y, ey⟩ : ∃ y, y = mdX x r 2199023255552 2 := ⟨_, rfl⟩
  obtain ⟨q, eq⟩ : ∃ q, q = mdX 2199023255552 2199023255552 r 2 := ⟨_, rfl⟩
  rw [← ey] at a2 a3
  rw [← eq] at b2 b3
  have hy : y ≤ 1000000000000000 := by unfold nearTo at a2; omega
  have hq : q ≤ 4000000000000 := by
    unfold nearTo at b2
    by_cases hh : q ≤ 4000000000000
    · exact hh
    · have h9 : 4000000000001 * r ≤ q * r := Int.mul_le_mul_of_nonneg_right (by omega) (by omega)
      exfalso; omega
  have hyq := mulB (a := y) (b := q) (A := 1000000000000000) (B := 4000000000000) (by omega) (by omega)
  obtain ⟨c1, c2, c3⟩ := md_near (a := y) (b := q) (c := 2199023255552) a3 b3 (by decide) (by omega)
  have core := even_core hx (by omega) a2 b2 c2
  refine ⟨y, q, mdX y q 2199023255552 2, ⟨ey.symm, a1, by unfold I64; omega⟩, ⟨eq.symm, b1, by unfold I64; omega⟩, ⟨rfl, c1⟩, ?_⟩
  rw [w64' (by omega) (by omega)]
  exact core

end Go.Proofs.Ytkhkmicbjnkicaa
