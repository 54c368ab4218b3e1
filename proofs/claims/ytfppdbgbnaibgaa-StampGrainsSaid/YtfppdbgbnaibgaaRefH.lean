/-
  Contracts of functions, and plain facts about them, that a claim of this seat uses.
-/
import Derived.Test.YtfppdbgbnaibgaaSx
import Derived.Test.YtfppdbgbnaibgaaWideNum
import Derived.Test.YtfppdbgbnaibgaaRefA
import Derived.Test.YtfppdbgbnaibgaaRefB
import Derived.Test.YtfppdbgbnaibgaaRefM
import Derived.Test.YtfppdbgbnaibgaaRefD
import Derived.Test.YtfppdbgbnaibgaaWideU
import Derived.Test.YtfppdbgbnaibgaaLen
import Derived.Test.YtfppdbgbnaibgaaDiv64
import Derived.Test.YtfppdbgbnaibgaaDivU
import Derived.Test.YtfppdbgbnaibgaaMulDiv
import Derived.Test.YtfppdbgbnaibgaaRefE
import Derived.Test.YtfppdbgbnaibgaaRefF
import Derived.Test.YtfppdbgbnaibgaaRefG
import Derived.Test.YtfppdbgbnaibgaaStampA
import Derived.Test.YtfppdbgbnaibgaaProg
namespace Go.Proofs.Ytfppdbgbnaibgaa
open Go.Sx
set_option linter.unusedVariables false
set_option linter.unusedSimpArgs false
set_option maxRecDepth 100000

/-! the reference's Floor, Grain, Sum, Less. -/
theorem fn46 : FnOf Try.prog 46 Try.f46 := ⟨Try.func46, rfl, rfl, mixed⟩
theorem fn44 : FnOf Try.prog 44 Try.f44 := ⟨Try.func44, rfl, rfl, mixed⟩
theorem fn49 : FnOf Try.prog 49 Try.f49 := ⟨Try.func49, rfl, rfl, mixed⟩
theorem fn51 : FnOf Try.prog 51 Try.f51 := ⟨Try.func51, rfl, rfl, mixed⟩
attribute [local irreducible] enter anyAlt
/-- a number over one, rounded down -/
theorem over_one {s g : Int} (hs : I64 s) (hg : 0 < g) (hg2 : g ≤ 9223372036854775807) : mdX s 1 g 0 = s / g := by
  have hq : mdQ0 s 1 g = absI s / g := by unfold mdQ0; rw [show absI 1 = 1 by decide, Int.mul_one, show absI g = g from if_neg (by omega)]
  have hr : mdR s 1 g = absI s % g := by unfold mdR; rw [show absI 1 = 1 by decide, Int.mul_one, show absI g = g from if_neg (by omega)]
  have hm : mdM s 1 g = decide (s < 0) := by unfold mdM; by_cases h : s < 0 <;> simp [h] <;> omega
  have e1 := Int.mul_ediv_add_emod (absI s) g
  have e2 := Int.emod_nonneg (absI s) (show g ≠ 0 by omega)
  have e3 := Int.emod_lt_of_pos (absI s) hg
  have aa := absI_bd hs
  have q0 : 0 ≤ absI s / g := Int.ediv_nonneg aa.1 (by omega)
  have q1 : absI s / g ≤ absI s := Int.ediv_le_self _ aa.1
  unfold I64 at hs
  by_cases h : s < 0
  · have ea : absI s = 0 - s := if_pos h
    by_cases h0 : absI s % g = 0
    · have hQ : mdQ s 1 g 0 = absI s / g := by unfold mdQ mdMore; rw [hr, if_pos h0, hq]; rfl
      have hd : s / g = 0 - absI s / g := ((Int.ediv_emod_unique (a := s) (r := 0) (q := 0 - absI s / g) hg).2 ⟨by rw [Int.mul_sub]; omega, by omega, hg⟩).1
      unfold mdX mdMost
      rw [hQ, hm, decide_eq_true h, if_neg (by simp; omega), if_pos rfl, hd]
    · have hQ : mdQ s 1 g 0 = absI s / g + 1 := by unfold mdQ mdMore; rw [hr, if_neg h0, if_pos rfl, hm, hq, decide_eq_true h]; rfl
      have hd : s / g = 0 - (absI s / g + 1) := ((Int.ediv_emod_unique (a := s) (r := g - absI s % g) (q := 0 - (absI s / g + 1)) hg).2 ⟨by rw [Int.mul_sub, Int.mul_add]; omega, by omega, by omega⟩).1
      have q2 : absI s / g + 1 ≤ 9223372036854775808 := by
        have : absI s / g * 1 ≤ absI s / g * g := Int.mul_le_mul_of_nonneg_left (by omega) q0
        rw [Int.mul_comm (absI s / g) g] at this
        omega
      unfold mdX mdMost
      rw [hQ, hm, decide_eq_true h, if_neg (by simp; omega), if_pos rfl, hd]
  · have ea : absI s = s := if_neg h
    have hQ : mdQ s 1 g 0 = s / g := by
      unfold mdQ mdMore
      rw [hr, hm, decide_eq_false h, hq, ea]
      simp
    unfold mdX mdMost
    rw [ea] at q1
    rw [hQ, hm, decide_eq_false h, if_neg (by simp; omega)]
    rfl
noncomputable def cxR : Cx Try.prog := { ps := [rmdS], es := [], is := [], n0 := 0, loops := fun _ => none, cuts := fun _ => none }
theorem rfloor_runs (x : Int × Int) (hp : obp (some (I64 x.1 ∧ (0 < x.2 ∧ x.2 ≤ 9223372036854775807)))) : Runs cxR Try.f46 [int_ .i64 x.1, int_ .i64 x.2] [] fun v _ => isRes (int_ .i64 (x.1 / x.2)) v := by
  obtain ⟨s, g⟩ := x
  obtain ⟨hs, hg⟩ := hp
  dsimp only at *
  have e := over_one hs hg.1 hg.2
  rw [← e]
  unfold I64 at *
  repeat' (first | exact trivial | with_reducible exact rfl | exact Nat.le_refl _ | with_reducible exact (fun _ _ => rfl) | ((conv => whnf); first | (refine fun _ => ?_) | refine ⟨?_, ?_⟩ | exact trivial | exact lex_q (by kernel_rfl) | exact lex_t (by kernel_rfl) | exact lex_h (by kernel_rfl) | fail))
  all_goals (try dsimp only at *)
  all_goals omega
noncomputable def rfloorS : PSpec Try.prog := readN fn46 (.s2 (.int .i64) (.int .i64)) (fun _ => cxR) (fun x => some (I64 x.1 ∧ (0 < x.2 ∧ x.2 ≤ 9223372036854775807))) (fun x => int_ .i64 (x.1 / x.2)) (fun _ => rfl) (fun _ => rfl) (fun _ => rfl) rfloor_runs
/-- a floor times its grain, over one -/
theorem times_one {p g : Int} (hp : I64 p) (hg : I64 g) (h0 : 0 < g) (hb : -18446744073709551616 * 18446744073709551616 ≤ p * g) (ht : p * g ≤ 9223372036854775807) :
    mdX p g 1 0 = (if p * g < -9223372036854775808 then 0 else p * g) ∧ mdE p g 1 0 = (if p * g < -9223372036854775808 then 10 else 0) := by
  have hq : mdQ0 p g 1 = absI p * g := by unfold mdQ0; rw [show absI 1 = 1 by decide, Int.ediv_one, show absI g = g from if_neg (by omega)]
  have hr : mdR p g 1 = 0 := by unfold mdR; rw [show absI 1 = 1 by decide, Int.emod_one]
  have hm : mdM p g 1 = decide (p < 0) := by unfold mdM; by_cases h : p < 0 <;> simp [h] <;> omega
  have hQ : mdQ p g 1 0 = absI p * g := by unfold mdQ mdMore; rw [if_pos hr, hq]; rfl
  unfold mdX mdE mdMost
  rw [hQ, hm]
  by_cases h : p < 0
  · have ea : absI p * g = 0 - p * g := by rw [show absI p = 0 - p from if_pos h, Int.sub_mul, Int.zero_mul]
    simp only [h, decide_true, if_true, ea]
    constructor <;> (repeat' split) <;> omega
  · have ea : absI p * g = p * g := by rw [show absI p = p from if_neg h]
    have h3 : 0 ≤ p * g := Int.mul_nonneg (by omega) (by omega)
    simp only [h, decide_false, if_false, Bool.false_eq_true, ea]
    constructor <;> (repeat' split) <;> omega
noncomputable def cxR2 : Cx Try.prog := { ps := [rmdS, rfloorS], es := [], is := [], n0 := 0, loops := fun _ => none, cuts := fun _ => none }
set_option maxHeartbeats 4000000 in
theorem rgrain_runs (x : Int × Int) (hp : obp (some (I64 x.1 ∧ I64 x.2))) : Runs cxR2 Try.f44 [int_ .i64 x.1, int_ .i64 x.2] [] fun v _ => isRes (nn (grX x.1 x.2) (grE x.1 x.2)) v := by
  obtain ⟨s, n⟩ := x
  obtain ⟨hs, hn⟩ := hp
  dsimp only at *
  unfold I64 at *
  by_cases hb : n < 1 ∨ 1048576 < n
  · have e1 : grX s n = 0 := if_pos hb
    have e2 : grE s n = 1 := if_pos hb
    rw [e1, e2]
    repeat' (first | exact trivial | with_reducible exact rfl | exact Nat.le_refl _ | with_reducible exact (fun _ _ => rfl) | ((conv => whnf); first | (refine fun _ => ?_) | refine ⟨?_, ?_⟩ | exact trivial | exact lex_q (by kernel_rfl) | exact lex_t (by kernel_rfl) | exact lex_h (by kernel_rfl) | fail))
    all_goals (try dsimp only at *)
    all_goals (try unfold I64)
    all_goals omega
  · have hg : 0 < n * 65536 := by omega
    have wg : IntKind.i64.wrap (n * 65536) = n * 65536 := w64' (by omega) (by omega)
    have d1 := Int.mul_ediv_add_emod s (n * 65536)
    have r0 := Int.emod_nonneg s (show n * 65536 ≠ 0 by omega)
    have r1 := Int.emod_lt_of_pos s hg
    have b0 : s / (n * 65536) ≤ 9223372036854775807 := by
      rcases Int.lt_or_le s 0 with h | h
      · have := Int.ediv_neg_of_neg_of_pos h hg; omega
      · have := Int.ediv_le_self (n * 65536) h; omega
    have b1 : -9223372036854775808 ≤ s / (n * 65536) := by
      rw [Int.le_ediv_iff_mul_le hg]; omega
    have ef : s / (n * 65536) * (n * 65536) = grF s n := by unfold grF; rw [Int.mul_comm]; omega
    have eg : grF s n = s - s % (n * 65536) := rfl
    have t1 := times_one (p := s / (n * 65536)) (g := n * 65536) ⟨b1, b0⟩ ⟨by omega, by omega⟩ hg (by rw [ef]; omega) (by rw [ef]; omega)
    have e1 : grX s n = mdX (s / (n * 65536)) (n * 65536) 1 0 := by rw [t1.1, ef]; exact if_neg hb
    have e2 : grE s n = mdE (s / (n * 65536)) (n * 65536) 1 0 := by rw [t1.2, ef]; exact if_neg hb
    rw [e1, e2]
    clear t1 e1 e2 ef eg d1
    repeat' (first | exact trivial | with_reducible exact rfl | exact Nat.le_refl _ | with_reducible exact (fun _ _ => rfl) | ((conv => whnf); first | (refine fun _ => ?_) | refine ⟨?_, ?_⟩ | exact trivial | exact lex_q (by kernel_rfl) | exact lex_t (by kernel_rfl) | exact lex_h (by kernel_rfl) | fail))
    all_goals (try dsimp only at *)
    all_goals (try simp only [wg] at *)
    all_goals (try unfold I64)
    all_goals omega
noncomputable def rgrainS : PSpec Try.prog := readN fn44 (.s2 (.int .i64) (.int .i64)) (fun _ => cxR2) (fun x => some (I64 x.1 ∧ I64 x.2)) (fun x => nn (grX x.1 x.2) (grE x.1 x.2)) (fun _ => rfl) (fun _ => rfl) (fun _ => rfl) rgrain_runs

end Go.Proofs.Ytfppdbgbnaibgaa
