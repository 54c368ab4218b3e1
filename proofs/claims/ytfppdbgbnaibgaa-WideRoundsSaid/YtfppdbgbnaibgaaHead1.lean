/-
  Contracts of functions, and plain facts about them, that a claim of this seat uses.
-/
import Derived.Test.YtfppdbgbnaibgaaSx
import Derived.Test.YtfppdbgbnaibgaaWideNum
import Derived.Test.YtfppdbgbnaibgaaRefA
import Derived.Test.YtfppdbgbnaibgaaRefB
import Derived.Test.YtfppdbgbnaibgaaWideU
import Derived.Test.YtfppdbgbnaibgaaLen
import Derived.Test.YtfppdbgbnaibgaaDiv64
import Derived.Test.YtfppdbgbnaibgaaDivU
import Derived.Test.YtfppdbgbnaibgaaMulDiv
import Derived.Test.YtfppdbgbnaibgaaProg
namespace Go.Proofs.Ytfppdbgbnaibgaa
open Go.Sx
set_option linter.unusedVariables false
set_option linter.unusedSimpArgs false
set_option maxRecDepth 100000

/-! what a times b by c gives, in the three ways; the statements' head. -/
def Sig.s0 : Sig Unit where
  sh := []
  pat := fun a => match a with | [] => some () | _ => none
  arg := fun _ => []
  ok := fun a x h => by
    split at h
    · rfl
    · cases h
theorem fn39 : FnOf Try.prog 39 Try.f39 := ⟨Try.func39, rfl, rfl, mixed⟩
noncomputable def cxH1 : Cx Try.prog := { ps := [muldivS], es := [], is := [], n0 := 0, loops := fun _ => none, cuts := fun _ => none }
theorem head1_runs (_ : Unit) (_ : obp (some True)) : Runs cxH1 Try.f39 [] [] fun v _ => isRes (.one (.a (.v (.bool true)))) v := by
  have x0 : mdX 7 3 2 0 = 10 := by decide
  have e0 : mdE 7 3 2 0 = 0 := by decide
  have x1 : mdX 7 3 2 1 = 11 := by decide
  have e1 : mdE 7 3 2 1 = 0 := by decide
  repeat' (first | exact trivial | with_reducible exact rfl | exact Nat.le_refl _ | with_reducible exact (fun _ _ => rfl) | ((conv => whnf); first | (refine fun _ => ?_) | refine ⟨?_, ?_⟩ | exact trivial | exact lex_q (by kernel_rfl) | exact lex_t (by kernel_rfl) | exact lex_h (by kernel_rfl) | fail))
  all_goals (try dsimp only at *)
  all_goals (first | (unfold I64; omega) | omega | (simp [x0, e0, x1, e1] at *; done) | (unfold I64; simp; done))
noncomputable def head1S : PSpec Try.prog := readN fn39 Sig.s0 (fun _ => cxH1) (fun _ => some True) (fun _ => .one (.a (.v (.bool true)))) (fun _ => rfl) (fun _ => rfl) (fun _ => rfl) head1_runs
theorem mdX_bd {a b c r : Int} (ha : I64 a) (hb : I64 b) (hc : I64 c) : I64 (mdX a b c r) := by
  have aa := absI_bd ha
  have ab := absI_bd hb
  have ac := absI_bd hc
  have q0 : 0 ≤ mdQ0 a b c := Int.ediv_nonneg (Int.mul_nonneg aa.1 ab.1) ac.1
  have h1 : 0 ≤ mdQ a b c r := by unfold mdQ; split <;> omega
  unfold I64 mdX mdMost
  by_cases hm : mdM a b c = true
  · simp only [hm, if_true]; split <;> omega
  · simp only [hm, if_false]; split <;> omega
theorem near_facts {a b c : Int} (ha : I64 a) (hb : I64 b) (hc : I64 c) :
    (c = 0 → mdE a b c 0 = 11 ∧ mdE a b c 2 = 11 ∧ mdE a b c 1 = 11) ∧ (c ≠ 0 → mdE a b c 0 = 0 → mdE a b c 1 = 0 → mdE a b c 2 = 0 ∧ mdX a b c 0 ≤ mdX a b c 2 ∧ mdX a b c 2 ≤ mdX a b c 1 ∧ (mdX a b c 1 = mdX a b c 0 ∨ mdX a b c 1 - 1 = mdX a b c 0)) := by
  have aa := absI_bd ha
  have ab := absI_bd hb
  have ac := absI_bd hc
  have q0 : 0 ≤ mdQ0 a b c := Int.ediv_nonneg (Int.mul_nonneg aa.1 ab.1) ac.1
  refine ⟨fun h => ?_, fun h e0 e1 => ?_⟩
  · unfold mdE; simp [h]
  · have E : ∀ r : Int, 0 ≤ r → r ≤ 2 → mdE a b c r = if mdMost a b c < mdQ a b c r then 10 else 0 := fun r h1 h2 => by
      unfold mdE; rw [if_neg (by omega), if_neg h]
    have X : ∀ r : Int, 0 ≤ r → r ≤ 2 → mdX a b c r = if mdMost a b c < mdQ a b c r then 0 else if mdM a b c = true then 0 - mdQ a b c r else mdQ a b c r := fun r h1 h2 => by
      unfold mdX
      by_cases hq : mdMost a b c < mdQ a b c r
      · rw [if_pos (by omega), if_pos hq]
      · rw [if_neg (by omega), if_neg hq]
    rw [E 0 (by omega) (by omega)] at e0
    rw [E 1 (by omega) (by omega)] at e1
    rw [E 2 (by omega) (by omega), X 0 (by omega) (by omega), X 1 (by omega) (by omega), X 2 (by omega) (by omega)]
    have g0 : ¬ mdMost a b c < mdQ a b c 0 := by intro hh; rw [if_pos hh] at e0; omega
    have g1 : ¬ mdMost a b c < mdQ a b c 1 := by intro hh; rw [if_pos hh] at e1; omega
    rw [if_neg g0, if_neg g1]
    clear E X e0 e1
    have key : mdQ a b c 2 = mdQ a b c 0 ∨ mdQ a b c 2 = mdQ a b c 1 := by
      unfold mdQ mdMore
      simp only [if_true, if_false, show ¬ (1 : Int) = 0 by decide, show ¬ (2 : Int) = 0 by decide, show ¬ (2 : Int) = 1 by decide]
      generalize decide (absI c - mdR a b c < mdR a b c ∨ mdR a b c = absI c - mdR a b c ∧ mdQ0 a b c % 2 = 1) = z
      by_cases hr : mdR a b c = 0
      · simp [hr]
      · simp only [hr, if_false]
        cases mdM a b c <;> cases z <;> simp
    have key2 : (mdM a b c = true ∧ (mdQ a b c 0 = mdQ a b c 1 ∨ mdQ a b c 0 = mdQ a b c 1 + 1)) ∨ (mdM a b c = false ∧ (mdQ a b c 1 = mdQ a b c 0 ∨ mdQ a b c 1 = mdQ a b c 0 + 1)) := by
      unfold mdQ mdMore
      simp only [if_true, if_false, show ¬ (1 : Int) = 0 by decide]
      by_cases hr : mdR a b c = 0
      · simp [hr]
      · simp only [hr, if_false]
        cases mdM a b c <;> simp
    rw [if_neg (show ¬ mdMost a b c < mdQ a b c 2 by omega), if_neg (show ¬ mdMost a b c < mdQ a b c 2 by omega)]
    rcases key2 with ⟨hm, hk⟩ | ⟨hm, hk⟩ <;> simp only [hm, if_true, if_false, Bool.false_eq_true] <;> (refine ⟨by trivial, ?_, ?_, ?_⟩ <;> omega)
theorem back_at {a b c d : Int} (ha : I64 a) (hbd : absI b = absI c) (hc0 : c ≠ 0) (hc : I64 c) (hq : absI a ≤ 9223372036854775807) (r : Int) (h1 : 0 ≤ r) (h2 : r ≤ 2) (hd : d = if mdM a b c = true then 0 - absI a else absI a) : mdE a b c r = 0 ∧ mdX a b c r = d := by
  have ac := absI_bd hc
  have q : mdQ0 a b c = absI a := by unfold mdQ0; rw [hbd]; exact Int.mul_ediv_cancel _ (by omega)
  have rr : mdR a b c = 0 := by unfold mdR; rw [hbd]; exact Int.mul_emod_left _ _
  have e : mdQ a b c r = absI a := by unfold mdQ mdMore; rw [if_pos rr, q]; rfl
  have m : 9223372036854775807 ≤ mdMost a b c := by unfold mdMost; split <;> omega
  unfold mdE mdX
  rw [e, if_neg (by omega), if_neg hc0, if_neg (by omega), if_neg (by omega), hd]
  exact ⟨rfl, rfl⟩
theorem back_facts {a b : Int} (ha : I64 a) (hb : I64 b) (h0 : b ≠ 0) (ha1 : a ≠ -9223372036854775808) (hb1 : b ≠ -9223372036854775808) :
    (mdE a b b 0 = 0 ∧ mdX a b b 0 = a) ∧ (mdE (-a) b b 1 = 0 ∧ mdX (-a) b b 1 = -a) ∧ (mdE a (-b) b 2 = 0 ∧ mdX a (-b) b 2 = -a) := by
  have hna : I64 (-a) := by unfold I64 at *; omega
  refine ⟨back_at ha rfl h0 hb ?_ 0 (by omega) (by omega) ?_, back_at hna rfl h0 hb ?_ 1 (by omega) (by omega) ?_, back_at ha ?_ h0 hb ?_ 2 (by omega) (by omega) ?_⟩
  all_goals unfold I64 at *
  all_goals (try unfold mdM)
  all_goals unfold absI
  · split <;> omega
  · by_cases h1 : a < 0 <;> by_cases h2 : b < 0 <;> simp [h1, h2]
  · split <;> omega
  · by_cases h1 : a < 0 <;> by_cases h2 : b < 0 <;> by_cases h3 : -a < 0 <;> simp [h1, h2, h3] <;> omega
  · split <;> split <;> omega
  · split <;> omega
  · by_cases h1 : a < 0 <;> by_cases h2 : b < 0 <;> by_cases h3 : -b < 0 <;> simp [h1, h2, h3] <;> omega

end Go.Proofs.Ytfppdbgbnaibgaa
