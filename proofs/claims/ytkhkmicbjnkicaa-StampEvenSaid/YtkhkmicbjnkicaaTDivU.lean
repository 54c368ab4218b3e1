/-
  Contracts of functions, and plain facts about them, that a claim of this seat uses.
-/
import Derived.Test.YtkhkmicbjnkicaaSx
import Derived.Test.YtkhkmicbjnkicaaTWideNum
import Derived.Test.YtkhkmicbjnkicaaTRef
import Derived.Test.YtkhkmicbjnkicaaTWideU
import Derived.Test.YtkhkmicbjnkicaaTLen
import Derived.Test.YtkhkmicbjnkicaaTDiv64
import Derived.Test.YtkhkmicbjnkicaaProg
namespace Go.Proofs.Ytkhkmicbjnkicaa
open Go.Sx
set_option linter.unusedVariables false
set_option linter.unusedSimpArgs false
set_option maxRecDepth 100000

/-! How often a number goes into one of 128 bits. -/
theorem fn20 : FnOf Try.prog 20 Try.f20 := ⟨Try.func20, rfl, rfl, mixed⟩
noncomputable def cxDU : Cx Try.prog := { ps := [div64S], es := [], is := [], n0 := 0, loops := fun _ => none, cuts := fun _ => none }
def duH (x : (Int × Int) × Int) : Int := if x.2 = 0 then 0 else x.1.1 / x.2
def duL (x : (Int × Int) × Int) : Int := if x.2 = 0 then 0 else (x.1.1 % x.2 * 18446744073709551616 + x.1.2) / x.2
def duR (x : (Int × Int) × Int) : Int := if x.2 = 0 then 0 else (x.1.1 % x.2 * 18446744073709551616 + x.1.2) % x.2
def duV (x : (Int × Int) × Int) : SV := .tup [u2 (duH x) (duL x), u64_ (duR x), .a (.v (.int .i64 (if x.2 = 0 then 11 else 0)))]
theorem du_facts (x : (Int × Int) × Int) (h : U64 x.1.1 ∧ U64 x.1.2 ∧ U64 x.2) : U64 (duH x) ∧ U64 (duL x) ∧ U64 (duR x) ∧ (x.2 ≠ 0 → duH x * 18446744073709551616 + duL x = val2 x.1 / x.2 ∧ duR x = val2 x.1 % x.2 ∧ duR x < x.2) := by
  obtain ⟨⟨a, c⟩, b⟩ := x
  obtain ⟨ha, hc, hb⟩ := h
  unfold U64 duH duL duR val2 at *
  dsimp only at *
  by_cases h0 : b = 0
  · simp [h0]
  · simp only [if_neg h0]
    have hb0 : 0 < b := by omega
    have e1 := Int.mul_ediv_add_emod a b
    have e2 := Int.mul_ediv_add_emod (a % b * 18446744073709551616 + c) b
    have r1 := Int.emod_nonneg a (show b ≠ 0 by omega)
    have r2 := Int.emod_lt_of_pos a hb0
    have r3 := Int.emod_nonneg (a % b * 18446744073709551616 + c) (show b ≠ 0 by omega)
    have r4 := Int.emod_lt_of_pos (a % b * 18446744073709551616 + c) hb0
    have q1 : 0 ≤ a / b := Int.ediv_nonneg ha.1 (by omega)
    have q2 : a / b ≤ a := Int.ediv_le_self _ ha.1
    have q3 : 0 ≤ (a % b * 18446744073709551616 + c) / b := Int.ediv_nonneg (by omega) (by omega)
    have q4 : (a % b * 18446744073709551616 + c) / b < 18446744073709551616 := by
      rw [Int.ediv_lt_iff_lt_mul hb0]
      have := Int.mul_le_mul_of_nonneg_right (show a % b ≤ b - 1 by omega) (show (0 : Int) ≤ 18446744073709551616 by decide)
      rw [Int.sub_mul] at this
      rw [Int.mul_comm]; omega
    refine ⟨⟨q1, by omega⟩, ⟨q3, q4⟩, ⟨r3, by omega⟩, fun _ => ?_⟩
    have key := (Int.ediv_emod_unique (a := a * 18446744073709551616 + c) (r := (a % b * 18446744073709551616 + c) % b) (q := a / b * 18446744073709551616 + (a % b * 18446744073709551616 + c) / b) hb0).2 ⟨by
      rw [Int.mul_add, ← Int.mul_assoc]; omega, r3, r4⟩
    exact ⟨key.1.symm, key.2.symm, r4⟩
theorem divu_runs (x : (Int × Int) × Int) (hp : obp (some (U64 x.1.1 ∧ U64 x.1.2 ∧ U64 x.2))) : Runs cxDU Try.f20 [.one (u2 x.1.1 x.1.2), int_ .u64 x.2] [] fun v _ => isRes (duV x) v := by
  obtain ⟨⟨a, c⟩, b⟩ := x
  obtain ⟨ha, hc, hb⟩ := hp
  unfold U64 duV duH duL duR at *
  dsimp only at *
  by_cases h0 : b = 0
  · repeat' (first | with_reducible exact trivial | with_reducible exact rfl | with_reducible exact Nat.le_refl _ | with_reducible exact (fun _ _ => rfl) | ((conv => whnf); first | (refine fun _ => ?_) | refine ⟨?_, ?_⟩ | exact trivial | exact Nat.le_refl _ | exact lex_q (by kernel_rfl) | exact lex_t (by kernel_rfl) | exact lex_h (by kernel_rfl) | fail))
    all_goals (try dsimp only at *)
    all_goals first
      | omega
      | simp [h0]
  · have r1 := Int.emod_nonneg a h0
    have r2 := Int.emod_lt_of_pos a (show 0 < b by omega)
    have q1 : 0 ≤ a / b := Int.ediv_nonneg ha.1 (by omega)
    have q2 : a / b ≤ a := Int.ediv_le_self _ ha.1
    simp only [if_neg h0]
    repeat' (first | with_reducible exact trivial | with_reducible exact rfl | with_reducible exact Nat.le_refl _ | with_reducible exact (fun _ _ => rfl) | ((conv => whnf); first | (refine fun _ => ?_) | refine ⟨?_, ?_⟩ | exact trivial | exact Nat.le_refl _ | exact lex_q (by kernel_rfl) | exact lex_t (by kernel_rfl) | exact lex_h (by kernel_rfl) | fail))
    all_goals (try dsimp only at *)
    all_goals (try simp (disch := omega) only [tdiv_pos, tmod_pos, wu64'] at *)
    all_goals (try omega)
noncomputable def divuS : PSpec Try.prog := readN fn20 (.s2 (.two .u64 .u64) (.int .u64)) (fun _ => cxDU) (fun x => some (U64 x.1.1 ∧ U64 x.1.2 ∧ U64 x.2)) duV (fun _ => rfl) (fun _ => rfl) (fun _ => rfl) divu_runs

end Go.Proofs.Ytkhkmicbjnkicaa
