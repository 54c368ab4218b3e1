/-
  Contracts of functions, and plain facts about them, that a claim of this seat uses.
-/
import Derived.Test.YtaadejgoafdbcaaSx
import Derived.Test.YtaadejgoafdbcaaPLanG
import Derived.Test.YtaadejgoafdbcaaProg
namespace Go.Proofs.Ytaadejgoafdbcaa
open Go.Sx
set_option linter.unusedVariables false
set_option linter.unusedSimpArgs false
set_option maxRecDepth 100000

/-! lanes: the laws' head. -/
noncomputable def cxE : Cx Try.prog := { ps := [], es := [], is := [], n0 := 0, loops := fun _ => none, cuts := fun _ => none }
def eightC (n : Int) : A8 := ⟨n, n, n, n, n, n, n, n⟩
set_option maxHeartbeats 4000000 in
theorem eight_runs (n : Int) (_ : obp none) : Runs cxE Try.f9 [int_ .i64 n] [] fun v _ => isRes (a8C (eightC n)) v := by
  repeat' (first | with_reducible exact trivial | with_reducible exact rfl | with_reducible exact Nat.le_refl _ | with_reducible exact (fun _ _ => rfl) | ((conv => whnf); first | (exact fun h => absurd h (by decide)) | (intro h9; (have h8 := of_decide_eq_true (p := type_of% h9) (by decide)); clear h8 h9) | (refine fun _ => ?_) | refine ⟨?_, ?_⟩ | exact trivial | exact Nat.le_refl _ | exact lex_q (by kernel_rfl) | exact lex_t (by kernel_rfl) | exact lex_h (by kernel_rfl) | fail))
  all_goals rfl
set_option maxHeartbeats 4000000 in
noncomputable def eightS : PSpec Try.prog := readN fn9 (.s1 (.int .i64)) (fun _ => cxE) (fun _ => none) (fun n => a8C (eightC n)) (fun _ => rfl) (fun _ => rfl) (fun _ => rfl) eight_runs
theorem rooms_eight {n : Int} (h : 0 ≤ n ∧ n ≤ 4096) : roomsOK (eightC n) := by
  intro k hk
  rcases (by omega : k = 0 ∨ k = 1 ∨ k = 2 ∨ k = 3 ∨ k = 4 ∨ k = 5 ∨ k = 6 ∨ k = 7) with rfl | rfl | rfl | rfl | rfl | rfl | rfl | rfl <;> exact h

end Go.Proofs.Ytaadejgoafdbcaa
