/-
  Contracts of functions, and plain facts about them, that a claim of this seat uses.
-/
import Derived.Test.YtbbiennjigpheaaSx
import Derived.Test.YtbbiennjigpheaaLanG
import Derived.Test.YtbbiennjigpheaaProg
namespace Go.Proofs.Ytbbiennjigpheaa
open Go.Sx
set_option linter.unusedVariables false
set_option linter.unusedSimpArgs false
set_option maxRecDepth 100000

/-! lanes: the laws' head. -/
theorem fn7 : FnOf Try.prog 7 Try.f7 := ⟨Try.func7, rfl, rfl, mixed⟩
noncomputable def cxE : Cx Try.prog := { ps := [], es := [], is := [], n0 := 0, loops := fun _ => none, cuts := fun _ => none }
def eightC (n : Int) : A8 := ⟨n, n, n, n, n, n, n, n⟩
set_option maxHeartbeats 4000000 in
theorem eight_runs (n : Int) (_ : obp none) : Runs cxE Try.f9 [int_ .i64 n] [] fun v _ => isRes (a8C (eightC n)) v := by
  repeat' (first | with_reducible exact trivial | with_reducible exact rfl | with_reducible exact Nat.le_refl _ | with_reducible exact (fun _ _ => rfl) | ((conv => whnf); first | (exact fun h => absurd h (by decide)) | (intro h9; (have h8 := of_decide_eq_true (p := type_of% h9) (by decide)); clear h8 h9) | (refine fun _ => ?_) | refine ⟨?_, ?_⟩ | exact trivial | exact Nat.le_refl _ | exact lex_q (by kernel_rfl) | exact lex_t (by kernel_rfl) | exact lex_h (by kernel_rfl) | fail))
  all_goals rfl
set_option maxHeartbeats 4000000 in
noncomputable def eightS : PSpec Try.prog := readN fn9 (.s1 (.int .i64)) (fun _ => cxE) (fun _ => none) (fun n => a8C (eightC n)) (fun _ => rfl) (fun _ => rfl) (fun _ => rfl) eight_runs
theorem rooms_eight {n : Int} (h : 0 ≤ n ∧ n ≤ 4096) : roomsOK (eightC n) := by
  intro k hk
  rcases (by omega : k = 0 ∨ k = 1 ∨ k = 2 ∨ k = 3 ∨ k = 4 ∨ k = 5 ∨ k = 6 ∨ k = 7) with rfl | rfl | rfl | rfl | rfl | rfl | rfl | rfl <;> exact h
noncomputable def cxH : Cx Try.prog := { ps := [eightS], es := [newS, putS, pickS], is := [], n0 := 0, loops := fun _ => none, cuts := fun _ => none }
section
attribute [local irreducible] roomsOK
set_option maxHeartbeats 4000000 in
theorem head_runs (_ : Unit) (_ : obp none) : Runs cxH Try.f7 [] [] fun v _ => isRes (.one (.a (.v (.bool true)))) v := by
  have h2 : roomsOK (eightC 2) := rooms_eight (by decide)
  repeat' (first | with_reducible exact trivial | with_reducible exact rfl | with_reducible exact Nat.le_refl _ | with_reducible exact (fun _ _ => rfl) | ((conv => whnf); first | (exact fun h => absurd h (by decide)) | (intro h9; (have h8 := of_decide_eq_true (p := type_of% h9) (by decide)); clear h8 h9) | (refine fun _ => ?_) | refine ⟨?_, ?_⟩ | exact trivial | exact Nat.le_refl _ | exact lex_q (by kernel_rfl) | exact lex_t (by kernel_rfl) | exact lex_h (by kernel_rfl) | fail))
  all_goals exact absurd h2 (by assumption)
end
noncomputable def hdS : PSpec Try.prog := readN fn7 Sig.s0 (fun _ => cxH) (fun _ => none) (fun _ => .one (.a (.v (.bool true)))) (fun _ => rfl) (fun _ => rfl) (fun _ => rfl) head_runs

end Go.Proofs.Ytbbiennjigpheaa
