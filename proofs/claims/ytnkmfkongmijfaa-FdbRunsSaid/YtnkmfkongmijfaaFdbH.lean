/-
  Contracts of functions, and plain facts about them, that a claim of this seat uses.
-/
import Derived.Test.YtnkmfkongmijfaaSx
import Derived.Test.YtnkmfkongmijfaaFdbE
import Derived.Test.YtnkmfkongmijfaaProg
namespace Go.Proofs.Ytnkmfkongmijfaa
open Go.Sx
set_option linter.unusedVariables false
set_option linter.unusedSimpArgs false
set_option maxRecDepth 100000

/-! fdb: the laws' head. -/
theorem fn9 : FnOf Try.prog 9 Try.f9 := ⟨Try.func9, rfl, rfl, mixed⟩
noncomputable def cxH : Cx Try.prog := { ps := [otS, lnS], es := [newS, svS, lrS], is := [], n0 := 0, loops := fun _ => none, cuts := fun _ => none }
theorem h_new : nOK 3 9 := by unfold nOK; decide
def hP : Pl := ⟨5, 2, 0, 0, 0, 0, 0⟩
def hV : Vl := ⟨7, 4⟩
def hT1 : Ft := svT (ft0 3 9) 5 hV
def hT2 : Ft := lrT hT1 hP 1 0
theorem h_pw : PlW hP := ⟨⟨by decide, by decide⟩, ⟨by decide, by decide⟩, ⟨by decide, by decide⟩, ⟨by decide, by decide⟩, ⟨by decide, by decide⟩, ⟨by decide, by decide⟩, ⟨by decide, by decide⟩, trivial⟩
theorem h_1 : svE (ft0 3 9) 5 hV = 0 := by kernel_rfl
theorem h_2 : otP hT1 0 hP = 6 := by kernel_rfl
theorem h_3 : otB hT1 0 hP = 4 := by kernel_rfl
theorem h_4 : lrE hT1 hP 1 = 0 := by kernel_rfl
theorem h_5 : otP hT2 0 hP = 2 := by kernel_rfl
theorem h_6 : otB hT2 0 hP = 0 := by kernel_rfl
section
attribute [local irreducible] nOK svE svT lrE lrT otP otB ft0 PlW
set_option maxHeartbeats 4000000 in
theorem head_runs (_ : Unit) (_ : obp none) : Runs cxH Try.f9 [] [] fun v _ => isRes (.one (.a (.v (.bool true)))) v := by
  repeat' (first | with_reducible exact trivial | with_reducible exact rfl | with_reducible exact Nat.le_refl _ | with_reducible exact (fun _ _ => rfl) | ((conv => whnf); first | (exact fun h => absurd h (by decide)) | (intro h9; (have h8 := of_decide_eq_true (p := type_of% h9) (by decide)); clear h8 h9) | (refine fun _ => ?_) | refine ⟨?_, ?_⟩ | exact trivial | exact Nat.le_refl _ | exact lex_q (by kernel_rfl) | exact lex_t (by kernel_rfl) | exact lex_h (by kernel_rfl) | fail))
  all_goals (try exact absurd h_new (by assumption))
  all_goals (try exact h_pw)
  all_goals (try first | exact absurd h_1 (by assumption) | exact absurd h_2 (by assumption) | exact absurd h_3 (by assumption) | exact absurd h_4 (by assumption) | exact absurd h_5 (by assumption) | exact (decide_eq_true h_6).symm | fail)
end
noncomputable def hdS : PSpec Try.prog := readN fn9 Sig.s0 (fun _ => cxH) (fun _ => none) (fun _ => .one (.a (.v (.bool true)))) (fun _ => rfl) (fun _ => rfl) (fun _ => rfl) head_runs

end Go.Proofs.Ytnkmfkongmijfaa
