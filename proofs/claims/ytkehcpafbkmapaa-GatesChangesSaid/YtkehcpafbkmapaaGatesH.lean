/-
  Contracts of functions, and plain facts about them, that a claim of this seat uses.
-/
import Derived.Test.YtkehcpafbkmapaaSx
import Derived.Test.YtkehcpafbkmapaaGatesNum
import Derived.Test.YtkehcpafbkmapaaGatesA
import Derived.Test.YtkehcpafbkmapaaGatesB
import Derived.Test.YtkehcpafbkmapaaProg
namespace Go.Proofs.Ytkehcpafbkmapaa
open Go.Sx
set_option linter.unusedVariables false
set_option linter.unusedSimpArgs false
set_option maxRecDepth 100000

/-! lists of gates: the laws' heads. -/
theorem fn28 : FnOf Try.prog 28 Try.f28 := ⟨Try.func28, rfl, rfl, mixed⟩
theorem fn10 : FnOf Try.prog 10 Try.f10 := ⟨Try.func10, rfl, rfl, mixed⟩
theorem fn19 : FnOf Try.prog 19 Try.f19 := ⟨Try.func19, rfl, rfl, mixed⟩
theorem fn22 : FnOf Try.prog 22 Try.f22 := ⟨Try.func22, rfl, rfl, mixed⟩
theorem fn17 : FnOf Try.prog 17 Try.f17 := ⟨Try.func17, rfl, rfl, mixed⟩
theorem fn15 : FnOf Try.prog 15 Try.f15 := ⟨Try.func15, rfl, rfl, mixed⟩
attribute [local irreducible] enter anyAlt Gw
def Sig.s0 : Sig Unit where
  sh := []
  pat := fun a => match a with | [] => some () | _ => none
  arg := fun _ => []
  ok := fun a x h => by
    split at h
    · rfl
    · cases h
def C00 : Cx Try.prog := { ps := [], es := [], is := [], n0 := 0, loops := fun _ => none, cuts := fun _ => none }
noncomputable def cxHd : Cx Try.prog := { ps := [stateS, leftS, nextS, turnS], es := [], is := [inl fn28 C00], n0 := 0, loops := fun _ => none, cuts := fun _ => none }
def twoL : GL := ⟨0, 10, 2, 2, 2, fun r => [(1 : Int), 2].getD r 0, fun r => [(3 : Int), 4].getD r 0⟩
theorem two_w : Gw twoL := Gw.mk ⟨by unfold I64 twoL; decide, by unfold I64 twoL; decide, by decide, by decide, by decide, fun i hi => by
  have hi : i < 2 := hi
  rcases (by omega : i = 0 ∨ i = 1) with h | h <;> subst h <;> (unfold I64 twoL; decide)⟩
set_option maxHeartbeats 8000000 in
theorem st_runs (_ : Unit) (_ : obp (some True)) : Runs cxHd Try.f10 [] [] fun v _ => isRes (.one (.a (.v (.bool true)))) v := by
  have w := two_w
  have e1 : stateV twoL 12 = 1 := by decide +kernel
  have e2 : stateV twoL 13 = 2 := by decide +kernel
  repeat' (first | with_reducible exact trivial | with_reducible exact rfl | with_reducible exact Nat.le_refl _ | with_reducible exact (fun _ _ => rfl) | ((conv => whnf); first | (refine fun _ => ?_) | refine ⟨?_, ?_⟩ | exact trivial | exact Nat.le_refl _ | exact lex_q (by kernel_rfl) | exact lex_t (by kernel_rfl) | exact lex_h (by kernel_rfl) | fail))
  all_goals (try dsimp only at *)
  all_goals (try omega)
  all_goals first | exact w | exact absurd e1 (by assumption) | exact (decide_eq_true e2).symm
noncomputable def hStS : PSpec Try.prog := readN fn10 Sig.s0 (fun _ => cxHd) (fun _ => some True) (fun _ => .one (.a (.v (.bool true)))) (fun _ => rfl) (fun _ => rfl) (fun _ => rfl) st_runs
set_option maxHeartbeats 8000000 in
theorem lf_runs (_ : Unit) (_ : obp (some True)) : Runs cxHd Try.f19 [] [] fun v _ => isRes (.one (.a (.v (.bool true)))) v := by
  have w := two_w
  have e1 : leftV twoL 14 1 = 6 := by decide +kernel
  repeat' (first | with_reducible exact trivial | with_reducible exact rfl | with_reducible exact Nat.le_refl _ | with_reducible exact (fun _ _ => rfl) | ((conv => whnf); first | (refine fun _ => ?_) | refine ⟨?_, ?_⟩ | exact trivial | exact Nat.le_refl _ | exact lex_q (by kernel_rfl) | exact lex_t (by kernel_rfl) | exact lex_h (by kernel_rfl) | fail))
  all_goals (try dsimp only at *)
  all_goals (try omega)
  all_goals first | exact w | exact absurd e1 (by assumption) | exact (decide_eq_true e1).symm
noncomputable def hLfS : PSpec Try.prog := readN fn19 Sig.s0 (fun _ => cxHd) (fun _ => some True) (fun _ => .one (.a (.v (.bool true)))) (fun _ => rfl) (fun _ => rfl) (fun _ => rfl) lf_runs
set_option maxHeartbeats 8000000 in
theorem nx_runs (_ : Unit) (_ : obp (some True)) : Runs cxHd Try.f22 [] [] fun v _ => isRes (.one (.a (.v (.bool true)))) v := by
  have w := two_w
  have e1 : nextV twoL 4 0 = 6 := by decide +kernel
  have e2 : nextB twoL 4 0 = true := by decide +kernel
  repeat' (first | with_reducible exact trivial | with_reducible exact rfl | with_reducible exact Nat.le_refl _ | with_reducible exact (fun _ _ => rfl) | ((conv => whnf); first | (refine fun _ => ?_) | refine ⟨?_, ?_⟩ | exact trivial | exact Nat.le_refl _ | exact lex_q (by kernel_rfl) | exact lex_t (by kernel_rfl) | exact lex_h (by kernel_rfl) | fail))
  all_goals (try dsimp only at *)
  all_goals (try omega)
  all_goals first | exact w | exact absurd e1 (by assumption) | exact (decide_eq_true e1).symm | exact absurd (e2.symm.trans (by assumption : _ = false)) (by decide)
noncomputable def hNxS : PSpec Try.prog := readN fn22 Sig.s0 (fun _ => cxHd) (fun _ => some True) (fun _ => .one (.a (.v (.bool true)))) (fun _ => rfl) (fun _ => rfl) (fun _ => rfl) nx_runs
set_option maxHeartbeats 8000000 in
theorem tu_runs (_ : Unit) (_ : obp (some True)) : Runs cxHd Try.f17 [] [] fun v _ => isRes (.one (.a (.v (.bool true)))) v := by
  have w := two_w
  have e1 : turnV twoL 11 = 20 := by decide +kernel
  have e2 : turnB twoL 11 = true := by decide +kernel
  repeat' (first | with_reducible exact trivial | with_reducible exact rfl | with_reducible exact Nat.le_refl _ | with_reducible exact (fun _ _ => rfl) | ((conv => whnf); first | (refine fun _ => ?_) | refine ⟨?_, ?_⟩ | exact trivial | exact Nat.le_refl _ | exact lex_q (by kernel_rfl) | exact lex_t (by kernel_rfl) | exact lex_h (by kernel_rfl) | fail))
  all_goals (try dsimp only at *)
  all_goals (try omega)
  all_goals first | exact w | exact absurd e1 (by assumption) | exact (decide_eq_true e1).symm | exact absurd (e2.symm.trans (by assumption : _ = false)) (by decide)
noncomputable def hTuS : PSpec Try.prog := readN fn17 Sig.s0 (fun _ => cxHd) (fun _ => some True) (fun _ => .one (.a (.v (.bool true)))) (fun _ => rfl) (fun _ => rfl) (fun _ => rfl) tu_runs
theorem ins_runs (a : Int) (_ : obp (some True)) : Runs C00 Try.f15 [int_ .i64 a] [] fun v _ => isRes (.one (.a (.v (.bool (decide (inR a)))))) v := by
  repeat' (first | with_reducible exact trivial | with_reducible exact rfl | with_reducible exact Nat.le_refl _ | with_reducible exact (fun _ _ => rfl) | ((conv => whnf); first | (refine fun _ => ?_) | refine ⟨?_, ?_⟩ | exact trivial | exact Nat.le_refl _ | exact lex_q (by kernel_rfl) | exact lex_t (by kernel_rfl) | exact lex_h (by kernel_rfl) | fail))
  all_goals (try dsimp only at *)
  all_goals first
    | (symm; apply decide_eq_false; unfold inR; omega)
    | (apply decide_eq_false; unfold inR; omega)
    | (rw [decide_eq_decide]; unfold inR; omega)
noncomputable def insS : PSpec Try.prog := readN fn15 (.s1 (.int .i64)) (fun _ => C00) (fun _ => some True) (fun a => .one (.a (.v (.bool (decide (inR a)))))) (fun _ => rfl) (fun _ => rfl) (fun _ => rfl) ins_runs
/-! what comes in -/
theorem gw_of {w : World} {b c : Int} {v : Value} {A : Option Addr} {n cap : Nat} (hb : (Lit.int .i64 b).wf = true) (hc : (Lit.int .i64 c).wf = true) (s : Slc w v [some .i64, some .i64] A n cap) : Gw ⟨b, c, n, cap, n, fun r => intC w A (r * 2 + 0), fun r => intC w A (r * 2 + 1)⟩ :=
  Gw.mk ⟨i64_of hb, i64_of hc, s.le, Nat.le_refl _, s.max, fun i hi => ⟨i64_of (s.wf 0 .i64 rfl i hi), i64_of (s.wf 1 .i64 rfl i hi)⟩⟩
theorem den_gl {b c : Int} {A : Option Addr} {n cap N : Nat} {f g : Nat → Int} : (G1 0 ⟨b, c, n, cap, N, f, g⟩).den (envOf [A]) = .agg #[.int .i64 b, .int .i64 c, .slice A n cap] := by
  show Value.agg ([_, _, SA.den (envOf [A]) (.slc 0 2 0 n cap)].toArray) = _
  rw [den_slc (A := A) rfl]; rfl

end Go.Proofs.Ytkehcpafbkmapaa
