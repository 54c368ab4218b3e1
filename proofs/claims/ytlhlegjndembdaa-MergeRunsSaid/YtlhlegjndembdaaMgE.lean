/-
  Contracts of functions, and plain facts about them, that a claim of this seat uses.
-/
import Derived.Test.YtlhlegjndembdaaSx
import Derived.Test.YtlhlegjndembdaaMgC
import Derived.Test.YtlhlegjndembdaaMgD
import Derived.Test.YtlhlegjndembdaaMgI1
import Derived.Test.YtlhlegjndembdaaMgI4
import Derived.Test.YtlhlegjndembdaaMgI6
import Derived.Test.YtlhlegjndembdaaMgI7
import Derived.Test.YtlhlegjndembdaaMgI8
import Derived.Test.YtlhlegjndembdaaProg
namespace Go.Proofs.Ytlhlegjndembdaa
open Go.Sx
set_option linter.unusedVariables false
set_option linter.unusedSimpArgs false
set_option maxRecDepth 100000

/-! merge: In's contract; the head. -/
theorem min_runs (t : Mg) (y : Int × Int × Int) (h : Nat) (hi : MgInv t h) : Runs cxMi Try.f30 (.one (.a (.ptr 0 0)) :: [int_ .i64 y.1, int_ .i64 y.2.1, int_ .i64 y.2.2]) (mgMem t h) fun v m => ghosted (fun _ _ => []) v m fun v m => anyO mgK (mgRen 0 m) v m [.one (mgV (mgIn t y.1 y.2.1 y.2.2)) (mgP (mgIn t y.1 y.2.1 y.2.2).2.2)] := by
  rcases w_cases hi.w with hw | hw | hw | hw | hw | hw | hw | hw
  · exact in_runs1 t hw y h hi
  · exact in_runs2 t hw y h hi
  · exact in_runs3 t hw y h hi
  · exact in_runs4 t hw y h hi
  · exact in_runs5 t hw y h hi
  · exact in_runs6 t hw y h hi
  · exact in_runs7 t hw y h hi
  · exact in_runs8 t hw y h hi
noncomputable def minS : ESpec Try.prog := obN fn30 84 mgK (.s3 (.int .i64) (.int .i64) (.int .i64)) mgR mgP mgR_ok (fun _ => rfl) (fun _ _ _ => cxMi) (fun _ _ => True) (fun t y => [.one (mgV (mgIn t y.1 y.2.1 y.2.2)) (mgP (mgIn t y.1 y.2.1 y.2.2).2.2)]) (fun _ _ => []) (fun _ m => mgRen 0 m) (fun _ _ _ => rfl) (fun t y _ h hi => min_runs t y h hi)
theorem fn27 : FnOf Try.prog 27 Try.f27 := ⟨Try.func27, rfl, rfl, mixed⟩
theorem fn29 : FnOf Try.prog 29 Try.f29 := ⟨Try.func29, rfl, rfl, mixed⟩
def plC (li : Int) : MC := ⟨2, 0, 16, 1099511627776, 0, 16, 1099511627776, 10, li⟩
theorem pl_runs (li : Int) (_ : obp (some True)) : Runs C00 Try.f29 [int_ .i64 li] [] fun v _ => isRes (.one (.agg [i_ 2, i_ 0, i_ 16, i_ 1099511627776, i_ 0, i_ 16, i_ 1099511627776, i_ 10, i_ li])) v := by
  repeat' (first | with_reducible exact trivial | with_reducible exact rfl | with_reducible exact Nat.le_refl _ | with_reducible exact (fun _ _ => rfl) | ((conv => whnf); first | (refine fun _ => ?_) | refine ⟨?_, ?_⟩ | exact trivial | exact Nat.le_refl _ | exact lex_q (by kernel_rfl) | exact lex_t (by kernel_rfl) | exact lex_h (by kernel_rfl) | fail))
noncomputable def plS : PSpec Try.prog := readN fn29 (.s1 (.int .i64)) (fun _ => C00) (fun _ => some True) (fun li => .one (.agg [i_ 2, i_ 0, i_ 16, i_ 1099511627776, i_ 0, i_ 16, i_ 1099511627776, i_ 10, i_ li])) (fun _ => rfl) (fun _ => rfl) (fun _ => rfl) pl_runs
noncomputable def cxMHd : Cx Try.prog := { ps := [plS, siS], es := [mnS, minS, lkS], is := [], n0 := 0, loops := fun _ => none, cuts := fun _ => none }
def hT0 : Mg := mg0 ⟨2, 0, 16, 1099511627776, 0, 16, 1099511627776, 10, 1⟩ 0
def hT1 : Mg := (mgIn hT0 1 0 0).2.2
def hT2 : Mg := (mgIn hT1 2 0 1).2.2
theorem mhd_facts : ((mgIn hT0 1 0 0).1 = true ∧ (mgIn hT0 1 0 0).2.1 = 0) ∧ ((mgIn hT1 2 0 1).1 = true ∧ (mgIn hT1 2 0 1).2.1 = 0) ∧ (lkIn hT2 10).1 = true ∧ (lkIn hT2 10).2.silent = 1 := by decide +kernel
theorem mhd_ok : MN ⟨2, 0, 16, 1099511627776, 0, 16, 1099511627776, 10, 1⟩ 0 := by
  unfold MN MCs MCOK CfOK
  decide
section
attribute [local irreducible] mgIn lkIn MN
set_option maxHeartbeats 8000000 in
theorem mhd_runs (_ : Unit) (_ : obp (some True)) : Runs cxMHd Try.f27 [] [] fun v _ => isRes (.one (.a (.v (.bool true)))) v := by
  obtain ⟨⟨f1, f2⟩, ⟨f3, f4⟩, f5, f6⟩ := mhd_facts
  have f0 := mhd_ok
  repeat' (first | with_reducible exact trivial | with_reducible exact rfl | with_reducible exact Nat.le_refl _ | with_reducible exact (fun _ _ => rfl) | ((conv => whnf); first | (refine fun _ => ?_) | refine ⟨?_, ?_⟩ | exact trivial | exact Nat.le_refl _ | exact lex_q (by kernel_rfl) | exact lex_t (by kernel_rfl) | exact lex_h (by kernel_rfl) | fail))
  all_goals first
    | exact absurd f0 (by assumption)
    | exact absurd rfl (by assumption : ¬ (0 : Int) = 0)
    | exact (decide_eq_true f6).symm
    | exact absurd f1 (by assumption)
    | exact absurd f2 (by assumption)
    | exact absurd f3 (by assumption)
    | exact absurd f4 (by assumption)
    | exact absurd f5 (by assumption)
    | exact absurd (by assumption : (mgIn hT0 1 0 0).1 = false) (by rw [f1]; decide)
    | exact absurd (by assumption : (mgIn hT1 2 0 1).1 = false) (by rw [f3]; decide)
    | exact absurd (by assumption : (lkIn hT2 10).1 = false) (by rw [f5]; decide)
end
noncomputable def mhdS : PSpec Try.prog := readN fn27 Sig.s0 (fun _ => cxMHd) (fun _ => some True) (fun _ => .one (.a (.v (.bool true)))) (fun _ => rfl) (fun _ => rfl) (fun _ => rfl) mhd_runs

end Go.Proofs.Ytlhlegjndembdaa
