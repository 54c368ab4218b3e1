/-
  Contracts of functions, and plain facts about them, that a claim of this seat uses.
-/
import Derived.Test.YtdphgjnflaahbaaSx
import Derived.Test.YtdphgjnflaahbaaMWideNum
import Derived.Test.YtdphgjnflaahbaaMRefA
import Derived.Test.YtdphgjnflaahbaaMRefB
import Derived.Test.YtdphgjnflaahbaaMWideU
import Derived.Test.YtdphgjnflaahbaaMLen
import Derived.Test.YtdphgjnflaahbaaMDiv64
import Derived.Test.YtdphgjnflaahbaaMDivU
import Derived.Test.YtdphgjnflaahbaaMMulDiv
import Derived.Test.YtdphgjnflaahbaaProg
namespace Go.Proofs.Ytdphgjnflaahbaa
open Go.Sx
set_option linter.unusedVariables false
set_option linter.unusedSimpArgs false
set_option maxRecDepth 100000

/-! held at the ends. -/
theorem fn32 : FnOf Try.prog 32 Try.f32 := ⟨Try.func32, rfl, rfl, mixed⟩
def mdH (a b c r : Int) : Int := if mdE a b c r = 10 then (if mdM a b c = true then -9223372036854775808 else 9223372036854775807) else mdX a b c r
noncomputable def cxHe : Cx Try.prog := { ps := [muldivS], es := [], is := [], n0 := 0, loops := fun _ => none, cuts := fun _ => none }
theorem held_runs (x : Int × Int × Int × Int) (hp : obp (some (I64 x.1 ∧ I64 x.2.1 ∧ I64 x.2.2.1 ∧ I64 x.2.2.2))) : Runs cxHe Try.f32 [int_ .i64 x.1, int_ .i64 x.2.1, int_ .i64 x.2.2.1, int_ .i64 x.2.2.2] [] fun v _ => isRes (int_ .i64 (mdH x.1 x.2.1 x.2.2.1 x.2.2.2)) v := by
  obtain ⟨a, b, c, r⟩ := x
  obtain ⟨ha, hb, hc, hr⟩ := hp
  dsimp only at *
  unfold I64 at *
  repeat' (first | with_reducible exact trivial | with_reducible exact rfl | with_reducible exact Nat.le_refl _ | with_reducible exact (fun _ _ => rfl) | ((conv => whnf); first | (refine fun _ => ?_) | refine ⟨?_, ?_⟩ | exact trivial | exact Nat.le_refl _ | exact lex_q (by kernel_rfl) | exact lex_t (by kernel_rfl) | exact lex_h (by kernel_rfl) | fail))
  all_goals (try dsimp only at *)
  all_goals (try omega)
  all_goals unfold mdH
  all_goals first
    | (rw [if_neg (by assumption)]; done)
    | (have hh : mdE a b c r = 10 := by first | assumption | omega
       rw [if_pos hh]
       unfold mdM
       simp [*]; done)
noncomputable def heldS : PSpec Try.prog := readN fn32 (.s4 (.int .i64) (.int .i64) (.int .i64) (.int .i64)) (fun _ => cxHe) (fun x => some (I64 x.1 ∧ I64 x.2.1 ∧ I64 x.2.2.1 ∧ I64 x.2.2.2)) (fun x => int_ .i64 (mdH x.1 x.2.1 x.2.2.1 x.2.2.2)) (fun _ => rfl) (fun _ => rfl) (fun _ => rfl) held_runs

end Go.Proofs.Ytdphgjnflaahbaa
