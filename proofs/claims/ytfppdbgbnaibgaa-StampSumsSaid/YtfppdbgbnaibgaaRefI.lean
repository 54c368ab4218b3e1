/-
  Contracts of functions, and plain facts about them, that a claim of this seat uses.
-/
import Derived.Test.YtfppdbgbnaibgaaSx
import Derived.Test.YtfppdbgbnaibgaaWideNum
import Derived.Test.YtfppdbgbnaibgaaRefA
import Derived.Test.YtfppdbgbnaibgaaRefB
import Derived.Test.YtfppdbgbnaibgaaRefM
import Derived.Test.YtfppdbgbnaibgaaRefD
import Derived.Test.YtfppdbgbnaibgaaWideU
import Derived.Test.YtfppdbgbnaibgaaLen
import Derived.Test.YtfppdbgbnaibgaaDiv64
import Derived.Test.YtfppdbgbnaibgaaDivU
import Derived.Test.YtfppdbgbnaibgaaMulDiv
import Derived.Test.YtfppdbgbnaibgaaRefE
import Derived.Test.YtfppdbgbnaibgaaRefF
import Derived.Test.YtfppdbgbnaibgaaRefG
import Derived.Test.YtfppdbgbnaibgaaStampA
import Derived.Test.YtfppdbgbnaibgaaRefH
import Derived.Test.YtfppdbgbnaibgaaProg
namespace Go.Proofs.Ytfppdbgbnaibgaa
open Go.Sx
set_option linter.unusedVariables false
set_option linter.unusedSimpArgs false
set_option maxRecDepth 100000

/-! the reference's Sum, Less. -/
attribute [local irreducible] enter anyAlt
theorem sum_fin {a b s : Int} {m : Bool} (h0 : 0 ≤ s) (h : (m = true ∧ s = 0 - (a + b)) ∨ (m = false ∧ s = a + b)) : intX s m = smX (a + b) ∧ intB s m = fitsB a b := by
  unfold intX intB smX fitsB
  rcases h with ⟨hm, hs⟩ | ⟨hm, hs⟩ <;> subst hm
  · simp only [if_true]
    by_cases hi : I64 (a + b)
    · have hi2 := hi
      unfold I64 at hi2
      rw [if_neg (by omega), if_pos hi, decide_eq_false (by omega), decide_eq_true hi]; exact ⟨by omega, rfl⟩
    · have hi2 := hi
      unfold I64 at hi2
      rw [if_pos (by omega), if_neg hi, decide_eq_true (by omega), decide_eq_false hi]; exact ⟨rfl, rfl⟩
  · simp only [Bool.false_eq_true, if_false]
    by_cases hi : I64 (a + b)
    · have hi2 := hi
      unfold I64 at hi2
      rw [if_neg (by omega), if_pos hi, decide_eq_false (by omega), decide_eq_true hi]; exact ⟨by omega, rfl⟩
    · have hi2 := hi
      unfold I64 at hi2
      rw [if_pos (by omega), if_neg hi, decide_eq_true (by omega), decide_eq_false hi]; exact ⟨rfl, rfl⟩
theorem cmpI3_ge (x y : Int) : (0 ≤ cmpI3 x y) = (y ≤ x) := by
  apply propext; unfold cmpI3; repeat' split
  all_goals omega
theorem absI_if (x : Int) : (x < 0 ∧ absI x = 0 - x) ∨ (¬ x < 0 ∧ absI x = x) := by unfold absI; split <;> simp [*]
noncomputable def cxSm : Cx Try.prog := { ps := [cmpRefS, intRefS], es := [absRefS, addRefS, subRefS], is := [], n0 := 0, loops := fun _ => none, cuts := fun _ => none }
set_option maxHeartbeats 8000000 in
theorem sum_runs (x : Int × Int) (hp : obp (some (I64 x.1 ∧ I64 x.2))) : Runs cxSm Try.f49 [int_ .i64 x.1, int_ .i64 x.2] [] fun v _ => isRes (.tup [.a (.v (.int .i64 (smX (x.1 + x.2)))), .a (.v (.bool (fitsB x.1 x.2)))]) v := by
  obtain ⟨a, b⟩ := x
  obtain ⟨ha, hb⟩ := hp
  dsimp only at *
  unfold I64 at *
  have aa := absI_if a
  have ab := absI_if b
  repeat' (first | exact trivial | with_reducible exact rfl | exact Nat.le_refl _ | with_reducible exact (fun _ _ => rfl) | ((conv => whnf); first | (refine fun (x : DS) => ?_) | (refine fun _ => ?_) | refine ⟨?_, ?_⟩ | exact trivial | exact lex_q (by kernel_rfl) | exact lex_t (by kernel_rfl) | exact lex_h (by kernel_rfl) | fail))
  all_goals (try dsimp only at *)
  all_goals (try omega)
  all_goals (try first
    | exact (by assumption : DV (absI a) _).2.1
    | exact (by assumption : DV (absI b) _).2.1
    | exact (by assumption : DV (_ + _) _).2.1
    | exact (by assumption : DV (_ - _) _).2.1
    | (have := dv_small (by assumption : DV (absI a) _) (by omega)
       omega)
    | (have := dv_small (by assumption : DV (absI b) _) (by omega)
       omega))
  all_goals
    have wa := (by assumption : DV (absI a) _).2.2.1
    have wb := (by assumption : DV (absI b) _).2.2.1
    simp only [wa, wb, cmpI3_ge] at *
  all_goals (try omega)
  all_goals
    have w : _ ∧ _ := (by assumption : DV _ x).2.2
    have key := sum_fin (a := a) (b := b) (s := nv ⟨x.len, x.cap, x.cap - 0, fun q => x.g (q + 0)⟩) (m := decide (a < 0)) (by rw [w.1]; exact w.2.1)
    have key2 := sum_fin (a := a) (b := b) (s := nv ⟨x.len, x.cap, x.cap - 0, fun q => x.g (q + 0)⟩) (m := decide (b < 0)) (by rw [w.1]; exact w.2.1)
    rw [w.1] at key key2 ⊢
    rcases aa with ⟨h1, h2⟩ | ⟨h1, h2⟩ <;> rcases ab with ⟨h3, h4⟩ | ⟨h3, h4⟩ <;> simp only [h1, h2, h3, h4, decide_true, decide_false, Bool.false_eq_true, false_and, true_and, or_false, false_or] at *
    all_goals first
    | (exfalso; simp at *; done)
    | (exfalso; omega)
    | (rw [(key (by omega)).1])
    | (rw [(key (by omega)).2])
    | (rw [(key2 (by omega)).1])
    | (rw [(key2 (by omega)).2])
noncomputable def sumRefS : PSpec Try.prog := readN fn49 (.s2 (.int .i64) (.int .i64)) (fun _ => cxSm) (fun x => some (I64 x.1 ∧ I64 x.2)) (fun x => .tup [.a (.v (.int .i64 (smX (x.1 + x.2)))), .a (.v (.bool (fitsB x.1 x.2)))]) (fun _ => rfl) (fun _ => rfl) (fun _ => rfl) sum_runs
theorem smX_bd (s : Int) : I64 (smX s) := by unfold smX; split; assumption; unfold I64; omega
noncomputable def cxLs : Cx Try.prog := { ps := [sumRefS], es := [], is := [], n0 := 0, loops := fun _ => none, cuts := fun _ => none }
set_option maxHeartbeats 8000000 in
theorem less_runs (x : Int × Int) (hp : obp (some (I64 x.1 ∧ I64 x.2))) : Runs cxLs Try.f51 [int_ .i64 x.1, int_ .i64 x.2] [] fun v _ => isRes (.tup [.a (.v (.int .i64 (smX (x.1 - x.2)))), .a (.v (.bool (decide (I64 (x.1 - x.2)))))]) v := by
  obtain ⟨a, b⟩ := x
  obtain ⟨ha, hb⟩ := hp
  dsimp only at *
  by_cases hm : b = -9223372036854775808
  · subst hm
    by_cases h : 0 ≤ a
    · have e1 : smX (a - -9223372036854775808) = 0 := if_neg (by unfold I64; omega)
      have e2 : decide (I64 (a - -9223372036854775808)) = false := decide_eq_false (by unfold I64; omega)
      rw [e1, e2]
      unfold I64 at *
      repeat' (first | exact trivial | with_reducible exact rfl | exact Nat.le_refl _ | with_reducible exact (fun _ _ => rfl) | ((conv => whnf); first | (refine fun _ => ?_) | refine ⟨?_, ?_⟩ | exact trivial | exact lex_q (by kernel_rfl) | exact lex_t (by kernel_rfl) | exact lex_h (by kernel_rfl) | fail))
      all_goals (try dsimp only at *)
      all_goals (try unfold I64 at *)
      all_goals first | omega | exact absurd trivial (by assumption)
    · have e0 : smX (a + 4611686018427387904) = a + 4611686018427387904 := if_pos (by unfold I64 at *; omega)
      have ee : a + 4611686018427387904 + 4611686018427387904 = a - -9223372036854775808 := by omega
      have ef : fitsB (a + 4611686018427387904) 4611686018427387904 = decide (I64 (a - -9223372036854775808)) := by unfold fitsB; rw [ee]
      rw [← ef, ← ee]
      repeat' (first | exact trivial | with_reducible exact rfl | exact Nat.le_refl _ | with_reducible exact (fun _ _ => rfl) | ((conv => whnf); first | (refine fun _ => ?_) | refine ⟨?_, ?_⟩ | exact trivial | exact lex_q (by kernel_rfl) | exact lex_t (by kernel_rfl) | exact lex_h (by kernel_rfl) | fail))
      all_goals (try dsimp only at *)
      all_goals (try simp only [e0] at *)
      all_goals unfold I64 at *
      all_goals first | omega | exact absurd trivial (by assumption)
  · have en : IntKind.i64.wrap (0 - b) = 0 - b := w64' (by unfold I64 at *; omega) (by unfold I64 at *; omega)
    have e3 : a + (0 - b) = a - b := by omega
    have ef : fitsB a (0 - b) = decide (I64 (a - b)) := by unfold fitsB; rw [e3]
    rw [← ef, ← e3]
    repeat' (first | exact trivial | with_reducible exact rfl | exact Nat.le_refl _ | with_reducible exact (fun _ _ => rfl) | ((conv => whnf); first | (refine fun _ => ?_) | refine ⟨?_, ?_⟩ | exact trivial | exact lex_q (by kernel_rfl) | exact lex_t (by kernel_rfl) | exact lex_h (by kernel_rfl) | fail))
    all_goals (try dsimp only at *)
    all_goals (try simp only [en] at *)
    all_goals unfold I64 at *
    all_goals omega
noncomputable def lessRefS : PSpec Try.prog := readN fn51 (.s2 (.int .i64) (.int .i64)) (fun _ => cxLs) (fun x => some (I64 x.1 ∧ I64 x.2)) (fun x => .tup [.a (.v (.int .i64 (smX (x.1 - x.2)))), .a (.v (.bool (decide (I64 (x.1 - x.2)))))]) (fun _ => rfl) (fun _ => rfl) (fun _ => rfl) less_runs

end Go.Proofs.Ytfppdbgbnaibgaa
