/-
  Contracts of functions, and plain facts about them, that a claim of this seat uses.
-/
import Derived.Test.YtlhlegjndembdaaSx
import Derived.Test.YtlhlegjndembdaaSeqN
import Derived.Test.YtlhlegjndembdaaSeqL
import Derived.Test.YtlhlegjndembdaaSeqA
import Derived.Test.YtlhlegjndembdaaSeqB
import Derived.Test.YtlhlegjndembdaaSeqC
import Derived.Test.YtlhlegjndembdaaSeqO
import Derived.Test.YtlhlegjndembdaaProg
namespace Go.Proofs.Ytlhlegjndembdaa
open Go.Sx
set_option linter.unusedVariables false
set_option linter.unusedSimpArgs false
set_option maxRecDepth 100000

/-! the reference: has, Ahead, long, Right, New. -/
theorem fn23 : FnOf Try.prog 23 Try.f23 := ⟨Try.func23, rfl, rfl, mixed⟩
theorem fn24 : FnOf Try.prog 24 Try.f24 := ⟨Try.func24, rfl, rfl, mixed⟩
theorem fn25 : FnOf Try.prog 25 Try.f25 := ⟨Try.func25, rfl, rfl, mixed⟩
theorem fn26 : FnOf Try.prog 26 Try.f26 := ⟨Try.func26, rfl, rfl, mixed⟩
theorem fn38 : FnOf Try.prog 38 Try.f38 := ⟨Try.func38, rfl, rfl, mixed⟩
theorem fn39 : FnOf Try.prog 39 Try.f39 := ⟨Try.func39, rfl, rfl, mixed⟩
theorem fn40 : FnOf Try.prog 40 Try.f40 := ⟨Try.func40, rfl, rfl, mixed⟩
def D1 (j : Nat) (s : IS) : SV := .one (.a (.slc j 1 0 s.len s.cap))
def roI (s : IS) : Option Reg := some ⟨false, .tab s.N [.int .i64 s.g]⟩
def rwI (cap : Nat) (g : Nat → Int) : Option Reg := some ⟨true, .tab cap [.int .i64 g]⟩
abbrev dS : Lens IS := Lens.ints .i64
def Sl (s : IS) : Prop := s.len ≤ s.cap ∧ s.len ≤ s.N ∧ s.cap ≤ 9223372036854775807
abbrev laHas (s : IS) (x : Int) : LA where
  ι := Nat
  inv := fun i => i ≤ s.len ∧ hasN s.g i x = false
  T := fun i => ⟨17, [(1, int_ .i64 x), (7, D1 0 s), (8, int_ .i64 s.len), (9, int_ .i64 i)], [roI s]⟩
  μ := fun i => s.len - i
  ren := fun _ => [0]
noncomputable def cxHas (s : IS) (x : Int) : Cx Try.prog := { ps := [], es := [], is := [], n0 := 1, loops := fun i => match i with | 2 => some (.inv (laHas s x)) | _ => none, cuts := fun _ => none }
section
attribute [local irreducible] enter anyAlt
set_option maxHeartbeats 8000000 in
theorem has_runs (x : IS × Int) (hp : obp (some (Sl x.1))) : Runs (cxHas x.1 x.2) Try.f40 [D1 0 x.1, int_ .i64 x.2] [roI x.1] fun v _ => isRes (.one (.a (.v (.bool (hasN x.1.g x.1.len x.2))))) v := by
  obtain ⟨s, k⟩ := x
  obtain ⟨h1, h2, h3⟩ : Sl s := hp
  dsimp only at *
  repeat' (first | with_reducible exact trivial | with_reducible exact rfl | with_reducible exact Nat.le_refl _ | with_reducible exact (fun _ _ => rfl) | ((conv => whnf); first | (refine fun (x : Nat) => ?_) | (refine fun _ => ?_) | refine ⟨?_, ?_⟩ | exact trivial | exact Nat.le_refl _ | exact lex_q (by kernel_rfl) | exact lex_t (by kernel_rfl) | exact lex_h (by kernel_rfl) | fail))
  any_goals first
    | (refine enter_mk (la := laHas s k) 0 ?_ (by (repeat' (first | ((conv => whnf); first | refine ⟨?_, ?_⟩ | exact trivial | fail) | (dsimp only; done) | ((try dsimp only); first | with_reducible exact rfl | exact Nat.le_refl _ | with_reducible exact (fun _ _ => rfl)))); first | ((all_goals ((try dsimp only [laHas] at *); (all_goals (try simp (disch := omega) only [w64', wu64', tdiv_pos, tmod_pos, Int.toNat_natCast, Nat.zero_add] at *)); (all_goals ((first | rfl | omega))))); done) | fail))
    | (refine enter_mk (la := laHas s k) (x + 1) ?_ (by (repeat' (first | ((conv => whnf); first | refine ⟨?_, ?_⟩ | exact trivial | fail) | (dsimp only; done) | ((try dsimp only); first | with_reducible exact rfl | exact Nat.le_refl _ | with_reducible exact (fun _ _ => rfl)))); first | ((all_goals ((try dsimp only [laHas] at *); (all_goals (try simp (disch := omega) only [w64', wu64', tdiv_pos, tmod_pos, Int.toNat_natCast, Nat.zero_add] at *)); (all_goals ((first | rfl | omega | (rw [w64' (by omega) (by omega)]; omega)))))); done) | fail))
    | skip
  all_goals (try dsimp only [laHas] at *)
  all_goals (try simp only [Int.toNat_natCast, Nat.zero_add] at *)
  all_goals (try omega)
  all_goals (try (have hi := (by assumption : x ≤ s.len ∧ hasN s.g x k = false); obtain ⟨i1, i2⟩ := hi))
  all_goals first
    | exact ⟨Nat.zero_le _, rfl⟩
    | (refine ⟨by omega, ?_⟩
       rw [hasN, i2, decide_eq_false (by assumption)]; rfl)
    | (exact hasN_yes (show x < s.len by omega) (by assumption))
    | (obtain rfl : x = s.len := by omega
       exact i2)
    | skip
end
noncomputable def hasS : PSpec Try.prog := readN fn40 (.s2 dS (.int .i64)) (fun x => cxHas x.1 x.2) (fun x => some (Sl x.1)) (fun x => .one (.a (.v (.bool (hasN x.1.g x.1.len x.2))))) (fun _ => rfl) (fun _ => rfl) (fun _ => rfl) has_runs
noncomputable def cxAh : Cx Try.prog := { ps := [], es := [], is := [], n0 := 0, loops := fun i => match i with | 2 => some (.rounds 2) | 4 => some (.rounds 2) | _ => none, cuts := fun _ => none }
theorem aheadR_runs (x : Int × Int) (hp : obp (some ((0 ≤ x.1 ∧ x.1 ≤ 65535) ∧ (0 ≤ x.2 ∧ x.2 ≤ 65535)))) : Runs cxAh Try.f39 [int_ .i64 x.1, int_ .i64 x.2] [] fun v _ => isRes (int_ .i64 (dR x.1 x.2)) v := by
  obtain ⟨a, b⟩ := x
  obtain ⟨⟨h1, h2⟩, h3, h4⟩ : (0 ≤ a ∧ a ≤ 65535) ∧ (0 ≤ b ∧ b ≤ 65535) := hp
  have e0 : IntKind.i64.wrap (a - b) = a - b := w64' (by omega) (by omega)
  dsimp only
  repeat' (first | with_reducible exact trivial | with_reducible exact rfl | with_reducible exact Nat.le_refl _ | with_reducible exact (fun _ _ => rfl) | ((conv => whnf); first | (refine fun _ => ?_) | refine ⟨?_, ?_⟩ | exact trivial | exact Nat.le_refl _ | exact lex_q (by kernel_rfl) | exact lex_t (by kernel_rfl) | exact lex_h (by kernel_rfl) | fail))
  all_goals (try dsimp only at *)
  all_goals (try simp only [e0] at *)
  all_goals (try simp (disch := omega) only [w64'] at *)
  all_goals (try (exfalso; omega))
  all_goals (try (unfold dR; repeat' split; all_goals omega))
  all_goals skip
noncomputable def aheadRS : PSpec Try.prog := readN fn39 (.s2 (.int .i64) (.int .i64)) (fun _ => cxAh) (fun x => some ((0 ≤ x.1 ∧ x.1 ≤ 65535) ∧ (0 ≤ x.2 ∧ x.2 ≤ 65535))) (fun x => int_ .i64 (dR x.1 x.2)) (fun _ => rfl) (fun _ => rfl) (fun _ => rfl) aheadR_runs
noncomputable def cx00 : Cx Try.prog := { ps := [], es := [], is := [], n0 := 0, loops := fun _ => none, cuts := fun _ => none }
theorem long_runs (x : Int × Int × Int) (hp : obp (some (I6 x.1 ∧ I6 x.2.1 ∧ (1 ≤ x.2.2 ∧ x.2.2 ≤ 1099511627776)))) : Runs cx00 Try.f38 [int_ .i64 x.1, int_ .i64 x.2.1, int_ .i64 x.2.2] [] fun v _ => isRes (.one (.a (.v (.bool (decide (x.2.1 ≤ x.1 ∧ x.2.2 ≤ x.1 - x.2.1)))))) v := by
  obtain ⟨n, w, r⟩ := x
  obtain ⟨⟨h1, h2⟩, ⟨h3, h4⟩, h5, h6⟩ : I6 n ∧ I6 w ∧ (1 ≤ r ∧ r ≤ 1099511627776) := hp
  dsimp only
  repeat' (first | with_reducible exact trivial | with_reducible exact rfl | with_reducible exact Nat.le_refl _ | with_reducible exact (fun _ _ => rfl) | ((conv => whnf); first | (refine fun _ => ?_) | refine ⟨?_, ?_⟩ | exact trivial | exact Nat.le_refl _ | exact lex_q (by kernel_rfl) | exact lex_t (by kernel_rfl) | exact lex_h (by kernel_rfl) | fail))
  all_goals (try dsimp only at *)
  all_goals (try simp (disch := omega) only [w64'] at *)
  all_goals first
    | exact decide_eq_true (by omega)
    | exact decide_eq_false (by omega)
    | (rw [decide_eq_decide]; omega)
    | (exact (decide_eq_true (by omega)).symm)
    | (exact (decide_eq_false (by omega)).symm)
    | skip
noncomputable def longS : PSpec Try.prog := readN fn38 (.s3 (.int .i64) (.int .i64) (.int .i64)) (fun _ => cx00) (fun x => some (I6 x.1 ∧ I6 x.2.1 ∧ (1 ≤ x.2.2 ∧ x.2.2 ≤ 1099511627776))) (fun x => .one (.a (.v (.bool (decide (x.2.1 ≤ x.1 ∧ x.2.2 ≤ x.1 - x.2.1)))))) (fun _ => rfl) (fun _ => rfl) (fun _ => rfl) long_runs
theorem rright_runs (x : Int × Int × Int) (_ : obp (some True)) : Runs cx00 Try.f23 [int_ .i64 x.1, int_ .i64 x.2.1, int_ .i64 x.2.2] [] fun v _ => isRes (.one (.a (.v (.bool (decide (CfOK x)))))) v := by
  obtain ⟨a, b, c⟩ := x
  dsimp only
  repeat' (first | with_reducible exact trivial | with_reducible exact rfl | with_reducible exact Nat.le_refl _ | with_reducible exact (fun _ _ => rfl) | ((conv => whnf); first | (refine fun _ => ?_) | refine ⟨?_, ?_⟩ | exact trivial | exact Nat.le_refl _ | exact lex_q (by kernel_rfl) | exact lex_t (by kernel_rfl) | exact lex_h (by kernel_rfl) | fail))
  all_goals (try dsimp only at *)
  all_goals first
    | exact decide_eq_true (by unfold CfOK; dsimp only; omega)
    | exact decide_eq_false (by unfold CfOK; dsimp only; omega)
    | (rw [decide_eq_decide]; unfold CfOK; dsimp only; omega)
    | skip
noncomputable def rrightS : PSpec Try.prog := readN fn23 (.s3 (.int .i64) (.int .i64) (.int .i64)) (fun _ => cx00) (fun _ => some True) (fun x => .one (.a (.v (.bool (decide (CfOK x)))))) (fun _ => rfl) (fun _ => rfl) (fun _ => rfl) rright_runs

end Go.Proofs.Ytlhlegjndembdaa
