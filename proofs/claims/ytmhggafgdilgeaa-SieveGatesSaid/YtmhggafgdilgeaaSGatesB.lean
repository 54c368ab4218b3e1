/-
  Contracts of functions, and plain facts about them, that a claim of this seat uses.
-/
import Derived.Test.YtmhggafgdilgeaaSx
import Derived.Test.YtmhggafgdilgeaaSGatesA
import Derived.Test.YtmhggafgdilgeaaProg
namespace Go.Proofs.Ytmhggafgdilgeaa
open Go.Sx
set_option linter.unusedVariables false
set_option linter.unusedSimpArgs false
set_option maxRecDepth 100000

/-! lists of gates: State, stay, Left, Next, Turn. -/
theorem fn13 : FnOf Try.prog 13 Try.f13 := ⟨Try.func13, rfl, rfl, mixed⟩
attribute [local irreducible] enter anyAlt Gw
theorem gl_self (l : GL) : (⟨l.base, l.cyc, l.len, l.cap, l.N - 0, fun q => l.op (q + 0), fun q => l.ln (q + 0)⟩ : GL) = l := rfl
noncomputable def cxState : Cx Try.prog := { ps := [chkS, phS, slotS], es := [], is := [], n0 := 1, loops := fun _ => none, cuts := fun _ => none }
set_option maxHeartbeats 8000000 in
theorem state_runs (x : GL × Int) (hp : obp (some (Gw x.1))) : Runs cxState Try.f13 [G1 0 x.1, int_ .i64 x.2] [roG x.1] fun v _ => isRes (int_ .i64 (stateV x.1 x.2)) v := by
  obtain ⟨l, a⟩ := x
  have hw : Gw l := hp
  have hs := hw.self
  obtain ⟨_, _, h1, h2, h3, h4⟩ := hw.out
  repeat' (first | with_reducible exact trivial | with_reducible exact rfl | with_reducible exact Nat.le_refl _ | with_reducible exact (fun _ _ => rfl) | ((conv => whnf); first | (refine fun _ => ?_) | refine ⟨?_, ?_⟩ | exact trivial | exact Nat.le_refl _ | exact lex_q (by kernel_rfl) | exact lex_t (by kernel_rfl) | exact lex_h (by kernel_rfl) | fail))
  all_goals (try dsimp only at *)
  all_goals (try simp only [gl_self] at *)
  all_goals (try simp (disch := omega) only [fdiv_nn, Int.reduceToNat, IntKind.bits, Nat.min_def, Nat.reduceLeDiff, if_true, if_false, Int.reducePow, wu8, wu32, w64', wu64', tdiv_pos, tmod_pos, Int.toNat_natCast, Nat.zero_add] at *)
  all_goals (try omega)
  all_goals (try unfold Tm)
  all_goals (try omega)
  all_goals first
    | (unfold stateV inR; rw [if_neg (by omega)]; done)
    | (have ok := chk_ok (l := l) (by omega)
       have c1 := ok.c1
       have p0 := Int.emod_nonneg (a - l.base) (show l.cyc ≠ 0 by omega)
       have p1 := Int.emod_lt_of_pos (a - l.base) (show 0 < l.cyc by omega)
       have hs := ok.slot (p := phV l a) ⟨p0, p1⟩
       first
       | omega
       | (unfold stateV inR; rw [if_pos (by omega)]; done))
noncomputable def stateS : PSpec Try.prog := readN fn13 (.s2 Lens.gl (.int .i64)) (fun _ => cxState) (fun x => some (Gw x.1)) (fun x => int_ .i64 (stateV x.1 x.2)) (fun _ => rfl) (fun _ => rfl) (fun _ => rfl) state_runs

end Go.Proofs.Ytmhggafgdilgeaa
