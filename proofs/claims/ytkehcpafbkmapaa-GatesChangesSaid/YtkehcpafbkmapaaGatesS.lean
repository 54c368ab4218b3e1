/-
  Contracts of functions, and plain facts about them, that a claim of this seat uses.
-/
import Derived.Test.YtkehcpafbkmapaaSx
import Derived.Test.YtkehcpafbkmapaaGatesNum
import Derived.Test.YtkehcpafbkmapaaGatesA
import Derived.Test.YtkehcpafbkmapaaGatesB
import Derived.Test.YtkehcpafbkmapaaGatesH
import Derived.Test.YtkehcpafbkmapaaGatesP
import Derived.Test.YtkehcpafbkmapaaGatesQ
import Derived.Test.YtkehcpafbkmapaaGatesR
import Derived.Test.YtkehcpafbkmapaaProg
namespace Go.Proofs.Ytkehcpafbkmapaa
open Go.Sx
set_option linter.unusedVariables false
set_option linter.unusedSimpArgs false
set_option maxRecDepth 100000

/-! lists of gates: the reference's Turn; lists that say the same. -/
theorem fn25 : FnOf Try.prog 25 Try.f25 := ⟨Try.func25, rfl, rfl, mixed⟩
theorem fn27 : FnOf Try.prog 27 Try.f27 := ⟨Try.func27, rfl, rfl, mixed⟩
attribute [local irreducible] enter anyAlt Gw
def turnR (l : GL) (a : Int) : Int := if phV l a = 0 then a else a + (l.cyc - phV l a)
theorem turn_R {l : GL} {a : Int} (h : chk l = 0) (ha : inR a) : turnV l a = turnR l a := by unfold turnV turnR; rw [if_pos ⟨h, ha⟩]
noncomputable def cxRTu : Cx Try.prog := { ps := [rphS], es := [], is := [], n0 := 1, loops := fun _ => none, cuts := fun _ => none }
set_option maxHeartbeats 8000000 in
theorem rtu_runs (x : GL × Int) (hp : obp (some (Gw x.1 ∧ chk x.1 = 0 ∧ Tm x.2))) : Runs cxRTu Try.f25 [G1 0 x.1, int_ .i64 x.2] [roG x.1] fun v _ => isRes (int_ .i64 (turnR x.1 x.2)) v := by
  obtain ⟨l, a⟩ := x
  obtain ⟨hw, ho, ht⟩ : Gw l ∧ chk l = 0 ∧ Tm a := hp
  have ok := chk_ok ho
  obtain ⟨o1, o2, o3, o4, o5, o6⟩ : _ ∧ _ ∧ _ ∧ _ ∧ _ ∧ _ := ⟨ok.n1, ok.n2, ok.c1, ok.c2, ok.b1, ok.b2⟩
  have hs := hw.self
  have e1 := Int.emod_nonneg (a - l.base) (show l.cyc ≠ 0 by omega)
  have e2 := Int.emod_lt_of_pos (a - l.base) (show 0 < l.cyc by omega)
  have e5 : phV l a = (a - l.base) % l.cyc := rfl
  repeat' (first | with_reducible exact trivial | with_reducible exact rfl | with_reducible exact Nat.le_refl _ | with_reducible exact (fun _ _ => rfl) | ((conv => whnf); first | (refine fun _ => ?_) | refine ⟨?_, ?_⟩ | exact trivial | exact Nat.le_refl _ | exact lex_q (by kernel_rfl) | exact lex_t (by kernel_rfl) | exact lex_h (by kernel_rfl) | fail))
  all_goals (try dsimp only at *)
  all_goals (try simp only [gl_self] at *)
  all_goals (try exact hw)
  all_goals (try exact ht)
  all_goals (try exact ho)
  all_goals (unfold Tm at ht)
  all_goals first
    | omega
    | (unfold turnR; rw [if_pos (by assumption)]; done)
    | (unfold turnR; rw [if_neg (by assumption), w64' (n := a + l.cyc) (by omega) (by omega), w64' (by omega) (by omega)]; omega)
noncomputable def rtuS : PSpec Try.prog := readN fn25 (.s2 Lens.gl (.int .i64)) (fun _ => cxRTu) (fun x => some (Gw x.1 ∧ chk x.1 = 0 ∧ Tm x.2)) (fun x => int_ .i64 (turnR x.1 x.2)) (fun _ => rfl) (fun _ => rfl) (fun _ => rfl) rtu_runs
/-- two lists that say the same -/
def SmG (l m : GL) : Prop := l.base = m.base ∧ l.cyc = m.cyc ∧ l.len = m.len ∧ ∀ i, i < l.len → l.op i = m.op i ∧ l.ln i = m.ln i
theorem SmG.out {l m : GL} (h : SmG l m) : l.base = m.base ∧ l.cyc = m.cyc ∧ l.len = m.len ∧ ∀ i, i < l.len → l.op i = m.op i ∧ l.ln i = m.ln i := h
theorem eq55 : EqOK Try.prog 55 := by unfold EqOK; kernel_rfl
abbrev laSame (l m : GL) : LA where
  ι := Nat
  inv := fun i => i ≤ l.len
  T := fun i => ⟨45, [(2, .one (.a (.ptr 2 0))), (3, .one (.a (.ptr 3 0))), (29, int_ .i64 l.len), (30, int_ .i64 i)], [roG l, roG m, some ⟨true, .flat (glCells 0 l)⟩, some ⟨true, .flat (glCells 1 m)⟩]⟩
  μ := fun i => l.len - i
  ren := fun S => [0, 1, S.ix 2, S.ix 3]
noncomputable def cxSame (l m : GL) : Cx Try.prog := { ps := [], es := [], is := [], n0 := 2, loops := fun i => match i with | 4 => some (.inv (laSame l m)) | _ => none, cuts := fun _ => none }
set_option maxHeartbeats 8000000 in
theorem same_runs (x : GL × GL) (hp : obp (some (Gw x.1 ∧ Gw x.2 ∧ SmG x.1 x.2))) : Runs (cxSame x.1 x.2) Try.f27 [G1 0 x.1, G1 1 x.2] [roG x.1, roG x.2] fun v _ => isRes (.one (.a .tt)) v := by
  obtain ⟨l, m⟩ := x
  obtain ⟨hl, hm, s1, s2, s3, s4⟩ : Gw l ∧ Gw m ∧ SmG l m := hp
  obtain ⟨_, _, h1, h2, h3, h4⟩ := hl.out
  obtain ⟨_, _, g1, g2, g3, g4⟩ := hm.out
  repeat' (first | with_reducible exact trivial | with_reducible exact rfl | with_reducible exact Nat.le_refl _ | with_reducible exact (fun _ _ => rfl) | ((conv => whnf); first | (refine fun (x : Nat) => ?_) | (refine fun _ => ?_) | refine ⟨?_, ?_⟩ | exact trivial | exact Nat.le_refl _ | exact lex_q (by kernel_rfl) | exact lex_t (by kernel_rfl) | exact lex_h (by kernel_rfl) | fail))
  all_goals (try exact eq55)
  any_goals first
    | (refine enter_mk (la := laSame l m) 0 ?_ (by (repeat' (first | ((conv => whnf); first | refine ⟨?_, ?_⟩ | exact trivial | fail) | (dsimp only; done) | ((try dsimp only); first | with_reducible exact rfl | exact Nat.le_refl _ | with_reducible exact (fun _ _ => rfl)))); first | ((all_goals ((try dsimp only [laSame] at *); (all_goals (try simp (disch := omega) only [w64', wu64', tdiv_pos, tmod_pos, Int.toNat_natCast, Nat.zero_add] at *)); (all_goals ((first | rfl | omega))))); done) | fail))
    | (refine enter_mk (la := laSame l m) (x + 1) ?_ (by (repeat' (first | ((conv => whnf); first | refine ⟨?_, ?_⟩ | exact trivial | fail) | (dsimp only; done) | ((try dsimp only); first | with_reducible exact rfl | exact Nat.le_refl _ | with_reducible exact (fun _ _ => rfl)))); first | ((all_goals ((try dsimp only [laSame] at *); (all_goals (try simp (disch := omega) only [w64', wu64', tdiv_pos, tmod_pos, Int.toNat_natCast, Nat.zero_add] at *)); (all_goals ((first | rfl | omega | (rw [w64' (by omega) (by omega)]; omega)))))); done) | fail))
    | fail
  all_goals (try dsimp only [laSame] at *)
  all_goals (try omega)
  all_goals (try exact absurd s1 (by assumption))
  all_goals (try exact absurd s2 (by assumption))
  all_goals (try (exfalso; have h9 := (by assumption : (!(decide _ && _)) = true); simp [s4 x (by omega)] at h9; done))
noncomputable def sameS : PSpec Try.prog := readN fn27 (.s2 Lens.gl Lens.gl) (fun x => cxSame x.1 x.2) (fun x => some (Gw x.1 ∧ Gw x.2 ∧ SmG x.1 x.2)) (fun _ => .one (.a .tt)) (fun _ => rfl) (fun _ => rfl) (fun _ => rfl) same_runs

end Go.Proofs.Ytkehcpafbkmapaa
