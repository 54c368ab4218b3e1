/-
  For every list of gates and all times the law GatesStates answers true and leaves all memory as it was.
-/
import Derived.Test.YtkehcpafbkmapaaSx
import Derived.Test.YtkehcpafbkmapaaGatesNum
import Derived.Test.YtkehcpafbkmapaaGatesA
import Derived.Test.YtkehcpafbkmapaaGatesB
import Derived.Test.YtkehcpafbkmapaaGatesH
import Derived.Test.YtkehcpafbkmapaaGatesP
import Derived.Test.YtkehcpafbkmapaaGatesQ
import Derived.Test.YtkehcpafbkmapaaGatesR
import Derived.Test.YtkehcpafbkmapaaRows
import Derived.WalkKit
import Derived.ProofKit
import Derived.OpenShut
namespace Go.Proofs.Ytkehcpafbkmapaa.gatesStates
open Go.ChangeShapes Go.WideShapes Go.ChangeAt Go.RowKit Go.Sx
set_option linter.unusedVariables false
set_option linter.unusedSimpArgs false
set_option maxRecDepth 100000

attribute [local irreducible] enter anyAlt Gw CS
def T1 (a : IS) : SV := .one (.a (.slc 1 1 0 a.len a.cap))
def roT (a : IS) : Option Reg := some ⟨false, .tab a.N [.int .i64 a.g]⟩
def Tw (a : IS) : Prop := a.len ≤ a.cap ∧ a.len ≤ a.N ∧ a.cap ≤ 9223372036854775807
theorem den_two {b c : Int} {A B : Option Addr} {n cap N m d M : Nat} {f g h : Nat → Int} : #[(G1 0 ⟨b, c, n, cap, N, f, g⟩).den (envOf [A, B]), (T1 ⟨m, d, M, h⟩).den (envOf [A, B])] = #[.agg #[.int .i64 b, .int .i64 c, .slice A n cap], .slice B m d] := by
  show #[Value.agg ([_, _, SA.den (envOf [A, B]) (.slc 0 2 0 n cap)].toArray), SA.den (envOf [A, B]) (.slc 1 1 0 m d)] = _
  rw [den_slc (A := A) rfl, den_slc (A := B) rfl]; rfl
abbrev laTs (l : GL) (a : IS) : LA where
  ι := Nat
  inv := fun i => i ≤ a.len
  T := fun i => ⟨52, [(2, .one (.a (.ptr 2 0))), (5, int_ .i64 (chk l)), (27, .one (.a (.slc 1 1 0 a.len a.cap))), (28, int_ .i64 a.len), (29, int_ .i64 i)], [roG l, roT a, some ⟨true, .flat (glCells 0 l)⟩]⟩
  μ := fun i => a.len - i
  ren := fun S => [0, 1, S.ix 2]
noncomputable def cxL (l : GL) (a : IS) : Cx Try.prog := { ps := [hStS, stateS, chkS, rchkS, insS, rstS], es := [plainS], is := [], n0 := 2, loops := fun i => match i with | 9 => some (.inv (laTs l a)) | _ => none, cuts := fun _ => none }
set_option maxHeartbeats 16000000 in
theorem runs (l : GL) (a : IS) (hw : Gw l) (ha : Tw a) : Runs (cxL l a) Try.f3 [G1 0 l, T1 a] [roG l, roT a] yes := by
  have hs := hw.self
  have hz := c0_gw hw
  obtain ⟨t1, t2, t3⟩ := ha
  repeat' (first | with_reducible exact trivial | with_reducible exact rfl | with_reducible exact Nat.le_refl _ | with_reducible exact (fun _ _ => rfl) | ((conv => whnf); first | (refine fun (x : CL) => ?_) | (refine fun (y : Nat) => ?_) | (refine fun _ => ?_) | refine ⟨?_, ?_⟩ | exact trivial | exact Nat.le_refl _ | exact lex_q (by kernel_rfl) | exact lex_t (by kernel_rfl) | exact lex_h (by kernel_rfl) | fail))
  any_goals first
    | (refine enter_mk (la := laTs l a) 0 ?_ (by (repeat' (first | ((conv => whnf); first | refine ⟨?_, ?_⟩ | exact trivial | fail) | (dsimp only; done) | ((try dsimp only); first | with_reducible exact rfl | exact Nat.le_refl _ | with_reducible exact (fun _ _ => rfl)))); first | ((all_goals ((try dsimp only [laTs] at *); (all_goals (try simp (disch := omega) only [w64', wu64', tdiv_pos, tmod_pos, Int.toNat_natCast, Nat.zero_add] at *)); (all_goals ((first | (exact Decidable.not_not.1 (by assumption)) | rfl | omega))))); done) | fail))
    | (refine enter_mk (la := laTs l a) (y + 1) ?_ (by (repeat' (first | ((conv => whnf); first | refine ⟨?_, ?_⟩ | exact trivial | fail) | (dsimp only; done) | ((try dsimp only); first | with_reducible exact rfl | exact Nat.le_refl _ | with_reducible exact (fun _ _ => rfl)))); first | ((all_goals ((try dsimp only [laTs] at *); (all_goals (try simp (disch := omega) only [w64', wu64', tdiv_pos, tmod_pos, Int.toNat_natCast, Nat.zero_add] at *)); (all_goals ((first | rfl | omega | (rw [w64' (by omega) (by omega)]; omega)))))); done) | fail))
    | fail
  all_goals (try dsimp only [laTs] at *)
  all_goals (try simp only [gl_self, cp_self, c0_self] at *)
  all_goals (try exact hw)
  all_goals (try exact hz)
  all_goals (try exact cpg (by assumption) hw)
  all_goals (try exact absurd (by assumption : (!true) = true) (by decide))
  all_goals (try simp (disch := assumption) only [cpc, cpp, cpst] at *)
  all_goals (try omega)
  all_goals (try (have z := chk_nil (by assumption : l.len = 0); have z0 := c0_chk (l := l); first | (exact absurd (z.trans z0.symm) (by assumption)) | (rw [z] at *; omega)))
  all_goals (try exact absurd trivial (by assumption : ¬ True))
  all_goals (try (have hi := inr_t (by assumption : (!decide (inR (a.g (0 + (↑y : Int).toNat)))) = false); unfold inR at hi; omega))
  all_goals
    refine absurd ?_ (by assumption : ¬ stateV l _ = 0)
    unfold stateV
    first
    | exact if_neg fun h9 => absurd h9.1 (by assumption)
    | exact if_neg fun h9 => inr_f (by assumption) h9.2

theorem own : ownKnob Try.prog.godebug = none := by kernel_rfl

set_option maxRecDepth 100000 in
theorem lifted (os : Os) (started : os.Started) (H : Type) (enc : TypeId × Value → H) :
    ReturnsInHanded {} Try.checked os 3 .any (Rows.gatesStatesSpec.pre6 enc Try.prog Try.f3 Rows.gatesStatesRow.domain false) (Rows.gatesStatesSpec.post enc Try.prog Try.f3 false true false false) := by
  refine returnsInHanded_of_change (C := Try.checked) own started (by kernel_rfl) Try.func3
    (ChangeSpec.witness6 (enc := enc) (C := Try.checked) false ⟨#[], #[.agg #[.int .i64 0, .int .i64 0, .slice none 0 0], .slice none 0 0], []⟩ 8 (by kernel_rfl) (by kernel_rfl) (by kernel_rfl) (by kernel_rfl)) ?_
  intro W base args ds gs before hval0 hW hcnd _
  have hval : ∀ (j : Nat) t v, Try.f3.params[j]? = some t → args[j]? = some v → Value.okWide Try.prog W .any base t v := hval0
  have hW' := hW
  obtain ⟨p, q, hA0, hV, rfl, hfz, hnd⟩ := hW
  have hA : DataW.TrodAll enc Try.prog W 0 (fun _ => true) true Try.f3.params.toList args.toList ds p := hA0
  rw [Try.params3] at hA hval
  obtain ⟨v0, vs0, d0, ds0, p0, q0, hargs0, rfl, rfl, h0, r0⟩ := trodAll_cons hA
  obtain ⟨v1, vs1, d1, ds1, p1, q1, hargs1, rfl, rfl, h1, r1⟩ := trodAll_cons r0
  obtain ⟨rfl, rfl, rfl⟩ := trodAll_nil r1
  obtain ⟨rfl, rfl⟩ := trodVars_none hV
  obtain rfl : args = #[v0, v1] := by cases args; simp_all
  obtain ⟨A1, n1, c1, s1⟩ := slice_open (d := 6) (row := [some .i64]) Try.underlying25 (by kernel_rfl) (by kernel_rfl) (hval 1 25 v1 rfl rfl) h1
  obtain ⟨cs0, hv0, hl0, hc0⟩ := mix_agg (d := 6) (ss := [.num (some .i64), .num (some .i64), .sl [some .i64, some .i64]]) Try.underlying24 (by kernel_rfl) (by kernel_rfl) (hval 0 24 v0 rfl rfl) h0
  have g0_0 := listMix_of hl0 hc0
  clear hl0 hc0
  obtain ⟨_, cs0_1, rfl, ⟨b0_0, rfl, w0_0⟩, g0_1⟩ := listMix_cons g0_0
  obtain ⟨_, cs0_2, rfl, ⟨b0_1, rfl, w0_1⟩, g0_2⟩ := listMix_cons g0_1
  obtain ⟨u0_2, cs0_3, rfl, ⟨A0_2, n0_2, c0_2, s0_2⟩, g0_3⟩ := listMix_cons g0_2
  obtain rfl := listMix_nil g0_3
  subst hv0
  refine Calls.mono (law_calls mixed Try.func3 (runs ⟨b0_0, b0_1, n0_2, c0_2, n0_2, fun r => intC W A0_2 (r * 2 + 0), fun r => intC W A0_2 (r * 2 + 1)⟩ ⟨n1, c1, n1, fun r => intC W A1 (r * 1 + 0)⟩ (gw_of w0_0 w0_1 s0_2) ⟨s1.le, Nat.le_refl _, s1.max⟩) (e := envOf [A0_2, A1]) (rel_in2 s0_2.reg s1.reg) (Nat.le_refl 2) (by rw [s0_2.val, s1.val]; exact den_two.symm)) fun e W' ⟨he, hb⟩ => ?_
  subst he
  exact ⟨_, rfl, law_post hW' rfl rfl (by kernel_rfl) (by decide +kernel) rfl Try.underlying4 hb⟩

theorem over : Rows.gatesStatesRow.holds Try.pinned (OpenSpec.ofChange Rows.gatesStatesSpec) :=
  OpenClaim.holds_of_wide 3 Try.f3 rfl rfl rfl rfl rfl rfl rfl ⟨rfl, rfl, rfl, rfl, rfl⟩ rfl rfl rfl rfl rfl (by kernel_rfl) Try.func3 (by kernel_rfl)
    (of_decide_eq_true (by kernel_rfl)) (by unfold Func.isWrapper; first | (rw [if_pos (by decide +kernel)]; kernel_rfl) | (rw [if_neg (by decide +kernel)]; exact ⟨rfl, rfl⟩))
    (fun os started H enc _ => lifted os started H enc)

/-- GatesStates -/
theorem proved : Rows.GatesStatesSaid := over
#print axioms proved
end Go.Proofs.Ytkehcpafbkmapaa.gatesStates
