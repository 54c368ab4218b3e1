/-
  For every list of gates and all numbers the law GatesNexts answers true and leaves all memory as it was.
-/
import Derived.Test.YtkehcpafbkmapaaSx
import Derived.Test.YtkehcpafbkmapaaGatesNum
import Derived.Test.YtkehcpafbkmapaaGatesA
import Derived.Test.YtkehcpafbkmapaaGatesB
import Derived.Test.YtkehcpafbkmapaaGatesH
import Derived.Test.YtkehcpafbkmapaaGatesP
import Derived.Test.YtkehcpafbkmapaaGatesQ
import Derived.Test.YtkehcpafbkmapaaGatesR
import Derived.Test.YtkehcpafbkmapaaRows
import Derived.WalkKit
import Derived.ProofKit
import Derived.OpenShut
namespace Go.Proofs.Ytkehcpafbkmapaa.gatesNexts
open Go.ChangeShapes Go.WideShapes Go.ChangeAt Go.RowKit Go.Sx
set_option linter.unusedVariables false
set_option linter.unusedSimpArgs false
set_option maxRecDepth 100000

attribute [local irreducible] enter anyAlt Gw CS
noncomputable def cxL : Cx Try.prog := { ps := [hNxS, nextS, rchkS, insS, rsyS], es := [plainS], is := [], n0 := 1, loops := fun _ => none, cuts := fun _ => none }
set_option maxHeartbeats 16000000 in
theorem runs (l : GL) (a k : Int) (hw : Gw l) (ha : I64 a) (hk : I64 k) : Runs cxL Try.f6 [G1 0 l, int_ .i64 a, int_ .i64 k] [roG l] yes := by
  have hs := hw.self
  have hz := c0_gw hw
  repeat' (first | with_reducible exact trivial | with_reducible exact rfl | with_reducible exact Nat.le_refl _ | with_reducible exact (fun _ _ => rfl) | ((conv => whnf); first | (refine fun (x : CL) => ?_) | (refine fun _ => ?_) | refine ⟨?_, ?_⟩ | exact trivial | exact Nat.le_refl _ | exact lex_q (by kernel_rfl) | exact lex_t (by kernel_rfl) | exact lex_h (by kernel_rfl) | fail))
  all_goals (try dsimp only at *)
  all_goals (try simp only [gl_self, cp_self, c0_self] at *)
  all_goals (try exact hw)
  all_goals (try exact hz)
  all_goals (try exact cpg (by assumption) hw)
  all_goals (try exact absurd (by assumption : (!true) = true) (by decide))
  all_goals (try (exact absurd (c0_chk (l := l)) (by have h9 := Decidable.not_not.1 (by assumption : ¬ ¬ chk (c0 l) = 0); rw [h9]; decide)))
  all_goals (try simp (disch := assumption) only [cpc, cpp] at *)
  all_goals (try (have h0 := Decidable.not_not.1 (by assumption : ¬ ¬ chk l = 0)))
  all_goals (try simp (disch := assumption) only [cpy] at *)
  all_goals (try exact absurd (by assumption : l.len = 0) (by assumption : l.len ≠ 0 ∧ CS l.len l _).1)
  all_goals (try omega)
  all_goals (try (have hi := inr_t (by assumption : (!decide (inR a)) = false); unfold inR at hi; omega))
  all_goals
    by_cases hc : chk l = 0 ∧ inR a ∧ gateR k
    · obtain ⟨e1, e2⟩ := next_some hc
      have c1 := (chk_ok hc.1).c1
      have c2 := (chk_ok hc.1).c2
      have wc : IntKind.i64.wrap (2 * l.cyc) = 2 * l.cyc := w64' (by omega) (by omega)
      simp only [show oI false = 0 from rfl, wc] at *
      first
      | exact absurd hc.1 (by assumption)
      | exact absurd hc.2.1 (inr_f (by assumption))
      | (exact absurd hc.1 (by rw [chk_nil (by assumption : l.len = 0)]; decide))
      | (have hg := hc.2.2; unfold gateR at hg; omega)
      | (have hs := (by assumption : stayV l (phV l a) k 0 = 2 * l.cyc)
         rw [hs] at e1 e2
         simp at e1 e2
         first
         | exact absurd e1 (by assumption)
         | (rw [e2]; rfl))
      | (have hs := (by assumption : ¬ stayV l (phV l a) k 0 = 2 * l.cyc)
         rw [if_pos hs] at e1
         rw [decide_eq_true hs] at e2
         first
         | (symm; apply decide_eq_true; exact e1)
         | exact absurd (e2.symm.trans (by assumption : nextB l a k = false)) (by decide))
    · obtain ⟨e1, e2⟩ := next_none hc
      first
      | exact absurd e1 (by assumption)
      | (rw [e2]; rfl)
      | (exfalso
         have hi := inr_t (by assumption : (!decide (inR a)) = false)
         exact hc ⟨h0, hi, by unfold gateR; omega⟩)

theorem own : ownKnob Try.prog.godebug = none := by kernel_rfl

set_option maxRecDepth 100000 in
theorem lifted (os : Os) (started : os.Started) (H : Type) (enc : TypeId × Value → H) :
    ReturnsInHanded {} Try.checked os 6 .any (Rows.gatesNextsSpec.pre6 enc Try.prog Try.f6 Rows.gatesNextsRow.domain false) (Rows.gatesNextsSpec.post enc Try.prog Try.f6 false true false false) := by
  refine returnsInHanded_of_change (C := Try.checked) own started (by kernel_rfl) Try.func6
    (ChangeSpec.witness6 (enc := enc) (C := Try.checked) false ⟨#[], #[.agg #[.int .i64 0, .int .i64 0, .slice none 0 0], .int .i64 0, .int .i64 0], []⟩ 8 (by kernel_rfl) (by kernel_rfl) (by kernel_rfl) (by kernel_rfl)) ?_
  intro W base args ds gs before hval0 hW hcnd _
  have hval : ∀ (j : Nat) t v, Try.f6.params[j]? = some t → args[j]? = some v → Value.okWide Try.prog W .any base t v := hval0
  have hW' := hW
  obtain ⟨p, q, hA0, hV, rfl, hfz, hnd⟩ := hW
  have hA : DataW.TrodAll enc Try.prog W 0 (fun _ => true) true Try.f6.params.toList args.toList ds p := hA0
  rw [Try.params6] at hA hval
  obtain ⟨v0, vs0, d0, ds0, p0, q0, hargs0, rfl, rfl, h0, r0⟩ := trodAll_cons hA
  obtain ⟨v1, vs1, d1, ds1, p1, q1, hargs1, rfl, rfl, h1, r1⟩ := trodAll_cons r0
  obtain ⟨v2, vs2, d2, ds2, p2, q2, hargs2, rfl, rfl, h2, r2⟩ := trodAll_cons r1
  obtain ⟨rfl, rfl, rfl⟩ := trodAll_nil r2
  obtain ⟨rfl, rfl⟩ := trodVars_none hV
  obtain rfl : args = #[v0, v1, v2] := by cases args; simp_all
  obtain ⟨a1, rfl, rfl, rfl, w1⟩ := open_int Try.underlying3 (hval 1 3 v1 rfl rfl) h1
  obtain ⟨a2, rfl, rfl, rfl, w2⟩ := open_int Try.underlying3 (hval 2 3 v2 rfl rfl) h2
  obtain ⟨cs0, hv0, hl0, hc0⟩ := mix_agg (d := 6) (ss := [.num (some .i64), .num (some .i64), .sl [some .i64, some .i64]]) Try.underlying24 (by kernel_rfl) (by kernel_rfl) (hval 0 24 v0 rfl rfl) h0
  have g0_0 := listMix_of hl0 hc0
  clear hl0 hc0
  obtain ⟨_, cs0_1, rfl, ⟨b0_0, rfl, w0_0⟩, g0_1⟩ := listMix_cons g0_0
  obtain ⟨_, cs0_2, rfl, ⟨b0_1, rfl, w0_1⟩, g0_2⟩ := listMix_cons g0_1
  obtain ⟨u0_2, cs0_3, rfl, ⟨A0_2, n0_2, c0_2, s0_2⟩, g0_3⟩ := listMix_cons g0_2
  obtain rfl := listMix_nil g0_3
  subst hv0
  refine Calls.mono (law_calls mixed Try.func6 (runs ⟨b0_0, b0_1, n0_2, c0_2, n0_2, fun r => intC W A0_2 (r * 2 + 0), fun r => intC W A0_2 (r * 2 + 1)⟩ a1 a2 (gw_of w0_0 w0_1 s0_2) (i64_of w1) (i64_of w2)) (e := envOf [A0_2]) (rel_in1 s0_2.reg) (Nat.le_refl 1) (by rw [s0_2.val]; exact congrArg (fun x => #[x, _, _]) den_gl.symm)) fun e W' ⟨he, hb⟩ => ?_
  subst he
  exact ⟨_, rfl, law_post hW' rfl rfl (by kernel_rfl) (by decide +kernel) rfl Try.underlying4 hb⟩

theorem over : Rows.gatesNextsRow.holds Try.pinned (OpenSpec.ofChange Rows.gatesNextsSpec) :=
  OpenClaim.holds_of_wide 6 Try.f6 rfl rfl rfl rfl rfl rfl rfl ⟨rfl, rfl, rfl, rfl, rfl⟩ rfl rfl rfl rfl rfl (by kernel_rfl) Try.func6 (by kernel_rfl)
    (of_decide_eq_true (by kernel_rfl)) (by unfold Func.isWrapper; first | (rw [if_pos (by decide +kernel)]; kernel_rfl) | (rw [if_neg (by decide +kernel)]; exact ⟨rfl, rfl⟩))
    (fun os started H enc _ => lifted os started H enc)

/-- GatesNexts -/
theorem proved : Rows.GatesNextsSaid := over
#print axioms proved
end Go.Proofs.Ytkehcpafbkmapaa.gatesNexts
