/-
  For every slice of bytes the law FcsBack answers true and leaves all memory as it was.
-/
import Derived.Test.YtiaadplhpkggeaaSx
import Derived.Test.YtiaadplhpkggeaaFcsNum
import Derived.Test.YtiaadplhpkggeaaFcsBits
import Derived.Test.YtiaadplhpkggeaaFcsA
import Derived.Test.YtiaadplhpkggeaaFcsB
import Derived.Test.YtiaadplhpkggeaaFcsC
import Derived.Test.YtiaadplhpkggeaaFcsIn
import Derived.Test.YtiaadplhpkggeaaRows
import Derived.WalkKit
import Derived.ProofKit
import Derived.OpenShut
namespace Go.Proofs.Ytiaadplhpkggeaa.fcsBack
open Go.ChangeShapes Go.WideShapes Go.ChangeAt Go.RowKit Go.Sx
set_option linter.unusedVariables false
set_option linter.unusedSimpArgs false
set_option maxRecDepth 100000

attribute [local irreducible] enter anyAlt Bw
noncomputable def cxL : Cx Try.prog := { ps := [headS, sumS, sameS], es := [closeS, openS], is := [], n0 := 1, loops := fun _ => none, cuts := fun _ => none }
set_option maxHeartbeats 16000000 in
theorem runs (a : IS) (hw : Bw a) : Runs cxL Try.f7 [D1 0 a] [roB a] yes := by
  obtain ⟨hb, hc, hN, hm⟩ := hw.out
  have hs := hw.self
  repeat' (first | exact trivial | with_reducible exact rfl | exact Nat.le_refl _ | with_reducible exact (fun _ _ => rfl) | ((conv => whnf); first | (refine fun (x : CG) => ?_) | (refine fun _ => ?_) | refine ⟨?_, ?_⟩ | exact trivial | exact lex_q (by kernel_rfl) | exact lex_t (by kernel_rfl) | exact lex_h (by kernel_rfl) | fail))
  all_goals (try dsimp only [cutR, cutL, id] at *)
  all_goals (try simp (disch := omega) only [fdiv_nn, Int.reduceToNat, IntKind.bits, Nat.min_def, Nat.reduceLeDiff, if_true, if_false, Int.reducePow, wu8, wu32, w64', wu64', tdiv_pos, tmod_pos, Int.toNat_natCast, Nat.zero_add] at *)
  all_goals (try omega)
  all_goals (try exact absurd (by assumption : (!true) = true) (by decide))
  all_goals (try exact bw_zero)
  all_goals (try exact hw.sub (by split <;> omega))
  all_goals
    have h1 := (by assumption : CB (a.len + 4) (clG (fun q => a.g (q + 0)) a.len) _)
    have w1 := h1.bw fun r _ => clG_wf hb r
    first
    | exact w1
    | exact absurd (close_op hb h1) (by assumption)
    | exact absurd (close_rest hb h1) (by assumption)
    | (have h2 := (by assumption : CB (a.len + 4 + 4) (clG (fun q => CG.g _ (q + 0)) (a.len + 4)) _)
       have w2 := h2.bw fun r _ => clG_wf w1.out.1 r
       first
       | exact w2
       | exact absurd (close_op w1.out.1 h2) (by assumption)
       | (have h5 := (by assumption : opB (fun q => a.g (q + 0)) _ ∧ _).1.1
          split at h5 <;> omega)
       | (have h3 := (by assumption : _ ∧ CB (a.len + 4 + 4 - 4) _ _).2
          have w3 := opened w2.out.1 h3 rfl
          have e1 := same_cb w3 w1 (n := a.len + 4) (f := fun r => CG.g _ r) (show a.len + 4 + 4 - 4 = a.len + 4 by omega) rfl (fun r hr => (h3.2.2 r (by omega)).trans ((h2.2.2 r (by omega)).trans (clG_old hr))) (fun _ _ => rfl)
          first
          | exact w3
          | exact absurd (e1.symm.trans (by assumption : _ = false)) (by decide)
          | (have h4 := (by assumption : _ ∧ CB (a.len + 4 - 4) _ _).2
             have w4 := opened w1.out.1 h4 rfl
             have e2 := same_cb w4 hs (n := a.len) (f := a.g) (show a.len + 4 - 4 = a.len by omega) rfl (fun r hr => (h4.2.2 r (by omega)).trans ((h1.2.2 r (by omega)).trans (clG_old hr))) (fun _ _ => rfl)
             first
             | exact w4
             | exact absurd (e2.symm.trans (by assumption : _ = false)) (by decide)
             | rfl)))

theorem own : ownKnob Try.prog.godebug = none := by kernel_rfl

set_option maxRecDepth 100000 in
theorem lifted (os : Os) (started : os.Started) (H : Type) (enc : TypeId × Value → H) :
    ReturnsInHanded {} Try.checked os 7 .any (Rows.fcsBackSpec.pre6 enc Try.prog Try.f7 Rows.fcsBackRow.domain false) (Rows.fcsBackSpec.post enc Try.prog Try.f7 false true false false) := by
  refine returnsInHanded_of_change (C := Try.checked) own started (by kernel_rfl) Try.func7
    (ChangeSpec.witness6 (enc := enc) (C := Try.checked) false ⟨#[], #[.slice none 0 0], []⟩ 8 (by kernel_rfl) (by kernel_rfl) (by kernel_rfl) (by kernel_rfl)) ?_
  intro W base args ds gs before hval0 hW hcnd _
  have hval : ∀ (j : Nat) t v, Try.f7.params[j]? = some t → args[j]? = some v → Value.okWide Try.prog W .any base t v := hval0
  have hW' := hW
  obtain ⟨p, q, hA0, hV, rfl, hfz, hnd⟩ := hW
  have hA : DataW.TrodAll enc Try.prog W 0 (fun _ => true) true Try.f7.params.toList args.toList ds p := hA0
  rw [Try.params7] at hA hval
  obtain ⟨v0, vs0, d0, ds0, p0, q0, hargs0, rfl, rfl, h0, r0⟩ := trodAll_cons hA
  obtain ⟨rfl, rfl, rfl⟩ := trodAll_nil r0
  obtain ⟨rfl, rfl⟩ := trodVars_none hV
  obtain rfl : args = #[v0] := by cases args; simp_all
  obtain ⟨A0, n0, c0, s0⟩ := slice_open (d := 6) (row := [some .u8]) Try.underlying28 (by kernel_rfl) (by kernel_rfl) (hval 0 28 v0 rfl rfl) h0
  refine Calls.mono (law_calls mixed Try.func7 (runs ⟨n0, c0, n0, fun r => intC W A0 (r * 1 + 0)⟩ (bw_of s0)) (rel_one s0.reg) (Nat.le_refl 1) (by rw [s0.val]; exact congrArg (fun x => #[x]) (den_slc (e := fun _ => A0) (i := 0) (st := 1) rfl).symm)) fun e W' ⟨he, hb⟩ => ?_
  subst he
  exact ⟨_, rfl, law_post hW' rfl rfl (by kernel_rfl) (by decide +kernel) rfl Try.underlying4 hb⟩

theorem over : Rows.fcsBackRow.holds Try.pinned (OpenSpec.ofChange Rows.fcsBackSpec) :=
  OpenClaim.holds_of_wide 7 Try.f7 rfl rfl rfl rfl rfl rfl rfl ⟨rfl, rfl, rfl, rfl, rfl⟩ rfl rfl rfl rfl rfl (by kernel_rfl) Try.func7 (by kernel_rfl)
    (of_decide_eq_true (by kernel_rfl)) (by unfold Func.isWrapper; first | (rw [if_pos (by decide +kernel)]; kernel_rfl) | (rw [if_neg (by decide +kernel)]; exact ⟨rfl, rfl⟩))
    (fun os started H enc _ => lifted os started H enc)

/-- FcsBack -/
theorem proved : Rows.FcsBackSaid := over
#print axioms proved
end Go.Proofs.Ytiaadplhpkggeaa.fcsBack
