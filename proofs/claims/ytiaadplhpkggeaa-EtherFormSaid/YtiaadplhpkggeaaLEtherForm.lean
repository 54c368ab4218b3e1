/-
  For every slice of bytes the law EtherForm answers true and leaves all memory as it was.
-/
import Derived.Test.YtiaadplhpkggeaaSx
import Derived.Test.YtiaadplhpkggeaaFcsNum
import Derived.Test.YtiaadplhpkggeaaFcsBits
import Derived.Test.YtiaadplhpkggeaaFcsA
import Derived.Test.YtiaadplhpkggeaaFcsB
import Derived.Test.YtiaadplhpkggeaaFcsIn
import Derived.Test.YtiaadplhpkggeaaFcsC
import Derived.Test.YtiaadplhpkggeaaFcsJ
import Derived.Test.YtiaadplhpkggeaaFcsH
import Derived.Test.YtiaadplhpkggeaaEthNum
import Derived.Test.YtiaadplhpkggeaaEthA
import Derived.Test.YtiaadplhpkggeaaEthB
import Derived.Test.YtiaadplhpkggeaaEthD
import Derived.Test.YtiaadplhpkggeaaEthM
import Derived.Test.YtiaadplhpkggeaaRows
import Derived.WalkKit
import Derived.ProofKit
import Derived.OpenShut
namespace Go.Proofs.Ytiaadplhpkggeaa.etherForm
open Go.ChangeShapes Go.WideShapes Go.ChangeAt Go.RowKit Go.Sx
set_option linter.unusedVariables false
set_option linter.unusedSimpArgs false
set_option maxRecDepth 100000

attribute [local irreducible] enter anyAlt Bw chk derr
noncomputable def cxL : Cx Try.prog := { ps := [eheadS, sameS, chkS], es := [rcloseS, encS, decS], is := [], n0 := 1, loops := fun _ => none, cuts := fun _ => none }
set_option maxHeartbeats 16000000 in
theorem runs (b : IS) (hw : Bw b) : Runs cxL Try.f13 [D1 0 b] [roB b] yes := by
  have hd := hw.out
  repeat' (first | with_reducible exact trivial | with_reducible exact rfl | with_reducible exact Nat.le_refl _ | with_reducible exact (fun _ _ => rfl) | ((conv => whnf); first | (refine fun (x : CG) => ?_) | (refine fun _ => ?_) | refine ⟨?_, ?_⟩ | exact trivial | exact Nat.le_refl _ | exact lex_q (by kernel_rfl) | exact lex_t (by kernel_rfl) | exact lex_h (by kernel_rfl) | fail))
  all_goals (try exact no_t (by assumption))
  all_goals (try dsimp only [cutR, cutL, id] at *)
  all_goals (try simp only [fr_eta, frD_eta] at *)
  all_goals (try simp (disch := omega) only [fdiv_nn, Int.reduceToNat, IntKind.bits, Nat.min_def, Nat.reduceLeDiff, if_true, if_false, Int.reducePow, wu8, wu32, w64', wu64', tdiv_pos, tmod_pos, Int.toNat_natCast, Nat.zero_add] at *)
  all_goals (try omega)
  all_goals
    have h1 := (by assumption : CB (b.len + 4) (clG (fun q => b.g (q + 0)) b.len) _)
    have hcw := closed_w hw h1
    first
    | exact hcw.1
    | skip
  all_goals
    have hdc := derr_cases (fam (b.len + 4) _) hcw.2 (by show b.len + 4 ≤ 1600; omega)
    rcases hdc with ⟨k0, k1⟩ | k0 | ⟨k0, k1, k2⟩
  all_goals (simp only [k0] at *)
  all_goals (try exact absurd rfl (by assumption))
  all_goals (try exact absurd trivial (by assumption))
  all_goals (try exact absurd (by assumption : (20 : Int) = 0 ∧ _).1 (by decide))
  all_goals (try exact absurd (by assumption : (21 : Int) = 0 ∧ _).1 (by decide))
  all_goals (try rfl)
  all_goals (try omega)
  · symm; exact decide_eq_true (by have h9 : b.len + 4 < 64 := k1; omega)
  all_goals
    have hde := dec_enc hcw.1 k1 (by show b.len + 4 ≤ 1600; omega) hcw.2 k2 (by assumption : True ∧ CB (dn (fun q => CG.g _ (q + 0))) (dG (fun q => CG.g _ (q + 0))) _).2
    obtain ⟨e1, e2, e3, e4, e5⟩ := hde
    first
    | exact e1
    | exact e2
    | exact absurd e3 (by assumption)
    | exact (decide_eq_true e3).symm
    | (have hz := (by assumption : _ ∧ CB (tot (frD (fun q => CG.g _ (q + 0)) _) + 4) (clG (inG (frD (fun q => CG.g _ (q + 0)) _)) (tot (frD (fun q => CG.g _ (q + 0)) _))) _).2
       first
       | exact hz.bw fun r _ => clG_wf (fun q _ => inG_wf e1 q) r
       | (have hs := same_fam hcw.1 e4 hz (fun r hr => e5 r (by omega))
          first
          | (simp only [hs] at *; done)
          | (have hq := (by assumption : sameB _ _ = false); exact absurd (hs.symm.trans hq) (by decide))
          | exact hs.symm))

theorem own : ownKnob Try.prog.godebug = none := by kernel_rfl

set_option maxRecDepth 100000 in
theorem lifted (os : Os) (started : os.Started) (H : Type) (enc : TypeId × Value → H) :
    ReturnsInHanded {} Try.checked os 13 .any (Rows.etherFormSpec.pre6 enc Try.prog Try.f13 Rows.etherFormRow.domain false) (Rows.etherFormSpec.post enc Try.prog Try.f13 false true false false) := by
  refine returnsInHanded_of_change (C := Try.checked) own started (by kernel_rfl) Try.func13
    (ChangeSpec.witness6 (enc := enc) (C := Try.checked) false ⟨#[], #[.slice none 0 0], []⟩ 8 (by kernel_rfl) (by kernel_rfl) (by kernel_rfl) (by kernel_rfl)) ?_
  intro W base args ds gs before hval0 hW hcnd _
  have hval : ∀ (j : Nat) t v, Try.f13.params[j]? = some t → args[j]? = some v → Value.okWide Try.prog W .any base t v := hval0
  have hW' := hW
  obtain ⟨p, q, hA0, hV, rfl, hfz, hnd⟩ := hW
  have hA : DataW.TrodAll enc Try.prog W 0 (fun _ => true) true Try.f13.params.toList args.toList ds p := hA0
  rw [Try.params13] at hA hval
  obtain ⟨v0, vs0, d0, ds0, p0, q0, hargs0, rfl, rfl, h0, r0⟩ := trodAll_cons hA
  obtain ⟨rfl, rfl, rfl⟩ := trodAll_nil r0
  obtain ⟨rfl, rfl⟩ := trodVars_none hV
  obtain rfl : args = #[v0] := by cases args; simp_all
  obtain ⟨A0, n0, c0, s0⟩ := slice_open (d := 6) (row := [some .u8]) Try.underlying28 (by kernel_rfl) (by kernel_rfl) (hval 0 28 v0 rfl rfl) h0
  refine Calls.mono (law_calls mixed Try.func13 (runs ⟨n0, c0, n0, fun r => intC W A0 (r * 1 + 0)⟩ (bw_of s0)) (rel_one s0.reg) (Nat.le_refl 1) (by rw [s0.val]; exact congrArg (fun x => #[x]) (den_slc (e := fun _ => A0) (i := 0) (st := 1) rfl).symm)) fun e W' ⟨he, hb⟩ => ?_
  subst he
  exact ⟨_, rfl, law_post hW' rfl rfl (by kernel_rfl) (by decide +kernel) rfl Try.underlying4 hb⟩

theorem over : Rows.etherFormRow.holds Try.pinned (OpenSpec.ofChange Rows.etherFormSpec) :=
  OpenClaim.holds_of_wide 13 Try.f13 rfl rfl rfl rfl rfl rfl rfl ⟨rfl, rfl, rfl, rfl, rfl⟩ rfl rfl rfl rfl rfl (by kernel_rfl) Try.func13 (by kernel_rfl)
    (of_decide_eq_true (by kernel_rfl)) (by unfold Func.isWrapper; first | (rw [if_pos (by decide +kernel)]; kernel_rfl) | (rw [if_neg (by decide +kernel)]; exact ⟨rfl, rfl⟩))
    (fun os started H enc _ => lifted os started H enc)

/-- EtherForm -/
theorem proved : Rows.EtherFormSaid := over
#print axioms proved
end Go.Proofs.Ytiaadplhpkggeaa.etherForm
