/-
  For every slice of bytes the law FcsOpens answers true and leaves all memory as it was.
-/
import Derived.Test.YtiaadplhpkggeaaSx
import Derived.Test.YtiaadplhpkggeaaFcsNum
import Derived.Test.YtiaadplhpkggeaaFcsBits
import Derived.Test.YtiaadplhpkggeaaFcsA
import Derived.Test.YtiaadplhpkggeaaFcsB
import Derived.Test.YtiaadplhpkggeaaFcsC
import Derived.Test.YtiaadplhpkggeaaFcsIn
import Derived.Test.YtiaadplhpkggeaaFcsJ
import Derived.Test.YtiaadplhpkggeaaRows
import Derived.WalkKit
import Derived.ProofKit
import Derived.OpenShut
namespace Go.Proofs.Ytiaadplhpkggeaa.fcsOpens
open Go.ChangeShapes Go.WideShapes Go.ChangeAt Go.RowKit Go.Sx
set_option linter.unusedVariables false
set_option linter.unusedSimpArgs false
set_option maxRecDepth 100000

attribute [local irreducible] enter anyAlt Bw
abbrev laX (a : IS) : LA where
  ι := Int × Nat × (Nat → Int) × Nat × (Nat → Int)
  inv := fun y => (0 ≤ y.1 ∧ y.1 ≤ ((a.len - 4 : Nat) : Int)) ∧ CB a.len a.g ⟨y.2.1, y.2.2.1⟩ ∧ a.len - 4 ≤ y.2.2.2.1 ∧ y.2.2.2.1 ≤ 9223372036854775807
  T := fun y => ⟨56, [(0, D1 0 a), (3, .one (.a (.slc 1 1 0 a.len y.2.1))), (4, .one (.a (.slc 2 1 0 (a.len - 4) y.2.2.2.1))), (42, int_ .i64 ((a.len - 4 : Nat) : Int)), (43, int_ .i64 y.1)], [roB a, some ⟨true, .tab y.2.1 [.int .u8 y.2.2.1]⟩, some ⟨true, .tab y.2.2.2.1 [.int .u8 y.2.2.2.2]⟩]⟩
  μ := fun y => (((a.len - 4 : Nat) : Int) - y.1).toNat
  ren := fun S => [0, S.ix 3, S.ix 4]
noncomputable def cxL (a : IS) : Cx Try.prog := { ps := [headS, opensS, sameS], es := [copyS, openS], is := [], n0 := 1, loops := fun i => match i with | 12 => some (.inv (laX a)) | _ => none, cuts := fun _ => none }
set_option maxHeartbeats 16000000 in
theorem runs (a : IS) (hw : Bw a) : Runs (cxL a) Try.f5 [D1 0 a] [roB a] yes := by
  obtain ⟨hb, hc, hN, hm⟩ := hw.out
  have hs := hw.self
  repeat' (first | exact trivial | with_reducible exact rfl | exact Nat.le_refl _ | with_reducible exact (fun _ _ => rfl) | ((conv => whnf); first | (refine fun (x : CG) => ?_) | (refine fun (y : Int × Nat × (Nat → Int) × Nat × (Nat → Int)) => ?_) | (refine fun _ => ?_) | refine ⟨?_, ?_⟩ | exact trivial | exact lex_q (by kernel_rfl) | exact lex_t (by kernel_rfl) | exact lex_h (by kernel_rfl) | fail))
  any_goals (refine enter_mk (la := laX a) (_, _, _, _, _) ?_ (by (repeat' (first | ((conv => whnf); first | refine ⟨?_, ?_⟩ | exact trivial | fail) | ((try dsimp only); first | with_reducible exact rfl | exact Nat.le_refl _ | with_reducible exact (fun _ _ => rfl)))); all_goals ((try dsimp only [laX] at *); (try simp (disch := omega) only [w64', wu64', tdiv_pos, tmod_pos, Int.toNat_natCast, Nat.zero_add] at *); (try omega))))
  all_goals (try dsimp only [cutR, cutL, id, laX] at *)
  all_goals (try simp (disch := omega) only [fdiv_nn, Int.reduceToNat, IntKind.bits, Nat.min_def, Nat.reduceLeDiff, if_true, if_false, Int.reducePow, wu8, wu32, w64', wu64', tdiv_pos, tmod_pos, Int.toNat_natCast, Nat.zero_add] at *)
  all_goals (try omega)
  all_goals (try exact absurd (by assumption : (!true) = true) (by decide))
  all_goals (try exact absurd (by assumption : (!true) = false) (by decide))
  all_goals (try exact bw_zero)
  all_goals (try exact rfl)
  all_goals
    have h0 := (by assumption : CB a.len (fun q => a.g (q + 0)) _)
    have w0 := h0.bw hb
    have ec := opB_congr (n := a.len) (g := fun q => CG.g _ (q + 0)) (h := fun q => a.g (q + 0)) (fun r hr => h0.2.2 r hr)
    first
    | exact w0
    | exact absurd (ec.2 (opD_yes (by assumption))) (by assumption)
    | exact absurd (ec.1 (by assumption : _ ∧ _).1) (opD_no (by assumption))
    | exact absurd (by assumption : (!false) = false) (by decide)
    | (have h2 := (by assumption : _ ∧ CB (a.len - 4) _ _)
       have w1 := opened w0.out.1 h2.2 rfl
       have h4 := h2.1.1
       have hs4 := hw.sub (n := ((a.len : Int) - 4).toNat) (by omega)
       have e1 := same_cb w1 hs4 (n := a.len - 4) (f := a.g) rfl (show ((a.len : Int) - 4).toNat = a.len - 4 by omega) (fun r hr => (h2.2.2.2 r hr).trans (h0.2.2 r (by omega))) (fun _ _ => rfl)
       first
       | omega
       | exact hs4
       | exact w1
       | exact (not_same (c := true) e1 (by assumption)).elim
       | exact ⟨⟨by omega, by omega⟩, h0, h2.2.1, h2.2.2.1⟩
       | (have h5 := (by assumption : _ ∧ CB a.len a.g _ ∧ _)
          first
          | exact ⟨⟨by omega, by omega⟩, h5.2.1, h5.2.2⟩
          | exact h5.2.1.bw hb
          | exact (same_cb (h5.2.1.bw hb) hs rfl rfl h5.2.1.2.2 fun _ _ => rfl).symm))

theorem own : ownKnob Try.prog.godebug = none := by kernel_rfl

set_option maxRecDepth 100000 in
theorem lifted (os : Os) (started : os.Started) (H : Type) (enc : TypeId × Value → H) :
    ReturnsInHanded {} Try.checked os 5 .any (Rows.fcsOpensSpec.pre6 enc Try.prog Try.f5 Rows.fcsOpensRow.domain false) (Rows.fcsOpensSpec.post enc Try.prog Try.f5 false true false false) := by
  refine returnsInHanded_of_change (C := Try.checked) own started (by kernel_rfl) Try.func5
    (ChangeSpec.witness6 (enc := enc) (C := Try.checked) false ⟨#[], #[.slice none 0 0], []⟩ 8 (by kernel_rfl) (by kernel_rfl) (by kernel_rfl) (by kernel_rfl)) ?_
  intro W base args ds gs before hval0 hW hcnd _
  have hval : ∀ (j : Nat) t v, Try.f5.params[j]? = some t → args[j]? = some v → Value.okWide Try.prog W .any base t v := hval0
  have hW' := hW
  obtain ⟨p, q, hA0, hV, rfl, hfz, hnd⟩ := hW
  have hA : DataW.TrodAll enc Try.prog W 0 (fun _ => true) true Try.f5.params.toList args.toList ds p := hA0
  rw [Try.params5] at hA hval
  obtain ⟨v0, vs0, d0, ds0, p0, q0, hargs0, rfl, rfl, h0, r0⟩ := trodAll_cons hA
  obtain ⟨rfl, rfl, rfl⟩ := trodAll_nil r0
  obtain ⟨rfl, rfl⟩ := trodVars_none hV
  obtain rfl : args = #[v0] := by cases args; simp_all
  obtain ⟨A0, n0, c0, s0⟩ := slice_open (d := 6) (row := [some .u8]) Try.underlying28 (by kernel_rfl) (by kernel_rfl) (hval 0 28 v0 rfl rfl) h0
  refine Calls.mono (law_calls mixed Try.func5 (runs ⟨n0, c0, n0, fun r => intC W A0 (r * 1 + 0)⟩ (bw_of s0)) (rel_one s0.reg) (Nat.le_refl 1) (by rw [s0.val]; exact congrArg (fun x => #[x]) (den_slc (e := fun _ => A0) (i := 0) (st := 1) rfl).symm)) fun e W' ⟨he, hb⟩ => ?_
  subst he
  exact ⟨_, rfl, law_post hW' rfl rfl (by kernel_rfl) (by decide +kernel) rfl Try.underlying4 hb⟩

theorem over : Rows.fcsOpensRow.holds Try.pinned (OpenSpec.ofChange Rows.fcsOpensSpec) :=
  OpenClaim.holds_of_wide 5 Try.f5 rfl rfl rfl rfl rfl rfl rfl ⟨rfl, rfl, rfl, rfl, rfl⟩ rfl rfl rfl rfl rfl (by kernel_rfl) Try.func5 (by kernel_rfl)
    (of_decide_eq_true (by kernel_rfl)) (by unfold Func.isWrapper; first | (rw [if_pos (by decide +kernel)]; kernel_rfl) | (rw [if_neg (by decide +kernel)]; exact ⟨rfl, rfl⟩))
    (fun os started H enc _ => lifted os started H enc)

/-- FcsOpens -/
theorem proved : Rows.FcsOpensSaid := over
#print axioms proved
end Go.Proofs.Ytiaadplhpkggeaa.fcsOpens
