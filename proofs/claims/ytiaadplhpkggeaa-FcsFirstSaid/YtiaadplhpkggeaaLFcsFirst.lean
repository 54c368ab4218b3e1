/-
  For every slice of bytes the law FcsFirst answers true and leaves all memory as it was.
-/
import Derived.Test.YtiaadplhpkggeaaSx
import Derived.Test.YtiaadplhpkggeaaFcsNum
import Derived.Test.YtiaadplhpkggeaaFcsBits
import Derived.Test.YtiaadplhpkggeaaFcsA
import Derived.Test.YtiaadplhpkggeaaFcsB
import Derived.Test.YtiaadplhpkggeaaFcsC
import Derived.Test.YtiaadplhpkggeaaFcsIn
import Derived.Test.YtiaadplhpkggeaaFcsJ
import Derived.Test.YtiaadplhpkggeaaFcsH
import Derived.Test.YtiaadplhpkggeaaRows
import Derived.WalkKit
import Derived.ProofKit
import Derived.OpenShut
namespace Go.Proofs.Ytiaadplhpkggeaa.fcsFirst
open Go.ChangeShapes Go.WideShapes Go.ChangeAt Go.RowKit Go.Sx
set_option linter.unusedVariables false
set_option linter.unusedSimpArgs false
set_option maxRecDepth 100000

attribute [local irreducible] enter anyAlt Bw
abbrev laX (a : IS) : LA where
  ι := Int × Bool
  inv := fun y => (0 ≤ y.1 ∧ y.1 ≤ 8 * a.len) ∧ (y.2 = false → noBit a.g a.len y.1.toNat) ∧ (y.2 = true → hitO a = true)
  T := fun y => ⟨84, [(0, D1 0 a), (3, int_ .i64 (hitI ⟨a.len, a.cap, a.N - 0, fun q => a.g (q + 0)⟩)), (4, int_ .i64 (hitK ⟨a.len, a.cap, a.N - 0, fun q => a.g (q + 0)⟩)), (5, .one (.a (.v (.bool (hitO ⟨a.len, a.cap, a.N - 0, fun q => a.g (q + 0)⟩))))), (6, .one (.a (.v (.bool y.2)))), (7, int_ .i64 y.1)], [roB a]⟩
  μ := fun y => (8 * a.len - y.1).toNat
  ren := fun _ => [0]
noncomputable def cxL (a : IS) : Cx Try.prog := { ps := [headS, hitS, opensS], es := [copyS], is := [], n0 := 1, loops := fun i => match i with | 8 => some (.inv (laX a)) | _ => none, cuts := fun _ => none }
set_option maxHeartbeats 16000000 in
theorem runs (a : IS) (hw : Bw a) : Runs (cxL a) Try.f8 [D1 0 a] [roB a] yes := by
  obtain ⟨hb, hc, hN, hm⟩ := hw.out
  have hs := hw.self
  repeat' (first | exact trivial | with_reducible exact rfl | exact Nat.le_refl _ | with_reducible exact (fun _ _ => rfl) | ((conv => whnf); first | (refine fun (x : CG) => ?_) | (refine fun (y : Int × Bool) => ?_) | (refine fun _ => ?_) | refine ⟨?_, ?_⟩ | exact trivial | exact lex_q (by kernel_rfl) | exact lex_t (by kernel_rfl) | exact lex_h (by kernel_rfl) | fail))
  any_goals (refine enter_mk (la := laX a) (_, _) ?_ (by (repeat' (first | ((conv => whnf); first | refine ⟨?_, ?_⟩ | exact trivial | fail) | ((try dsimp only); first | with_reducible exact rfl | exact Nat.le_refl _ | with_reducible exact (fun _ _ => rfl)))); all_goals ((try dsimp only [laX] at *); (try simp (disch := omega) only [w64', wu64', tdiv_pos, tmod_pos, Int.toNat_natCast, Nat.zero_add] at *); (try omega))))
  all_goals (try dsimp only [cutR, cutL, id, laX] at *)
  all_goals (try simp (disch := omega) only [fdiv_nn, Int.reduceToNat, IntKind.bits, Nat.min_def, Nat.reduceLeDiff, if_true, if_false, Int.reducePow, wu8, wu32, w64', wu64', tdiv_pos, tmod_pos, Int.toNat_natCast, Nat.zero_add] at *)
  all_goals (try omega)
  all_goals (try exact absurd (by assumption : (!true) = true) (by decide))
  all_goals (try exact absurd (by assumption : (!true) = false) (by decide))
  all_goals (try exact absurd (by assumption : true = false) (by decide))
  all_goals (try exact absurd (by assumption : false = true) (by decide))
  all_goals first
    | exact hs
    | exact ⟨by omega, fun _ p hp => absurd hp (by omega), fun h => absurd h (by decide)⟩
    | (have h2 := (by assumption : CB a.len (fun q => a.g (q + 0)) x)
       have l2 : a.len ≤ x.cap := h2.1
       have l3 : x.cap ≤ 9223372036854775807 := h2.2.1
       have b2 : Bytes x.g a.len := hb.congr h2.2.2
       have hy := (by assumption : (0 ≤ y.1 ∧ _) ∧ _)
       have hy2 : y.2 = false := by
         have h9 : (!y.2) = true := by assumption
         cases hh : y.2 with
         | false => rfl
         | true => rw [hh] at h9; cases h9
       have hno := opD_no (a := a) (by assumption)
       first
       | omega
       | (have ht := turned b2 hy.1.1 (by assumption)
          have hd : ∀ r, r < a.len → _ = flp a.g y.1.toNat r := fun r hr => (ht r).trans (flp_congr h2.2.2 _ r hr)
          have hFb : Bytes _ a.len := ((Off.flpd (p := y.1.toNat) hb).bytes hb).congr hd
          have ec := opB_congr hd
          first
          | exact Bw.mk hFb l2 l2 l3
          | (have hop := ec.1 (opD_is (by assumption))
             have hk := hit1 (i := y.1 / 8) (k := y.1 % 8) hno (by omega) (by omega) (by omega) (by rw [show 8 * (y.1 / 8).toNat + (y.1 % 8).toNat = y.1.toNat by omega]; exact hy.2.1 hy2) (by rw [show 8 * (y.1 / 8).toNat + (y.1 % 8).toNat = y.1.toNat by omega]; exact hop)
             first
             | exact absurd hk.1 (by assumption)
             | exact absurd hk.2.1 (by assumption)
             | exact ⟨by omega, fun h => absurd h (by decide), fun _ => hk.2.2⟩
             | exact absurd ((by assumption : (!hitO a) = true).symm.trans (by rw [hk.2.2])) (by decide))
          | (have hop := fun h => opD_not (by assumption) (ec.2 h)
             refine ⟨by omega, fun _ => ?_, fun h => absurd (hy2.symm.trans h) (by decide)⟩
             rw [show (y.1 + 1).toNat = y.1.toNat + 1 by omega]
             exact noBit_step (hy.2.1 hy2) hop)))
    | (have hy := (by assumption : (0 ≤ y.1 ∧ _) ∧ _)
       have eI : hitI ⟨a.len, a.cap, a.N - 0, fun q => a.g (q + 0)⟩ = hitI a := rfl
       have eK : hitK ⟨a.len, a.cap, a.N - 0, fun q => a.g (q + 0)⟩ = hitK a := rfl
       have eO : hitO ⟨a.len, a.cap, a.N - 0, fun q => a.g (q + 0)⟩ = hitO a := rfl
       rw [eO] at *
       by_cases hy2 : y.2 = false
       · have h0 : hitI a = 0 ∧ hitK a = 0 ∧ hitO a = false := by
           first
           | exact hit0 (.inr (.inl (by omega)))
           | exact hit0 (.inr (.inr ((by omega : y.1.toNat = 8 * a.len) ▸ hy.2.1 hy2)))
           | exact hit0 (.inl (opD_yes (a := a) (by assumption)))
           | (exfalso; have h9 : (!y.2) = false := by assumption
              rw [hy2] at h9; cases h9)
         simp [eI, eK, h0.1, h0.2.1, h0.2.2, hy2] at *
       · have h1 := hy.2.2 (by simpa using hy2)
         simp [h1, hy2] at *)

theorem own : ownKnob Try.prog.godebug = none := by kernel_rfl

set_option maxRecDepth 100000 in
theorem lifted (os : Os) (started : os.Started) (H : Type) (enc : TypeId × Value → H) :
    ReturnsInHanded {} Try.checked os 8 .any (Rows.fcsFirstSpec.pre6 enc Try.prog Try.f8 Rows.fcsFirstRow.domain false) (Rows.fcsFirstSpec.post enc Try.prog Try.f8 false true false false) := by
  refine returnsInHanded_of_change (C := Try.checked) own started (by kernel_rfl) Try.func8
    (ChangeSpec.witness6 (enc := enc) (C := Try.checked) false ⟨#[], #[.slice none 0 0], []⟩ 8 (by kernel_rfl) (by kernel_rfl) (by kernel_rfl) (by kernel_rfl)) ?_
  intro W base args ds gs before hval0 hW hcnd _
  have hval : ∀ (j : Nat) t v, Try.f8.params[j]? = some t → args[j]? = some v → Value.okWide Try.prog W .any base t v := hval0
  have hW' := hW
  obtain ⟨p, q, hA0, hV, rfl, hfz, hnd⟩ := hW
  have hA : DataW.TrodAll enc Try.prog W 0 (fun _ => true) true Try.f8.params.toList args.toList ds p := hA0
  rw [Try.params8] at hA hval
  obtain ⟨v0, vs0, d0, ds0, p0, q0, hargs0, rfl, rfl, h0, r0⟩ := trodAll_cons hA
  obtain ⟨rfl, rfl, rfl⟩ := trodAll_nil r0
  obtain ⟨rfl, rfl⟩ := trodVars_none hV
  obtain rfl : args = #[v0] := by cases args; simp_all
  obtain ⟨A0, n0, c0, s0⟩ := slice_open (d := 6) (row := [some .u8]) Try.underlying28 (by kernel_rfl) (by kernel_rfl) (hval 0 28 v0 rfl rfl) h0
  refine Calls.mono (law_calls mixed Try.func8 (runs ⟨n0, c0, n0, fun r => intC W A0 (r * 1 + 0)⟩ (bw_of s0)) (rel_one s0.reg) (Nat.le_refl 1) (by rw [s0.val]; exact congrArg (fun x => #[x]) (den_slc (e := fun _ => A0) (i := 0) (st := 1) rfl).symm)) fun e W' ⟨he, hb⟩ => ?_
  subst he
  exact ⟨_, rfl, law_post hW' rfl rfl (by kernel_rfl) (by decide +kernel) rfl Try.underlying4 hb⟩

theorem over : Rows.fcsFirstRow.holds Try.pinned (OpenSpec.ofChange Rows.fcsFirstSpec) :=
  OpenClaim.holds_of_wide 8 Try.f8 rfl rfl rfl rfl rfl rfl rfl ⟨rfl, rfl, rfl, rfl, rfl⟩ rfl rfl rfl rfl rfl (by kernel_rfl) Try.func8 (by kernel_rfl)
    (of_decide_eq_true (by kernel_rfl)) (by unfold Func.isWrapper; first | (rw [if_pos (by decide +kernel)]; kernel_rfl) | (rw [if_neg (by decide +kernel)]; exact ⟨rfl, rfl⟩))
    (fun os started H enc _ => lifted os started H enc)

/-- FcsFirst -/
theorem proved : Rows.FcsFirstSaid := over
#print axioms proved
end Go.Proofs.Ytiaadplhpkggeaa.fcsFirst
