/-
  For every slice of bytes, every place and every 32 bits the law FcsBursts answers true and leaves all memory as it was.
-/
import Derived.Test.YtiaadplhpkggeaaSx
import Derived.Test.YtiaadplhpkggeaaFcsNum
import Derived.Test.YtiaadplhpkggeaaFcsBits
import Derived.Test.YtiaadplhpkggeaaFcsA
import Derived.Test.YtiaadplhpkggeaaFcsB
import Derived.Test.YtiaadplhpkggeaaFcsC
import Derived.Test.YtiaadplhpkggeaaFcsIn
import Derived.Test.YtiaadplhpkggeaaFcsJ
import Derived.Test.YtiaadplhpkggeaaRows
import Derived.WalkKit
import Derived.ProofKit
import Derived.OpenShut
namespace Go.Proofs.Ytiaadplhpkggeaa.fcsBursts
open Go.ChangeShapes Go.WideShapes Go.ChangeAt Go.RowKit Go.Sx
set_option linter.unusedVariables false
set_option linter.unusedSimpArgs false
set_option maxRecDepth 100000

attribute [local irreducible] enter anyAlt Bw
abbrev laX (a : IS) (at_ b : Int) : LA where
  ι := Int × Nat × (Nat → Int) × Nat × (Nat → Int)
  inv := fun y => (0 ≤ y.1 ∧ y.1 ≤ 32 ∧ at_ + y.1 ≤ 8 * a.len + 32) ∧ CB (a.len + 4) (clG a.g a.len) ⟨y.2.1, y.2.2.1⟩ ∧ a.len + 4 ≤ y.2.2.2.1 ∧ y.2.2.2.1 ≤ 9223372036854775807 ∧ Off (clG a.g a.len) y.2.2.2.2 (a.len + 4) (2 ^ at_.toNat * (b.toNat % 2 ^ y.1.toNat))
  T := fun y => ⟨74, [(1, int_ .i64 at_), (2, int_ .u32 b), (7, .one (.a (.slc 1 1 0 (a.len + 4) y.2.1))), (8, .one (.a (.slc 2 1 0 (a.len + 4) y.2.2.2.1))), (9, int_ .i64 y.1)], [roB a, some ⟨true, .tab y.2.1 [.int .u8 y.2.2.1]⟩, some ⟨true, .tab y.2.2.2.1 [.int .u8 y.2.2.2.2]⟩]⟩
  μ := fun y => (32 - y.1).toNat
  ren := fun S => [0, S.ix 7, S.ix 8]
noncomputable def cxL (a : IS) (at_ b : Int) : Cx Try.prog := { ps := [headS, sameS], es := [copyS, closeS, openS], is := [], n0 := 1, loops := fun i => match i with | 10 => some (.inv (laX a at_ b)) | _ => none, cuts := fun _ => none }
set_option maxHeartbeats 16000000 in
theorem runs (a : IS) (at_ b : Int) (hw : Bw a) (hat : -9223372036854775808 ≤ at_ ∧ at_ ≤ 9223372036854775807) (hbb : 0 ≤ b ∧ b < 4294967296) : Runs (cxL a at_ b) Try.f6 [D1 0 a, int_ .i64 at_, int_ .u32 b] [roB a] yes := by
  obtain ⟨hb, hc, hN, hm⟩ := hw.out
  have hs := hw.self
  have hcl := clG_wf hb
  repeat' (first | exact trivial | with_reducible exact rfl | exact Nat.le_refl _ | with_reducible exact (fun _ _ => rfl) | ((conv => whnf); first | (refine fun (x : CG) => ?_) | (refine fun (y : Int × Nat × (Nat → Int) × Nat × (Nat → Int)) => ?_) | (refine fun _ => ?_) | refine ⟨?_, ?_⟩ | exact trivial | exact lex_q (by kernel_rfl) | exact lex_t (by kernel_rfl) | exact lex_h (by kernel_rfl) | fail))
  any_goals (refine enter_mk (la := laX a at_ b) (_, _, _, _, _) ?_ (by (repeat' (first | ((conv => whnf); first | refine ⟨?_, ?_⟩ | exact trivial | fail) | ((try dsimp only); first | with_reducible exact rfl | exact Nat.le_refl _ | with_reducible exact (fun _ _ => rfl)))); all_goals ((try dsimp only [laX] at *); (try simp (disch := omega) only [w64', wu64', tdiv_pos, tmod_pos, Int.toNat_natCast, Nat.zero_add] at *); (try omega))))
  all_goals (try dsimp only [cutR, cutL, id, laX] at *)
  all_goals (try simp (disch := omega) only [fdiv_nn, Int.reduceToNat, IntKind.bits, Nat.min_def, Nat.reduceLeDiff, if_true, if_false, Int.reducePow, wu8, wu32, w64', wu64', tdiv_pos, tmod_pos, Int.toNat_natCast, Nat.zero_add] at *)
  all_goals (try omega)
  all_goals (try exact absurd (by assumption : (!true) = true) (by decide))
  all_goals (try exact absurd (by assumption : (!true) = false) (by decide))
  all_goals
    have hcb : Bytes (clG a.g a.len) (a.len + 4) := fun r _ => hcl r
    have hop : opB (clG a.g a.len) (a.len + 4) := ⟨by omega, by rw [show a.len + 4 - 4 = a.len by omega, clG_crc, clG_le hb]⟩
    have h1 := (by assumption : CB (a.len + 4) (clG (fun q => a.g (q + 0)) a.len) _)
    have w1 := h1.bw fun r _ => hcl r
    first
    | exact w1
    | (have h0 := (by assumption : CB (a.len + 4) (fun q => CG.g _ (q + 0)) _)
       refine ⟨by omega, h1, h0.1, h0.2.1, ?_⟩
       rw [Nat.pow_zero, Nat.mod_one, Nat.mul_zero]
       exact (Off.refl hcb).congr fun r hr => (h0.2.2 r hr).trans (h1.2.2 r hr))
    | (have hy := (by assumption : (0 ≤ y.1 ∧ _) ∧ _)
       obtain ⟨y0, y1, y2, y3, y4⟩ := hy
       have wd : Bw ⟨a.len + 4, y.2.2.2.1, y.2.2.2.1 - 0, fun q => y.2.2.2.2 (q + 0)⟩ := Bw.mk (y4.bytes hcb) y2 y2 y3
       have wc : Bw ⟨a.len + 4, y.2.1, y.2.1 - 0, fun q => y.2.2.1 (q + 0)⟩ := y1.bw hcb
       first
       | exact wd
       | exact wc
       | (have ht := fun h => (by assumption : ¬ bits .and .u32 _ 1 = 1) ((bit_test (i := y.1) hbb (by omega)).2 h)
          refine ⟨by omega, y1, y2, y3, ?_⟩
          rw [show (y.1 + 1).toNat = y.1.toNat + 1 by omega]
          exact off_skip y4 ht)
       | (have be := burst_end (C := ⟨a.len + 4, y.2.1, y.2.1 - 0, fun q => y.2.2.1 (q + 0)⟩) (D := ⟨a.len + 4, y.2.2.2.1, y.2.2.2.1 - 0, fun q => y.2.2.2.2 (q + 0)⟩) hcb (by omega) hop rfl rfl y1.2.2 y4 (by omega) (by omega) (by omega)
          first
          | (rw [be.1 (by assumption : opB _ _ ∧ _).1]; rfl)
          | (rw [be.2 (by assumption)]; rfl))
       | (have ht := (bit_test (i := y.1) hbb (by omega)).1 (by assumption)
          refine ⟨by omega, y1, y2, y3, ?_⟩
          rw [show (y.1 + 1).toNat = y.1.toNat + 1 by omega]
          refine off_step hcb y4 (fun r hr => ?_) ht
          rw [show at_.toNat + y.1.toNat = (at_ + y.1).toNat by omega]
          exact turned (y4.bytes hcb) (by omega) (by omega) r))

theorem own : ownKnob Try.prog.godebug = none := by kernel_rfl

set_option maxRecDepth 100000 in
theorem lifted (os : Os) (started : os.Started) (H : Type) (enc : TypeId × Value → H) :
    ReturnsInHanded {} Try.checked os 6 .any (Rows.fcsBurstsSpec.pre6 enc Try.prog Try.f6 Rows.fcsBurstsRow.domain false) (Rows.fcsBurstsSpec.post enc Try.prog Try.f6 false true false false) := by
  refine returnsInHanded_of_change (C := Try.checked) own started (by kernel_rfl) Try.func6
    (ChangeSpec.witness6 (enc := enc) (C := Try.checked) false ⟨#[], #[.slice none 0 0, .int .i64 0, .int .u32 0], []⟩ 8 (by kernel_rfl) (by kernel_rfl) (by kernel_rfl) (by kernel_rfl)) ?_
  intro W base args ds gs before hval0 hW hcnd _
  have hval : ∀ (j : Nat) t v, Try.f6.params[j]? = some t → args[j]? = some v → Value.okWide Try.prog W .any base t v := hval0
  have hW' := hW
  obtain ⟨p, q, hA0, hV, rfl, hfz, hnd⟩ := hW
  have hA : DataW.TrodAll enc Try.prog W 0 (fun _ => true) true Try.f6.params.toList args.toList ds p := hA0
  rw [Try.params6] at hA hval
  obtain ⟨v0, vs0, d0, ds0, p0, q0, hargs0, rfl, rfl, h0, r0⟩ := trodAll_cons hA
  obtain ⟨v1, vs1, d1, ds1, p1, q1, hargs1, rfl, rfl, h1, r1⟩ := trodAll_cons r0
  obtain ⟨v2, vs2, d2, ds2, p2, q2, hargs2, rfl, rfl, h2, r2⟩ := trodAll_cons r1
  obtain ⟨rfl, rfl, rfl⟩ := trodAll_nil r2
  obtain ⟨rfl, rfl⟩ := trodVars_none hV
  obtain rfl : args = #[v0, v1, v2] := by cases args; simp_all
  obtain ⟨A0, n0, c0, s0⟩ := slice_open (d := 6) (row := [some .u8]) Try.underlying28 (by kernel_rfl) (by kernel_rfl) (hval 0 28 v0 rfl rfl) h0
  obtain ⟨a1, rfl, rfl, rfl, w1⟩ := open_int Try.underlying3 (hval 1 3 v1 rfl rfl) h1
  obtain ⟨a2, rfl, rfl, rfl, w2⟩ := open_int Try.underlying31 (hval 2 31 v2 rfl rfl) h2
  refine Calls.mono (law_calls mixed Try.func6 (runs ⟨n0, c0, n0, fun r => intC W A0 (r * 1 + 0)⟩ a1 a2 (bw_of s0) (i64_of w1) (u32_of w2)) (rel_one s0.reg) (Nat.le_refl 1) (by rw [s0.val]; exact congrArg (fun x => #[x, _, _]) (den_slc (e := fun _ => A0) (i := 0) (st := 1) rfl).symm)) fun e W' ⟨he, hb⟩ => ?_
  subst he
  exact ⟨_, rfl, law_post hW' rfl rfl (by kernel_rfl) (by decide +kernel) rfl Try.underlying4 hb⟩

theorem over : Rows.fcsBurstsRow.holds Try.pinned (OpenSpec.ofChange Rows.fcsBurstsSpec) :=
  OpenClaim.holds_of_wide 6 Try.f6 rfl rfl rfl rfl rfl rfl rfl ⟨rfl, rfl, rfl, rfl, rfl⟩ rfl rfl rfl rfl rfl (by kernel_rfl) Try.func6 (by kernel_rfl)
    (of_decide_eq_true (by kernel_rfl)) (by unfold Func.isWrapper; first | (rw [if_pos (by decide +kernel)]; kernel_rfl) | (rw [if_neg (by decide +kernel)]; exact ⟨rfl, rfl⟩))
    (fun os started H enc _ => lifted os started H enc)

/-- FcsBursts -/
theorem proved : Rows.FcsBurstsSaid := over
#print axioms proved
end Go.Proofs.Ytiaadplhpkggeaa.fcsBursts
