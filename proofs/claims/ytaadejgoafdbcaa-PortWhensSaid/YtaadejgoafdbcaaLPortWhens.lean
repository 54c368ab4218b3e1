/-
  For every list of gates and all items the law PortWhens answers true and leaves all memory as it was.
-/
import Derived.Test.YtaadejgoafdbcaaSx
import Derived.Test.YtaadejgoafdbcaaPortV
import Derived.Test.YtaadejgoafdbcaaRows
import Derived.WalkKit
import Derived.ProofKit
import Derived.OpenShut
namespace Go.Proofs.Ytaadejgoafdbcaa.portWhens
open Go.ChangeShapes Go.WideShapes Go.ChangeAt Go.RowKit Go.Sx
set_option linter.unusedVariables false
set_option linter.unusedSimpArgs false
set_option maxRecDepth 100000

theorem den_ps {b c : Int} {A B : Option Addr} {n cap m k : Nat} : #[Value.agg #[.int .i64 b, .int .i64 c, .slice A n cap], .slice B m k] = ([SV.one (.agg [i_ b, i_ c, .slc 0 2 0 n cap]), .one (.a (.slc 1 9 0 m k))].map (SV.den (envOf [A, B]))).toArray := by
  show _ = #[Value.agg ([_, _, SA.den (envOf [A, B]) (.slc 0 2 0 n cap)].toArray), SA.den (envOf [A, B]) (.slc 1 9 0 m k)]
  rw [den_slc (A := A) rfl, den_slc (A := B) rfl]; rfl

theorem own : ownKnob Try.prog.godebug = none := by kernel_rfl

set_option maxRecDepth 100000 in
theorem lifted (os : Os) (started : os.Started) (H : Type) (enc : TypeId × Value → H) :
    ReturnsInHanded {} Try.checked os 4 .any (Rows.portWhensSpec.pre6 enc Try.prog Try.f4 Rows.portWhensRow.domain false) (Rows.portWhensSpec.post enc Try.prog Try.f4 false true false false) := by
  refine returnsInHanded_of_change (C := Try.checked) own started (by kernel_rfl) Try.func4
    (ChangeSpec.witness6 (enc := enc) (C := Try.checked) false ⟨#[], #[.agg #[.int .i64 0, .int .i64 0, .slice none 0 0], .slice none 0 0], []⟩ 8 (by kernel_rfl) (by kernel_rfl) (by kernel_rfl) (by kernel_rfl)) ?_
  intro W base args ds gs before hval0 hW hcnd _
  have hval : ∀ (j : Nat) t v, Try.f4.params[j]? = some t → args[j]? = some v → Value.okWide Try.prog W .any base t v := hval0
  have hW' := hW
  obtain ⟨p, q, hA0, hV, rfl, hfz, hnd⟩ := hW
  have hA : DataW.TrodAll enc Try.prog W 0 (fun _ => true) true Try.f4.params.toList args.toList ds p := hA0
  rw [Try.params4] at hA hval
  obtain ⟨v0, vs0, d0, ds0, p0, q0, hargs0, rfl, rfl, h0, r0⟩ := trodAll_cons hA
  obtain ⟨v1, vs1, d1, ds1, p1, q1, hargs1, rfl, rfl, h1, r1⟩ := trodAll_cons r0
  obtain ⟨rfl, rfl, rfl⟩ := trodAll_nil r1
  obtain ⟨rfl, rfl⟩ := trodVars_none hV
  obtain rfl : args = #[v0, v1] := by cases args; simp_all
  obtain ⟨A1, n1, c1, s1⟩ := sliceM_open (d := 6) (ss := [.num (some .i64), .num (some .i64), .num (some .i64), .num (some .i64), .num none, .num (some .i64), .num (some .i64), .num (some .i64), .sl [some .i64, some .i64]]) Try.underlying25 (by kernel_rfl) (by kernel_rfl) (hval 1 25 v1 rfl rfl) h1
  obtain ⟨cs0, hv0, hl0, hc0⟩ := mix_agg (d := 6) (ss := [.num (some .i64), .num (some .i64), .sl [some .i64, some .i64]]) Try.underlying24 (by kernel_rfl) (by kernel_rfl) (hval 0 24 v0 rfl rfl) h0
  have g0_0 := listMix_of hl0 hc0
  clear hl0 hc0
  obtain ⟨_, cs0_1, rfl, ⟨b0_0, rfl, w0_0⟩, g0_1⟩ := listMix_cons g0_0
  obtain ⟨_, cs0_2, rfl, ⟨b0_1, rfl, w0_1⟩, g0_2⟩ := listMix_cons g0_1
  obtain ⟨u0_2, cs0_3, rfl, ⟨A0_2, n0_2, c0_2, s0_2⟩, g0_3⟩ := listMix_cons g0_2
  obtain rfl := listMix_nil g0_3
  subst hv0
  refine Calls.mono (law_calls mixed Try.func4 (whensRuns ⟨b0_0, b0_1, n0_2, c0_2, n0_2, fun r => intC W A0_2 (r * 2 + 0), fun r => intC W A0_2 (r * 2 + 1)⟩ (gw_of w0_0 w0_1 s0_2) ⟨n1, c1, n1, fun r => intC W A1 (r * 9 + 0), fun r => intC W A1 (r * 9 + 1), fun r => intC W A1 (r * 9 + 2), fun r => intC W A1 (r * 9 + 3), fun r => boolC W A1 (r * 9 + 4), fun r => intC W A1 (r * 9 + 5), fun r => intC W A1 (r * 9 + 6), fun r => intC W A1 (r * 9 + 7), fun r => slA (rawC W A1 (r * 9 + 8)), fun r => slN (rawC W A1 (r * 9 + 8)), fun r => slK (rawC W A1 (r * 9 + 8))⟩ ⟨s1.le, Nat.le_refl _, s1.max⟩) (rel_in2 s0_2.reg s1.reg) (Nat.le_refl 2) (by rw [s0_2.val, s1.val]; exact den_ps)) fun e W' ⟨he, hb⟩ => ?_
  subst he
  exact ⟨_, rfl, law_post hW' rfl rfl (by kernel_rfl) (by decide +kernel) rfl Try.underlying4 hb⟩

theorem over : Rows.portWhensRow.holds Try.pinned (OpenSpec.ofChange Rows.portWhensSpec) :=
  OpenClaim.holds_of_wide 4 Try.f4 rfl rfl rfl rfl rfl rfl rfl ⟨rfl, rfl, rfl, rfl, rfl⟩ rfl rfl rfl rfl rfl (by kernel_rfl) Try.func4 (by kernel_rfl)
    (of_decide_eq_true (by kernel_rfl)) (by unfold Func.isWrapper; first | (rw [if_pos (by decide +kernel)]; kernel_rfl) | (rw [if_neg (by decide +kernel)]; exact ⟨rfl, rfl⟩))
    (fun os started H enc _ => lifted os started H enc)

/-- PortWhens -/
theorem proved : Rows.PortWhensSaid := over
#print axioms proved
end Go.Proofs.Ytaadejgoafdbcaa.portWhens
