/-
  For every list of gates and all numbers the law GatesShift answers true and leaves all memory as it was.
-/
import Derived.Test.YtkehcpafbkmapaaSx
import Derived.Test.YtkehcpafbkmapaaGatesNum
import Derived.Test.YtkehcpafbkmapaaGatesA
import Derived.Test.YtkehcpafbkmapaaGatesB
import Derived.Test.YtkehcpafbkmapaaGatesH
import Derived.Test.YtkehcpafbkmapaaGatesC
import Derived.Test.YtkehcpafbkmapaaRows
import Derived.WalkKit
import Derived.ProofKit
import Derived.OpenShut
namespace Go.Proofs.Ytkehcpafbkmapaa.gatesShift
open Go.ChangeShapes Go.WideShapes Go.ChangeAt Go.RowKit Go.Sx
set_option linter.unusedVariables false
set_option linter.unusedSimpArgs false
set_option maxRecDepth 100000

attribute [local irreducible] enter anyAlt Gw
noncomputable def cxL : Cx Try.prog := { ps := [hStS, hLfS, hNxS, chkS, stateS, leftS, nextS], es := [], is := [], n0 := 1, loops := fun _ => none, cuts := fun _ => none }
set_option maxHeartbeats 16000000 in
theorem runs (l : GL) (d a k : Int) (hw : Gw l) (hd : I64 d) (ha : I64 a) (hk : I64 k) : Runs cxL Try.f9 [G1 0 l, int_ .i64 d, int_ .i64 a, int_ .i64 k] [roG l] yes := by
  have hs := hw.self
  have e1 := and24 d
  have e2 := and24 a
  have e3 := and3 k
  unfold I64 at hd ha hk
  repeat' (first | exact trivial | with_reducible exact rfl | exact Nat.le_refl _ | with_reducible exact (fun _ _ => rfl) | ((conv => whnf); first | (refine fun _ => ?_) | refine ⟨?_, ?_⟩ | exact trivial | exact lex_q (by kernel_rfl) | exact lex_t (by kernel_rfl) | exact lex_h (by kernel_rfl) | fail))
  all_goals (try dsimp only at *)
  all_goals (try simp only [gl_self, e1, e2, e3] at *)
  all_goals (try simp (disch := omega) only [fdiv_nn, Int.reduceToNat, IntKind.bits, Nat.min_def, Nat.reduceLeDiff, if_true, if_false, Int.reducePow, wu8, wu32, w64', wu64', tdiv_pos, tmod_pos, Int.toNat_natCast, Nat.zero_add] at *)
  all_goals (try omega)
  all_goals (try exact absurd (by assumption : (!true) = true) (by decide))
  all_goals
    have h1 := Decidable.not_not.1 (by assumption : ¬ ¬ chk l = 0)
    have ok := chk_ok h1
    have b1 := ok.b1
    have b2 := ok.b2
    have d0 : 0 ≤ d % 16777216 ∧ d % 16777216 < 16777216 := by omega
    have a0 : 0 ≤ a % 16777216 ∧ a % 16777216 < 16777216 := by omega
    have hwb : IntKind.i64.wrap (l.base + d % 16777216) = l.base + d % 16777216 := w64' (by omega) (by omega)
    have em : (⟨l.base + d % 16777216, l.cyc, l.len, l.cap, l.N - 0, fun q => l.op (q + 0), fun q => l.ln (q + 0)⟩ : GL) = mv l (l.base + d % 16777216) := rfl
    obtain ⟨g1, g2, g3, g4, g5, g6⟩ := hw.out
    have hm : Gw (mv l (l.base + d % 16777216)) := Gw.mk ⟨by unfold I64; show _ ≤ l.base + _ ∧ l.base + _ ≤ _; omega, g2, g3, g4, g5, g6⟩
    simp only [hwb, em] at *
    first
    | exact hm
    | (have h2 := Decidable.not_not.1 (by assumption : ¬ ¬ chk (mv l (l.base + d % 16777216)) = 0)
       obtain ⟨f1, f2, f3, f4⟩ := shift_facts (a := a % 16777216) (k := k % 8) h1 h2 (by unfold inR; omega) (by unfold inR; omega)
       first
       | exact absurd f1 (by assumption)
       | exact absurd f2 (by assumption)
       | exact absurd f3 (by assumption)
       | (rw [f4]; simp; done))

theorem own : ownKnob Try.prog.godebug = none := by kernel_rfl

set_option maxRecDepth 100000 in
theorem lifted (os : Os) (started : os.Started) (H : Type) (enc : TypeId × Value → H) :
    ReturnsInHanded {} Try.checked os 9 .any (Rows.gatesShiftSpec.pre6 enc Try.prog Try.f9 Rows.gatesShiftRow.domain false) (Rows.gatesShiftSpec.post enc Try.prog Try.f9 false true false false) := by
  refine returnsInHanded_of_change (C := Try.checked) own started (by kernel_rfl) Try.func9
    (ChangeSpec.witness6 (enc := enc) (C := Try.checked) false ⟨#[], #[.agg #[.int .i64 0, .int .i64 0, .slice none 0 0], .int .i64 0, .int .i64 0, .int .i64 0], []⟩ 8 (by kernel_rfl) (by kernel_rfl) (by kernel_rfl) (by kernel_rfl)) ?_
  intro W base args ds gs before hval0 hW hcnd _
  have hval : ∀ (j : Nat) t v, Try.f9.params[j]? = some t → args[j]? = some v → Value.okWide Try.prog W .any base t v := hval0
  have hW' := hW
  obtain ⟨p, q, hA0, hV, rfl, hfz, hnd⟩ := hW
  have hA : DataW.TrodAll enc Try.prog W 0 (fun _ => true) true Try.f9.params.toList args.toList ds p := hA0
  rw [Try.params9] at hA hval
  obtain ⟨v0, vs0, d0, ds0, p0, q0, hargs0, rfl, rfl, h0, r0⟩ := trodAll_cons hA
  obtain ⟨v1, vs1, d1, ds1, p1, q1, hargs1, rfl, rfl, h1, r1⟩ := trodAll_cons r0
  obtain ⟨v2, vs2, d2, ds2, p2, q2, hargs2, rfl, rfl, h2, r2⟩ := trodAll_cons r1
  obtain ⟨v3, vs3, d3, ds3, p3, q3, hargs3, rfl, rfl, h3, r3⟩ := trodAll_cons r2
  obtain ⟨rfl, rfl, rfl⟩ := trodAll_nil r3
  obtain ⟨rfl, rfl⟩ := trodVars_none hV
  obtain rfl : args = #[v0, v1, v2, v3] := by cases args; simp_all
  obtain ⟨a1, rfl, rfl, rfl, w1⟩ := open_int Try.underlying3 (hval 1 3 v1 rfl rfl) h1
  obtain ⟨a2, rfl, rfl, rfl, w2⟩ := open_int Try.underlying3 (hval 2 3 v2 rfl rfl) h2
  obtain ⟨a3, rfl, rfl, rfl, w3⟩ := open_int Try.underlying3 (hval 3 3 v3 rfl rfl) h3
  obtain ⟨cs0, hv0, hl0, hc0⟩ := mix_agg (d := 6) (ss := [.num (some .i64), .num (some .i64), .sl [some .i64, some .i64]]) Try.underlying24 (by kernel_rfl) (by kernel_rfl) (hval 0 24 v0 rfl rfl) h0
  have g0_0 := listMix_of hl0 hc0
  clear hl0 hc0
  obtain ⟨_, cs0_1, rfl, ⟨b0_0, rfl, w0_0⟩, g0_1⟩ := listMix_cons g0_0
  obtain ⟨_, cs0_2, rfl, ⟨b0_1, rfl, w0_1⟩, g0_2⟩ := listMix_cons g0_1
  obtain ⟨u0_2, cs0_3, rfl, ⟨A0_2, n0_2, c0_2, s0_2⟩, g0_3⟩ := listMix_cons g0_2
  obtain rfl := listMix_nil g0_3
  subst hv0
  refine Calls.mono (law_calls mixed Try.func9 (runs ⟨b0_0, b0_1, n0_2, c0_2, n0_2, fun r => intC W A0_2 (r * 2 + 0), fun r => intC W A0_2 (r * 2 + 1)⟩ a1 a2 a3 (gw_of w0_0 w0_1 s0_2) (i64_of w1) (i64_of w2) (i64_of w3)) (e := envOf [A0_2]) (rel_in1 s0_2.reg) (Nat.le_refl 1) (by rw [s0_2.val]; exact congrArg (fun x => #[x, _, _, _]) den_gl.symm)) fun e W' ⟨he, hb⟩ => ?_
  subst he
  exact ⟨_, rfl, law_post hW' rfl rfl (by kernel_rfl) (by decide +kernel) rfl Try.underlying4 hb⟩

theorem over : Rows.gatesShiftRow.holds Try.pinned (OpenSpec.ofChange Rows.gatesShiftSpec) :=
  OpenClaim.holds_of_wide 9 Try.f9 rfl rfl rfl rfl rfl rfl rfl ⟨rfl, rfl, rfl, rfl, rfl⟩ rfl rfl rfl rfl rfl (by kernel_rfl) Try.func9 (by kernel_rfl)
    (of_decide_eq_true (by kernel_rfl)) (by unfold Func.isWrapper; first | (rw [if_pos (by decide +kernel)]; kernel_rfl) | (rw [if_neg (by decide +kernel)]; exact ⟨rfl, rfl⟩))
    (fun os started H enc _ => lifted os started H enc)

/-- GatesShift -/
theorem proved : Rows.GatesShiftSaid := over
#print axioms proved
end Go.Proofs.Ytkehcpafbkmapaa.gatesShift
