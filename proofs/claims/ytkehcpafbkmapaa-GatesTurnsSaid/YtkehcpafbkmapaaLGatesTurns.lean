/-
  For every list of gates and every time the law GatesTurns answers true and leaves all memory as it was.
-/
import Derived.Test.YtkehcpafbkmapaaSx
import Derived.Test.YtkehcpafbkmapaaGatesNum
import Derived.Test.YtkehcpafbkmapaaGatesA
import Derived.Test.YtkehcpafbkmapaaGatesB
import Derived.Test.YtkehcpafbkmapaaGatesH
import Derived.Test.YtkehcpafbkmapaaRows
import Derived.WalkKit
import Derived.ProofKit
import Derived.OpenShut
namespace Go.Proofs.Ytkehcpafbkmapaa.gatesTurns
open Go.ChangeShapes Go.WideShapes Go.ChangeAt Go.RowKit Go.Sx
set_option linter.unusedVariables false
set_option linter.unusedSimpArgs false
set_option maxRecDepth 100000

attribute [local irreducible] enter anyAlt Gw
theorem turn_none {l : GL} {a : Int} (h : ¬ (chk l = 0 ∧ inR a)) : turnV l a = 0 ∧ turnB l a = false := by
  unfold turnV turnB
  rw [if_neg h, decide_eq_false h]; exact ⟨rfl, rfl⟩
theorem turn_facts {l : GL} {a : Int} (h : chk l = 0 ∧ inR a) : turnB l a = true ∧ a ≤ turnV l a ∧ turnV l a - a < l.cyc ∧ Int.tmod (turnV l a - l.base) l.cyc = 0 ∧ (inR (turnV l a) → stateV l (turnV l a) = stateV l l.base) := by
  have ok := chk_ok h.1
  have c1 := ok.c1
  have p0 := Int.emod_nonneg (a - l.base) (show l.cyc ≠ 0 by omega)
  have p1 := Int.emod_lt_of_pos (a - l.base) (show 0 < l.cyc by omega)
  have em := Int.mul_ediv_add_emod (a - l.base) l.cyc
  have e : ∃ q, turnV l a - l.base = l.cyc * q := by
    unfold turnV phV
    rw [if_pos h]
    by_cases h0 : (a - l.base) % l.cyc = 0
    · rw [if_pos h0]; exact ⟨(a - l.base) / l.cyc, by omega⟩
    · rw [if_neg h0]; exact ⟨(a - l.base) / l.cyc + 1, by rw [Int.mul_add]; omega⟩
  obtain ⟨q, hq⟩ := e
  refine ⟨decide_eq_true h, ?_, ?_, ?_, fun hn => ?_⟩
  · unfold turnV phV
    rw [if_pos h]
    split <;> omega
  · unfold turnV phV
    rw [if_pos h]
    split <;> omega
  · rw [hq]; exact Int.mul_tmod_right _ _
  · have b1 := ok.b1
    have b2 := ok.b2
    have hb : inR l.base := by unfold inR; omega
    unfold stateV
    rw [if_pos ⟨h.1, hn⟩, if_pos ⟨h.1, hb⟩]
    unfold phV
    rw [hq, Int.mul_emod_right, Int.sub_self, Int.zero_emod]
noncomputable def cxL : Cx Try.prog := { ps := [hTuS, hStS, turnS, chkS, insS, stateS], es := [], is := [], n0 := 1, loops := fun _ => none, cuts := fun _ => none }
set_option maxHeartbeats 16000000 in
theorem runs (l : GL) (a : Int) (hw : Gw l) (ha : I64 a) : Runs cxL Try.f4 [G1 0 l, int_ .i64 a] [roG l] yes := by
  have hs := hw.self
  unfold I64 at ha
  repeat' (first | exact trivial | with_reducible exact rfl | exact Nat.le_refl _ | with_reducible exact (fun _ _ => rfl) | ((conv => whnf); first | (refine fun _ => ?_) | refine ⟨?_, ?_⟩ | exact trivial | exact lex_q (by kernel_rfl) | exact lex_t (by kernel_rfl) | exact lex_h (by kernel_rfl) | fail))
  all_goals (try dsimp only at *)
  all_goals (try simp only [gl_self] at *)
  all_goals (try simp (disch := omega) only [fdiv_nn, Int.reduceToNat, IntKind.bits, Nat.min_def, Nat.reduceLeDiff, if_true, if_false, Int.reducePow, wu8, wu32, w64', wu64', tdiv_pos, tmod_pos, Int.toNat_natCast, Nat.zero_add] at *)
  all_goals (try omega)
  all_goals (try exact absurd (by assumption : (!true) = true) (by decide))
  all_goals
    by_cases h : chk l = 0 ∧ inR a
    · obtain ⟨f1, f2, f3, f4, f5⟩ := turn_facts h
      have ok := chk_ok h.1
      have c1 := ok.c1
      have c2 := ok.c2
      have b1 := ok.b1
      have b2 := ok.b2
      have hr := h.2
      unfold inR at hr
      first
      | omega
      | exact absurd (f1.symm.trans (by assumption : turnB l a = false)) (by decide)
      | (rw [w64' (n := turnV l a - l.base) (by omega) (by omega)] at *; exact absurd f4 (by assumption))
      | (rw [w64' (n := turnV l a - a) (by omega) (by omega)] at *; omega)
      | (have hi := (by assumption : (!decide (inR a)) = true)
         rw [decide_eq_true h.2] at hi; cases hi)
      | (symm; apply decide_eq_true
         refine f5 ?_
         have hi := (by assumption : (!decide (inR (turnV l a))) = false)
         by_cases h9 : inR (turnV l a)
         · exact h9
         · rw [decide_eq_false h9] at hi; cases hi)
    · obtain ⟨f1, f2⟩ := turn_none h
      first
      | (rw [f2]; rfl)
      | exact absurd f1 (by assumption)
      | exact absurd (f2.symm.trans (by assumption : turnB l a = true)) (by decide)
      | (exfalso
         refine h ⟨by omega, ?_⟩
         have hi := (by assumption : (!decide (inR a)) = false)
         by_cases h9 : inR a
         · exact h9
         · rw [decide_eq_false h9] at hi; cases hi)

theorem own : ownKnob Try.prog.godebug = none := by kernel_rfl

set_option maxRecDepth 100000 in
theorem lifted (os : Os) (started : os.Started) (H : Type) (enc : TypeId × Value → H) :
    ReturnsInHanded {} Try.checked os 4 .any (Rows.gatesTurnsSpec.pre6 enc Try.prog Try.f4 Rows.gatesTurnsRow.domain false) (Rows.gatesTurnsSpec.post enc Try.prog Try.f4 false true false false) := by
  refine returnsInHanded_of_change (C := Try.checked) own started (by kernel_rfl) Try.func4
    (ChangeSpec.witness6 (enc := enc) (C := Try.checked) false ⟨#[], #[.agg #[.int .i64 0, .int .i64 0, .slice none 0 0], .int .i64 0], []⟩ 8 (by kernel_rfl) (by kernel_rfl) (by kernel_rfl) (by kernel_rfl)) ?_
  intro W base args ds gs before hval0 hW hcnd _
  have hval : ∀ (j : Nat) t v, Try.f4.params[j]? = some t → args[j]? = some v → Value.okWide Try.prog W .any base t v := hval0
  have hW' := hW
  obtain ⟨p, q, hA0, hV, rfl, hfz, hnd⟩ := hW
  have hA : DataW.TrodAll enc Try.prog W 0 (fun _ => true) true Try.f4.params.toList args.toList ds p := hA0
  rw [Try.params4] at hA hval
  obtain ⟨v0, vs0, d0, ds0, p0, q0, hargs0, rfl, rfl, h0, r0⟩ := trodAll_cons hA
  obtain ⟨v1, vs1, d1, ds1, p1, q1, hargs1, rfl, rfl, h1, r1⟩ := trodAll_cons r0
  obtain ⟨rfl, rfl, rfl⟩ := trodAll_nil r1
  obtain ⟨rfl, rfl⟩ := trodVars_none hV
  obtain rfl : args = #[v0, v1] := by cases args; simp_all
  obtain ⟨a1, rfl, rfl, rfl, w1⟩ := open_int Try.underlying3 (hval 1 3 v1 rfl rfl) h1
  obtain ⟨cs0, hv0, hl0, hc0⟩ := mix_agg (d := 6) (ss := [.num (some .i64), .num (some .i64), .sl [some .i64, some .i64]]) Try.underlying24 (by kernel_rfl) (by kernel_rfl) (hval 0 24 v0 rfl rfl) h0
  have g0_0 := listMix_of hl0 hc0
  clear hl0 hc0
  obtain ⟨_, cs0_1, rfl, ⟨b0_0, rfl, w0_0⟩, g0_1⟩ := listMix_cons g0_0
  obtain ⟨_, cs0_2, rfl, ⟨b0_1, rfl, w0_1⟩, g0_2⟩ := listMix_cons g0_1
  obtain ⟨u0_2, cs0_3, rfl, ⟨A0_2, n0_2, c0_2, s0_2⟩, g0_3⟩ := listMix_cons g0_2
  obtain rfl := listMix_nil g0_3
  subst hv0
  refine Calls.mono (law_calls mixed Try.func4 (runs ⟨b0_0, b0_1, n0_2, c0_2, n0_2, fun r => intC W A0_2 (r * 2 + 0), fun r => intC W A0_2 (r * 2 + 1)⟩ a1 (gw_of w0_0 w0_1 s0_2) (i64_of w1)) (e := envOf [A0_2]) (rel_in1 s0_2.reg) (Nat.le_refl 1) (by rw [s0_2.val]; exact congrArg (fun x => #[x, _]) den_gl.symm)) fun e W' ⟨he, hb⟩ => ?_
  subst he
  exact ⟨_, rfl, law_post hW' rfl rfl (by kernel_rfl) (by decide +kernel) rfl Try.underlying4 hb⟩

theorem over : Rows.gatesTurnsRow.holds Try.pinned (OpenSpec.ofChange Rows.gatesTurnsSpec) :=
  OpenClaim.holds_of_wide 4 Try.f4 rfl rfl rfl rfl rfl rfl rfl ⟨rfl, rfl, rfl, rfl, rfl⟩ rfl rfl rfl rfl rfl (by kernel_rfl) Try.func4 (by kernel_rfl)
    (of_decide_eq_true (by kernel_rfl)) (by unfold Func.isWrapper; first | (rw [if_pos (by decide +kernel)]; kernel_rfl) | (rw [if_neg (by decide +kernel)]; exact ⟨rfl, rfl⟩))
    (fun os started H enc _ => lifted os started H enc)

/-- GatesTurns -/
theorem proved : Rows.GatesTurnsSaid := over
#print axioms proved
end Go.Proofs.Ytkehcpafbkmapaa.gatesTurns
