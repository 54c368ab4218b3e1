/-
  For all pairs of numbers of 128 bits the law WideAdds answers true and leaves all memory as it was.
-/
import Derived.Test.YtfppdbgbnaibgaaSx
import Derived.Test.YtfppdbgbnaibgaaWideNum
import Derived.Test.YtfppdbgbnaibgaaRefA
import Derived.Test.YtfppdbgbnaibgaaRefB
import Derived.Test.YtfppdbgbnaibgaaWideU
import Derived.Test.YtfppdbgbnaibgaaRows
import Derived.WalkKit
import Derived.ProofKit
import Derived.OpenShut
namespace Go.Proofs.Ytfppdbgbnaibgaa.wideAdds
open Go.ChangeShapes Go.WideShapes Go.ChangeAt Go.RowKit Go.Sx
set_option linter.unusedVariables false
set_option linter.unusedSimpArgs false
set_option maxRecDepth 100000

noncomputable def cxL : Cx Try.prog := { ps := [ofS, addS, subS, cmpS, cmpRefS, sameS], es := [pairRefS, addRefS, subRefS], is := [], n0 := 0, loops := fun _ => none, cuts := fun _ => none, held := fun i => match i with | 17 => some [(0, true), (1, true), (2, true), (3, true), (4, true), (5, true), (6, false), (7, false), (8, true), (9, true)] | _ => none }
theorem add_facts (a b c d : Int) (ha : U64 a) (hb : U64 b) (hc : U64 c) (hd : U64 d) : (addC a b c d = 0 ∧ a * 18446744073709551616 + b + (c * 18446744073709551616 + d) < 340282366920938463463374607431768211456 ∧ addH a b c d * 18446744073709551616 + low64 (b + d + 0) = a * 18446744073709551616 + b + (c * 18446744073709551616 + d)) ∨
    (¬ addC a b c d = 0 ∧ 340282366920938463463374607431768211456 ≤ a * 18446744073709551616 + b + (c * 18446744073709551616 + d)) := by
  unfold U64 addC addH carry low64 at *
  omega
theorem cmp_facts (a b c d : Int) (ha : U64 a) (hb : U64 b) (hc : U64 c) (hd : U64 d) : (a * 18446744073709551616 + b < c * 18446744073709551616 + d ∧ cmpI a b c d = -1) ∨
    (a * 18446744073709551616 + b = c * 18446744073709551616 + d ∧ cmpI a b c d = 0 ∧ low64 (a - c - borrow b d 0) * 18446744073709551616 + low64 (b - d - 0) = a * 18446744073709551616 + b - (c * 18446744073709551616 + d)) ∨
    (c * 18446744073709551616 + d < a * 18446744073709551616 + b ∧ cmpI a b c d = 1 ∧ low64 (a - c - borrow b d 0) * 18446744073709551616 + low64 (b - d - 0) = a * 18446744073709551616 + b - (c * 18446744073709551616 + d)) := by
  unfold U64 cmpI borrow low64 at *
  repeat' split
  all_goals omega
theorem cmpI3_lt (x y : Int) : cmpI3 x y < 0 ↔ x < y := by
  unfold cmpI3; repeat' split
  all_goals omega
set_option maxHeartbeats 16000000 in
theorem runs (a b c d : Int) (ha : U64 a) (hb : U64 b) (hc : U64 c) (hd : U64 d) : Runs cxL Try.f5 [.one (u2 a b), .one (u2 c d)] [] yes := by
  have f1 := add_facts a b c d ha hb hc hd
  have f2 := cmp_facts a b c d ha hb hc hd
  have f3 : 0 ≤ addH a b c d ∧ addH a b c d < 18446744073709551616 ∧ 0 ≤ low64 (b + d + 0) ∧ low64 (b + d + 0) < 18446744073709551616 ∧ 0 ≤ low64 (a - c - borrow b d 0) ∧ low64 (a - c - borrow b d 0) < 18446744073709551616 ∧ 0 ≤ low64 (b - d - 0) ∧ low64 (b - d - 0) < 18446744073709551616 := by
    unfold addH low64; omega
  unfold U64 at *
  repeat' (first | exact trivial | with_reducible exact rfl | exact Nat.le_refl _ | with_reducible exact (fun _ _ => rfl) | ((conv => whnf); first | (refine fun (x : DS) => ?_) | (refine fun (y : DS) => ?_) | (refine fun (z : DS) => ?_) | (refine fun (u : DS) => ?_) | (refine fun _ => ?_) | refine ⟨?_, ?_⟩ | exact trivial | exact lex_q (by kernel_rfl) | exact lex_t (by kernel_rfl) | exact lex_h (by kernel_rfl) | fail))
  any_goals first
    | exact eq24
    | exact (‹DV _ _›).2.1
    | assumption
  all_goals (try simp only [DV] at *)
  any_goals first
    | omega
    | exact (‹_ ∧ Wf _ ∧ _›).2.1
  all_goals rcases f1 with ⟨g1, g2, g3⟩ | ⟨g1, g2⟩
  all_goals rcases f2 with ⟨k1, k2⟩ | ⟨k1, k2, k3⟩ | ⟨k1, k2, k3⟩
  all_goals (try simp only [g1, k2, val2, cmpI3_lt, if_true, if_false, Bool.not_eq_true', Bool.not_eq_false', Bool.and_eq_true, Bool.and_eq_false_iff, Bool.and_true, decide_eq_true_eq, decide_eq_false_iff_not, not_true, not_false_iff, or_self, or_false, false_or, Int.reduceNeg, Int.reduceEq, Int.reduceLT] at *)
  all_goals first
    | omega
    | (exfalso; omega)
    | (symm; apply decide_eq_true; unfold cmpI3; rw [if_pos (by omega)]; done)
    | (symm; apply decide_eq_true; unfold cmpI3; rw [if_neg (by omega), if_pos (by omega)]; done)
    | (symm; apply decide_eq_true; unfold cmpI3; rw [if_neg (by omega), if_neg (by omega)]; done)

theorem own : ownKnob Try.prog.godebug = none := by kernel_rfl

set_option maxRecDepth 100000 in
theorem lifted (os : Os) (started : os.Started) (H : Type) (enc : TypeId × Value → H) :
    ReturnsInHanded {} Try.checked os 5 .any (Rows.wideAddsSpec.pre6 enc Try.prog Try.f5 Rows.wideAddsRow.domain false) (Rows.wideAddsSpec.post enc Try.prog Try.f5 false true false false) := by
  refine returnsInHanded_of_change (C := Try.checked) own started (by kernel_rfl) Try.func5
    (ChangeSpec.witness6 (enc := enc) (C := Try.checked) false ⟨#[], #[.agg #[.int .u64 0, .int .u64 0], .agg #[.int .u64 0, .int .u64 0]], []⟩ 8 (by kernel_rfl) (by kernel_rfl) (by kernel_rfl) (by kernel_rfl)) ?_
  intro W base args ds gs before hval0 hW hcnd _
  have hval : ∀ (j : Nat) t v, Try.f5.params[j]? = some t → args[j]? = some v → Value.okWide Try.prog W .any base t v := hval0
  have hW' := hW
  obtain ⟨p, q, hA0, hV, rfl, hfz, hnd⟩ := hW
  have hA : DataW.TrodAll enc Try.prog W 0 (fun _ => true) true Try.f5.params.toList args.toList ds p := hA0
  rw [Try.params5] at hA hval
  obtain ⟨v0, vs0, d0, ds0, p0, q0, hargs0, rfl, rfl, h0, r0⟩ := trodAll_cons hA
  obtain ⟨v1, vs1, d1, ds1, p1, q1, hargs1, rfl, rfl, h1, r1⟩ := trodAll_cons r0
  obtain ⟨rfl, rfl, rfl⟩ := trodAll_nil r1
  obtain ⟨rfl, rfl⟩ := trodVars_none hV
  obtain rfl : args = #[v0, v1] := by cases args; simp_all
  obtain ⟨cs0, hv0, hl0, hc0⟩ := agg_open (d := 6) (row := [some .u64, some .u64]) (by kernel_rfl) (by kernel_rfl) (hval 0 24 v0 rfl rfl) h0
  have g0_0 := listIs_of hl0 hc0
  clear hl0 hc0
  obtain ⟨_, cs0_1, rfl, ⟨b0_0, rfl, w0_0⟩, g0_1⟩ := listIs_cons g0_0
  obtain ⟨_, cs0_2, rfl, ⟨b0_1, rfl, w0_1⟩, g0_2⟩ := listIs_cons g0_1
  obtain rfl := listIs_nil g0_2
  subst hv0
  obtain ⟨cs1, hv1, hl1, hc1⟩ := agg_open (d := 6) (row := [some .u64, some .u64]) (by kernel_rfl) (by kernel_rfl) (hval 1 24 v1 rfl rfl) h1
  have g1_0 := listIs_of hl1 hc1
  clear hl1 hc1
  obtain ⟨_, cs1_1, rfl, ⟨b1_0, rfl, w1_0⟩, g1_1⟩ := listIs_cons g1_0
  obtain ⟨_, cs1_2, rfl, ⟨b1_1, rfl, w1_1⟩, g1_2⟩ := listIs_cons g1_1
  obtain rfl := listIs_nil g1_2
  subst hv1
  refine Calls.mono (law_calls mixed Try.func5 (runs b0_0 b0_1 b1_0 b1_1 (u64_of w0_0) (u64_of w0_1) (u64_of w1_0) (u64_of w1_1)) (rel_nil (fun _ => none) W) (Nat.le_refl 0) rfl) fun e W' ⟨he, hb⟩ => ?_
  subst he
  exact ⟨_, rfl, law_post hW' rfl rfl (by kernel_rfl) (by decide +kernel) rfl Try.underlying4 hb⟩

theorem over : Rows.wideAddsRow.holds Try.pinned (OpenSpec.ofChange Rows.wideAddsSpec) :=
  OpenClaim.holds_of_wide 5 Try.f5 rfl rfl rfl rfl rfl rfl rfl ⟨rfl, rfl, rfl, rfl, rfl⟩ rfl rfl rfl rfl rfl (by kernel_rfl) Try.func5 (by kernel_rfl)
    (of_decide_eq_true (by kernel_rfl)) (by unfold Func.isWrapper; first | (rw [if_pos (by decide +kernel)]; kernel_rfl) | (rw [if_neg (by decide +kernel)]; exact ⟨rfl, rfl⟩))
    (fun os started H enc _ => lifted os started H enc)

/-- WideAdds -/
theorem proved : Rows.WideAddsSaid := over
#print axioms proved
end Go.Proofs.Ytfppdbgbnaibgaa.wideAdds
