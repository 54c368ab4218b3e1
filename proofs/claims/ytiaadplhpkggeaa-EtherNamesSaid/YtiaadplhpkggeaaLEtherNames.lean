/-
  For every address and every whole number the law EtherNames answers true and leaves all memory as it was.
-/
import Derived.Test.YtiaadplhpkggeaaSx
import Derived.Test.YtiaadplhpkggeaaFcsNum
import Derived.Test.YtiaadplhpkggeaaFcsBits
import Derived.Test.YtiaadplhpkggeaaFcsA
import Derived.Test.YtiaadplhpkggeaaNames
import Derived.Test.YtiaadplhpkggeaaRows
import Derived.WalkKit
import Derived.ProofKit
import Derived.OpenShut
namespace Go.Proofs.Ytiaadplhpkggeaa.etherNames
open Go.ChangeShapes Go.WideShapes Go.ChangeAt Go.RowKit Go.Sx
set_option linter.unusedVariables false
set_option linter.unusedSimpArgs false
set_option maxRecDepth 100000

attribute [local irreducible] enter anyAlt
theorem u8_of {a : Int} (h : (Lit.int .u8 a).wf = true) : U8 a := by
  have := (Lit.wf_int_iff _ _).1 h
  have h1 : IntKind.u8.min = 0 := rfl
  have h2 : IntKind.u8.max = 255 := rfl
  unfold U8; omega
theorem eq23 : EqOK Try.prog 23 := by unfold EqOK; kernel_rfl
theorem and48 (a : Int) : bits .and .i64 a 281474976710655 = a % 281474976710656 := by
  have h1 : ((BitVec.ofInt 64 a).toNat : Int) = a % 18446744073709551616 := by rw [BitVec.toNat_ofInt]; omega
  have h3 : (BitVec.ofInt 64 a &&& BitVec.ofInt 64 281474976710655).toNat = (BitVec.ofInt 64 a).toNat % 281474976710656 := by
    rw [BitVec.toNat_and, show (BitVec.ofInt 64 281474976710655).toNat = 2 ^ 48 - 1 from rfl, Nat.and_two_pow_sub_one_eq_mod]
  show IntKind.i64.wrap ((BitVec.ofInt 64 a &&& BitVec.ofInt 64 281474976710655).toNat : Int) = _
  rw [h3, w64' (by omega) (by omega)]; omega
theorem ofV_pre {m : M6} (hb : B6 m) : ofV (pre6 m 6) = m := by
  obtain ⟨a, b, c, d, e, f⟩ := m
  unfold B6 U8 at hb
  simp only [ofV, pre6] at *
  simp
  refine ⟨?_, ?_, ?_, ?_, ?_, ?_⟩ <;> omega
theorem pre_ofV (n : Int) : pre6 (ofV n) 6 = n % 281474976710656 := by
  simp only [ofV, pre6]
  simp
  omega
abbrev laN (m : M6) (n : Int) : LA where
  ι := Int × Int
  inv := fun y => (0 ≤ y.2 ∧ y.2 ≤ 6) ∧ y.1 = pre6 m y.2
  T := fun y => ⟨52, [(1, int_ .i64 n), (2, .one (.a (.ptr 0 0))), (5, int_ .i64 y.1), (6, int_ .i64 y.2)], [some ⟨true, .flat (m6 m)⟩]⟩
  μ := fun y => (6 - y.2).toNat
  ren := fun S => [S.ix 2]
noncomputable def cxL (m : M6) (n : Int) : Cx Try.prog := { ps := [numS, ofS, grpS], es := [], is := [], n0 := 0, loops := fun i => match i with | 5 => some (.inv (laN m n)) | _ => none, cuts := fun _ => none, held := fun i => match i with | 10 => some (true, .take 0 (.take 2 (.one 1 (.take 3 (.take 4 (.take 5 (.take 7 (.one 6 (.take 8 (.take 9 (.take 10 (.take 11 (.take 13 (.one 12 (.take 14 (.take 15 (.take 16 (.take 17 (.take 19 (.take 20 (.take 21 (.take 22 (.one 18 (.take 23 (.take 24 (.take 25 .done)))))))))))))))))))))))))) | _ => none }
set_option maxHeartbeats 16000000 in
theorem runs (m : M6) (n : Int) (hb : B6 m) (hn : -9223372036854775808 ≤ n ∧ n ≤ 9223372036854775807) : Runs (cxL m n) Try.f3 [.one (.agg (m6 m)), int_ .i64 n] [] yes := by
  have e1 := ofV_pre hb
  have e2 := pre_ofV n
  unfold B6 U8 at hb
  have h48 := and48 n
  repeat' (first | exact trivial | with_reducible exact rfl | exact Nat.le_refl _ | with_reducible exact (fun _ _ => rfl) | ((conv => whnf); first | (refine fun (x : Int × Int) => ?_) | (refine fun _ => ?_) | refine ⟨?_, ?_⟩ | exact trivial | exact lex_q (by kernel_rfl) | exact lex_t (by kernel_rfl) | exact lex_h (by kernel_rfl) | fail))
  any_goals (refine enter_mk (la := laN m n) (_, _) ?_ (by (repeat' (first | ((conv => whnf); first | refine ⟨?_, ?_⟩ | exact trivial | fail) | ((try dsimp only); first | with_reducible exact rfl | exact Nat.le_refl _ | with_reducible exact (fun _ _ => rfl)))); all_goals ((try dsimp only [laN] at *); (try simp (disch := omega) only [w64', wu64', tdiv_pos, tmod_pos, Int.toNat_natCast, Nat.zero_add] at *); (try omega))))
  all_goals (try exact eq23)
  all_goals (try dsimp only [laN] at *)
  all_goals (try simp (disch := omega) only [fdiv_nn, Int.reduceToNat, IntKind.bits, Nat.min_def, Nat.reduceLeDiff, if_true, if_false, Int.reducePow, wu8, wu32, w64', wu64', tdiv_pos, tmod_pos, Int.toNat_natCast, Nat.zero_add] at *)
  all_goals (try omega)
  all_goals (try (simp only [ofV]; omega))
  all_goals (try exact absurd (by decide : pre6 (0, 0, 0, 0, 1, 2) 6 = 258) (by assumption))
  all_goals first
    | exact ⟨by omega, rfl⟩
    | (simp; done)
    | (have h1 := (by assumption : (0 ≤ x.2 ∧ x.2 ≤ 6) ∧ x.1 = pre6 m x.2)
       obtain ⟨h4, h5⟩ := h1
       first
       | (have h3 := (by assumption : x.2 = ((_ : Nat) : Int))
          rw [h3] at h5 ⊢
          refine ⟨by omega, ?_⟩
          unfold pre6 at h5 ⊢
          simp at h5 ⊢
          try simp only [h5]
          rw [w64' (n := _ * 256) (by omega) (by omega), w64' (by omega) (by omega)]
          try omega)
       | (have hx : x.1 = pre6 m 6 := by rw [h5, show x.2 = 6 by omega]
          first
          | exact absurd hx.symm (by assumption)
          | (have h9 := (by assumption : (_ && _) = false)
             rw [hx, e1] at h9
             simp at h9)
          | exact absurd (e2.trans h48.symm) (by assumption)
          | (unfold pre6 at hx; simp at hx; omega)))

theorem own : ownKnob Try.prog.godebug = none := by kernel_rfl

set_option maxRecDepth 100000 in
theorem lifted (os : Os) (started : os.Started) (H : Type) (enc : TypeId × Value → H) :
    ReturnsInHanded {} Try.checked os 3 .any (Rows.etherNamesSpec.pre6 enc Try.prog Try.f3 Rows.etherNamesRow.domain false) (Rows.etherNamesSpec.post enc Try.prog Try.f3 false true false false) := by
  refine returnsInHanded_of_change (C := Try.checked) own started (by kernel_rfl) Try.func3
    (ChangeSpec.witness6 (enc := enc) (C := Try.checked) false ⟨#[], #[.agg #[.int .u8 0, .int .u8 0, .int .u8 0, .int .u8 0, .int .u8 0, .int .u8 0], .int .i64 0], []⟩ 8 (by kernel_rfl) (by kernel_rfl) (by kernel_rfl) (by kernel_rfl)) ?_
  intro W base args ds gs before hval0 hW hcnd _
  have hval : ∀ (j : Nat) t v, Try.f3.params[j]? = some t → args[j]? = some v → Value.okWide Try.prog W .any base t v := hval0
  have hW' := hW
  obtain ⟨p, q, hA0, hV, rfl, hfz, hnd⟩ := hW
  have hA : DataW.TrodAll enc Try.prog W 0 (fun _ => true) true Try.f3.params.toList args.toList ds p := hA0
  rw [Try.params3] at hA hval
  obtain ⟨v0, vs0, d0, ds0, p0, q0, hargs0, rfl, rfl, h0, r0⟩ := trodAll_cons hA
  obtain ⟨v1, vs1, d1, ds1, p1, q1, hargs1, rfl, rfl, h1, r1⟩ := trodAll_cons r0
  obtain ⟨rfl, rfl, rfl⟩ := trodAll_nil r1
  obtain ⟨rfl, rfl⟩ := trodVars_none hV
  obtain rfl : args = #[v0, v1] := by cases args; simp_all
  obtain ⟨cs0, hv0, hl0, hc0⟩ := agg_open (d := 6) (row := [some .u8, some .u8, some .u8, some .u8, some .u8, some .u8]) (by kernel_rfl) (by kernel_rfl) (hval 0 23 v0 rfl rfl) h0
  have g0_0 := listIs_of hl0 hc0
  clear hl0 hc0
  obtain ⟨_, cs0_1, rfl, ⟨b0_0, rfl, w0_0⟩, g0_1⟩ := listIs_cons g0_0
  obtain ⟨_, cs0_2, rfl, ⟨b0_1, rfl, w0_1⟩, g0_2⟩ := listIs_cons g0_1
  obtain ⟨_, cs0_3, rfl, ⟨b0_2, rfl, w0_2⟩, g0_3⟩ := listIs_cons g0_2
  obtain ⟨_, cs0_4, rfl, ⟨b0_3, rfl, w0_3⟩, g0_4⟩ := listIs_cons g0_3
  obtain ⟨_, cs0_5, rfl, ⟨b0_4, rfl, w0_4⟩, g0_5⟩ := listIs_cons g0_4
  obtain ⟨_, cs0_6, rfl, ⟨b0_5, rfl, w0_5⟩, g0_6⟩ := listIs_cons g0_5
  obtain rfl := listIs_nil g0_6
  subst hv0
  obtain ⟨a1, rfl, rfl, rfl, w1⟩ := open_int Try.underlying3 (hval 1 3 v1 rfl rfl) h1
  refine Calls.mono (law_calls mixed Try.func3 (runs (b0_0, b0_1, b0_2, b0_3, b0_4, b0_5) a1 ⟨u8_of w0_0, u8_of w0_1, u8_of w0_2, u8_of w0_3, u8_of w0_4, u8_of w0_5⟩ (i64_of w1)) (rel_nil (fun _ => none) W) (Nat.le_refl 0) rfl) fun e W' ⟨he, hb⟩ => ?_
  subst he
  exact ⟨_, rfl, law_post hW' rfl rfl (by kernel_rfl) (by decide +kernel) rfl Try.underlying4 hb⟩

theorem over : Rows.etherNamesRow.holds Try.pinned (OpenSpec.ofChange Rows.etherNamesSpec) :=
  OpenClaim.holds_of_wide 3 Try.f3 rfl rfl rfl rfl rfl rfl rfl ⟨rfl, rfl, rfl, rfl, rfl⟩ rfl rfl rfl rfl rfl (by kernel_rfl) Try.func3 (by kernel_rfl)
    (of_decide_eq_true (by kernel_rfl)) (by unfold Func.isWrapper; first | (rw [if_pos (by decide +kernel)]; kernel_rfl) | (rw [if_neg (by decide +kernel)]; exact ⟨rfl, rfl⟩))
    (fun os started H enc _ => lifted os started H enc)

/-- EtherNames -/
theorem proved : Rows.EtherNamesSaid := over
#print axioms proved
end Go.Proofs.Ytiaadplhpkggeaa.etherNames
