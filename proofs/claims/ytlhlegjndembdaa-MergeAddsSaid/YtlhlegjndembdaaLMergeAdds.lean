/-
  For every setup and all steps the law MergeAdds answers true and leaves all memory as it was.
-/
import Derived.Test.YtlhlegjndembdaaSx
import Derived.Test.YtlhlegjndembdaaMgH
import Derived.Test.YtlhlegjndembdaaRows
import Derived.WalkKit
import Derived.ProofKit
import Derived.OpenShut
namespace Go.Proofs.Ytlhlegjndembdaa.mergeAdds
open Go.ChangeShapes Go.WideShapes Go.ChangeAt Go.RowKit Go.Sx
set_option linter.unusedVariables false
set_option linter.unusedSimpArgs false
set_option maxRecDepth 100000

structure AX where
  i : Nat
  tk : Int
  t : Mg
structure BX where
  c : Nat
  tk : Int
  t : Mg
noncomputable abbrev laA (st : MS) (c : MC) : LA where
  ι := AX
  inv := fun x => x.i ≤ st.len ∧ (x.t.w : Int) = c.w ∧ Ad x.t x.i x.tk
  T := fun x => ⟨91, [(2, .one (.a (.ptr 1 0))), (5, .one (.a (.ptr 2 0))), (7, int_ .i64 x.tk), (28, .one (.a (.slc 0 4 0 st.len st.cap))), (29, int_ .i64 st.len), (30, int_ .i64 x.i)], [roM st, mcL c, mgO x.t]⟩
  μ := fun x => st.len - x.i
  ren := fun S => [0, S.ix 2, S.ix 5]
noncomputable abbrev laB (st : MS) (c : MC) : LA where
  ι := BX
  inv := fun x => x.c ≤ x.t.w ∧ (x.t.w : Int) = c.w ∧ Ad x.t st.len x.tk
  T := fun x => ⟨91, [(2, .one (.a (.ptr 1 0))), (5, .one (.a (.ptr 2 0))), (7, int_ .i64 x.tk), (12, int_ .i64 (sumP x.t.ones x.c)), (13, int_ .i64 x.c)], [roM st, mcL c, mgO x.t]⟩
  μ := fun x => x.t.w - x.c
  ren := fun S => [0, S.ix 2, S.ix 5]
noncomputable def cxL (st : MS) (c : MC) : Cx Try.prog := { ps := [mhdS, ctS], es := [mnS, minS], is := [], n0 := 1, loops := fun i => match i with | 10 => some (.inv (laA st c)) | 18 => some (.inv (laB st c)) | _ => none, cuts := fun _ => none }
attribute [local irreducible] enter anyAlt mgIn lkIn MN mg0 sumP ctQ
set_option maxHeartbeats 8000000 in
theorem runs (c : MC) (st : MS) (hw : Mw st) : Runs (cxL st c) Try.f12 [mcV c, .one (.a (.slc 0 4 0 st.len st.cap))] [roM st] yes := by
  obtain ⟨w1, w2, w3⟩ := hw
  repeat' (first | with_reducible exact trivial | with_reducible exact rfl | with_reducible exact Nat.le_refl _ | with_reducible exact (fun _ _ => rfl) | ((conv => whnf); first | (refine fun (x : AX) => ?_) | (refine fun (y : BX) => ?_) | (exact fun h => absurd h (by decide)) | (intro h9; (have h8 := of_decide_eq_true (p := type_of% h9) (by decide)); clear h8 h9) | (refine fun _ => ?_) | refine ⟨?_, ?_⟩ | exact trivial | exact Nat.le_refl _ | exact lex_q (by kernel_rfl) | exact lex_t (by kernel_rfl) | exact lex_h (by kernel_rfl) | fail))
  all_goals (try exact absurd (by assumption : (!true) = true) (by decide))
  all_goals (try (have hi := (by assumption : (laA st c).inv x); dsimp only [laA] at hi; obtain ⟨i1, i2, i3⟩ := hi))
  all_goals (try (have hj := (by assumption : (laB st c).inv y); dsimp only [laB] at hj; obtain ⟨j1, j2, j3⟩ := hj))
  all_goals (have hm := (by assumption : MN c 0))
  all_goals (have h80 := (by assumption : ¬ (80 : Int) < st.len))
  all_goals (try omega)
  · (conv => whnf); refine enter_mk (la := laA st c) ⟨0, 0, mg0 c 0⟩ ?_ (by (repeat' (first | ((conv => whnf); first | refine ⟨?_, ?_⟩ | exact trivial | fail) | (dsimp only; done) | ((try dsimp only); first | with_reducible exact rfl | exact Nat.le_refl _ | with_reducible exact (fun _ _ => rfl)))); all_goals ((first | rfl)))
    exact ⟨Nat.zero_le _, mg0_w hm, ad_0 hm⟩
  · have e : (mgIn x.t (st.now (0 + (x.i : Int).toNat)) (st.way (0 + (x.i : Int).toNat)) (st.seq (0 + (x.i : Int).toNat))).1 = true := by assumption
    have hl := (by assumption : (x.i : Int) < st.len)
    have a := ad_step (n := st.now (0 + (x.i : Int).toNat)) (y := st.way (0 + (x.i : Int).toNat)) (q := st.seq (0 + (x.i : Int).toNat)) i3 (by omega)
    rw [tk_t e] at a
    have bd := tk_bd i3 (by omega)
    have hwr : IntKind.i64.wrap (x.tk + 1) = x.tk + 1 := w64' (by omega) (by omega)
    (conv => whnf); refine enter_mk (la := laA st c) ⟨x.i + 1, x.tk + 1, (mgIn x.t (st.now (0 + (x.i : Int).toNat)) (st.way (0 + (x.i : Int).toNat)) (st.seq (0 + (x.i : Int).toNat))).2.2⟩ ?_ (by (repeat' (first | ((conv => whnf); first | refine ⟨?_, ?_⟩ | exact trivial | fail) | (dsimp only; done) | ((try dsimp only); first | with_reducible exact rfl | exact Nat.le_refl _ | with_reducible exact (fun _ _ => rfl)))); all_goals ((first | rfl | exact hwr | (show st.len - (x.i + 1) < st.len - x.i; omega) | (show y.t.w - (y.c + 1) < y.t.w - y.c; omega) | (dsimp only; rw [w64' (by omega) (by omega)]; done) | (dsimp only; rw [w64' (by omega) (by omega)]; omega))))
    exact ⟨by show x.i + 1 ≤ st.len; omega, by show ((mgIn x.t (st.now (0 + (x.i : Int).toNat)) (st.way (0 + (x.i : Int).toNat)) (st.seq (0 + (x.i : Int).toNat))).2.2.w : Int) = c.w; rw [mgIn_w]; exact i2, a⟩
  · have e : (mgIn x.t (st.now (0 + (x.i : Int).toNat)) (st.way (0 + (x.i : Int).toNat)) (st.seq (0 + (x.i : Int).toNat))).1 = false := by assumption
    have hl := (by assumption : (x.i : Int) < st.len)
    have a := ad_step (n := st.now (0 + (x.i : Int).toNat)) (y := st.way (0 + (x.i : Int).toNat)) (q := st.seq (0 + (x.i : Int).toNat)) i3 (by omega)
    rw [tk_f e] at a
    have bd := tk_bd i3 (by omega)
    have hwr : IntKind.i64.wrap (x.tk + 1) = x.tk + 1 := w64' (by omega) (by omega)
    (conv => whnf); refine enter_mk (la := laA st c) ⟨x.i + 1, x.tk, (mgIn x.t (st.now (0 + (x.i : Int).toNat)) (st.way (0 + (x.i : Int).toNat)) (st.seq (0 + (x.i : Int).toNat))).2.2⟩ ?_ (by (repeat' (first | ((conv => whnf); first | refine ⟨?_, ?_⟩ | exact trivial | fail) | (dsimp only; done) | ((try dsimp only); first | with_reducible exact rfl | exact Nat.le_refl _ | with_reducible exact (fun _ _ => rfl)))); all_goals ((first | rfl | exact hwr | (show st.len - (x.i + 1) < st.len - x.i; omega) | (show y.t.w - (y.c + 1) < y.t.w - y.c; omega) | (dsimp only; rw [w64' (by omega) (by omega)]; done) | (dsimp only; rw [w64' (by omega) (by omega)]; omega))))
    exact ⟨by show x.i + 1 ≤ st.len; omega, by show ((mgIn x.t (st.now (0 + (x.i : Int).toNat)) (st.way (0 + (x.i : Int).toNat)) (st.seq (0 + (x.i : Int).toNat))).2.2.w : Int) = c.w; rw [mgIn_w]; exact i2, a⟩
  · have hl := (by assumption : ¬ (x.i : Int) < st.len)
    have ei : x.i = st.len := by omega
    rw [ei] at i3
    (conv => whnf); refine enter_mk (la := laB st c) ⟨0, x.tk, x.t⟩ ?_ (by (repeat' (first | ((conv => whnf); first | refine ⟨?_, ?_⟩ | exact trivial | fail) | (dsimp only; done) | ((try dsimp only); first | with_reducible exact rfl | exact Nat.le_refl _ | with_reducible exact (fun _ _ => rfl)))); all_goals ((first | rfl | exact sumP_0 _ | exact (sumP_0 _).symm)))
    exact ⟨Nat.zero_le _, i2, i3⟩
  · have hl := (by assumption : (y.c : Int) < c.w)
    have h8 := w_8 hm j2
    have hwr := sum_next j3 (by omega) h8.2 (by omega : y.c < y.t.w)
    have hwr2 := hwr.symm
    (conv => whnf); refine enter_mk (la := laB st c) ⟨y.c + 1, y.tk, y.t⟩ ?_ (by (repeat' (first | ((conv => whnf); first | refine ⟨?_, ?_⟩ | exact trivial | fail) | (dsimp only; done) | ((try dsimp only); first | with_reducible exact rfl | exact Nat.le_refl _ | with_reducible exact (fun _ _ => rfl)))); all_goals ((first | exact hwr2 | (show y.t.w - (y.c + 1) < y.t.w - y.c; omega) | (first | rfl | exact hwr | (show st.len - (x.i + 1) < st.len - x.i; omega) | (show y.t.w - (y.c + 1) < y.t.w - y.c; omega) | (dsimp only; rw [w64' (by omega) (by omega)]; done) | (dsimp only; rw [w64' (by omega) (by omega)]; omega)))))
    exact ⟨by show y.c + 1 ≤ y.t.w; omega, j2, j3⟩
  · have hl := (by assumption : ¬ (y.c : Int) < c.w)
    exact (decide_eq_true (sum_end j3 (by omega) j2.symm).2).symm
  · have hl := (by assumption : ¬ (y.c : Int) < c.w)
    have e := (sum_end j3 (by omega) j2.symm).1
    have ec : y.t.w = y.c := by omega
    rw [ec] at e
    exact absurd e (by assumption)

theorem own : ownKnob Try.prog.godebug = none := by kernel_rfl

set_option maxRecDepth 100000 in
theorem lifted (os : Os) (started : os.Started) (H : Type) (enc : TypeId × Value → H) :
    ReturnsInHanded {} Try.checked os 12 .any (Rows.mergeAddsSpec.pre6 enc Try.prog Try.f12 Rows.mergeAddsRow.domain false) (Rows.mergeAddsSpec.post enc Try.prog Try.f12 false true false false) := by
  refine returnsInHanded_of_change (C := Try.checked) own started (by kernel_rfl) Try.func12
    (ChangeSpec.witness6 (enc := enc) (C := Try.checked) false ⟨#[], #[.agg #[.int .i64 0, .int .i64 0, .int .i64 0, .int .i64 0, .int .i64 0, .int .i64 0, .int .i64 0, .int .i64 0, .int .i64 0], .slice none 0 0], []⟩ 8 (by kernel_rfl) (by kernel_rfl) (by kernel_rfl) (by kernel_rfl)) ?_
  intro W base args ds gs before hval0 hW hcnd _
  have hval : ∀ (j : Nat) t v, Try.f12.params[j]? = some t → args[j]? = some v → Value.okWide Try.prog W .any base t v := hval0
  have hW' := hW
  obtain ⟨p, q, hA0, hV, rfl, hfz, hnd⟩ := hW
  have hA : DataW.TrodAll enc Try.prog W 0 (fun _ => true) true Try.f12.params.toList args.toList ds p := hA0
  rw [Try.params12] at hA hval
  obtain ⟨v0, vs0, d0, ds0, p0, q0, hargs0, rfl, rfl, h0, r0⟩ := trodAll_cons hA
  obtain ⟨v1, vs1, d1, ds1, p1, q1, hargs1, rfl, rfl, h1, r1⟩ := trodAll_cons r0
  obtain ⟨rfl, rfl, rfl⟩ := trodAll_nil r1
  obtain ⟨rfl, rfl⟩ := trodVars_none hV
  obtain rfl : args = #[v0, v1] := by cases args; simp_all
  obtain ⟨cs0, hv0, hl0, hc0⟩ := agg_open (d := 6) (row := [some .i64, some .i64, some .i64, some .i64, some .i64, some .i64, some .i64, some .i64, some .i64]) (by kernel_rfl) (by kernel_rfl) (hval 0 62 v0 rfl rfl) h0
  have g0_0 := listIs_of hl0 hc0
  clear hl0 hc0
  obtain ⟨_, cs0_1, rfl, ⟨b0_0, rfl, w0_0⟩, g0_1⟩ := listIs_cons g0_0
  obtain ⟨_, cs0_2, rfl, ⟨b0_1, rfl, w0_1⟩, g0_2⟩ := listIs_cons g0_1
  obtain ⟨_, cs0_3, rfl, ⟨b0_2, rfl, w0_2⟩, g0_3⟩ := listIs_cons g0_2
  obtain ⟨_, cs0_4, rfl, ⟨b0_3, rfl, w0_3⟩, g0_4⟩ := listIs_cons g0_3
  obtain ⟨_, cs0_5, rfl, ⟨b0_4, rfl, w0_4⟩, g0_5⟩ := listIs_cons g0_4
  obtain ⟨_, cs0_6, rfl, ⟨b0_5, rfl, w0_5⟩, g0_6⟩ := listIs_cons g0_5
  obtain ⟨_, cs0_7, rfl, ⟨b0_6, rfl, w0_6⟩, g0_7⟩ := listIs_cons g0_6
  obtain ⟨_, cs0_8, rfl, ⟨b0_7, rfl, w0_7⟩, g0_8⟩ := listIs_cons g0_7
  obtain ⟨_, cs0_9, rfl, ⟨b0_8, rfl, w0_8⟩, g0_9⟩ := listIs_cons g0_8
  obtain rfl := listIs_nil g0_9
  subst hv0
  obtain ⟨A1, n1, c1, s1⟩ := slice_open (d := 6) (row := [none, some .i64, some .i64, some .i64]) Try.underlying67 (by kernel_rfl) (by kernel_rfl) (hval 1 67 v1 rfl rfl) h1
  refine Calls.mono (law_calls mixed Try.func12 (runs ⟨b0_0, b0_1, b0_2, b0_3, b0_4, b0_5, b0_6, b0_7, b0_8⟩ ⟨n1, c1, n1, fun r => boolC W A1 (r * 4 + 0), fun r => intC W A1 (r * 4 + 1), fun r => intC W A1 (r * 4 + 2), fun r => intC W A1 (r * 4 + 3)⟩ ⟨s1.le, Nat.le_refl _, s1.max⟩) (e := envOf [A1]) (rel_in1 s1.reg) (Nat.le_refl 1) (by rw [s1.val]; exact den_ms.symm)) fun e W' ⟨he, hb⟩ => ?_
  subst he
  exact ⟨_, rfl, law_post hW' rfl rfl (by kernel_rfl) (by decide +kernel) rfl Try.underlying4 hb⟩

theorem over : Rows.mergeAddsRow.holds Try.pinned (OpenSpec.ofChange Rows.mergeAddsSpec) :=
  OpenClaim.holds_of_wide 12 Try.f12 rfl rfl rfl rfl rfl rfl rfl ⟨rfl, rfl, rfl, rfl, rfl⟩ rfl rfl rfl rfl rfl (by kernel_rfl) Try.func12 (by kernel_rfl)
    (of_decide_eq_true (by kernel_rfl)) (by unfold Func.isWrapper; first | (rw [if_pos (by decide +kernel)]; kernel_rfl) | (rw [if_neg (by decide +kernel)]; exact ⟨rfl, rfl⟩))
    (fun os started H enc _ => lifted os started H enc)

/-- MergeAdds -/
theorem proved : Rows.MergeAddsSaid := over
#print axioms proved
end Go.Proofs.Ytlhlegjndembdaa.mergeAdds
