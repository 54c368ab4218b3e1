/-
  For every setup and all steps the law MergeWays answers true and leaves all memory as it was.
-/
import Derived.Test.YtlhlegjndembdaaSx
import Derived.Test.YtlhlegjndembdaaMgH
import Derived.Test.YtlhlegjndembdaaRows
import Derived.WalkKit
import Derived.ProofKit
import Derived.OpenShut
namespace Go.Proofs.Ytlhlegjndembdaa.mergeWays
open Go.ChangeShapes Go.WideShapes Go.ChangeAt Go.RowKit Go.Sx
set_option linter.unusedVariables false
set_option linter.unusedSimpArgs false
set_option maxRecDepth 100000

structure WX where
  i : Nat
  a : Mg
  b : Mg
structure VX where
  i : Nat
  a : Mg
  b : Mg
noncomputable abbrev laW (st : MS) (c : MC) : LA where
  ι := WX
  inv := fun x => x.i ≤ st.len ∧ (x.a.w : Int) = c.w ∧ Wy x.a x.b
  T := fun x => ⟨117, [(2, .one (.a (.ptr 1 0))), (5, .one (.a (.ptr 2 0))), (7, .one (.a (.ptr 3 0))), (40, .one (.a (.slc 0 4 0 st.len st.cap))), (41, int_ .i64 st.len), (42, int_ .i64 x.i)], [roM st, mcL c, mgO x.a, mgO x.b]⟩
  μ := fun x => st.len - x.i
  ren := fun S => [0, S.ix 2, S.ix 5, S.ix 7]
noncomputable abbrev laV (st : MS) (c : MC) : LA where
  ι := VX
  inv := fun x => x.i ≤ x.a.w ∧ (x.a.w : Int) = c.w ∧ Wy x.a x.b
  T := fun x => ⟨117, [(2, .one (.a (.ptr 1 0))), (5, .one (.a (.ptr 2 0))), (7, .one (.a (.ptr 3 0))), (15, int_ .i64 x.i)], [roM st, mcL c, mgO x.a, mgO x.b]⟩
  μ := fun x => x.a.w - x.i
  ren := fun S => [0, S.ix 2, S.ix 5, S.ix 7]
noncomputable def cxL (st : MS) (c : MC) : Cx Try.prog := { ps := [mhdS, ctS], es := [mnS, minS], is := [], n0 := 1, loops := fun i => match i with | 10 => some (.inv (laW st c)) | 19 => some (.inv (laV st c)) | _ => none, cuts := fun _ => none }
theorem eq46 : EqOK Try.prog 46 := by unfold EqOK; kernel_rfl
abbrev eqK (s t : Sq) : Bool := decide (s.k0 = t.k0) && (decide (s.k1 = t.k1) && (decide (s.k2 = t.k2) && (decide (s.k3 = t.k3) && true)))
theorem eqK_self (s : Sq) : eqK s s = true := by simp [eqK]
theorem wy_0 (c : MC) : Wy (mg0 c 0) (mg0 c 0) := ⟨rfl, rfl, fun _ _ => rfl⟩
theorem wy_q {a b : Mg} {i : Nat} {y : Int} (h : Wy a b) (hi : i < a.w) (hy : y = (a.w : Int) - 1 - i) : ctQ b y = ctQ a (i : Int) := by
  have hw := h.w
  rw [cq_at hi, cq_k (by omega), show y.toNat = a.w - 1 - i by omega]
  exact h.one i hi
theorem wy_a {a b : Mg} {y : Int} (h : Wy a b) (hy : (a.w : Int) = y) : ctQ b y = ctQ a y := by
  have hw := h.w
  rw [cq_a (t := a) hy.symm, cq_a (t := b) (by omega)]
  exact h.all
attribute [local irreducible] enter anyAlt mgIn lkIn MN mg0 ctQ
set_option maxHeartbeats 8000000 in
theorem runs (c : MC) (st : MS) (hw : Mw st) : Runs (cxL st c) Try.f11 [mcV c, .one (.a (.slc 0 4 0 st.len st.cap))] [roM st] yes := by
  obtain ⟨w1, w2, w3⟩ := hw
  repeat' (first | with_reducible exact trivial | with_reducible exact rfl | with_reducible exact Nat.le_refl _ | with_reducible exact (fun _ _ => rfl) | ((conv => whnf); first | (refine fun (x : WX) => ?_) | (refine fun (y : VX) => ?_) | (exact fun h => absurd h (by decide)) | (intro h9; (have h8 := of_decide_eq_true (p := type_of% h9) (by decide)); clear h8 h9) | (refine fun _ => ?_) | refine ⟨?_, ?_⟩ | exact trivial | exact Nat.le_refl _ | exact lex_q (by kernel_rfl) | exact lex_t (by kernel_rfl) | exact lex_h (by kernel_rfl) | fail))
  all_goals (try exact absurd (by assumption : (!true) = true) (by decide))
  all_goals (try exact eq46)
  all_goals (try (have hi := (by assumption : (laW st c).inv x); dsimp only [laW] at hi; obtain ⟨i1, i2, i3⟩ := hi))
  all_goals (try (have hj := (by assumption : (laV st c).inv y); dsimp only [laV] at hj; obtain ⟨j1, j2, j3⟩ := hj))
  all_goals (try (have hm := (by assumption : MN c 0); have hm2 := mn_w hm))
  all_goals (have h80 := (by assumption : ¬ (80 : Int) < st.len))
  all_goals (try omega)
  · (conv => whnf); refine enter_mk (la := laW st c) ⟨0, mg0 c 0, mg0 c 0⟩ ?_ (by (repeat' (first | ((conv => whnf); first | refine ⟨?_, ?_⟩ | exact trivial | fail) | (dsimp only; done) | ((try dsimp only); first | with_reducible exact rfl | exact Nat.le_refl _ | with_reducible exact (fun _ _ => rfl)))); all_goals ((first | rfl)))
    exact ⟨Nat.zero_le _, mg0_w hm, wy_0 c⟩
  · have hl := (by assumption : (x.i : Int) < st.len)
    (conv => whnf); refine enter_mk (la := laW st c) ⟨x.i + 1, x.a, x.b⟩ ?_ (by (repeat' (first | ((conv => whnf); first | refine ⟨?_, ?_⟩ | exact trivial | fail) | (dsimp only; done) | ((try dsimp only); first | with_reducible exact rfl | exact Nat.le_refl _ | with_reducible exact (fun _ _ => rfl)))); all_goals ((first | rfl | (show st.len - (x.i + 1) < st.len - x.i; omega) | (show y.a.w - (y.i + 1) < y.a.w - y.i; omega) | (dsimp only; rw [w64' (by omega) (by omega)]; done) | (dsimp only; rw [w64' (by omega) (by omega)]; omega))))
    exact ⟨by show x.i + 1 ≤ st.len; omega, i2, i3⟩
  · have hl := (by assumption : (x.i : Int) < st.len)
    (conv => whnf); refine enter_mk (la := laW st c) ⟨x.i + 1, x.a, x.b⟩ ?_ (by (repeat' (first | ((conv => whnf); first | refine ⟨?_, ?_⟩ | exact trivial | fail) | (dsimp only; done) | ((try dsimp only); first | with_reducible exact rfl | exact Nat.le_refl _ | with_reducible exact (fun _ _ => rfl)))); all_goals ((first | rfl | (show st.len - (x.i + 1) < st.len - x.i; omega) | (show y.a.w - (y.i + 1) < y.a.w - y.i; omega) | (dsimp only; rw [w64' (by omega) (by omega)]; done) | (dsimp only; rw [w64' (by omega) (by omega)]; omega))))
    exact ⟨by show x.i + 1 ≤ st.len; omega, i2, i3⟩
  · have hl := (by assumption : (x.i : Int) < st.len)
    have hy0 := (by assumption : ¬ st.way (0 + (x.i : Int).toNat) < 0)
    have hy1 := (by assumption : ¬ c.w ≤ st.way (0 + (x.i : Int).toNat))
    have hM : (IntKind.i64.wrap (IntKind.i64.wrap (c.w - 1) - st.way (0 + (x.i : Int).toNat))) = (x.a.w : Int) - 1 - st.way (0 + (x.i : Int).toNat) := by rw [w64' (n := c.w - 1) (by omega) (by omega), w64' (by omega) (by omega)]; omega
    have k := wy_step (n := st.now (0 + (x.i : Int).toNat)) (y := st.way (0 + (x.i : Int).toNat)) (y' := (IntKind.i64.wrap (IntKind.i64.wrap (c.w - 1) - st.way (0 + (x.i : Int).toNat)))) (q := st.seq (0 + (x.i : Int).toNat)) i3 (by omega) hM
    exact absurd (by assumption : (!((mgIn x.a (st.now (0 + (x.i : Int).toNat)) (st.way (0 + (x.i : Int).toNat)) (st.seq (0 + (x.i : Int).toNat))).1 == (mgIn x.b (st.now (0 + (x.i : Int).toNat)) (IntKind.i64.wrap (IntKind.i64.wrap (c.w - 1) - st.way (0 + (x.i : Int).toNat))) (st.seq (0 + (x.i : Int).toNat))).1)) = true) (by rw [k.1, beq_self_eq_true]; decide)
  · have hl := (by assumption : (x.i : Int) < st.len)
    have hy0 := (by assumption : ¬ st.way (0 + (x.i : Int).toNat) < 0)
    have hy1 := (by assumption : ¬ c.w ≤ st.way (0 + (x.i : Int).toNat))
    have hM : (IntKind.i64.wrap (IntKind.i64.wrap (c.w - 1) - st.way (0 + (x.i : Int).toNat))) = (x.a.w : Int) - 1 - st.way (0 + (x.i : Int).toNat) := by rw [w64' (n := c.w - 1) (by omega) (by omega), w64' (by omega) (by omega)]; omega
    have k := wy_step (n := st.now (0 + (x.i : Int).toNat)) (y := st.way (0 + (x.i : Int).toNat)) (y' := (IntKind.i64.wrap (IntKind.i64.wrap (c.w - 1) - st.way (0 + (x.i : Int).toNat)))) (q := st.seq (0 + (x.i : Int).toNat)) i3 (by omega) hM
    exact absurd k.2.1.symm (by assumption)
  · have hl := (by assumption : (x.i : Int) < st.len)
    have hy0 := (by assumption : ¬ st.way (0 + (x.i : Int).toNat) < 0)
    have hy1 := (by assumption : ¬ c.w ≤ st.way (0 + (x.i : Int).toNat))
    have hM : (IntKind.i64.wrap (IntKind.i64.wrap (c.w - 1) - st.way (0 + (x.i : Int).toNat))) = (x.a.w : Int) - 1 - st.way (0 + (x.i : Int).toNat) := by rw [w64' (n := c.w - 1) (by omega) (by omega), w64' (by omega) (by omega)]; omega
    have k := wy_step (n := st.now (0 + (x.i : Int).toNat)) (y := st.way (0 + (x.i : Int).toNat)) (y' := (IntKind.i64.wrap (IntKind.i64.wrap (c.w - 1) - st.way (0 + (x.i : Int).toNat)))) (q := st.seq (0 + (x.i : Int).toNat)) i3 (by omega) hM
    (conv => whnf); refine enter_mk (la := laW st c) ⟨x.i + 1, (mgIn x.a (st.now (0 + (x.i : Int).toNat)) (st.way (0 + (x.i : Int).toNat)) (st.seq (0 + (x.i : Int).toNat))).2.2, (mgIn x.b (st.now (0 + (x.i : Int).toNat)) (IntKind.i64.wrap (IntKind.i64.wrap (c.w - 1) - st.way (0 + (x.i : Int).toNat))) (st.seq (0 + (x.i : Int).toNat))).2.2⟩ ?_ (by (repeat' (first | ((conv => whnf); first | refine ⟨?_, ?_⟩ | exact trivial | fail) | (dsimp only; done) | ((try dsimp only); first | with_reducible exact rfl | exact Nat.le_refl _ | with_reducible exact (fun _ _ => rfl)))); all_goals ((first | rfl | (show st.len - (x.i + 1) < st.len - x.i; omega) | (show y.a.w - (y.i + 1) < y.a.w - y.i; omega) | (dsimp only; rw [w64' (by omega) (by omega)]; done) | (dsimp only; rw [w64' (by omega) (by omega)]; omega))))
    exact ⟨by show x.i + 1 ≤ st.len; omega, by show ((mgIn x.a (st.now (0 + (x.i : Int).toNat)) (st.way (0 + (x.i : Int).toNat)) (st.seq (0 + (x.i : Int).toNat))).2.2.w : Int) = c.w; rw [mgIn_w]; exact i2, k.2.2⟩
  · (conv => whnf); refine enter_mk (la := laV st c) ⟨0, x.a, x.b⟩ ?_ (by (repeat' (first | ((conv => whnf); first | refine ⟨?_, ?_⟩ | exact trivial | fail) | (dsimp only; done) | ((try dsimp only); first | with_reducible exact rfl | exact Nat.le_refl _ | with_reducible exact (fun _ _ => rfl)))); all_goals ((first | rfl)))
    exact ⟨Nat.zero_le _, i2, i3⟩
  · have hl := (by assumption : (y.i : Int) < c.w)
    have hV : (IntKind.i64.wrap (IntKind.i64.wrap (c.w - 1) - (y.i : Int))) = (y.a.w : Int) - 1 - y.i := by rw [w64' (n := c.w - 1) (by omega) (by omega), w64' (by omega) (by omega)]; omega
    have hq := wy_q (i := y.i) (y := (IntKind.i64.wrap (IntKind.i64.wrap (c.w - 1) - (y.i : Int)))) j3 (by omega) hV
    exact absurd (by assumption : (!(eqK (ctQ y.a (y.i : Int)) (ctQ y.b (IntKind.i64.wrap (IntKind.i64.wrap (c.w - 1) - (y.i : Int)))))) = true) (by rw [hq, eqK_self]; decide)
  · have hl := (by assumption : (y.i : Int) < c.w)
    have hV : (IntKind.i64.wrap (IntKind.i64.wrap (c.w - 1) - (y.i : Int))) = (y.a.w : Int) - 1 - y.i := by rw [w64' (n := c.w - 1) (by omega) (by omega), w64' (by omega) (by omega)]; omega
    have hq := wy_q (i := y.i) (y := (IntKind.i64.wrap (IntKind.i64.wrap (c.w - 1) - (y.i : Int)))) j3 (by omega) hV
    (conv => whnf); refine enter_mk (la := laV st c) ⟨y.i + 1, y.a, y.b⟩ ?_ (by (repeat' (first | ((conv => whnf); first | refine ⟨?_, ?_⟩ | exact trivial | fail) | (dsimp only; done) | ((try dsimp only); first | with_reducible exact rfl | exact Nat.le_refl _ | with_reducible exact (fun _ _ => rfl)))); all_goals ((first | rfl | (show st.len - (x.i + 1) < st.len - x.i; omega) | (show y.a.w - (y.i + 1) < y.a.w - y.i; omega) | (dsimp only; rw [w64' (by omega) (by omega)]; done) | (dsimp only; rw [w64' (by omega) (by omega)]; omega))))
    exact ⟨by show y.i + 1 ≤ y.a.w; omega, j2, j3⟩
  · have hq := wy_a (y := c.w) j3 j2
    exact (show eqK (ctQ y.a c.w) (ctQ y.b c.w) = true by rw [hq, eqK_self]).symm
  · exact absurd hm (by assumption)
  · exact absurd hm (by assumption)

theorem own : ownKnob Try.prog.godebug = none := by kernel_rfl

set_option maxRecDepth 100000 in
theorem lifted (os : Os) (started : os.Started) (H : Type) (enc : TypeId × Value → H) :
    ReturnsInHanded {} Try.checked os 11 .any (Rows.mergeWaysSpec.pre6 enc Try.prog Try.f11 Rows.mergeWaysRow.domain false) (Rows.mergeWaysSpec.post enc Try.prog Try.f11 false true false false) := by
  refine returnsInHanded_of_change (C := Try.checked) own started (by kernel_rfl) Try.func11
    (ChangeSpec.witness6 (enc := enc) (C := Try.checked) false ⟨#[], #[.agg #[.int .i64 0, .int .i64 0, .int .i64 0, .int .i64 0, .int .i64 0, .int .i64 0, .int .i64 0, .int .i64 0, .int .i64 0], .slice none 0 0], []⟩ 8 (by kernel_rfl) (by kernel_rfl) (by kernel_rfl) (by kernel_rfl)) ?_
  intro W base args ds gs before hval0 hW hcnd _
  have hval : ∀ (j : Nat) t v, Try.f11.params[j]? = some t → args[j]? = some v → Value.okWide Try.prog W .any base t v := hval0
  have hW' := hW
  obtain ⟨p, q, hA0, hV, rfl, hfz, hnd⟩ := hW
  have hA : DataW.TrodAll enc Try.prog W 0 (fun _ => true) true Try.f11.params.toList args.toList ds p := hA0
  rw [Try.params11] at hA hval
  obtain ⟨v0, vs0, d0, ds0, p0, q0, hargs0, rfl, rfl, h0, r0⟩ := trodAll_cons hA
  obtain ⟨v1, vs1, d1, ds1, p1, q1, hargs1, rfl, rfl, h1, r1⟩ := trodAll_cons r0
  obtain ⟨rfl, rfl, rfl⟩ := trodAll_nil r1
  obtain ⟨rfl, rfl⟩ := trodVars_none hV
  obtain rfl : args = #[v0, v1] := by cases args; simp_all
  obtain ⟨cs0, hv0, hl0, hc0⟩ := agg_open (d := 6) (row := [some .i64, some .i64, some .i64, some .i64, some .i64, some .i64, some .i64, some .i64, some .i64]) (by kernel_rfl) (by kernel_rfl) (hval 0 62 v0 rfl rfl) h0
  have g0_0 := listIs_of hl0 hc0
  clear hl0 hc0
  obtain ⟨_, cs0_1, rfl, ⟨b0_0, rfl, w0_0⟩, g0_1⟩ := listIs_cons g0_0
  obtain ⟨_, cs0_2, rfl, ⟨b0_1, rfl, w0_1⟩, g0_2⟩ := listIs_cons g0_1
  obtain ⟨_, cs0_3, rfl, ⟨b0_2, rfl, w0_2⟩, g0_3⟩ := listIs_cons g0_2
  obtain ⟨_, cs0_4, rfl, ⟨b0_3, rfl, w0_3⟩, g0_4⟩ := listIs_cons g0_3
  obtain ⟨_, cs0_5, rfl, ⟨b0_4, rfl, w0_4⟩, g0_5⟩ := listIs_cons g0_4
  obtain ⟨_, cs0_6, rfl, ⟨b0_5, rfl, w0_5⟩, g0_6⟩ := listIs_cons g0_5
  obtain ⟨_, cs0_7, rfl, ⟨b0_6, rfl, w0_6⟩, g0_7⟩ := listIs_cons g0_6
  obtain ⟨_, cs0_8, rfl, ⟨b0_7, rfl, w0_7⟩, g0_8⟩ := listIs_cons g0_7
  obtain ⟨_, cs0_9, rfl, ⟨b0_8, rfl, w0_8⟩, g0_9⟩ := listIs_cons g0_8
  obtain rfl := listIs_nil g0_9
  subst hv0
  obtain ⟨A1, n1, c1, s1⟩ := slice_open (d := 6) (row := [none, some .i64, some .i64, some .i64]) Try.underlying67 (by kernel_rfl) (by kernel_rfl) (hval 1 67 v1 rfl rfl) h1
  refine Calls.mono (law_calls mixed Try.func11 (runs ⟨b0_0, b0_1, b0_2, b0_3, b0_4, b0_5, b0_6, b0_7, b0_8⟩ ⟨n1, c1, n1, fun r => boolC W A1 (r * 4 + 0), fun r => intC W A1 (r * 4 + 1), fun r => intC W A1 (r * 4 + 2), fun r => intC W A1 (r * 4 + 3)⟩ ⟨s1.le, Nat.le_refl _, s1.max⟩) (e := envOf [A1]) (rel_in1 s1.reg) (Nat.le_refl 1) (by rw [s1.val]; exact den_ms.symm)) fun e W' ⟨he, hb⟩ => ?_
  subst he
  exact ⟨_, rfl, law_post hW' rfl rfl (by kernel_rfl) (by decide +kernel) rfl Try.underlying4 hb⟩

theorem over : Rows.mergeWaysRow.holds Try.pinned (OpenSpec.ofChange Rows.mergeWaysSpec) :=
  OpenClaim.holds_of_wide 11 Try.f11 rfl rfl rfl rfl rfl rfl rfl ⟨rfl, rfl, rfl, rfl, rfl⟩ rfl rfl rfl rfl rfl (by kernel_rfl) Try.func11 (by kernel_rfl)
    (of_decide_eq_true (by kernel_rfl)) (by unfold Func.isWrapper; first | (rw [if_pos (by decide +kernel)]; kernel_rfl) | (rw [if_neg (by decide +kernel)]; exact ⟨rfl, rfl⟩))
    (fun os started H enc _ => lifted os started H enc)

/-- MergeWays -/
theorem proved : Rows.MergeWaysSaid := over
#print axioms proved
end Go.Proofs.Ytlhlegjndembdaa.mergeWays
