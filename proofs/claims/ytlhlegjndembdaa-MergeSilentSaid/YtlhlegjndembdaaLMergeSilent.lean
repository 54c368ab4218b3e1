/-
  For all numbers the law MergeSilent answers true and leaves all memory as it was.
-/
import Derived.Test.YtlhlegjndembdaaSx
import Derived.Test.YtlhlegjndembdaaMgH
import Derived.Test.YtlhlegjndembdaaRows
import Derived.WalkKit
import Derived.ProofKit
import Derived.OpenShut
namespace Go.Proofs.Ytlhlegjndembdaa.mergeSilent
open Go.ChangeShapes Go.WideShapes Go.ChangeAt Go.RowKit Go.Sx
set_option linter.unusedVariables false
set_option linter.unusedSimpArgs false
set_option maxRecDepth 100000

def m63 (a : Int) : Int := bits .and .i64 a 63
def m15 (a : Int) : Int := bits .and .i64 a 15
theorem m63_bd (a : Int) : 0 ≤ m63 a ∧ m63 a ≤ 63 := by unfold m63; rw [show bits .and .i64 a 63 = a % 2 ^ 6 from and_mask a 6 (by decide)]; omega
theorem m15_bd (a : Int) : 0 ≤ m15 a ∧ m15 a ≤ 15 := by unfold m15; rw [show bits .and .i64 a 15 = a % 2 ^ 4 from and_mask a 4 (by decide)]; omega
theorem plc_ok {li : Int} (h : 0 ≤ li ∧ li ≤ 15) : MN ⟨2, 0, 16, 1099511627776, 0, 16, 1099511627776, 10, li⟩ 0 := by
  unfold MN MCs MCOK CfOK
  dsimp only
  refine ⟨⟨⟨by decide, by decide, h.1, by omega⟩, by decide, by decide⟩, by decide⟩
theorem pb_g {li : Int} {t : Mg} {n : Nat} (h : PA li t n) (hn : n ≤ 63) (hl : 0 ≤ li ∧ li ≤ 15) : (lkIn t 100).1 = false ∧ PB li (lkIn t 100).2 n 0 := by
  have e : lkIn t 100 = (false, lkT t 100 t.silent) := lk_f (by rw [h.s.ne]; decide) (by decide) (by
    unfold lkB
    rw [h.s.li, h.s.pa, h.s.ag, h.s.w, show IntKind.i64.wrap (((2 : Nat) : Int) - 1) = 1 by decide, Int.mul_one, w64' (n := (n : Int)) (by omega) (by omega), w64' (by omega) (by omega)]
    omega)
  rw [e]
  refine ⟨rfl, ⟨⟨h.s.w, h.s.ev, h.s.li, ?_, rfl, rfl, h.s.si⟩, ?_, ?_⟩⟩
  · show IntKind.i64.wrap (100 + t.every) = 110
    rw [h.s.ev]; decide
  · have := s1_up h.h1 (n' := 200 + ((0 : Nat) : Int)) (by omega)
    rw [show (n : Int) + ((0 : Nat) : Int) = n by omega]
    exact this
  · have := s1_up h.a (n' := 200 + ((0 : Nat) : Int)) (by omega)
    rw [show (n : Int) + ((0 : Nat) : Int) = n by omega]
    exact this
structure CX where
  i : Nat
  t : Mg
structure DX where
  n : Nat
  j : Nat
  t : Mg
noncomputable abbrev laC (a b : Int) : LA where
  ι := CX
  inv := fun x => (x.i : Int) ≤ m63 a ∧ PA (m15 b) x.t x.i
  T := fun x => ⟨81, [(0, int_ .i64 (bits .and .i64 a 63)), (1, int_ .i64 (bits .and .i64 b 15)), (5, .one (.a (.ptr 0 0))), (7, int_ .i64 x.i), (8, int_ .i64 x.i)], [mgO x.t]⟩
  μ := fun x => (m63 a).toNat - x.i
  ren := fun S => [S.ix 5]
noncomputable abbrev laD (b : Int) : LA where
  ι := DX
  inv := fun x => x.n ≤ 63 ∧ (x.j : Int) ≤ m15 b + 1 ∧ PB (m15 b) x.t x.n x.j
  T := fun x => ⟨81, [(1, int_ .i64 (bits .and .i64 b 15)), (5, .one (.a (.ptr 0 0))), (7, int_ .i64 ((x.n : Int) + x.j)), (12, int_ .i64 x.j)], [mgO x.t]⟩
  μ := fun x => (m15 b + 1).toNat - x.j
  ren := fun S => [S.ix 5]
noncomputable def cxL (a b : Int) : Cx Try.prog := { ps := [mhdS, plS, siS], es := [mnS, minS, lkS], is := [], n0 := 0, loops := fun i => match i with | 10 => some (.inv (laC a b)) | 13 => some (.rounds 3) | 22 => some (.inv (laD b)) | _ => none, cuts := fun _ => none }
attribute [local irreducible] enter anyAlt mgIn lkIn MN mg0
set_option maxHeartbeats 8000000 in
theorem runs (a b : Int) : Runs (cxL a b) Try.f9 [int_ .i64 a, int_ .i64 b] [] yes := by
  have ha := m63_bd a
  have hb := m15_bd b
  have h0 := plc_ok hb
  repeat' (first | with_reducible exact trivial | with_reducible exact rfl | with_reducible exact Nat.le_refl _ | with_reducible exact (fun _ _ => rfl) | ((conv => whnf); first | (refine fun (x : CX) => ?_) | (refine fun (y : DX) => ?_) | (exact fun h => absurd h (by decide)) | (intro h9; (have h8 := of_decide_eq_true (p := type_of% h9) (by decide)); clear h8 h9) | (refine fun _ => ?_) | refine ⟨?_, ?_⟩ | exact trivial | exact Nat.le_refl _ | exact lex_q (by kernel_rfl) | exact lex_t (by kernel_rfl) | exact lex_h (by kernel_rfl) | fail))
  all_goals (try exact absurd (by assumption : (!true) = true) (by decide))
  all_goals (try exact absurd h0 (by assumption))
  all_goals (try exact absurd rfl (by assumption : ¬ (0 : Int) = 0))
  all_goals (try (have hi := (by assumption : (laC a b).inv x); dsimp only [laC] at hi; obtain ⟨i1, i2⟩ := hi; have k1 := pa_half i2 (by omega)))
  all_goals (try (have hj := (by assumption : (laD b).inv y); dsimp only [laD] at hj; obtain ⟨j1, j2, j3⟩ := hj; have k2 := pb_step j3 j1 (by omega); have hwr : IntKind.i64.wrap (200 + (y.j : Int)) = 200 + y.j := w64' (by omega) (by omega)))
  · (conv => whnf); refine enter_mk (la := laC a b) ⟨0, mg0 ⟨2, 0, 16, 1099511627776, 0, 16, 1099511627776, 10, m15 b⟩ 0⟩ ?_ (by (repeat' (first | ((conv => whnf); first | refine ⟨?_, ?_⟩ | exact trivial | fail) | (dsimp only; done) | ((try dsimp only); first | with_reducible exact rfl | exact Nat.le_refl _ | with_reducible exact (fun _ _ => rfl)))); all_goals ((first | rfl)))
    exact ⟨by show ((0 : Nat) : Int) ≤ m63 a; omega, pa_all 0 (by decide)⟩
  · exact absurd k1.1 (by assumption)
  · exact absurd k1.2.1 (by assumption)
  · have hl := (by assumption : (x.i : Int) < m63 a)
    (conv => whnf); refine enter_mk (la := laC a b) ⟨x.i + 1, (mgIn (mgIn x.t x.i 0 x.i).2.2 x.i 1 x.i).2.2⟩ ?_ (by (repeat' (first | ((conv => whnf); first | refine ⟨?_, ?_⟩ | exact trivial | fail) | (dsimp only; done) | ((try dsimp only); first | with_reducible exact rfl | exact Nat.le_refl _ | with_reducible exact (fun _ _ => rfl)))); all_goals ((first | rfl | (dsimp only; omega) | (dsimp only; rw [w64' (by omega) (by omega)]; done) | (dsimp only; rw [w64' (by omega) (by omega)]; omega) | omega)))
    exact ⟨by show ((x.i + 1 : Nat) : Int) ≤ m63 a; omega, k1.2.2⟩
  · have k3 := pb_g i2 (by omega) hb
    exact absurd (by assumption : (lkIn x.t 100).1 = true) (by rw [k3.1]; decide)
  · have k3 := pb_g i2 (by omega) hb
    (conv => whnf); refine enter_mk (la := laD b) ⟨x.i, 0, (lkIn x.t 100).2⟩ ?_ (by (repeat' (first | ((conv => whnf); first | refine ⟨?_, ?_⟩ | exact trivial | fail) | (dsimp only; done) | ((try dsimp only); first | with_reducible exact rfl | exact Nat.le_refl _ | with_reducible exact (fun _ _ => rfl)))); all_goals ((first | rfl | (dsimp only; omega) | (dsimp only; rw [w64' (by omega) (by omega)]; done) | (dsimp only; rw [w64' (by omega) (by omega)]; omega) | omega)))
    exact ⟨by show x.i ≤ 63; omega, by show ((0 : Nat) : Int) ≤ m15 b + 1; omega, k3.2⟩
  · rw [← hwr] at k2
    exact absurd k2.1 (by assumption)
  · have hl := (by assumption : (y.j : Int) ≤ m15 b)
    rw [← hwr] at k2
    (conv => whnf); refine enter_mk (la := laD b) ⟨y.n, y.j + 1, (mgIn y.t (IntKind.i64.wrap (200 + (y.j : Int))) 1 ((y.n : Int) + y.j)).2.2⟩ ?_ (by (repeat' (first | ((conv => whnf); first | refine ⟨?_, ?_⟩ | exact trivial | fail) | (dsimp only; done) | ((try dsimp only); first | with_reducible exact rfl | exact Nat.le_refl _ | with_reducible exact (fun _ _ => rfl)))); all_goals ((first | rfl | (dsimp only; omega) | (dsimp only; rw [w64' (by omega) (by omega)]; done) | (dsimp only; rw [w64' (by omega) (by omega)]; omega) | omega)))
    exact ⟨j1, by show ((y.j + 1 : Nat) : Int) ≤ m15 b + 1; omega, k2.2⟩
  · have hl := (by assumption : ¬ (y.j : Int) ≤ m15 b)
    have k4 := pb_end j3 (by omega) hb
    exact (decide_eq_true k4.2.2).symm
  · have hl := (by assumption : ¬ (y.j : Int) ≤ m15 b)
    have k4 := pb_end j3 (by omega) hb
    have k5 := (by assumption : (!(lkIn (lkIn y.t 300).2 301).1) = false)
    rw [k4.2.1] at k5
    exact absurd k5 (by decide)
  · have hl := (by assumption : ¬ (y.j : Int) ≤ m15 b)
    have k4 := pb_end j3 (by omega) hb
    exact absurd (by assumption : (lkIn y.t 300).1 = false) (by rw [k4.1]; decide)

theorem own : ownKnob Try.prog.godebug = none := by kernel_rfl

set_option maxRecDepth 100000 in
theorem lifted (os : Os) (started : os.Started) (H : Type) (enc : TypeId × Value → H) :
    ReturnsInHanded {} Try.checked os 9 .any (Rows.mergeSilentSpec.pre6 enc Try.prog Try.f9 Rows.mergeSilentRow.domain false) (Rows.mergeSilentSpec.post enc Try.prog Try.f9 false true false false) := by
  refine returnsInHanded_of_change (C := Try.checked) own started (by kernel_rfl) Try.func9
    (ChangeSpec.witness6 (enc := enc) (C := Try.checked) false ⟨#[], #[.int .i64 0, .int .i64 0], []⟩ 8 (by kernel_rfl) (by kernel_rfl) (by kernel_rfl) (by kernel_rfl)) ?_
  intro W base args ds gs before hval0 hW hcnd _
  have hval : ∀ (j : Nat) t v, Try.f9.params[j]? = some t → args[j]? = some v → Value.okWide Try.prog W .any base t v := hval0
  have hW' := hW
  obtain ⟨p, q, hA0, hV, rfl, hfz, hnd⟩ := hW
  have hA : DataW.TrodAll enc Try.prog W 0 (fun _ => true) true Try.f9.params.toList args.toList ds p := hA0
  rw [Try.params9] at hA hval
  obtain ⟨v0, vs0, d0, ds0, p0, q0, hargs0, rfl, rfl, h0, r0⟩ := trodAll_cons hA
  obtain ⟨v1, vs1, d1, ds1, p1, q1, hargs1, rfl, rfl, h1, r1⟩ := trodAll_cons r0
  obtain ⟨rfl, rfl, rfl⟩ := trodAll_nil r1
  obtain ⟨rfl, rfl⟩ := trodVars_none hV
  obtain rfl : args = #[v0, v1] := by cases args; simp_all
  obtain ⟨a0, rfl, rfl, rfl, w0⟩ := open_int Try.underlying3 (hval 0 3 v0 rfl rfl) h0
  obtain ⟨a1, rfl, rfl, rfl, w1⟩ := open_int Try.underlying3 (hval 1 3 v1 rfl rfl) h1
  refine Calls.mono (law_calls mixed Try.func9 (runs a0 a1) (rel_nil (fun _ => none) W) (Nat.le_refl 0) rfl) fun e W' ⟨he, hb⟩ => ?_
  subst he
  exact ⟨_, rfl, law_post hW' rfl rfl (by kernel_rfl) (by decide +kernel) rfl Try.underlying4 hb⟩

theorem over : Rows.mergeSilentRow.holds Try.pinned (OpenSpec.ofChange Rows.mergeSilentSpec) :=
  OpenClaim.holds_of_wide 9 Try.f9 rfl rfl rfl rfl rfl rfl rfl ⟨rfl, rfl, rfl, rfl, rfl⟩ rfl rfl rfl rfl rfl (by kernel_rfl) Try.func9 (by kernel_rfl)
    (of_decide_eq_true (by kernel_rfl)) (by unfold Func.isWrapper; first | (rw [if_pos (by decide +kernel)]; kernel_rfl) | (rw [if_neg (by decide +kernel)]; exact ⟨rfl, rfl⟩))
    (fun os started H enc _ => lifted os started H enc)

/-- MergeSilent -/
theorem proved : Rows.MergeSilentSaid := over
#print axioms proved
end Go.Proofs.Ytlhlegjndembdaa.mergeSilent
