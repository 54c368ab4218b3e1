/-
  For all lists of times, times and rates the law StampEven answers true and leaves all memory as it was.
-/
import Derived.Test.YtkhkmicbjnkicaaSx
import Derived.Test.YtkhkmicbjnkicaaStmE
import Derived.Test.YtkhkmicbjnkicaaRows
import Derived.WalkKit
import Derived.ProofKit
import Derived.OpenShut
namespace Go.Proofs.Ytkhkmicbjnkicaa.stampEven
open Go.ChangeShapes Go.WideShapes Go.ChangeAt Go.RowKit Go.Sx
set_option linter.unusedVariables false
set_option linter.unusedSimpArgs false
set_option maxRecDepth 100000

def Tw (a : IS) : Prop := a.len ≤ a.cap ∧ a.len ≤ a.N ∧ a.cap ≤ 9223372036854775807
theorem den_on {A : Option Addr} {n cap : Nat} {a c : Int} : #[SV.den (envOf [A]) (.one (.a (.slc 0 1 0 n cap))), SV.den (envOf [A]) (int_ .i64 a), SV.den (envOf [A]) (int_ .i64 c)] = #[.slice A n cap, .int .i64 a, .int .i64 c] := by
  show #[SA.den (envOf [A]) (.slc 0 1 0 n cap), _, _] = _
  rw [den_slc (A := A) rfl]; rfl
theorem upL_congr {g h : Nat → Int} {n : Nat} (e : ∀ r, r < n → g r = h r) : upL g n = upL h n := List.map_congr_left fun r hr => e r (List.mem_range.1 hr)
theorem midX_congr {g h : Nat → Int} {n : Nat} (e : ∀ r, r < n → g r = h r) : midX g n = midX h n := by unfold midX; rw [upL_congr e]
structure CX where
  i : Nat
  cap : Nat
  g : Nat → Int
structure FX where
  i : Nat
  cap : Nat
  g : Nat → Int
  f : Bool
def rwG (cap : Nat) (g : Nat → Int) : Option Reg := some ⟨true, .tab cap [.int .i64 g]⟩
abbrev laC (sx pp : Int) (s : IS) : LA where
  ι := CX
  inv := fun x => (x.i ≤ s.len ∧ s.len ≤ 60) ∧ (x.i ≤ x.cap ∧ x.cap ≤ 9223372036854775807) ∧ ∀ r, r < x.i → x.g r = s.g r
  T := fun x => ⟨141, [(0, D1 0 s), (1, int_ .i64 sx), (2, int_ .i64 pp), (7, .one (.a (.slc 1 1 0 x.i x.cap))), (32, D1 0 s), (33, int_ .i64 s.len), (34, int_ .i64 x.i)], [roI s, rwG x.cap x.g]⟩
  μ := fun x => s.len - x.i
  ren := fun S => [0, S.ix 7]
abbrev mX (s : IS) : Int := midX s.g s.len
abbrev laF (sx pp : Int) (s : IS) : LA where
  ι := FX
  inv := fun y => (y.i ≤ s.len ∧ s.len ≤ 60 ∧ 0 < s.len) ∧ (s.len ≤ y.cap ∧ y.cap ≤ 9223372036854775807) ∧ (∀ r, r < s.len → y.g r = s.g r) ∧ y.f = decide (0 < sam (mX s) (upL s.g y.i))
  T := fun y => ⟨141, [(0, D1 0 s), (1, int_ .i64 sx), (2, int_ .i64 pp), (10, int_ .i64 (mX s)), (11, int_ .i64 0), (12, int_ .i64 (bel (mX s) (upL s.g y.i))), (13, int_ .i64 (abv (mX s) (upL s.g y.i))), (14, .one (.a (.v (.bool y.f)))), (53, .one (.a (.slc 1 1 0 s.len y.cap))), (54, int_ .i64 s.len), (55, int_ .i64 y.i)], [roI s, rwG y.cap y.g]⟩
  μ := fun y => s.len - y.i
  ren := fun S => [0, S.ix 53]
abbrev laZ (sx pp : Int) (s : IS) : LA where
  ι := Unit
  inv := fun _ => True
  T := fun _ => ⟨141, [(1, int_ .i64 sx), (2, int_ .i64 pp)], [roI s]⟩
  μ := fun _ => 0
  ren := fun _ => [0]
noncomputable def cxL (sx pp : Int) (s : IS) : Cx Try.prog := { ps := [hdS, midS, byS, invS], es := [], is := [], n0 := 1, loops := fun i => match i with | 7 => some (.inv (laC sx pp s)) | 19 => some (.inv (laF sx pp s)) | _ => none, cuts := fun i => match i with | 29 => some (laZ sx pp s) | _ => none }
theorem midE_0 {n : Nat} (h : (n : Int) = 0) : midE n = 5 := if_pos (by omega)
theorem midE_1 {n : Nat} (h : ¬ (n : Int) = 0) : midE n = 0 := if_neg (by omega)
theorem midX_1 {g : Nat → Int} {n : Nat} (h : 0 < n) : midX g n = mid (upL g n) := if_neg (by omega)
theorem half_ok {s : IS} {n : Nat} (hn : n = s.len) (h : 0 < s.len) (h6 : s.len ≤ 60) : 0 < sam (mX s) (upL s.g n) ∧ ¬ (s.len : Int) < IntKind.i64.wrap (2 * ((bel (mX s) (upL s.g n) : Nat) : Int)) ∧ ¬ (s.len : Int) < IntKind.i64.wrap (2 * ((abv (mX s) (upL s.g n) : Nat) : Int)) := by
  subst hn
  have e : mX s = mid (upL s.g s.len) := midX_1 h
  have h0 : 0 < (upL s.g s.len).length := by rw [upL_len]; exact h
  have h1 := mid_half h0
  have h2 := (mid_iff h0 _).1 rfl
  rw [upL_len] at h1 h2
  rw [e, w64' (by omega) (by omega), w64' (by omega) (by omega)]
  omega
attribute [local irreducible] enter midX midE mdX mdE
set_option maxHeartbeats 4000000 in
theorem runs (sx pp : Int) (s : IS) (hw : Tw s) : Runs (cxL sx pp s) Try.f4 [D1 0 s, int_ .i64 sx, int_ .i64 pp] [roI s] yes := by
  obtain ⟨w1, w2, w3⟩ := hw
  repeat' (first | with_reducible exact trivial | with_reducible exact rfl | with_reducible exact Nat.le_refl _ | with_reducible exact (fun _ _ => rfl) | ((conv => whnf); first | (refine fun (x : CX) => ?_) | (refine fun (y : FX) => ?_) | (refine fun (z : Unit) => ?_) | (exact fun h => absurd h (by decide)) | (intro h9; (have h8 := of_decide_eq_true (p := type_of% h9) (by decide)); clear h8 h9) | (refine fun _ => ?_) | refine ⟨?_, ?_⟩ | exact trivial | exact Nat.le_refl _ | exact lex_q (by kernel_rfl) | exact lex_t (by kernel_rfl) | exact lex_h (by kernel_rfl) | fail))
  all_goals (have w4 : s.len ≤ 60 := (by have h9 := (by assumption : ¬ 60 < (s.len : Int)); omega))
  all_goals (try (have hx := (by assumption : (laC sx pp s).inv x); dsimp only [laC] at hx; obtain ⟨⟨x1, x2⟩, ⟨x3, x4⟩, x5⟩ := hx))
  all_goals (try (have hy := (by assumption : (laF sx pp s).inv y); dsimp only [laF] at hy; obtain ⟨⟨y1, y2, y0⟩, ⟨y3, y4⟩, y5, y6⟩ := hy))
  all_goals (try omega)
  all_goals (try first | (show x.i ≤ x.cap; omega) | (show x.i ≤ 1000; omega) | fail)
  all_goals (try (have xe : x.i = s.len := (by have h9 := (by assumption : ¬ (x.i : Int) < (s.len : Int)); omega); rw [xe] at x5; have e1 := midX_congr x5; have e2 : midX x.g x.i = mX s := (by rw [xe]; exact e1)))
  all_goals (try (have h0 := (by assumption : (s.len : Int) = 0); have e3 : midE x.i = 5 := midE_0 (by omega)))
  all_goals (try (have h0 := (by assumption : ¬ (s.len : Int) = 0); have e3 : midE x.i = 0 := midE_1 (by omega)))
  all_goals (try exact absurd e3 (by assumption))
  all_goals (try (have hg := y5 (0 + (y.i : Int).toNat) (by omega); have hg2 : y.g (0 + (y.i : Int).toNat) = s.g y.i := (by rw [hg, Nat.zero_add]; rfl); have c1 := bel_up (mX s) s.g y.i; have c2 := abv_up (mX s) s.g y.i; have c3 := sam_up (mX s) s.g y.i; have c4 := all_cnt (mX s) (upL s.g y.i); rw [upL_len] at c4))
  all_goals (try (have yi : y.i = s.len := (by have h9 := (by assumption : ¬ (y.i : Int) < (s.len : Int)); omega); have hh := half_ok yi (by omega) w4))
  all_goals (try (have h9 := (by assumption : (!y.f) = true); rw [y6, decide_eq_true hh.1] at h9; cases h9))
  all_goals (try first | exact absurd (by assumption) hh.2.1 | exact absurd (by assumption) hh.2.2 | fail)
  all_goals (have hxx := evX_in sx; have hrr := evR_in pp; obtain ⟨yy, qq, zz, ⟨ey, f1, iy⟩, ⟨eq, f2, iq⟩, ⟨ez, f3⟩, b1, b2⟩ := even_law sx pp; subst ey; subst eq; subst ez)
  all_goals (try first | exact absurd f1 (by assumption) | exact absurd f2 (by assumption) | exact absurd f3 (by assumption) | exact absurd b1 (by assumption) | exact (decide_eq_true b2).symm | fail)
  all_goals (try first | exact iy.1 | exact iy.2 | exact iq.1 | exact iq.2 | (show (-9223372036854775808 : Int) ≤ evX sx; omega) | (show evX sx ≤ (9223372036854775807 : Int); omega) | (show (-9223372036854775808 : Int) ≤ evR pp; omega) | (show evR pp ≤ (9223372036854775807 : Int); omega) | fail)
  · (conv => whnf); refine enter_mk (la := laC sx pp s) ⟨0, 0, _⟩ ?_ (by (repeat' (first | ((conv => whnf); first | refine ⟨?_, ?_⟩ | exact trivial | fail) | (dsimp only; done) | ((try dsimp only); first | with_reducible exact rfl | exact Nat.le_refl _ | with_reducible exact (fun _ _ => rfl)))); all_goals ((first | rfl | omega)))
    exact ⟨⟨Nat.zero_le _, w4⟩, ⟨Nat.le_refl _, Nat.zero_le _⟩, fun r hr => absurd hr (Nat.not_lt_zero r)⟩
  · (conv => whnf)
    (conv => whnf); refine enter_mk (la := laC sx pp s) ⟨x.i + 1, _, _⟩ ?_ (by (repeat' (first | ((conv => whnf); first | refine ⟨?_, ?_⟩ | exact trivial | fail) | (dsimp only; done) | ((try dsimp only); first | with_reducible exact rfl | exact Nat.le_refl _ | with_reducible exact (fun _ _ => rfl)))); all_goals ((first | rfl | exact fun r _ => rfl | (dsimp only; omega) | (dsimp only; rw [w64' (by omega) (by omega)]; omega) | (show s.len - (x.i + 1) < s.len - x.i; omega))))
    refine ⟨⟨by show x.i + 1 ≤ s.len; omega, w4⟩, ⟨by assumption, by assumption⟩, fun r hr => ?_⟩
    dsimp only at hr ⊢
    by_cases h9 : r < x.i
    · rw [if_pos h9]; exact x5 r h9
    · obtain rfl : r = x.i := by omega
      simp
  · (conv => whnf)
    (conv => whnf); refine enter_mk (la := laZ sx pp s) () ?_ (by (repeat' (first | ((conv => whnf); first | refine ⟨?_, ?_⟩ | exact trivial | fail) | (dsimp only; done) | ((try dsimp only); first | with_reducible exact rfl | exact Nat.le_refl _ | with_reducible exact (fun _ _ => rfl)))); all_goals ((first | rfl)))
    trivial
  · (conv => whnf); refine enter_mk (la := laF sx pp s) ⟨0, x.cap, x.g, false⟩ ?_ (by (repeat' (first | ((conv => whnf); first | refine ⟨?_, ?_⟩ | exact trivial | fail) | (dsimp only; done) | ((try dsimp only); first | with_reducible exact rfl | exact Nat.le_refl _ | with_reducible exact (fun _ _ => rfl)))); all_goals ((first | rfl | exact xe | exact xe.symm | exact e2 | exact e2.symm | exact e3 | exact e3.symm | omega)))
    exact ⟨⟨Nat.zero_le _, w4, by omega⟩, ⟨by show s.len ≤ x.cap; omega, x4⟩, x5, rfl⟩
  · (conv => whnf)
    have d1 := (by assumption : y.g (0 + (y.i : Int).toNat) < mX s)
    rw [hg2] at d1
    rw [if_pos d1] at c1
    have d2 := (by assumption : ¬ mX s < y.g (0 + (y.i : Int).toNat))
    rw [hg2] at d2
    rw [if_neg d2] at c2
    have d3 := (by assumption : y.f = true)
    rw [d3] at y6
    have d4 := of_decide_eq_true y6.symm
    (conv => whnf); refine enter_mk (la := laF sx pp s) ⟨y.i + 1, y.cap, y.g, true⟩ ?_ (by (repeat' (first | ((conv => whnf); first | refine ⟨?_, ?_⟩ | exact trivial | fail) | (dsimp only; done) | ((try dsimp only); first | with_reducible exact rfl | exact Nat.le_refl _ | with_reducible exact (fun _ _ => rfl)))); all_goals ((first | rfl | (dsimp only; omega) | (dsimp only; rw [w64' (by omega) (by omega)]; omega) | (show s.len - (y.i + 1) < s.len - y.i; omega))))
    exact ⟨⟨by show y.i + 1 ≤ s.len; omega, w4, y0⟩, ⟨y3, y4⟩, y5, (decide_eq_true (by rw [c3]; omega)).symm⟩
  · (conv => whnf)
    have d1 := (by assumption : y.g (0 + (y.i : Int).toNat) < mX s)
    rw [hg2] at d1
    rw [if_pos d1] at c1
    have d2 := (by assumption : ¬ mX s < y.g (0 + (y.i : Int).toNat))
    rw [hg2] at d2
    rw [if_neg d2] at c2
    have d3 := (by assumption : y.f = false)
    rw [d3] at y6
    have d4 := of_decide_eq_false y6.symm
    (conv => whnf); refine enter_mk (la := laF sx pp s) ⟨y.i + 1, y.cap, y.g, decide (y.g (0 + (y.i : Int).toNat) = mX s)⟩ ?_ (by (repeat' (first | ((conv => whnf); first | refine ⟨?_, ?_⟩ | exact trivial | fail) | (dsimp only; done) | ((try dsimp only); first | with_reducible exact rfl | exact Nat.le_refl _ | with_reducible exact (fun _ _ => rfl)))); all_goals ((first | rfl | (dsimp only; omega) | (dsimp only; rw [w64' (by omega) (by omega)]; omega) | (show s.len - (y.i + 1) < s.len - y.i; omega))))
    exact ⟨⟨by show y.i + 1 ≤ s.len; omega, w4, y0⟩, ⟨y3, y4⟩, y5, by dsimp only; rw [decide_eq_decide, hg2, c3]; split <;> omega⟩
  · (conv => whnf)
    have d1 := (by assumption : ¬ y.g (0 + (y.i : Int).toNat) < mX s)
    rw [hg2] at d1
    rw [if_neg d1] at c1
    have d2 := (by assumption : mX s < y.g (0 + (y.i : Int).toNat))
    rw [hg2] at d2
    rw [if_pos d2] at c2
    have d3 := (by assumption : y.f = true)
    rw [d3] at y6
    have d4 := of_decide_eq_true y6.symm
    (conv => whnf); refine enter_mk (la := laF sx pp s) ⟨y.i + 1, y.cap, y.g, true⟩ ?_ (by (repeat' (first | ((conv => whnf); first | refine ⟨?_, ?_⟩ | exact trivial | fail) | (dsimp only; done) | ((try dsimp only); first | with_reducible exact rfl | exact Nat.le_refl _ | with_reducible exact (fun _ _ => rfl)))); all_goals ((first | rfl | (dsimp only; omega) | (dsimp only; rw [w64' (by omega) (by omega)]; omega) | (show s.len - (y.i + 1) < s.len - y.i; omega))))
    exact ⟨⟨by show y.i + 1 ≤ s.len; omega, w4, y0⟩, ⟨y3, y4⟩, y5, (decide_eq_true (by rw [c3]; omega)).symm⟩
  · (conv => whnf)
    have d1 := (by assumption : ¬ y.g (0 + (y.i : Int).toNat) < mX s)
    rw [hg2] at d1
    rw [if_neg d1] at c1
    have d2 := (by assumption : mX s < y.g (0 + (y.i : Int).toNat))
    rw [hg2] at d2
    rw [if_pos d2] at c2
    have d3 := (by assumption : y.f = false)
    rw [d3] at y6
    have d4 := of_decide_eq_false y6.symm
    (conv => whnf); refine enter_mk (la := laF sx pp s) ⟨y.i + 1, y.cap, y.g, decide (y.g (0 + (y.i : Int).toNat) = mX s)⟩ ?_ (by (repeat' (first | ((conv => whnf); first | refine ⟨?_, ?_⟩ | exact trivial | fail) | (dsimp only; done) | ((try dsimp only); first | with_reducible exact rfl | exact Nat.le_refl _ | with_reducible exact (fun _ _ => rfl)))); all_goals ((first | rfl | (dsimp only; omega) | (dsimp only; rw [w64' (by omega) (by omega)]; omega) | (show s.len - (y.i + 1) < s.len - y.i; omega))))
    exact ⟨⟨by show y.i + 1 ≤ s.len; omega, w4, y0⟩, ⟨y3, y4⟩, y5, by dsimp only; rw [decide_eq_decide, hg2, c3]; split <;> omega⟩
  · (conv => whnf)
    have d1 := (by assumption : ¬ y.g (0 + (y.i : Int).toNat) < mX s)
    rw [hg2] at d1
    rw [if_neg d1] at c1
    have d2 := (by assumption : ¬ mX s < y.g (0 + (y.i : Int).toNat))
    rw [hg2] at d2
    rw [if_neg d2] at c2
    have d3 := (by assumption : y.f = true)
    rw [d3] at y6
    have d4 := of_decide_eq_true y6.symm
    (conv => whnf); refine enter_mk (la := laF sx pp s) ⟨y.i + 1, y.cap, y.g, true⟩ ?_ (by (repeat' (first | ((conv => whnf); first | refine ⟨?_, ?_⟩ | exact trivial | fail) | (dsimp only; done) | ((try dsimp only); first | with_reducible exact rfl | exact Nat.le_refl _ | with_reducible exact (fun _ _ => rfl)))); all_goals ((first | rfl | (dsimp only; omega) | (dsimp only; rw [w64' (by omega) (by omega)]; omega) | (show s.len - (y.i + 1) < s.len - y.i; omega))))
    exact ⟨⟨by show y.i + 1 ≤ s.len; omega, w4, y0⟩, ⟨y3, y4⟩, y5, (decide_eq_true (by rw [c3]; omega)).symm⟩
  · (conv => whnf)
    have d1 := (by assumption : ¬ y.g (0 + (y.i : Int).toNat) < mX s)
    rw [hg2] at d1
    rw [if_neg d1] at c1
    have d2 := (by assumption : ¬ mX s < y.g (0 + (y.i : Int).toNat))
    rw [hg2] at d2
    rw [if_neg d2] at c2
    have d3 := (by assumption : y.f = false)
    rw [d3] at y6
    have d4 := of_decide_eq_false y6.symm
    (conv => whnf); refine enter_mk (la := laF sx pp s) ⟨y.i + 1, y.cap, y.g, decide (y.g (0 + (y.i : Int).toNat) = mX s)⟩ ?_ (by (repeat' (first | ((conv => whnf); first | refine ⟨?_, ?_⟩ | exact trivial | fail) | (dsimp only; done) | ((try dsimp only); first | with_reducible exact rfl | exact Nat.le_refl _ | with_reducible exact (fun _ _ => rfl)))); all_goals ((first | rfl | (dsimp only; omega) | (dsimp only; rw [w64' (by omega) (by omega)]; omega) | (show s.len - (y.i + 1) < s.len - y.i; omega))))
    exact ⟨⟨by show y.i + 1 ≤ s.len; omega, w4, y0⟩, ⟨y3, y4⟩, y5, by dsimp only; rw [decide_eq_decide, hg2, c3]; split <;> omega⟩
  · (conv => whnf)
    (conv => whnf); refine enter_mk (la := laZ sx pp s) () ?_ (by (repeat' (first | ((conv => whnf); first | refine ⟨?_, ?_⟩ | exact trivial | fail) | (dsimp only; done) | ((try dsimp only); first | with_reducible exact rfl | exact Nat.le_refl _ | with_reducible exact (fun _ _ => rfl)))); all_goals ((first | rfl)))
    trivial

theorem own : ownKnob Try.prog.godebug = none := by kernel_rfl

set_option maxRecDepth 100000 in
theorem lifted (os : Os) (started : os.Started) (H : Type) (enc : TypeId × Value → H) :
    ReturnsInHanded {} Try.checked os 4 .any (Rows.stampEvenSpec.pre6 enc Try.prog Try.f4 Rows.stampEvenRow.domain false) (Rows.stampEvenSpec.post enc Try.prog Try.f4 false true false false) := by
  refine returnsInHanded_of_change (C := Try.checked) own started (by kernel_rfl) Try.func4
    (ChangeSpec.witness6 (enc := enc) (C := Try.checked) false ⟨#[], #[.slice none 0 0, .int .i64 0, .int .i64 0], []⟩ 8 (by kernel_rfl) (by kernel_rfl) (by kernel_rfl) (by kernel_rfl)) ?_
  intro W base args ds gs before hval0 hW hcnd _
  have hval : ∀ (j : Nat) t v, Try.f4.params[j]? = some t → args[j]? = some v → Value.okWide Try.prog W .any base t v := hval0
  have hW' := hW
  obtain ⟨p, q, hA0, hV, rfl, hfz, hnd⟩ := hW
  have hA : DataW.TrodAll enc Try.prog W 0 (fun _ => true) true Try.f4.params.toList args.toList ds p := hA0
  rw [Try.params4] at hA hval
  obtain ⟨v0, vs0, d0, ds0, p0, q0, hargs0, rfl, rfl, h0, r0⟩ := trodAll_cons hA
  obtain ⟨v1, vs1, d1, ds1, p1, q1, hargs1, rfl, rfl, h1, r1⟩ := trodAll_cons r0
  obtain ⟨v2, vs2, d2, ds2, p2, q2, hargs2, rfl, rfl, h2, r2⟩ := trodAll_cons r1
  obtain ⟨rfl, rfl, rfl⟩ := trodAll_nil r2
  obtain ⟨rfl, rfl⟩ := trodVars_none hV
  obtain rfl : args = #[v0, v1, v2] := by cases args; simp_all
  obtain ⟨A0, n0, c0, s0⟩ := slice_open (d := 6) (row := [some .i64]) Try.underlying22 (by kernel_rfl) (by kernel_rfl) (hval 0 22 v0 rfl rfl) h0
  obtain ⟨a1, rfl, rfl, rfl, w1⟩ := open_int Try.underlying3 (hval 1 3 v1 rfl rfl) h1
  obtain ⟨a2, rfl, rfl, rfl, w2⟩ := open_int Try.underlying3 (hval 2 3 v2 rfl rfl) h2
  refine Calls.mono (law_calls mixed Try.func4 (runs a1 a2 ⟨n0, c0, n0, fun r => intC W A0 (r * 1 + 0)⟩ ⟨s0.le, Nat.le_refl _, s0.max⟩) (e := envOf [A0]) (rel_in1 s0.reg) (Nat.le_refl 1) (by rw [s0.val]; exact (den_on).symm)) fun e W' ⟨he, hb⟩ => ?_
  subst he
  exact ⟨_, rfl, law_post hW' rfl rfl (by kernel_rfl) (by decide +kernel) rfl Try.underlying4 hb⟩

theorem over : Rows.stampEvenRow.holds Try.pinned (OpenSpec.ofChange Rows.stampEvenSpec) :=
  OpenClaim.holds_of_wide 4 Try.f4 rfl rfl rfl rfl rfl rfl rfl ⟨rfl, rfl, rfl, rfl, rfl⟩ rfl rfl rfl rfl rfl (by kernel_rfl) Try.func4 (by kernel_rfl)
    (of_decide_eq_true (by kernel_rfl)) (by unfold Func.isWrapper; first | (rw [if_pos (by decide +kernel)]; kernel_rfl) | (rw [if_neg (by decide +kernel)]; exact ⟨rfl, rfl⟩))
    (fun os started H enc _ => lifted os started H enc)

/-- StampEven -/
theorem proved : Rows.StampEvenSaid := over
#print axioms proved
end Go.Proofs.Ytkhkmicbjnkicaa.stampEven
