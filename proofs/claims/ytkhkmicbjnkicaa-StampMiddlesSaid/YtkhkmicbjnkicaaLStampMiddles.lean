/-
  For all lists of times and bounds the law StampMiddles answers true and leaves all memory as it was.
-/
import Derived.Test.YtkhkmicbjnkicaaSx
import Derived.Test.YtkhkmicbjnkicaaStmA
import Derived.Test.YtkhkmicbjnkicaaRows
import Derived.WalkKit
import Derived.ProofKit
import Derived.OpenShut
namespace Go.Proofs.Ytkhkmicbjnkicaa.stampMiddles
open Go.ChangeShapes Go.WideShapes Go.ChangeAt Go.RowKit Go.Sx
set_option linter.unusedVariables false
set_option linter.unusedSimpArgs false
set_option maxRecDepth 100000

def Tw (a : IS) : Prop := a.len ≤ a.cap ∧ a.len ≤ a.N ∧ a.cap ≤ 9223372036854775807
theorem den_on {A : Option Addr} {n cap : Nat} {a c : Int} : #[SV.den (envOf [A]) (.one (.a (.slc 0 1 0 n cap))), SV.den (envOf [A]) (int_ .i64 a), SV.den (envOf [A]) (int_ .i64 c)] = #[.slice A n cap, .int .i64 a, .int .i64 c] := by
  show #[SA.den (envOf [A]) (.slc 0 1 0 n cap), _, _] = _
  rw [den_slc (A := A) rfl]; rfl
theorem upL_congr {g h : Nat → Int} {n : Nat} (e : ∀ r, r < n → g r = h r) : upL g n = upL h n := List.map_congr_left fun r hr => e r (List.mem_range.1 hr)
theorem midX_congr {g h : Nat → Int} {n : Nat} (e : ∀ r, r < n → g r = h r) : midX g n = midX h n := by unfold midX; rw [upL_congr e]
structure CX where
  i : Nat
  cap : Nat
  g : Nat → Int
structure DX where
  i : Nat
  cap : Nat
  g : Nat → Int
def rwG (cap : Nat) (g : Nat → Int) : Option Reg := some ⟨true, .tab cap [.int .i64 g]⟩
abbrev laC (lo hi : Int) (s : IS) : LA where
  ι := CX
  inv := fun x => (x.i ≤ s.len ∧ s.len ≤ 60) ∧ (x.i ≤ x.cap ∧ x.cap ≤ 9223372036854775807) ∧ ∀ r, r < x.i → x.g r = s.g r
  T := fun x => ⟨88, [(0, D1 0 s), (1, int_ .i64 lo), (2, int_ .i64 hi), (7, .one (.a (.slc 1 1 0 x.i x.cap))), (24, D1 0 s), (25, int_ .i64 s.len), (26, int_ .i64 x.i)], [roI s, rwG x.cap x.g]⟩
  μ := fun x => s.len - x.i
  ren := fun S => [0, S.ix 7]
abbrev laD (lo hi : Int) (s : IS) : LA where
  ι := DX
  inv := fun x => (x.i ≤ s.len ∧ s.len ≤ 60) ∧ (s.len ≤ x.cap ∧ x.cap ≤ 9223372036854775807) ∧ ∀ r, r < s.len → x.g r = s.g r
  T := fun x => ⟨88, [(0, D1 0 s), (1, int_ .i64 lo), (2, int_ .i64 hi), (7, .one (.a (.slc 1 1 0 s.len x.cap))), (53, D1 0 s), (54, int_ .i64 s.len), (55, int_ .i64 x.i)], [roI s, rwG x.cap x.g]⟩
  μ := fun x => s.len - x.i
  ren := fun S => [0, S.ix 7]
noncomputable def cxL (lo hi : Int) (s : IS) : Cx Try.prog := { ps := [hdS, midS, rmS, clS], es := [], is := [], n0 := 1, loops := fun i => match i with | 7 => some (.inv (laC lo hi s)) | 16 => some (.inv (laD lo hi s)) | _ => none, cuts := fun _ => none }
attribute [local irreducible] enter midX midE
set_option maxHeartbeats 4000000 in
theorem runs (lo hi : Int) (s : IS) (hw : Tw s) : Runs (cxL lo hi s) Try.f3 [D1 0 s, int_ .i64 lo, int_ .i64 hi] [roI s] yes := by
  obtain ⟨w1, w2, w3⟩ := hw
  repeat' (first | with_reducible exact trivial | with_reducible exact rfl | with_reducible exact Nat.le_refl _ | with_reducible exact (fun _ _ => rfl) | ((conv => whnf); first | (refine fun (x : CX) => ?_) | (refine fun (y : DX) => ?_) | (exact fun h => absurd h (by decide)) | (intro h9; (have h8 := of_decide_eq_true (p := type_of% h9) (by decide)); clear h8 h9) | (refine fun _ => ?_) | refine ⟨?_, ?_⟩ | exact trivial | exact Nat.le_refl _ | exact lex_q (by kernel_rfl) | exact lex_t (by kernel_rfl) | exact lex_h (by kernel_rfl) | fail))
  all_goals (have w4 : s.len ≤ 60 := (by have h9 := (by assumption : ¬ 60 < (s.len : Int)); omega))
  all_goals (try (have hx := (by assumption : (laC lo hi s).inv x); dsimp only [laC] at hx; obtain ⟨⟨x1, x2⟩, ⟨x3, x4⟩, x5⟩ := hx))
  all_goals (try (have hy := (by assumption : (laD lo hi s).inv y); dsimp only [laD] at hy; obtain ⟨⟨y1, y2⟩, ⟨y3, y4⟩, y5⟩ := hy))
  all_goals (try omega)
  all_goals (try first | exact w1 | exact w2 | (show s.len ≤ 1000; omega) | (show x.i ≤ x.cap; omega) | (show x.i ≤ 1000; omega) | fail)
  all_goals (try (have xe : x.i = s.len := (by have h9 := (by assumption : ¬ (x.i : Int) < (s.len : Int)); omega); rw [xe] at x5; have e1 := midX_congr x5; have e2 : midX x.g x.i = midX s.g s.len := (by rw [xe]; exact e1); have e3 : midE x.i = midE s.len := (by rw [xe])))
  all_goals (try first | exact absurd e2 (by assumption) | exact absurd e3 (by assumption) | fail)
  all_goals (try (have hg := y5 (0 + (y.i : Int).toNat) (by omega)))
  all_goals (try exact absurd hg (by assumption))
  all_goals (try (refine absurd ?_ (by assumption : ¬ clX (y.g (0 + (y.i : Int).toNat)) lo hi = lo); rw [hg]; unfold clX; dsimp only; (repeat' split) <;> omega))
  all_goals (try (refine absurd ?_ (by assumption : ¬ clX (y.g (0 + (y.i : Int).toNat)) lo hi = hi); rw [hg]; unfold clX; dsimp only; (repeat' split) <;> omega))
  all_goals (try (refine absurd ?_ (by assumption : ¬ clX (y.g (0 + (y.i : Int).toNat)) lo hi = s.g (0 + (y.i : Int).toNat)); rw [hg]; unfold clX; dsimp only; (repeat' split) <;> omega))
  · (conv => whnf); refine enter_mk (la := laC lo hi s) ⟨0, 0, _⟩ ?_ (by (repeat' (first | ((conv => whnf); first | refine ⟨?_, ?_⟩ | exact trivial | fail) | (dsimp only; done) | ((try dsimp only); first | with_reducible exact rfl | exact Nat.le_refl _ | with_reducible exact (fun _ _ => rfl)))); all_goals ((first | rfl | omega)))
    exact ⟨⟨Nat.zero_le _, w4⟩, ⟨Nat.le_refl _, Nat.zero_le _⟩, fun r hr => absurd hr (Nat.not_lt_zero r)⟩
  · (conv => whnf)
    (conv => whnf); refine enter_mk (la := laC lo hi s) ⟨x.i + 1, _, _⟩ ?_ (by (repeat' (first | ((conv => whnf); first | refine ⟨?_, ?_⟩ | exact trivial | fail) | (dsimp only; done) | ((try dsimp only); first | with_reducible exact rfl | exact Nat.le_refl _ | with_reducible exact (fun _ _ => rfl)))); all_goals ((first | rfl | exact fun r _ => rfl | (dsimp only; omega) | (dsimp only; rw [w64' (by omega) (by omega)]; omega) | (show s.len - (x.i + 1) < s.len - x.i; omega))))
    refine ⟨⟨by show x.i + 1 ≤ s.len; omega, w4⟩, ⟨by assumption, by assumption⟩, fun r hr => ?_⟩
    dsimp only at hr ⊢
    by_cases h9 : r < x.i
    · rw [if_pos h9]; exact x5 r h9
    · obtain rfl : r = x.i := by omega
      simp
  · (conv => whnf); refine enter_mk (la := laD lo hi s) ⟨0, x.cap, x.g⟩ ?_ (by (repeat' (first | ((conv => whnf); first | refine ⟨?_, ?_⟩ | exact trivial | fail) | (dsimp only; done) | ((try dsimp only); first | with_reducible exact rfl | exact Nat.le_refl _ | with_reducible exact (fun _ _ => rfl)))); all_goals ((first | rfl | exact xe | exact xe.symm | omega)))
    exact ⟨⟨Nat.zero_le _, w4⟩, ⟨by show s.len ≤ x.cap; omega, x4⟩, x5⟩
  all_goals
    (conv => whnf)
    (conv => whnf); refine enter_mk (la := laD lo hi s) ⟨y.i + 1, y.cap, y.g⟩ ?_ (by (repeat' (first | ((conv => whnf); first | refine ⟨?_, ?_⟩ | exact trivial | fail) | (dsimp only; done) | ((try dsimp only); first | with_reducible exact rfl | exact Nat.le_refl _ | with_reducible exact (fun _ _ => rfl)))); all_goals ((first | rfl | (dsimp only; omega) | (dsimp only; rw [w64' (by omega) (by omega)]; omega) | (show s.len - (y.i + 1) < s.len - y.i; omega))))
    exact ⟨⟨by show y.i + 1 ≤ s.len; omega, w4⟩, ⟨y3, y4⟩, y5⟩

theorem own : ownKnob Try.prog.godebug = none := by kernel_rfl

set_option maxRecDepth 100000 in
theorem lifted (os : Os) (started : os.Started) (H : Type) (enc : TypeId × Value → H) :
    ReturnsInHanded {} Try.checked os 3 .any (Rows.stampMiddlesSpec.pre6 enc Try.prog Try.f3 Rows.stampMiddlesRow.domain false) (Rows.stampMiddlesSpec.post enc Try.prog Try.f3 false true false false) := by
  refine returnsInHanded_of_change (C := Try.checked) own started (by kernel_rfl) Try.func3
    (ChangeSpec.witness6 (enc := enc) (C := Try.checked) false ⟨#[], #[.slice none 0 0, .int .i64 0, .int .i64 0], []⟩ 8 (by kernel_rfl) (by kernel_rfl) (by kernel_rfl) (by kernel_rfl)) ?_
  intro W base args ds gs before hval0 hW hcnd _
  have hval : ∀ (j : Nat) t v, Try.f3.params[j]? = some t → args[j]? = some v → Value.okWide Try.prog W .any base t v := hval0
  have hW' := hW
  obtain ⟨p, q, hA0, hV, rfl, hfz, hnd⟩ := hW
  have hA : DataW.TrodAll enc Try.prog W 0 (fun _ => true) true Try.f3.params.toList args.toList ds p := hA0
  rw [Try.params3] at hA hval
  obtain ⟨v0, vs0, d0, ds0, p0, q0, hargs0, rfl, rfl, h0, r0⟩ := trodAll_cons hA
  obtain ⟨v1, vs1, d1, ds1, p1, q1, hargs1, rfl, rfl, h1, r1⟩ := trodAll_cons r0
  obtain ⟨v2, vs2, d2, ds2, p2, q2, hargs2, rfl, rfl, h2, r2⟩ := trodAll_cons r1
  obtain ⟨rfl, rfl, rfl⟩ := trodAll_nil r2
  obtain ⟨rfl, rfl⟩ := trodVars_none hV
  obtain rfl : args = #[v0, v1, v2] := by cases args; simp_all
  obtain ⟨A0, n0, c0, s0⟩ := slice_open (d := 6) (row := [some .i64]) Try.underlying22 (by kernel_rfl) (by kernel_rfl) (hval 0 22 v0 rfl rfl) h0
  obtain ⟨a1, rfl, rfl, rfl, w1⟩ := open_int Try.underlying3 (hval 1 3 v1 rfl rfl) h1
  obtain ⟨a2, rfl, rfl, rfl, w2⟩ := open_int Try.underlying3 (hval 2 3 v2 rfl rfl) h2
  refine Calls.mono (law_calls mixed Try.func3 (runs a1 a2 ⟨n0, c0, n0, fun r => intC W A0 (r * 1 + 0)⟩ ⟨s0.le, Nat.le_refl _, s0.max⟩) (e := envOf [A0]) (rel_in1 s0.reg) (Nat.le_refl 1) (by rw [s0.val]; exact (den_on).symm)) fun e W' ⟨he, hb⟩ => ?_
  subst he
  exact ⟨_, rfl, law_post hW' rfl rfl (by kernel_rfl) (by decide +kernel) rfl Try.underlying4 hb⟩

theorem over : Rows.stampMiddlesRow.holds Try.pinned (OpenSpec.ofChange Rows.stampMiddlesSpec) :=
  OpenClaim.holds_of_wide 3 Try.f3 rfl rfl rfl rfl rfl rfl rfl ⟨rfl, rfl, rfl, rfl, rfl⟩ rfl rfl rfl rfl rfl (by kernel_rfl) Try.func3 (by kernel_rfl)
    (of_decide_eq_true (by kernel_rfl)) (by unfold Func.isWrapper; first | (rw [if_pos (by decide +kernel)]; kernel_rfl) | (rw [if_neg (by decide +kernel)]; exact ⟨rfl, rfl⟩))
    (fun os started H enc _ => lifted os started H enc)

/-- StampMiddles -/
theorem proved : Rows.StampMiddlesSaid := over
#print axioms proved
end Go.Proofs.Ytkhkmicbjnkicaa.stampMiddles
