/-
  For all streams, other streams, ports and addresses the law SieveForged answers true and leaves all memory as it was.
-/
import Derived.Test.YtmhggafgdilgeaaSx
import Derived.Test.YtmhggafgdilgeaaSieH
import Derived.Test.YtmhggafgdilgeaaRows
import Derived.WalkKit
import Derived.ProofKit
import Derived.OpenShut
namespace Go.Proofs.Ytmhggafgdilgeaa.sieveForged
open Go.ChangeShapes Go.WideShapes Go.ChangeAt Go.RowKit Go.Sx
set_option linter.unusedVariables false
set_option linter.unusedSimpArgs false
set_option maxRecDepth 100000

structure Rw where
  po : Int
  vid : Int
  m0 : Int
  m1 : Int
  m2 : Int
  m3 : Int
  m4 : Int
  m5 : Int
  src : Bool
  ga : Int
  pr : Int
  mx : Int
  sh : Bool
  ra : Int
def rwC (x : Rw) : SV := .one (.agg [i_ x.po, i_ x.vid, u_ x.m0, u_ x.m1, u_ x.m2, u_ x.m3, u_ x.m4, u_ x.m5, b_ x.src, i_ x.ga, i_ x.pr, i_ x.mx, b_ x.sh, i_ x.ra])
theorem den_on {A : Option Addr} {n cap : Nat} {x : Rw} {p : Int} {m : Mc} : #[SV.den (envOf [A]) (rwC x), SV.den (envOf [A]) (.one (.a (.slc 0 14 0 n cap))), SV.den (envOf [A]) (int_ .i64 p), SV.den (envOf [A]) (mcC m)] = #[.agg #[.int .i64 x.po, .int .i64 x.vid, .int .u8 x.m0, .int .u8 x.m1, .int .u8 x.m2, .int .u8 x.m3, .int .u8 x.m4, .int .u8 x.m5, .bool x.src, .int .i64 x.ga, .int .i64 x.pr, .int .i64 x.mx, .bool x.sh, .int .i64 x.ra], .slice A n cap, .int .i64 p, .agg #[.int .u8 m.m0, .int .u8 m.m1, .int .u8 m.m2, .int .u8 m.m3, .int .u8 m.m4, .int .u8 m.m5]] := by
  show #[_, SA.den (envOf [A]) (.slc 0 14 0 n cap), _, _] = _
  rw [den_slc (A := A) rfl]; rfl
/-- the stream, as the sieve has it -/
def oneC (x : Rw) : Sc := ⟨fun r => [x.po].getD (r + 0) 0, fun r => [x.vid].getD (r + 0) 0, fun r => [x.m0].getD (r + 0) 0, fun r => [x.m1].getD (r + 0) 0, fun r => [x.m2].getD (r + 0) 0, fun r => [x.m3].getD (r + 0) 0, fun r => [x.m4].getD (r + 0) 0, fun r => [x.m5].getD (r + 0) 0, fun r => [false].getD (r + 0) false, fun r => [-1].getD (r + 0) 0, fun r => [x.pr].getD (r + 0) 0, fun r => [x.mx].getD (r + 0) 0, fun r => [x.sh].getD (r + 0) false, fun r => [-1].getD (r + 0) 0⟩
def oneS (x : Rw) : SI := ⟨1, 1, 1 - 0, oneC x⟩
def yA (p v : Int) (d s : Mc) : InA := ⟨0, p, v, d, s, 7, 64⟩
def mcX (x : Rw) : Mc := ⟨x.m0, x.m1, x.m2, x.m3, x.m4, x.m5⟩
theorem fo_no {x : Rw} {c : Sc} {cap : Nat} (h : ∀ r, r < 1 → same c (oneC x) r) {p : Int} {s : Mc} (h0 : ¬ x.po < 0) (hp : ¬ p = x.po) : fI (sv0 1 cap c) (yA p x.vid (mcX x) s) = -1 ∧ inW (sv0 1 cap c) (yA p x.vid (mcX x) s) = 1 := by
  have hf : fI (sv0 1 cap c) (yA p x.vid (mcX x) s) = -1 := fnd_no fun j hj => by
    obtain rfl : j = 0 := by have hj : j < 1 := hj; omega
    rintro ⟨h1, _⟩
    have e0 : c.po 0 = x.po := (same_out (h 0 Nat.one_pos)).1
    have h1 : c.po 0 < 0 ∨ c.po 0 = p := h1
    rw [e0] at h1; omega
  refine ⟨hf, ?_⟩
  unfold inW
  rw [hf, if_pos (by decide)]
theorem fo_yes {x : Rw} {c : Sc} {cap : Nat} (h : ∀ r, r < 1 → same c (oneC x) r) {y : InA} {s : Mc} : fI (inT (sv0 1 cap c) y) (yA x.po x.vid (mcX x) s) = 0 := by
  rw [fI_s]
  obtain ⟨e0, e1, e2, e3, e4, e5, e6, e7, e8, _⟩ := same_out (h 0 Nat.one_pos)
  refine fnd_at (t := sv0 1 cap c) (i := 0) (fun j hj => absurd hj (Nat.not_lt_zero j)) Nat.one_pos ?_
  have e8 : c.src 0 = false := e8
  refine ⟨.inr e0, e1, ?_⟩
  show eqM (mcAt c 0) (if c.src 0 = true then s else mcX x)
  rw [e8, if_neg (by decide)]
  exact ⟨e2, e3, e4, e5, e6, e7⟩
theorem newE_ne (y : SI) : ¬ newE y = 0 := by
  unfold newE
  split <;> decide
noncomputable def cxL : Cx Try.prog := { ps := [hdS, fdS, ctS], es := [newS, inS, opS], is := [], n0 := 1, loops := fun _ => none, cuts := fun _ => none }
attribute [local irreducible] newOK same inT inW inQ fI opE opT Sw
set_option maxHeartbeats 8000000 in
theorem runs (x : Rw) (p : Int) (m : Mc) (s : SI) (hw : Sw s) : Runs cxL Try.f3 [rwC x, .one (.a (.slc 0 14 0 s.len s.cap)), int_ .i64 p, mcC m] [roS s] yes := by
  repeat' (first | with_reducible exact trivial | with_reducible exact rfl | with_reducible exact Nat.le_refl _ | with_reducible exact (fun _ _ => rfl) | ((conv => whnf); first | (refine fun (x : Int) => ?_) | (refine fun (y : Sc × Nat) => ?_) | (exact fun h => absurd h (by decide)) | (intro h9; (have h8 := of_decide_eq_true (p := type_of% h9) (by decide)); clear h8 h9) | (refine fun _ => ?_) | refine ⟨?_, ?_⟩ | exact trivial | exact Nat.le_refl _ | exact lex_q (by kernel_rfl) | exact lex_t (by kernel_rfl) | exact lex_h (by kernel_rfl) | fail))
  · exact sw_mk ⟨Nat.le_refl _, Nat.le_refl _, by show (1 : Nat) ≤ 9223372036854775807; decide⟩
  all_goals (try exact absurd (newE_ne (oneS x)) (by assumption))
  all_goals
    have hy := (by assumption : (fun (y : Sc × Nat) => newOK (oneS x) ∧ (∀ r, r < 1 → same y.1 (oneC x) r) ∧ 1 ≤ y.2 ∧ y.2 ≤ 9223372036854775807) y)
    obtain ⟨f1, f2⟩ := fo_no (cap := y.2) hy.2.1 (p := p) (s := m) (by assumption) (by assumption)
    have f3 := fo_yes (cap := y.2) hy.2.1 (y := yA p x.vid (mcX x) m) (s := m)
    first | exact absurd f1 (by assumption) | exact absurd f2 (by assumption) | exact (decide_eq_true f3).symm | fail

theorem own : ownKnob Try.prog.godebug = none := by kernel_rfl

set_option maxRecDepth 100000 in
theorem lifted (os : Os) (started : os.Started) (H : Type) (enc : TypeId × Value → H) :
    ReturnsInHanded {} Try.checked os 3 .any (Rows.sieveForgedSpec.pre6 enc Try.prog Try.f3 Rows.sieveForgedRow.domain false) (Rows.sieveForgedSpec.post enc Try.prog Try.f3 false true false false) := by
  refine returnsInHanded_of_change (C := Try.checked) own started (by kernel_rfl) Try.func3
    (ChangeSpec.witness6 (enc := enc) (C := Try.checked) false ⟨#[], #[.agg #[.int .i64 0, .int .i64 0, .int .u8 0, .int .u8 0, .int .u8 0, .int .u8 0, .int .u8 0, .int .u8 0, .bool false, .int .i64 0, .int .i64 0, .int .i64 0, .bool false, .int .i64 0], .slice none 0 0, .int .i64 0, .agg #[.int .u8 0, .int .u8 0, .int .u8 0, .int .u8 0, .int .u8 0, .int .u8 0]], []⟩ 8 (by kernel_rfl) (by kernel_rfl) (by kernel_rfl) (by kernel_rfl)) ?_
  intro W base args ds gs before hval0 hW hcnd _
  have hval : ∀ (j : Nat) t v, Try.f3.params[j]? = some t → args[j]? = some v → Value.okWide Try.prog W .any base t v := hval0
  have hW' := hW
  obtain ⟨p, q, hA0, hV, rfl, hfz, hnd⟩ := hW
  have hA : DataW.TrodAll enc Try.prog W 0 (fun _ => true) true Try.f3.params.toList args.toList ds p := hA0
  rw [Try.params3] at hA hval
  obtain ⟨v0, vs0, d0, ds0, p0, q0, hargs0, rfl, rfl, h0, r0⟩ := trodAll_cons hA
  obtain ⟨v1, vs1, d1, ds1, p1, q1, hargs1, rfl, rfl, h1, r1⟩ := trodAll_cons r0
  obtain ⟨v2, vs2, d2, ds2, p2, q2, hargs2, rfl, rfl, h2, r2⟩ := trodAll_cons r1
  obtain ⟨v3, vs3, d3, ds3, p3, q3, hargs3, rfl, rfl, h3, r3⟩ := trodAll_cons r2
  obtain ⟨rfl, rfl, rfl⟩ := trodAll_nil r3
  obtain ⟨rfl, rfl⟩ := trodVars_none hV
  obtain rfl : args = #[v0, v1, v2, v3] := by cases args; simp_all
  obtain ⟨cs0, hv0, hl0, hc0⟩ := agg_open (d := 6) (row := [some .i64, some .i64, some .u8, some .u8, some .u8, some .u8, some .u8, some .u8, none, some .i64, some .i64, some .i64, none, some .i64]) (by kernel_rfl) (by kernel_rfl) (hval 0 25 v0 rfl rfl) h0
  have g0_0 := listIs_of hl0 hc0
  clear hl0 hc0
  obtain ⟨_, cs0_1, rfl, ⟨b0_0, rfl, w0_0⟩, g0_1⟩ := listIs_cons g0_0
  obtain ⟨_, cs0_2, rfl, ⟨b0_1, rfl, w0_1⟩, g0_2⟩ := listIs_cons g0_1
  obtain ⟨_, cs0_3, rfl, ⟨b0_2, rfl, w0_2⟩, g0_3⟩ := listIs_cons g0_2
  obtain ⟨_, cs0_4, rfl, ⟨b0_3, rfl, w0_3⟩, g0_4⟩ := listIs_cons g0_3
  obtain ⟨_, cs0_5, rfl, ⟨b0_4, rfl, w0_4⟩, g0_5⟩ := listIs_cons g0_4
  obtain ⟨_, cs0_6, rfl, ⟨b0_5, rfl, w0_5⟩, g0_6⟩ := listIs_cons g0_5
  obtain ⟨_, cs0_7, rfl, ⟨b0_6, rfl, w0_6⟩, g0_7⟩ := listIs_cons g0_6
  obtain ⟨_, cs0_8, rfl, ⟨b0_7, rfl, w0_7⟩, g0_8⟩ := listIs_cons g0_7
  obtain ⟨_, cs0_9, rfl, ⟨b0_8, rfl⟩, g0_9⟩ := listIs_cons g0_8
  obtain ⟨_, cs0_10, rfl, ⟨b0_9, rfl, w0_9⟩, g0_10⟩ := listIs_cons g0_9
  obtain ⟨_, cs0_11, rfl, ⟨b0_10, rfl, w0_10⟩, g0_11⟩ := listIs_cons g0_10
  obtain ⟨_, cs0_12, rfl, ⟨b0_11, rfl, w0_11⟩, g0_12⟩ := listIs_cons g0_11
  obtain ⟨_, cs0_13, rfl, ⟨b0_12, rfl⟩, g0_13⟩ := listIs_cons g0_12
  obtain ⟨_, cs0_14, rfl, ⟨b0_13, rfl, w0_13⟩, g0_14⟩ := listIs_cons g0_13
  obtain rfl := listIs_nil g0_14
  subst hv0
  obtain ⟨A1, n1, c1, s1⟩ := slice_open (d := 6) (row := [some .i64, some .i64, some .u8, some .u8, some .u8, some .u8, some .u8, some .u8, none, some .i64, some .i64, some .i64, none, some .i64]) Try.underlying26 (by kernel_rfl) (by kernel_rfl) (hval 1 26 v1 rfl rfl) h1
  obtain ⟨a2, rfl, rfl, rfl, w2⟩ := open_int Try.underlying3 (hval 2 3 v2 rfl rfl) h2
  obtain ⟨cs3, hv3, hl3, hc3⟩ := agg_open (d := 6) (row := [some .u8, some .u8, some .u8, some .u8, some .u8, some .u8]) (by kernel_rfl) (by kernel_rfl) (hval 3 23 v3 rfl rfl) h3
  have g3_0 := listIs_of hl3 hc3
  clear hl3 hc3
  obtain ⟨_, cs3_1, rfl, ⟨b3_0, rfl, w3_0⟩, g3_1⟩ := listIs_cons g3_0
  obtain ⟨_, cs3_2, rfl, ⟨b3_1, rfl, w3_1⟩, g3_2⟩ := listIs_cons g3_1
  obtain ⟨_, cs3_3, rfl, ⟨b3_2, rfl, w3_2⟩, g3_3⟩ := listIs_cons g3_2
  obtain ⟨_, cs3_4, rfl, ⟨b3_3, rfl, w3_3⟩, g3_4⟩ := listIs_cons g3_3
  obtain ⟨_, cs3_5, rfl, ⟨b3_4, rfl, w3_4⟩, g3_5⟩ := listIs_cons g3_4
  obtain ⟨_, cs3_6, rfl, ⟨b3_5, rfl, w3_5⟩, g3_6⟩ := listIs_cons g3_5
  obtain rfl := listIs_nil g3_6
  subst hv3
  refine Calls.mono (law_calls mixed Try.func3 (runs ⟨b0_0, b0_1, b0_2, b0_3, b0_4, b0_5, b0_6, b0_7, b0_8, b0_9, b0_10, b0_11, b0_12, b0_13⟩ a2 ⟨b3_0, b3_1, b3_2, b3_3, b3_4, b3_5⟩ ⟨n1, c1, n1, ⟨fun r => intC W A1 (r * 14 + 0), fun r => intC W A1 (r * 14 + 1), fun r => intC W A1 (r * 14 + 2), fun r => intC W A1 (r * 14 + 3), fun r => intC W A1 (r * 14 + 4), fun r => intC W A1 (r * 14 + 5), fun r => intC W A1 (r * 14 + 6), fun r => intC W A1 (r * 14 + 7), fun r => boolC W A1 (r * 14 + 8), fun r => intC W A1 (r * 14 + 9), fun r => intC W A1 (r * 14 + 10), fun r => intC W A1 (r * 14 + 11), fun r => boolC W A1 (r * 14 + 12), fun r => intC W A1 (r * 14 + 13)⟩⟩ (sw_mk ⟨s1.le, Nat.le_refl _, s1.max⟩)) (e := envOf [A1]) (rel_in1 s1.reg) (Nat.le_refl 1) (by rw [s1.val]; exact (den_on (x := ⟨b0_0, b0_1, b0_2, b0_3, b0_4, b0_5, b0_6, b0_7, b0_8, b0_9, b0_10, b0_11, b0_12, b0_13⟩) (m := ⟨b3_0, b3_1, b3_2, b3_3, b3_4, b3_5⟩)).symm)) fun e W' ⟨he, hb⟩ => ?_
  subst he
  exact ⟨_, rfl, law_post hW' rfl rfl (by kernel_rfl) (by decide +kernel) rfl Try.underlying4 hb⟩

theorem over : Rows.sieveForgedRow.holds Try.pinned (OpenSpec.ofChange Rows.sieveForgedSpec) :=
  OpenClaim.holds_of_wide 3 Try.f3 rfl rfl rfl rfl rfl rfl rfl ⟨rfl, rfl, rfl, rfl, rfl⟩ rfl rfl rfl rfl rfl (by kernel_rfl) Try.func3 (by kernel_rfl)
    (of_decide_eq_true (by kernel_rfl)) (by unfold Func.isWrapper; first | (rw [if_pos (by decide +kernel)]; kernel_rfl) | (rw [if_neg (by decide +kernel)]; exact ⟨rfl, rfl⟩))
    (fun os started H enc _ => lifted os started H enc)

/-- SieveForged -/
theorem proved : Rows.SieveForgedSaid := over
#print axioms proved
end Go.Proofs.Ytmhggafgdilgeaa.sieveForged
