/-
  For all numbers of ports, VLANs, addresses, ports and places where it was seen the law FdbApart answers true and leaves all memory as it was.
-/
import Derived.Test.YtnkmfkongmijfaaSx
import Derived.Test.YtnkmfkongmijfaaFdbP
import Derived.Test.YtnkmfkongmijfaaRows
import Derived.WalkKit
import Derived.ProofKit
import Derived.OpenShut
namespace Go.Proofs.Ytnkmfkongmijfaa.fdbApart
open Go.ChangeShapes Go.WideShapes Go.ChangeAt Go.RowKit Go.Sx
set_option linter.unusedVariables false
set_option linter.unusedSimpArgs false
set_option maxRecDepth 100000

structure IS where
  len : Nat
  cap : Nat
  N : Nat
  g : Nat → Int
def roS (a : IS) : Option Reg := some ⟨false, .tab a.N [.int .i64 a.g]⟩
def Tw (a : IS) : Prop := a.len ≤ a.cap ∧ a.len ≤ a.N ∧ a.cap ≤ 9223372036854775807
theorem pw_of {a b c d e f g : Int} (h0 : (Lit.int .i64 a).wf = true) (h1 : (Lit.int .u8 b).wf = true) (h2 : (Lit.int .u8 c).wf = true) (h3 : (Lit.int .u8 d).wf = true) (h4 : (Lit.int .u8 e).wf = true) (h5 : (Lit.int .u8 f).wf = true) (h6 : (Lit.int .u8 g).wf = true) : PlW ⟨a, b, c, d, e, f, g⟩ :=
  ⟨(Lit.wf_int_iff _ _).1 h0, (Lit.wf_int_iff _ _).1 h1, (Lit.wf_int_iff _ _).1 h2, (Lit.wf_int_iff _ _).1 h3, (Lit.wf_int_iff _ _).1 h4, (Lit.wf_int_iff _ _).1 h5, (Lit.wf_int_iff _ _).1 h6, trivial⟩
theorem den_on {A : Option Addr} {n cap : Nat} {a c : Int} {v : Vl} {p : Pl} : #[SV.den (envOf [A]) (int_ .i64 a), SV.den (envOf [A]) (.one (vlC v)), SV.den (envOf [A]) (.one (plC p)), SV.den (envOf [A]) (int_ .i64 c), SV.den (envOf [A]) (.one (.a (.slc 0 1 0 n cap)))] = #[.int .i64 a, .agg #[.int .i64 v.po, .int .i64 v.ba], .agg #[.int .i64 p.vid, .int .u8 p.m0, .int .u8 p.m1, .int .u8 p.m2, .int .u8 p.m3, .int .u8 p.m4, .int .u8 p.m5], .int .i64 c, .slice A n cap] := by
  show #[_, _, _, _, SA.den (envOf [A]) (.slc 0 1 0 n cap)] = _
  rw [den_slc (A := A) rfl]; rfl
def nn (n : Int) : Int := IntKind.i64.wrap (1 + bits .and .i64 n 7)
theorem nn_in (n : Int) : nn n = 1 + bits .and .i64 n 7 ∧ 0 ≤ bits .and .i64 n 7 ∧ bits .and .i64 n 7 ≤ 7 := by
  have h : bits .and .i64 n 7 = n % 8 := and_mask n 3 (by decide)
  unfold nn
  rw [h, w64' (by omega) (by omega)]
  omega
theorem nn_ok (n : Int) : nOK (nn n) 50 := by
  have := nn_in n
  exact ⟨by omega, by decide⟩
structure LX where
  i : Nat
  t : Ft
noncomputable abbrev laS (n a : Int) (v : Vl) (p : Pl) (s : IS) : LA where
  ι := LX
  inv := fun x => x.i ≤ s.len ∧ (x.t.n : Int) = nn n ∧ vPo x.t p.vid = v.po ∧ vBa x.t p.vid = v.ba
  T := fun x => ⟨116, [(0, int_ .i64 n), (3, int_ .i64 a), (6, .one (.a (.ptr 1 0))), (7, .one (.a (.ptr 2 0))), (11, .one (.a (.ptr 3 0))), (65, .one (.a (.slc 0 1 0 s.len s.cap))), (66, int_ .i64 s.len), (67, int_ .i64 x.i)], [roS s, some ⟨true, .flat [i_ v.po, i_ v.ba]⟩, some ⟨true, .flat [i_ p.vid, u_ p.m0, u_ p.m1, u_ p.m2, u_ p.m3, u_ p.m4, u_ p.m5]⟩, some ⟨true, .obj 82 (ftP x.t) (boxI ftK)⟩]⟩
  μ := fun x => s.len - x.i
  ren := fun S => [0, S.ix 6, S.ix 7, S.ix 11]
noncomputable def cxL (n a : Int) (v : Vl) (p : Pl) (s : IS) : Cx Try.prog := { ps := [hdS, otS], es := [newS, svS, lrS], is := [], n0 := 1, loops := fun i => match i with | 10 => some (.inv (laS n a v p s)) | _ => none, cuts := fun _ => none }
theorem lr_same {t : Ft} {p q : Pl} {a now : Int} : (lrT t p a now).n = t.n ∧ vPo (lrT t p a now) q.vid = vPo t q.vid ∧ vBa (lrT t p a now) q.vid = vBa t q.vid := by
  unfold lrT
  split <;> exact ⟨rfl, rfl, rfl⟩
theorem sv_ok {t : Ft} {x : Int} {v : Vl} (h : ¬¬ svE t x v = 0) : ¬ svBad t x v := fun hb => h (fun he => by
  unfold svE at he
  rw [if_pos hb] at he
  exact absurd he (by decide))
theorem sm_ok {t : Ft} {x : Int} {v : Vl} (h : ¬ svBad t x v) (hn : t.n ≤ 8) : Sm v.po := by
  unfold svBad at h
  have h2 : (2 : Nat) ^ t.n ≤ 2 ^ 8 := Nat.pow_le_pow_right (by decide) hn
  refine sm_of ⟨by omega, ?_⟩
  have h3 : ((2 ^ t.n : Nat) : Int) ≤ ((2 ^ 8 : Nat) : Int) := Int.ofNat_le.2 h2
  have h4 : ((2 ^ 8 : Nat) : Int) = 256 := rfl
  omega
theorem bare_ok {t : Ft} {a b : Int} {p : Pl} (h : vBa t p.vid = b) : otB t a p = bits .and .i64 (otP t a p) b := by
  rcases ot_bare (t := t) (a := a) (p := p) with h1 | ⟨h1, h2⟩
  · rw [h1, h]
  · rw [h1, h2, and_0]
theorem out_ok {t : Ft} {a b : Int} {p : Pl} (h : vPo t p.vid = b) : bits .andNot .i64 (otP t a p) b = 0 := by rw [← h]; exact ot_in
theorem self_ok {t : Ft} {a b : Int} {p : Pl} (h : vPo t p.vid = b) (hs : Sm b) (ha : 0 ≤ a ∧ a < 8) : bits .and .i64 ((otP t a p).fdiv (2 ^ min (IntKind.u64.wrap a).toNat IntKind.i64.bits)) 1 = 0 := ot_self (by rw [h]; exact hs) ha
theorem ft0_n {n r : Int} : (ft0 n r).n = n.toNat ∧ (ft0 n r).vl = [] ∧ (ft0 n r).al = [] := ⟨rfl, rfl, rfl⟩
theorem al_sv {t : Ft} {x : Int} {v : Vl} : (svT t x v).al = t.al := by
  unfold svT
  split <;> rfl
theorem first_ok {n a x : Int} {p : Pl} {v : Vl} (hx : p.vid = x) (h : ¬ svBad (ft0 (nn n) 50) x v) (h0 : 0 ≤ a) (h1 : a ≤ bits .and .i64 n 7) : otP (svT (ft0 (nn n) 50) x v) a p = bits .andNot .i64 v.po (IntKind.i64.wrap (1 * 2 ^ min (IntKind.u64.wrap a).toNat IntKind.i64.bits)) := by
  subst hx
  have hn := nn_in n
  obtain ⟨e1, e2, e3⟩ := vPo_put h rfl
  have e4 : ((svT (ft0 (nn n) 50) p.vid v).n : Int) = nn n := by
    rw [e3]; show (((nn n).toNat : Nat) : Int) = nn n; omega
  unfold otP
  rw [if_neg (by rw [e4]; omega)]
  have e5 : aGet (svT (ft0 (nn n) 50) p.vid v) p = none := by
    unfold aGet
    rw [al_sv]; rfl
  rw [e5, wu64' h0 (by omega)]
  show bits .andNot .i64 (vPo _ p.vid) (bitI a) = _
  rw [e1]; rfl
theorem inv_0 {n : Int} {p : Pl} {v : Vl} (h : ¬ svBad (ft0 (nn n) 50) p.vid v) : ((svT (ft0 (nn n) 50) p.vid v).n : Int) = nn n ∧ vPo (svT (ft0 (nn n) 50) p.vid v) p.vid = v.po ∧ vBa (svT (ft0 (nn n) 50) p.vid v) p.vid = v.ba := by
  have hn := nn_in n
  obtain ⟨e1, e2, e3⟩ := vPo_put h rfl
  refine ⟨?_, e1, e2⟩
  rw [e3]; show (((nn n).toNat : Nat) : Int) = nn n; omega
theorem wrap_nn (a : Int) : 0 ≤ IntKind.u64.wrap a := by rw [wu64]; omega
attribute [local irreducible] enter nOK svE svT lrE lrT otP otB ft0 PlW vPo vBa
set_option maxHeartbeats 8000000 in
theorem runs (n : Int) (v : Vl) (p : Pl) (a : Int) (s : IS) (hp : PlW p) (hw : Tw s) : Runs (cxL n a v p s) Try.f3 [int_ .i64 n, .one (vlC v), .one (plC p), int_ .i64 a, .one (.a (.slc 0 1 0 s.len s.cap))] [roS s] yes := by
  obtain ⟨w1, w2, w3⟩ := hw
  have hn := nn_in n
  have hok := nn_ok n
  repeat' (first | with_reducible exact trivial | with_reducible exact rfl | with_reducible exact Nat.le_refl _ | with_reducible exact (fun _ _ => rfl) | ((conv => whnf); first | (refine fun (x : LX) => ?_) | (exact fun h => absurd h (by decide)) | (intro h9; (have h8 := of_decide_eq_true (p := type_of% h9) (by decide)); clear h8 h9) | (refine fun _ => ?_) | refine ⟨?_, ?_⟩ | exact trivial | exact Nat.le_refl _ | exact lex_q (by kernel_rfl) | exact lex_t (by kernel_rfl) | exact lex_h (by kernel_rfl) | fail))
  all_goals (try exact absurd (by assumption : (!true) = true) (by decide))
  all_goals (try exact absurd hok (by assumption))
  all_goals (try exact hp)
  · exact (decide_eq_true rfl).symm
  all_goals (have hE := sv_ok (t := ft0 (nn n) 50) (x := p.vid) (v := v) (by assumption); have hS := sm_ok hE (by rw [ft0_n.1]; omega); have hI := inv_0 (p := p) hE)
  all_goals (try exact wrap_nn a)
  · exact absurd (first_ok (x := p.vid) rfl hE (by assumption) (by assumption)) (by assumption)
  all_goals (try (have hx := (by assumption : (laS n a v p s).inv x); dsimp only [laS] at hx; obtain ⟨x1, x2, x3, x4⟩ := hx))
  all_goals (try omega)
  all_goals (try first | exact absurd (out_ok (t := x.t) (a := a) (p := p) x3) (by assumption) | exact absurd (bare_ok (t := x.t) (a := a) (p := p) x4) (by assumption) | exact (decide_eq_true (self_ok (t := x.t) (a := a) (p := p) x3 hS (by omega))).symm | fail)
  · (conv => whnf); refine enter_mk (la := laS n a v p s) ⟨0, svT (ft0 (nn n) 50) p.vid v⟩ ?_ (by (repeat' (first | ((conv => whnf); first | refine ⟨?_, ?_⟩ | exact trivial | fail) | (dsimp only; done) | ((try dsimp only); first | with_reducible exact rfl | exact Nat.le_refl _ | with_reducible exact (fun _ _ => rfl)))); all_goals ((first | rfl | decide)))
    exact ⟨Nat.zero_le _, hI⟩
  · (conv => whnf)
    (conv => whnf); refine enter_mk (la := laS n a v p s) ⟨x.i + 1, lrT x.t p _ _⟩ ?_ (by (repeat' (first | ((conv => whnf); first | refine ⟨?_, ?_⟩ | exact trivial | fail) | (dsimp only; done) | ((try dsimp only); first | with_reducible exact rfl | exact Nat.le_refl _ | with_reducible exact (fun _ _ => rfl)))); all_goals ((first | rfl | (show s.len - (x.i + 1) < s.len - x.i; omega) | (dsimp only; rw [w64' (by omega) (by omega)]; omega))))
    exact ⟨by show x.i + 1 ≤ s.len; omega, by rw [(lr_same (q := p)).1]; exact x2, by rw [lr_same.2.1]; exact x3, by rw [lr_same.2.2]; exact x4⟩
  · (conv => whnf); refine enter_mk (la := laS n a v p s) ⟨x.i + 1, x.t⟩ ?_ (by (repeat' (first | ((conv => whnf); first | refine ⟨?_, ?_⟩ | exact trivial | fail) | (dsimp only; done) | ((try dsimp only); first | with_reducible exact rfl | exact Nat.le_refl _ | with_reducible exact (fun _ _ => rfl)))); all_goals ((first | rfl | (show s.len - (x.i + 1) < s.len - x.i; omega) | (dsimp only; rw [w64' (by omega) (by omega)]; omega))))
    exact ⟨by show x.i + 1 ≤ s.len; omega, x2, x3, x4⟩
  · (conv => whnf); refine enter_mk (la := laS n a v p s) ⟨0, svT (ft0 (nn n) 50) p.vid v⟩ ?_ (by (repeat' (first | ((conv => whnf); first | refine ⟨?_, ?_⟩ | exact trivial | fail) | (dsimp only; done) | ((try dsimp only); first | with_reducible exact rfl | exact Nat.le_refl _ | with_reducible exact (fun _ _ => rfl)))); all_goals ((first | rfl | decide)))
    exact ⟨Nat.zero_le _, hI⟩
  · (conv => whnf)
    (conv => whnf); refine enter_mk (la := laS n a v p s) ⟨x.i + 1, lrT x.t p _ _⟩ ?_ (by (repeat' (first | ((conv => whnf); first | refine ⟨?_, ?_⟩ | exact trivial | fail) | (dsimp only; done) | ((try dsimp only); first | with_reducible exact rfl | exact Nat.le_refl _ | with_reducible exact (fun _ _ => rfl)))); all_goals ((first | rfl | (show s.len - (x.i + 1) < s.len - x.i; omega) | (dsimp only; rw [w64' (by omega) (by omega)]; omega))))
    exact ⟨by show x.i + 1 ≤ s.len; omega, by rw [(lr_same (q := p)).1]; exact x2, by rw [lr_same.2.1]; exact x3, by rw [lr_same.2.2]; exact x4⟩
  · (conv => whnf); refine enter_mk (la := laS n a v p s) ⟨x.i + 1, x.t⟩ ?_ (by (repeat' (first | ((conv => whnf); first | refine ⟨?_, ?_⟩ | exact trivial | fail) | (dsimp only; done) | ((try dsimp only); first | with_reducible exact rfl | exact Nat.le_refl _ | with_reducible exact (fun _ _ => rfl)))); all_goals ((first | rfl | (show s.len - (x.i + 1) < s.len - x.i; omega) | (dsimp only; rw [w64' (by omega) (by omega)]; omega))))
    exact ⟨by show x.i + 1 ≤ s.len; omega, x2, x3, x4⟩
  · (conv => whnf); refine enter_mk (la := laS n a v p s) ⟨0, svT (ft0 (nn n) 50) p.vid v⟩ ?_ (by (repeat' (first | ((conv => whnf); first | refine ⟨?_, ?_⟩ | exact trivial | fail) | (dsimp only; done) | ((try dsimp only); first | with_reducible exact rfl | exact Nat.le_refl _ | with_reducible exact (fun _ _ => rfl)))); all_goals ((first | rfl | decide)))
    exact ⟨Nat.zero_le _, hI⟩
  · (conv => whnf)
    (conv => whnf); refine enter_mk (la := laS n a v p s) ⟨x.i + 1, lrT x.t p _ _⟩ ?_ (by (repeat' (first | ((conv => whnf); first | refine ⟨?_, ?_⟩ | exact trivial | fail) | (dsimp only; done) | ((try dsimp only); first | with_reducible exact rfl | exact Nat.le_refl _ | with_reducible exact (fun _ _ => rfl)))); all_goals ((first | rfl | (show s.len - (x.i + 1) < s.len - x.i; omega) | (dsimp only; rw [w64' (by omega) (by omega)]; omega))))
    exact ⟨by show x.i + 1 ≤ s.len; omega, by rw [(lr_same (q := p)).1]; exact x2, by rw [lr_same.2.1]; exact x3, by rw [lr_same.2.2]; exact x4⟩
  · (conv => whnf); refine enter_mk (la := laS n a v p s) ⟨x.i + 1, x.t⟩ ?_ (by (repeat' (first | ((conv => whnf); first | refine ⟨?_, ?_⟩ | exact trivial | fail) | (dsimp only; done) | ((try dsimp only); first | with_reducible exact rfl | exact Nat.le_refl _ | with_reducible exact (fun _ _ => rfl)))); all_goals ((first | rfl | (show s.len - (x.i + 1) < s.len - x.i; omega) | (dsimp only; rw [w64' (by omega) (by omega)]; omega))))
    exact ⟨by show x.i + 1 ≤ s.len; omega, x2, x3, x4⟩

theorem own : ownKnob Try.prog.godebug = none := by kernel_rfl

set_option maxRecDepth 100000 in
theorem lifted (os : Os) (started : os.Started) (H : Type) (enc : TypeId × Value → H) :
    ReturnsInHanded {} Try.checked os 3 .any (Rows.fdbApartSpec.pre6 enc Try.prog Try.f3 Rows.fdbApartRow.domain false) (Rows.fdbApartSpec.post enc Try.prog Try.f3 false true false false) := by
  refine returnsInHanded_of_change (C := Try.checked) own started (by kernel_rfl) Try.func3
    (ChangeSpec.witness6 (enc := enc) (C := Try.checked) false ⟨#[], #[.int .i64 0, .agg #[.int .i64 0, .int .i64 0], .agg #[.int .i64 0, .int .u8 0, .int .u8 0, .int .u8 0, .int .u8 0, .int .u8 0, .int .u8 0], .int .i64 0, .slice none 0 0], []⟩ 8 (by kernel_rfl) (by kernel_rfl) (by kernel_rfl) (by kernel_rfl)) ?_
  intro W base args ds gs before hval0 hW hcnd _
  have hval : ∀ (j : Nat) t v, Try.f3.params[j]? = some t → args[j]? = some v → Value.okWide Try.prog W .any base t v := hval0
  have hW' := hW
  obtain ⟨p, q, hA0, hV, rfl, hfz, hnd⟩ := hW
  have hA : DataW.TrodAll enc Try.prog W 0 (fun _ => true) true Try.f3.params.toList args.toList ds p := hA0
  rw [Try.params3] at hA hval
  obtain ⟨v0, vs0, d0, ds0, p0, q0, hargs0, rfl, rfl, h0, r0⟩ := trodAll_cons hA
  obtain ⟨v1, vs1, d1, ds1, p1, q1, hargs1, rfl, rfl, h1, r1⟩ := trodAll_cons r0
  obtain ⟨v2, vs2, d2, ds2, p2, q2, hargs2, rfl, rfl, h2, r2⟩ := trodAll_cons r1
  obtain ⟨v3, vs3, d3, ds3, p3, q3, hargs3, rfl, rfl, h3, r3⟩ := trodAll_cons r2
  obtain ⟨v4, vs4, d4, ds4, p4, q4, hargs4, rfl, rfl, h4, r4⟩ := trodAll_cons r3
  obtain ⟨rfl, rfl, rfl⟩ := trodAll_nil r4
  obtain ⟨rfl, rfl⟩ := trodVars_none hV
  obtain rfl : args = #[v0, v1, v2, v3, v4] := by cases args; simp_all
  obtain ⟨a0, rfl, rfl, rfl, w0⟩ := open_int Try.underlying3 (hval 0 3 v0 rfl rfl) h0
  obtain ⟨cs1, hv1, hl1, hc1⟩ := agg_open (d := 6) (row := [some .i64, some .i64]) (by kernel_rfl) (by kernel_rfl) (hval 1 23 v1 rfl rfl) h1
  have g1_0 := listIs_of hl1 hc1
  clear hl1 hc1
  obtain ⟨_, cs1_1, rfl, ⟨b1_0, rfl, w1_0⟩, g1_1⟩ := listIs_cons g1_0
  obtain ⟨_, cs1_2, rfl, ⟨b1_1, rfl, w1_1⟩, g1_2⟩ := listIs_cons g1_1
  obtain rfl := listIs_nil g1_2
  subst hv1
  obtain ⟨cs2, hv2, hl2, hc2⟩ := agg_open (d := 6) (row := [some .i64, some .u8, some .u8, some .u8, some .u8, some .u8, some .u8]) (by kernel_rfl) (by kernel_rfl) (hval 2 27 v2 rfl rfl) h2
  have g2_0 := listIs_of hl2 hc2
  clear hl2 hc2
  obtain ⟨_, cs2_1, rfl, ⟨b2_0, rfl, w2_0⟩, g2_1⟩ := listIs_cons g2_0
  obtain ⟨_, cs2_2, rfl, ⟨b2_1, rfl, w2_1⟩, g2_2⟩ := listIs_cons g2_1
  obtain ⟨_, cs2_3, rfl, ⟨b2_2, rfl, w2_2⟩, g2_3⟩ := listIs_cons g2_2
  obtain ⟨_, cs2_4, rfl, ⟨b2_3, rfl, w2_3⟩, g2_4⟩ := listIs_cons g2_3
  obtain ⟨_, cs2_5, rfl, ⟨b2_4, rfl, w2_4⟩, g2_5⟩ := listIs_cons g2_4
  obtain ⟨_, cs2_6, rfl, ⟨b2_5, rfl, w2_5⟩, g2_6⟩ := listIs_cons g2_5
  obtain ⟨_, cs2_7, rfl, ⟨b2_6, rfl, w2_6⟩, g2_7⟩ := listIs_cons g2_6
  obtain rfl := listIs_nil g2_7
  subst hv2
  obtain ⟨a3, rfl, rfl, rfl, w3⟩ := open_int Try.underlying3 (hval 3 3 v3 rfl rfl) h3
  obtain ⟨A4, n4, c4, s4⟩ := slice_open (d := 6) (row := [some .i64]) Try.underlying28 (by kernel_rfl) (by kernel_rfl) (hval 4 28 v4 rfl rfl) h4
  refine Calls.mono (law_calls mixed Try.func3 (runs a0 ⟨b1_0, b1_1⟩ ⟨b2_0, b2_1, b2_2, b2_3, b2_4, b2_5, b2_6⟩ a3 ⟨n4, c4, n4, fun r => intC W A4 (r * 1 + 0)⟩ (pw_of w2_0 w2_1 w2_2 w2_3 w2_4 w2_5 w2_6) ⟨s4.le, Nat.le_refl _, s4.max⟩) (e := envOf [A4]) (rel_in1 s4.reg) (Nat.le_refl 1) (by rw [s4.val]; exact (den_on (v := ⟨b1_0, b1_1⟩) (p := ⟨b2_0, b2_1, b2_2, b2_3, b2_4, b2_5, b2_6⟩)).symm)) fun e W' ⟨he, hb⟩ => ?_
  subst he
  exact ⟨_, rfl, law_post hW' rfl rfl (by kernel_rfl) (by decide +kernel) rfl Try.underlying4 hb⟩

theorem over : Rows.fdbApartRow.holds Try.pinned (OpenSpec.ofChange Rows.fdbApartSpec) :=
  OpenClaim.holds_of_wide 3 Try.f3 rfl rfl rfl rfl rfl rfl rfl ⟨rfl, rfl, rfl, rfl, rfl⟩ rfl rfl rfl rfl rfl (by kernel_rfl) Try.func3 (by kernel_rfl)
    (of_decide_eq_true (by kernel_rfl)) (by unfold Func.isWrapper; first | (rw [if_pos (by decide +kernel)]; kernel_rfl) | (rw [if_neg (by decide +kernel)]; exact ⟨rfl, rfl⟩))
    (fun os started H enc _ => lifted os started H enc)

/-- FdbApart -/
theorem proved : Rows.FdbApartSaid := over
#print axioms proved
end Go.Proofs.Ytnkmfkongmijfaa.fdbApart
