/-
  For all addresses, places where it was seen and numbers the law FdbMoves answers true and leaves all memory as it was.
-/
import Derived.Test.YtnkmfkongmijfaaSx
import Derived.Test.YtnkmfkongmijfaaFdbQ
import Derived.Test.YtnkmfkongmijfaaRows
import Derived.WalkKit
import Derived.ProofKit
import Derived.OpenShut
namespace Go.Proofs.Ytnkmfkongmijfaa.fdbMoves
open Go.ChangeShapes Go.WideShapes Go.ChangeAt Go.RowKit Go.Sx
set_option linter.unusedVariables false
set_option linter.unusedSimpArgs false
set_option maxRecDepth 100000

structure IS where
  len : Nat
  cap : Nat
  N : Nat
  g : Nat → Int
def roS (a : IS) : Option Reg := some ⟨false, .tab a.N [.int .i64 a.g]⟩
def Tw (a : IS) : Prop := a.len ≤ a.cap ∧ a.len ≤ a.N ∧ a.cap ≤ 9223372036854775807
theorem pw_of {a b c d e f g : Int} (h0 : (Lit.int .i64 a).wf = true) (h1 : (Lit.int .u8 b).wf = true) (h2 : (Lit.int .u8 c).wf = true) (h3 : (Lit.int .u8 d).wf = true) (h4 : (Lit.int .u8 e).wf = true) (h5 : (Lit.int .u8 f).wf = true) (h6 : (Lit.int .u8 g).wf = true) : PlW ⟨a, b, c, d, e, f, g⟩ :=
  ⟨(Lit.wf_int_iff _ _).1 h0, (Lit.wf_int_iff _ _).1 h1, (Lit.wf_int_iff _ _).1 h2, (Lit.wf_int_iff _ _).1 h3, (Lit.wf_int_iff _ _).1 h4, (Lit.wf_int_iff _ _).1 h5, (Lit.wf_int_iff _ _).1 h6, trivial⟩
theorem den_on {A : Option Addr} {n cap : Nat} {c : Int} {p : Pl} : #[SV.den (envOf [A]) (.one (plC p)), SV.den (envOf [A]) (.one (.a (.slc 0 1 0 n cap))), SV.den (envOf [A]) (int_ .i64 c)] = #[.agg #[.int .i64 p.vid, .int .u8 p.m0, .int .u8 p.m1, .int .u8 p.m2, .int .u8 p.m3, .int .u8 p.m4, .int .u8 p.m5], .slice A n cap, .int .i64 c] := by
  show #[_, SA.den (envOf [A]) (.slc 0 1 0 n cap), _] = _
  rw [den_slc (A := A) rfl]; rfl
/-- the address that is used -/
def pq (p : Pl) : Pl := ⟨vId p.vid, bits .and .u8 p.m0 254, p.m1, p.m2, p.m3, p.m4, p.m5⟩
theorem pq_vid (p : Pl) : 1 ≤ (pq p).vid ∧ (pq p).vid ≤ 1024 := vId_in p.vid
theorem pq_grp {p : Pl} (h : PlW p) : ¬ grp (pq p) := even_m h.m.1
theorem pq_w {p : Pl} (h : PlW p) : PlW (pq p) := by
  obtain ⟨h0, h1, h2, h3, h4, h5, h6, _⟩ := h
  have := vId_in p.vid
  exact ⟨⟨by show (-9223372036854775808 : Int) ≤ vId p.vid; omega, by show vId p.vid ≤ (9223372036854775807 : Int); omega⟩, in_u8 _, h2, h3, h4, h5, h6, trivial⟩
def sn (x : Int) : Int := Int.tmod (bits .and .i64 x 255) 6
theorem sn_in (x : Int) : 0 ≤ sn x ∧ sn x ≤ 5 := by
  have h : bits .and .i64 x 255 = x % 256 := and_mask x 8 (by decide)
  unfold sn
  rw [h, Int.tmod_eq_emod_of_nonneg (by omega)]; omega
theorem mv_ok : nOK 6 9 := by unfold nOK; decide
structure LX where
  i : Nat
  last : Int
  t : Ft
def plR (p : Pl) : Option Reg := some ⟨true, .flat [i_ p.vid, u_ p.m0, u_ p.m1, u_ p.m2, u_ p.m3, u_ p.m4, u_ p.m5]⟩
noncomputable abbrev laS (p : Pl) (s : IS) : LA where
  ι := LX
  inv := fun x => (x.i ≤ s.len ∧ x.i ≤ 30) ∧ MvI (pq p) x.i x.last x.t
  T := fun x => ⟨120, [(1, .one (.a (.slc 0 1 0 s.len s.cap))), (3, .one (.a (.ptr 1 0))), (7, .one (.a (.ptr 2 0))), (9, int_ .i64 x.last), (10, int_ .i64 x.i)], [roS s, plR (pq p), some ⟨true, .obj 82 (ftP x.t) (boxI ftK)⟩]⟩
  μ := fun x => s.len - x.i
  ren := fun S => [0, S.ix 3, S.ix 7]
structure LY where
  a : Nat
  last : Int
  t : Ft
noncomputable abbrev laU (p : Pl) (s : IS) : LA where
  ι := LY
  inv := fun x => x.a ≤ 6 ∧ MvI (pq p) 30 x.last x.t
  T := fun x => ⟨120, [(3, .one (.a (.ptr 1 0))), (7, .one (.a (.ptr 2 0))), (9, int_ .i64 x.last), (11, int_ .i64 x.a)], [roS s, plR (pq p), some ⟨true, .obj 82 (ftP x.t) (boxI ftK)⟩]⟩
  μ := fun x => 6 - x.a
  ren := fun S => [0, S.ix 3, S.ix 7]
noncomputable def cxL (p : Pl) (s : IS) : Cx Try.prog := { ps := [hdS, otS, lnS], es := [newS, svS, spS, lrS, agS], is := [], n0 := 1, loops := fun i => match i with | 10 => some (.inv (laS p s)) | 16 => some (.inv (laU p s)) | _ => none, cuts := fun _ => none }
theorem mv_more {p : Pl} {i j last : Int} {t : Ft} (h : MvI p i last t) (hij : i ≤ j) : MvI p j last t :=
  ⟨h.n, h.room, h.vl, h.al.imp id fun ⟨h1, h2, s, b, h3, h4⟩ => ⟨h1, h2, s, b, by omega, h4⟩⟩
theorem mv_sv (p : Pl) : svE (ft0 6 9) (vId p.vid) ⟨63, 0⟩ = 0 := (sv_good (t := ft0 6 9) (vId_in p.vid) (by decide) (by show (63 : Int) < ((2 ^ 6 : Nat) : Int); decide)).1
theorem sh_a {a : Int} (h : 0 ≤ a ∧ a ≤ 5) : IntKind.i64.wrap (1 * 2 ^ min (IntKind.u64.wrap a).toNat IntKind.i64.bits) = bitI a := by
  rw [wu64' h.1 (by omega)]; rfl
theorem w_yes {last a : Int} (hl : 0 ≤ last) (h5 : last ≤ 5) (h : 0 ≤ a ∧ a ≤ 5) : bits .andNot .i64 (IntKind.i64.wrap (1 * 2 ^ min (IntKind.u64.wrap last).toNat IntKind.i64.bits)) (IntKind.i64.wrap (1 * 2 ^ min (IntKind.u64.wrap a).toNat IntKind.i64.bits)) = mvW last a := by
  rw [sh_a h, sh_a ⟨hl, h5⟩]; unfold mvW; rw [if_pos hl]
theorem w_no {last a : Int} (hl : ¬ 0 ≤ last) (h : 0 ≤ a ∧ a ≤ 5) : bits .andNot .i64 63 (IntKind.i64.wrap (1 * 2 ^ min (IntKind.u64.wrap a).toNat IntKind.i64.bits)) = mvW last a := by
  rw [sh_a h]; unfold mvW; rw [if_neg hl]
theorem mv_5 {p : Pl} {i last : Int} {t : Ft} (h : MvI p i last t) : last ≤ 5 := by
  rcases h.al with h1 | h1
  · omega
  · exact h1.2.1
theorem wrap_nn (a : Int) : 0 ≤ IntKind.u64.wrap a := by rw [wu64]; omega
theorem mv_eq {p : Pl} {i last s : Int} {t : Ft} (h : MvI p i last t) (hs : i ≤ s) : (decide ((t.al.length : Int) - (agL t s).length = 1) == decide (0 ≤ last)) = true := by
  obtain ⟨h1, h2, h3⟩ := mv_age h hs
  rw [h1, beq_iff_eq, decide_eq_decide, ← h2]
  show (t.al.length : Int) - ((0 : Nat) : Int) = 1 ↔ _
  omega
attribute [local irreducible] enter nOK svE svT spE spT lrE lrT otP otB ft0 PlW vPo vBa agT agL mvW
set_option maxHeartbeats 8000000 in
theorem runs (p : Pl) (z : Int) (s : IS) (hp : PlW p) (hw : Tw s) : Runs (cxL p s) Try.f5 [.one (plC p), .one (.a (.slc 0 1 0 s.len s.cap)), int_ .i64 z] [roS s] yes := by
  obtain ⟨w1, w2, w3⟩ := hw
  have hok := mv_ok
  have hv := pq_vid p
  have hg := pq_grp hp
  have hpw := pq_w hp
  have hsv := mv_sv p
  repeat' (first | with_reducible exact trivial | with_reducible exact rfl | with_reducible exact Nat.le_refl _ | with_reducible exact (fun _ _ => rfl) | ((conv => whnf); first | (refine fun (x : LX) => ?_) | (refine fun (y : LY) => ?_) | (exact fun h => absurd h (by decide)) | (intro h9; (have h8 := of_decide_eq_true (p := type_of% h9) (by decide)); clear h8 h9) | (refine fun _ => ?_) | refine ⟨?_, ?_⟩ | exact trivial | exact Nat.le_refl _ | exact lex_q (by kernel_rfl) | exact lex_t (by kernel_rfl) | exact lex_h (by kernel_rfl) | fail))
  all_goals (try exact absurd hok (by assumption))
  all_goals (try exact absurd hsv (by assumption))
  all_goals (try (have hx := (by assumption : (laS p s).inv x); dsimp only [laS] at hx; obtain ⟨⟨x0, x1⟩, hx⟩ := hx; have st := fun v => mv_step hx hv hg (sn_in v)))
  all_goals (try omega)
  all_goals (try exact hpw)
  all_goals (try (have hy := (by assumption : (laU p s).inv y); dsimp only [laU] at hy; obtain ⟨y0, hy⟩ := hy; have y5 := mv_5 hy; have e1 := mv_end hy (s := 1048576) (by decide); have e2 := mv_eq hy (s := 1048576) (by decide)))
  all_goals (try (have ha : 0 ≤ (y.a : Int) ∧ (y.a : Int) ≤ 5 := (by omega); obtain ⟨o1, o2⟩ := mv_out hy ha))
  all_goals (try with_reducible exact wrap_nn _)
  all_goals (try first | exact absurd o2 (by assumption) | exact absurd (o1.trans (w_yes (by assumption) y5 ha).symm) (by assumption) | exact absurd (o1.trans (w_no (by assumption) ha).symm) (by assumption) | exact absurd (st _).1 (by assumption) | exact absurd e1.1 (by assumption) | exact absurd (e2.symm.trans (by assumption : _ = false)) (by decide) | fail)
  · (conv => whnf); refine enter_mk (la := laS p s) ⟨0, -1, svT (ft0 6 9) (vId p.vid) ⟨63, 0⟩⟩ ?_ (by (repeat' (first | ((conv => whnf); first | refine ⟨?_, ?_⟩ | exact trivial | fail) | (dsimp only; done) | ((try dsimp only); first | with_reducible exact rfl | exact Nat.le_refl _ | with_reducible exact (fun _ _ => rfl)))); all_goals ((first | rfl | decide)))
    exact ⟨⟨Nat.zero_le _, Nat.zero_le _⟩, mv_init hv⟩
  · (conv => whnf)
    (conv => whnf); refine enter_mk (la := laS p s) ⟨x.i + 1, sn (s.g (0 + Int.toNat x.i)), lrT x.t (pq p) (sn (s.g (0 + Int.toNat x.i))) x.i⟩ ?_ (by (repeat' (first | ((conv => whnf); first | refine ⟨?_, ?_⟩ | exact trivial | fail) | (dsimp only; done) | ((try dsimp only); first | with_reducible exact rfl | exact Nat.le_refl _ | with_reducible exact (fun _ _ => rfl)))); all_goals ((first | rfl | (show s.len - (x.i + 1) < s.len - x.i; omega) | (dsimp only; rw [w64' (by omega) (by omega)]; omega))))
    exact ⟨⟨by show x.i + 1 ≤ s.len; omega, by show x.i + 1 ≤ 30; omega⟩, (st _).2⟩
  · (conv => whnf); refine enter_mk (la := laU p s) ⟨0, x.last, x.t⟩ ?_ (by (repeat' (first | ((conv => whnf); first | refine ⟨?_, ?_⟩ | exact trivial | fail) | (dsimp only; done) | ((try dsimp only); first | with_reducible exact rfl | exact Nat.le_refl _ | with_reducible exact (fun _ _ => rfl)))); all_goals ((first | rfl | decide)))
    exact ⟨Nat.zero_le _, mv_more hx (by omega)⟩
  · (conv => whnf)
    (conv => whnf); refine enter_mk (la := laU p s) ⟨y.a + 1, y.last, y.t⟩ ?_ (by (repeat' (first | ((conv => whnf); first | refine ⟨?_, ?_⟩ | exact trivial | fail) | (dsimp only; done) | ((try dsimp only); first | with_reducible exact rfl | exact Nat.le_refl _ | with_reducible exact (fun _ _ => rfl)))); all_goals ((first | rfl | (show 6 - (y.a + 1) < 6 - y.a; omega) | (dsimp only; rw [w64' (by omega) (by omega)]; omega))))
    exact ⟨by show y.a + 1 ≤ 6; omega, hy⟩
  · (conv => whnf)
    (conv => whnf); refine enter_mk (la := laU p s) ⟨y.a + 1, y.last, y.t⟩ ?_ (by (repeat' (first | ((conv => whnf); first | refine ⟨?_, ?_⟩ | exact trivial | fail) | (dsimp only; done) | ((try dsimp only); first | with_reducible exact rfl | exact Nat.le_refl _ | with_reducible exact (fun _ _ => rfl)))); all_goals ((first | rfl | (show 6 - (y.a + 1) < 6 - y.a; omega) | (dsimp only; rw [w64' (by omega) (by omega)]; omega))))
    exact ⟨by show y.a + 1 ≤ 6; omega, hy⟩
  · have : ((agT y.t 1048576).al.length : Int) = 0 := by rw [e1.2]; rfl
    exact (decide_eq_true this).symm
  · (conv => whnf); refine enter_mk (la := laU p s) ⟨0, x.last, x.t⟩ ?_ (by (repeat' (first | ((conv => whnf); first | refine ⟨?_, ?_⟩ | exact trivial | fail) | (dsimp only; done) | ((try dsimp only); first | with_reducible exact rfl | exact Nat.le_refl _ | with_reducible exact (fun _ _ => rfl)))); all_goals ((first | rfl | decide)))
    exact ⟨Nat.zero_le _, mv_more hx (by omega)⟩
  · (conv => whnf)
    (conv => whnf); refine enter_mk (la := laU p s) ⟨y.a + 1, y.last, y.t⟩ ?_ (by (repeat' (first | ((conv => whnf); first | refine ⟨?_, ?_⟩ | exact trivial | fail) | (dsimp only; done) | ((try dsimp only); first | with_reducible exact rfl | exact Nat.le_refl _ | with_reducible exact (fun _ _ => rfl)))); all_goals ((first | rfl | (show 6 - (y.a + 1) < 6 - y.a; omega) | (dsimp only; rw [w64' (by omega) (by omega)]; omega))))
    exact ⟨by show y.a + 1 ≤ 6; omega, hy⟩
  · (conv => whnf)
    (conv => whnf); refine enter_mk (la := laU p s) ⟨y.a + 1, y.last, y.t⟩ ?_ (by (repeat' (first | ((conv => whnf); first | refine ⟨?_, ?_⟩ | exact trivial | fail) | (dsimp only; done) | ((try dsimp only); first | with_reducible exact rfl | exact Nat.le_refl _ | with_reducible exact (fun _ _ => rfl)))); all_goals ((first | rfl | (show 6 - (y.a + 1) < 6 - y.a; omega) | (dsimp only; rw [w64' (by omega) (by omega)]; omega))))
    exact ⟨by show y.a + 1 ≤ 6; omega, hy⟩
  · have : ((agT y.t 1048576).al.length : Int) = 0 := by rw [e1.2]; rfl
    exact (decide_eq_true this).symm

theorem own : ownKnob Try.prog.godebug = none := by kernel_rfl

set_option maxRecDepth 100000 in
theorem lifted (os : Os) (started : os.Started) (H : Type) (enc : TypeId × Value → H) :
    ReturnsInHanded {} Try.checked os 5 .any (Rows.fdbMovesSpec.pre6 enc Try.prog Try.f5 Rows.fdbMovesRow.domain false) (Rows.fdbMovesSpec.post enc Try.prog Try.f5 false true false false) := by
  refine returnsInHanded_of_change (C := Try.checked) own started (by kernel_rfl) Try.func5
    (ChangeSpec.witness6 (enc := enc) (C := Try.checked) false ⟨#[], #[.agg #[.int .i64 0, .int .u8 0, .int .u8 0, .int .u8 0, .int .u8 0, .int .u8 0, .int .u8 0], .slice none 0 0, .int .i64 0], []⟩ 8 (by kernel_rfl) (by kernel_rfl) (by kernel_rfl) (by kernel_rfl)) ?_
  intro W base args ds gs before hval0 hW hcnd _
  have hval : ∀ (j : Nat) t v, Try.f5.params[j]? = some t → args[j]? = some v → Value.okWide Try.prog W .any base t v := hval0
  have hW' := hW
  obtain ⟨p, q, hA0, hV, rfl, hfz, hnd⟩ := hW
  have hA : DataW.TrodAll enc Try.prog W 0 (fun _ => true) true Try.f5.params.toList args.toList ds p := hA0
  rw [Try.params5] at hA hval
  obtain ⟨v0, vs0, d0, ds0, p0, q0, hargs0, rfl, rfl, h0, r0⟩ := trodAll_cons hA
  obtain ⟨v1, vs1, d1, ds1, p1, q1, hargs1, rfl, rfl, h1, r1⟩ := trodAll_cons r0
  obtain ⟨v2, vs2, d2, ds2, p2, q2, hargs2, rfl, rfl, h2, r2⟩ := trodAll_cons r1
  obtain ⟨rfl, rfl, rfl⟩ := trodAll_nil r2
  obtain ⟨rfl, rfl⟩ := trodVars_none hV
  obtain rfl : args = #[v0, v1, v2] := by cases args; simp_all
  obtain ⟨cs0, hv0, hl0, hc0⟩ := agg_open (d := 6) (row := [some .i64, some .u8, some .u8, some .u8, some .u8, some .u8, some .u8]) (by kernel_rfl) (by kernel_rfl) (hval 0 27 v0 rfl rfl) h0
  have g0_0 := listIs_of hl0 hc0
  clear hl0 hc0
  obtain ⟨_, cs0_1, rfl, ⟨b0_0, rfl, w0_0⟩, g0_1⟩ := listIs_cons g0_0
  obtain ⟨_, cs0_2, rfl, ⟨b0_1, rfl, w0_1⟩, g0_2⟩ := listIs_cons g0_1
  obtain ⟨_, cs0_3, rfl, ⟨b0_2, rfl, w0_2⟩, g0_3⟩ := listIs_cons g0_2
  obtain ⟨_, cs0_4, rfl, ⟨b0_3, rfl, w0_3⟩, g0_4⟩ := listIs_cons g0_3
  obtain ⟨_, cs0_5, rfl, ⟨b0_4, rfl, w0_4⟩, g0_5⟩ := listIs_cons g0_4
  obtain ⟨_, cs0_6, rfl, ⟨b0_5, rfl, w0_5⟩, g0_6⟩ := listIs_cons g0_5
  obtain ⟨_, cs0_7, rfl, ⟨b0_6, rfl, w0_6⟩, g0_7⟩ := listIs_cons g0_6
  obtain rfl := listIs_nil g0_7
  subst hv0
  obtain ⟨A1, n1, c1, s1⟩ := slice_open (d := 6) (row := [some .i64]) Try.underlying28 (by kernel_rfl) (by kernel_rfl) (hval 1 28 v1 rfl rfl) h1
  obtain ⟨a2, rfl, rfl, rfl, w2⟩ := open_int Try.underlying3 (hval 2 3 v2 rfl rfl) h2
  refine Calls.mono (law_calls mixed Try.func5 (runs ⟨b0_0, b0_1, b0_2, b0_3, b0_4, b0_5, b0_6⟩ a2 ⟨n1, c1, n1, fun r => intC W A1 (r * 1 + 0)⟩ (pw_of w0_0 w0_1 w0_2 w0_3 w0_4 w0_5 w0_6) ⟨s1.le, Nat.le_refl _, s1.max⟩) (e := envOf [A1]) (rel_in1 s1.reg) (Nat.le_refl 1) (by rw [s1.val]; exact (den_on (p := ⟨b0_0, b0_1, b0_2, b0_3, b0_4, b0_5, b0_6⟩)).symm)) fun e W' ⟨he, hb⟩ => ?_
  subst he
  exact ⟨_, rfl, law_post hW' rfl rfl (by kernel_rfl) (by decide +kernel) rfl Try.underlying4 hb⟩

theorem over : Rows.fdbMovesRow.holds Try.pinned (OpenSpec.ofChange Rows.fdbMovesSpec) :=
  OpenClaim.holds_of_wide 5 Try.f5 rfl rfl rfl rfl rfl rfl rfl ⟨rfl, rfl, rfl, rfl, rfl⟩ rfl rfl rfl rfl rfl (by kernel_rfl) Try.func5 (by kernel_rfl)
    (of_decide_eq_true (by kernel_rfl)) (by unfold Func.isWrapper; first | (rw [if_pos (by decide +kernel)]; kernel_rfl) | (rw [if_neg (by decide +kernel)]; exact ⟨rfl, rfl⟩))
    (fun os started H enc _ => lifted os started H enc)

/-- FdbMoves -/
theorem proved : Rows.FdbMovesSaid := over
#print axioms proved
end Go.Proofs.Ytnkmfkongmijfaa.fdbMoves
