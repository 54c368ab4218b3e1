/-
  For all bytes and ports the law FdbFlush answers true and leaves all memory as it was.
-/
import Derived.Test.YtnkmfkongmijfaaSx
import Derived.Test.YtnkmfkongmijfaaFdbR
import Derived.Test.YtnkmfkongmijfaaRows
import Derived.WalkKit
import Derived.ProofKit
import Derived.OpenShut
namespace Go.Proofs.Ytnkmfkongmijfaa.fdbFlush
open Go.ChangeShapes Go.WideShapes Go.ChangeAt Go.RowKit Go.Sx
set_option linter.unusedVariables false
set_option linter.unusedSimpArgs false
set_option maxRecDepth 100000

structure IS where
  len : Nat
  cap : Nat
  N : Nat
  g : Nat → Int
def roS (a : IS) : Option Reg := some ⟨false, .tab a.N [.int .u8 a.g]⟩
structure Tw (a : IS) : Prop where
  le : a.len ≤ a.cap
  ln : a.len ≤ a.N
  max : a.cap ≤ 9223372036854775807
  u8 : ∀ r, r < a.len → 0 ≤ a.g r ∧ a.g r ≤ 255
theorem tw_of {w : World} {v : Value} {A : Option Addr} {n cap : Nat} (s : Slc w v [some .u8] A n cap) : Tw ⟨n, cap, n, fun r => intC w A (r * 1 + 0)⟩ :=
  ⟨s.le, Nat.le_refl _, s.max, fun r hr => (Lit.wf_int_iff _ _).1 (s.wf 0 .u8 rfl r hr)⟩
theorem den_on {A : Option Addr} {n cap : Nat} {a : Int} : #[SV.den (envOf [A]) (.one (.a (.slc 0 1 0 n cap))), SV.den (envOf [A]) (int_ .i64 a)] = #[.slice A n cap, .int .i64 a] := by
  show #[SA.den (envOf [A]) (.slc 0 1 0 n cap), _] = _
  rw [den_slc (A := A) rfl]; rfl
def at3 (x : Int) : Int := bits .and .i64 x 3
theorem at3_in (x : Int) : 0 ≤ at3 x ∧ at3 x ≤ 3 := by
  have h : bits .and .i64 x 3 = x % 4 := and_mask x 2 (by decide)
  unfold at3
  rw [h]; omega
theorem fl_new : nOK 4 300 := by unfold nOK; decide
def mIx (S : St) (k : Nat) : Nat := match S.t.get k with | some (.one (.a (.map i))) => i | _ => 0
structure LX where
  i : Nat
  t : Ft
  w : List MRow
  c : Nat
  mb : Nat
noncomputable def wR (mb c : Nat) (L : List MRow) : Option Reg := some ⟨true, .obj 41 { ns := [mb, c], mp := [L] } (mapI WT)⟩
noncomputable abbrev laS (a : Int) (s : IS) : LA where
  ι := LX
  inv := fun x => x.i ≤ s.len ∧ s.len ≤ 60 ∧ FlI x.i x.t x.w x.c
  T := fun x => ⟨99, [(1, int_ .i64 (at3 a)), (5, .one (.a (.ptr 1 0))), (7, .one (.a (.map 2))), (35, .one (.a (.slc 0 1 0 s.len s.cap))), (36, int_ .i64 s.len), (37, int_ .i64 x.i)], [roS s, some ⟨true, .obj 82 (ftP x.t) (boxI ftK)⟩, wR x.mb x.c x.w]⟩
  μ := fun x => s.len - x.i
  ren := fun S => [0, S.ix 5, mIx S 7]
structure LY where
  t : Ft
  w : List MRow
  c : Nat
  mb : Nat
  seen : List MRow
  left : Nat
noncomputable abbrev laU (a : Int) (s : IS) : LA where
  ι := LY
  inv := fun y => FlI 60 y.t y.w y.c ∧ y.left + ((unmet y.w y.seen).filter (stay (at3 a))).length = (y.w.filter (stay (at3 a))).length ∧ y.w.length ≤ 60
  T := fun y => ⟨99, [(1, int_ .i64 (at3 a)), (5, .one (.a (.ptr 1 0))), (7, .one (.a (.map 2))), (10, int_ .i64 y.left), (60, .one (.a (.ptr 3 0)))], [roS s, some ⟨true, .obj 82 (ftP (flT y.t (at3 a))) (boxI ftK)⟩, wR y.mb y.c y.w, some ⟨true, .obj 0 { ns := [y.mb, y.c, y.c], mp := [y.seen] } iterI⟩]⟩
  μ := fun y => (unmet y.w y.seen).length
  ren := fun S => [0, S.ix 5, mIx S 7, S.ix 60]
noncomputable def cxL (a : Int) (s : IS) : Cx Try.prog := { ps := [hdS, otS, lnS], es := [newS, svS, spS, lrS, agS, flS], is := [], n0 := 1, loops := fun i => match i with | 11 => some (.inv (laS a s)) | 20 => some (.inv (laU a s)) | _ => none, cuts := fun _ => none, xr := [entX WT WT_ok], xa := [mkX WT, putX WT WT_ok, rngX WT, nxtX WT WT_ok] }
attribute [local irreducible] enter nOK svE svT lrE lrT otP otB ft0 PlW vPo vBa flT
set_option maxHeartbeats 8000000 in
theorem runs (a : Int) (s : IS) (hw : Tw s) : Runs (cxL a s) Try.f4 [.one (.a (.slc 0 1 0 s.len s.cap)), int_ .i64 a] [roS s] yes := by
  have w1 := hw.le
  have w2 := hw.ln
  have w3 := hw.max
  have hok := fl_new
  have ha := at3_in a
  have hin := fl_init
  repeat' (first | with_reducible exact trivial | with_reducible exact rfl | with_reducible exact Nat.le_refl _ | with_reducible exact (fun _ _ => rfl) | ((conv => whnf); first | (refine fun (x : LX) => ?_) | (refine fun (y : LY) => ?_) | (refine fun (z : MRow) => ?_) | (exact fun h => absurd h (by decide)) | (intro h9; (have h8 := of_decide_eq_true (p := type_of% h9) (by decide)); clear h8 h9) | (refine fun _ => ?_) | refine ⟨?_, ?_⟩ | exact trivial | exact Nat.le_refl _ | exact lex_q (by kernel_rfl) | exact lex_t (by kernel_rfl) | exact lex_h (by kernel_rfl) | fail))
  all_goals (try exact absurd hok (by assumption))
  all_goals (try exact absurd hin.1 (by assumption))
  all_goals (try (have hx := (by assumption : (laS a s).inv x); dsimp only [laS] at hx; obtain ⟨x1, x60, hx⟩ := hx))
  all_goals (try omega)
  all_goals (try (have hi : x.i < s.len := (by omega); have hb := hw.u8 (0 + Int.toNat x.i) (by omega); have st := fl_step (x := x.i) hx (by omega) hb (at3_in x.i)))
  all_goals (try (have hy := (by assumption : (laU a s).inv y); dsimp only [laU] at hy; obtain ⟨hy, y2, y3⟩ := hy))
  all_goals (try (have hz := (by assumption : (fun r => r ∈ y.w ∧ ∀ (s : MRow), s ∈ y.seen → s.b ≠ r.b) z); obtain ⟨z1, z2⟩ := hz; obtain ⟨o1, o2, o3, o4⟩ := fl_out hy ha z1; have ls := left_step hy.wk z1 z2 (stay (at3 a)); have hl := List.length_filter_le (stay (at3 a)) y.w))
  all_goals (try with_reducible exact wr_nn _)
  · (conv => whnf); refine enter_mk (la := laS a s) ⟨0, svT (ft0 4 300) 9 ⟨15, 0⟩, [], 0, _⟩ ?_ (by (repeat' (first | ((conv => whnf); first | refine ⟨?_, ?_⟩ | exact trivial | fail) | (dsimp only; done) | ((try dsimp only); first | with_reducible exact rfl | exact Nat.le_refl _ | with_reducible exact (fun _ _ => rfl)))); all_goals ((first | rfl | decide)))
    exact ⟨Nat.zero_le _, by have := (by assumption : ¬ 60 < (s.len : Int)); omega, hin.2⟩
  · exact pf_w hb
  · exact absurd st.1 (by assumption)
  · exact hb.1
  · exact hb.2
  · (conv => whnf)
    (conv => whnf); refine enter_mk (la := laS a s) ⟨x.i + 1, lrT x.t (Pf (s.g (0 + Int.toNat x.i))) (at3 x.i) x.i, mpPut x.w [s.g (0 + Int.toNat x.i)] [at3 x.i] x.c, mpTick x.w [s.g (0 + Int.toNat x.i)] x.c, x.mb⟩ ?_ (by (repeat' (first | ((conv => whnf); first | refine ⟨?_, ?_⟩ | exact trivial | fail) | (dsimp only; done) | ((try dsimp only); first | with_reducible exact rfl | exact Nat.le_refl _ | with_reducible exact (fun _ _ => rfl)))); all_goals ((first | rfl | (show s.len - (x.i + 1) < s.len - x.i; omega) | (dsimp only; rw [w64' (by omega) (by omega)]; omega))))
    exact ⟨by show x.i + 1 ≤ s.len; omega, x60, st.2⟩
  · (conv => whnf); refine enter_mk (la := laU a s) ⟨x.t, x.w, x.c, x.mb, [], 0⟩ ?_ (by (repeat' (first | ((conv => whnf); first | refine ⟨?_, ?_⟩ | exact trivial | fail) | (dsimp only; done) | ((try dsimp only); first | with_reducible exact rfl | exact Nat.le_refl _ | with_reducible exact (fun _ _ => rfl)))); all_goals ((first | rfl | decide)))
    exact ⟨fl_more hx (by omega), by rw [left_0, Nat.zero_add], by show x.w.length ≤ 60; have := f2_len hx.al; have := hx.le; omega⟩
  · exact hy.wk.lt _ (by assumption)
  · have e1 := left_end (by assumption)
    rw [e1] at y2
    have e2 := fl_len hy ha
    refine (decide_eq_true (?_ : ((flT y.t (at3 a)).al.length : Int) = (y.left : Int))).symm
    rw [e2, ← y2]; rfl
  · exact z1
  · exact o1
  · exact absurd ((o3 (by assumption)).trans (congrArg _ (sh_n (nx_in _)).symm)) (by assumption)
  · (conv => whnf)
    have hs : stay (at3 a) z = false := by unfold stay; rw [decide_eq_true (by assumption)]; rfl
    rw [hs, if_neg (by decide)] at ls
    (conv => whnf); refine enter_mk (la := laU a s) ⟨y.t, y.w, y.c, y.mb, z :: y.seen, y.left⟩ ?_ (by (repeat' (first | ((conv => whnf); first | refine ⟨?_, ?_⟩ | exact trivial | fail) | (dsimp only; done) | ((try dsimp only); first | with_reducible exact rfl | exact Nat.le_refl _ | with_reducible exact (fun _ _ => rfl)))); all_goals ((first | rfl | exact un_lt z1 z2)))
    exact ⟨hy, by show y.left + _ = _; rw [← y2, ← ls]; rfl, y3⟩
  · exact absurd ((o4 (by assumption)).trans (sh_n o2).symm) (by assumption)
  · (conv => whnf)
    have hs : stay (at3 a) z = true := by unfold stay; rw [decide_eq_false (by assumption)]; rfl
    rw [hs, if_pos rfl] at ls
    (conv => whnf); refine enter_mk (la := laU a s) ⟨y.t, y.w, y.c, y.mb, z :: y.seen, y.left + 1⟩ ?_ (by (repeat' (first | ((conv => whnf); first | refine ⟨?_, ?_⟩ | exact trivial | fail) | (dsimp only; done) | ((try dsimp only); first | with_reducible exact rfl | exact Nat.le_refl _ | with_reducible exact (fun _ _ => rfl)))); all_goals ((first | rfl | exact un_lt z1 z2 | (dsimp only; rw [w64' (by omega) (by omega)]; omega))))
    exact ⟨hy, by show y.left + 1 + ((unmet y.w (z :: y.seen)).filter (stay (at3 a))).length = (y.w.filter (stay (at3 a))).length; omega, y3⟩

theorem own : ownKnob Try.prog.godebug = none := by kernel_rfl

set_option maxRecDepth 100000 in
theorem lifted (os : Os) (started : os.Started) (H : Type) (enc : TypeId × Value → H) :
    ReturnsInHanded {} Try.checked os 4 .any (Rows.fdbFlushSpec.pre6 enc Try.prog Try.f4 Rows.fdbFlushRow.domain false) (Rows.fdbFlushSpec.post enc Try.prog Try.f4 false true false false) := by
  refine returnsInHanded_of_change (C := Try.checked) own started (by kernel_rfl) Try.func4
    (ChangeSpec.witness6 (enc := enc) (C := Try.checked) false ⟨#[], #[.slice none 0 0, .int .i64 0], []⟩ 8 (by kernel_rfl) (by kernel_rfl) (by kernel_rfl) (by kernel_rfl)) ?_
  intro W base args ds gs before hval0 hW hcnd _
  have hval : ∀ (j : Nat) t v, Try.f4.params[j]? = some t → args[j]? = some v → Value.okWide Try.prog W .any base t v := hval0
  have hW' := hW
  obtain ⟨p, q, hA0, hV, rfl, hfz, hnd⟩ := hW
  have hA : DataW.TrodAll enc Try.prog W 0 (fun _ => true) true Try.f4.params.toList args.toList ds p := hA0
  rw [Try.params4] at hA hval
  obtain ⟨v0, vs0, d0, ds0, p0, q0, hargs0, rfl, rfl, h0, r0⟩ := trodAll_cons hA
  obtain ⟨v1, vs1, d1, ds1, p1, q1, hargs1, rfl, rfl, h1, r1⟩ := trodAll_cons r0
  obtain ⟨rfl, rfl, rfl⟩ := trodAll_nil r1
  obtain ⟨rfl, rfl⟩ := trodVars_none hV
  obtain rfl : args = #[v0, v1] := by cases args; simp_all
  obtain ⟨A0, n0, c0, s0⟩ := slice_open (d := 6) (row := [some .u8]) Try.underlying40 (by kernel_rfl) (by kernel_rfl) (hval 0 40 v0 rfl rfl) h0
  obtain ⟨a1, rfl, rfl, rfl, w1⟩ := open_int Try.underlying3 (hval 1 3 v1 rfl rfl) h1
  refine Calls.mono (law_calls mixed Try.func4 (runs a1 ⟨n0, c0, n0, fun r => intC W A0 (r * 1 + 0)⟩ (tw_of s0)) (e := envOf [A0]) (rel_in1 s0.reg) (Nat.le_refl 1) (by rw [s0.val]; exact (den_on).symm)) fun e W' ⟨he, hb⟩ => ?_
  subst he
  exact ⟨_, rfl, law_post hW' rfl rfl (by kernel_rfl) (by decide +kernel) rfl Try.underlying4 hb⟩

theorem over : Rows.fdbFlushRow.holds Try.pinned (OpenSpec.ofChange Rows.fdbFlushSpec) :=
  OpenClaim.holds_of_wide 4 Try.f4 rfl rfl rfl rfl rfl rfl rfl ⟨rfl, rfl, rfl, rfl, rfl⟩ rfl rfl rfl rfl rfl (by kernel_rfl) Try.func4 (by kernel_rfl)
    (of_decide_eq_true (by kernel_rfl)) (by unfold Func.isWrapper; first | (rw [if_pos (by decide +kernel)]; kernel_rfl) | (rw [if_neg (by decide +kernel)]; exact ⟨rfl, rfl⟩))
    (fun os started H enc _ => lifted os started H enc)

/-- FdbFlush -/
theorem proved : Rows.FdbFlushSaid := over
#print axioms proved
end Go.Proofs.Ytnkmfkongmijfaa.fdbFlush
