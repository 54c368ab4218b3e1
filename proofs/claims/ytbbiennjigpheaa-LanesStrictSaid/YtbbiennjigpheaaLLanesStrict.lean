/-
  For all items the law LanesStrict answers true and leaves all memory as it was.
-/
import Derived.Test.YtbbiennjigpheaaSx
import Derived.Test.YtbbiennjigpheaaLanT
import Derived.Test.YtbbiennjigpheaaRows
import Derived.WalkKit
import Derived.ProofKit
import Derived.OpenShut
namespace Go.Proofs.Ytbbiennjigpheaa.lanesStrict
open Go.ChangeShapes Go.WideShapes Go.ChangeAt Go.RowKit Go.Sx
set_option linter.unusedVariables false
set_option linter.unusedSimpArgs false
set_option maxRecDepth 100000

structure ST where
  len : Nat
  cap : Nat
  N : Nat
  k : Nat → Int
  c : Nat → Int
  id : Nat → Int
  sz : Nat → Int
  dr : Nat → Bool
  l0 : Nat → Int
  l1 : Nat → Int
  l2 : Nat → Int
  l3 : Nat → Int
  l4 : Nat → Int
  l5 : Nat → Int
  l6 : Nat → Int
  l7 : Nat → Int
def roT (a : ST) : Option Reg := some ⟨false, .tab a.N [.int .i64 a.k, .int .i64 a.c, .int .i64 a.id, .int .i64 a.sz, .bool a.dr, .int .i64 a.l0, .int .i64 a.l1, .int .i64 a.l2, .int .i64 a.l3, .int .i64 a.l4, .int .i64 a.l5, .int .i64 a.l6, .int .i64 a.l7]⟩
def Tw (a : ST) : Prop := a.len ≤ a.cap ∧ a.len ≤ a.N ∧ a.cap ≤ 9223372036854775807
theorem den_s {A : Option Addr} {n cap : Nat} : #[SV.den (envOf [A]) (.one (.a (.slc 0 13 0 n cap)))] = #[.slice A n cap] := by
  show #[SA.den (envOf [A]) (.slc 0 13 0 n cap)] = _
  rw [den_slc (A := A) rfl]
structure LX where
  i : Nat
  l : Ln
structure LW where
  k : Nat
  last : Int
  id : Int
  l : Ln
abbrev laA (st : ST) : LA where
  ι := LX
  inv := fun x => (x.i ≤ st.len ∧ st.len ≤ 60) ∧ sumN x.l 8 = x.i ∧ Wait x.l x.i st.c
  T := fun x => ⟨117, [(0, .one (.a (.slc 0 13 0 st.len st.cap))), (3, .one (.a (.ptr 1 0))), (5, int_ .i64 x.i), (30, .one (.a (.slc 0 13 0 st.len st.cap))), (31, int_ .i64 st.len), (32, int_ .i64 x.i)], [roT st, some ⟨true, .obj 15 (lnP x.l) (boxI lnK)⟩]⟩
  μ := fun x => st.len - x.i
  ren := fun S => [0, S.ix 3]
abbrev laW (st : ST) : LA where
  ι := LW
  inv := fun x => (x.k ≤ st.len ∧ st.len ≤ 60) ∧ sumN x.l 8 = st.len - x.k ∧ Wait x.l st.len st.c ∧ Past x.l x.last x.id
  T := fun x => ⟨117, [(0, .one (.a (.slc 0 13 0 st.len st.cap))), (3, .one (.a (.ptr 1 0))), (5, int_ .i64 st.len), (9, int_ .i64 x.last), (10, int_ .i64 x.id), (11, int_ .i64 x.k)], [roT st, some ⟨true, .obj 15 (lnP x.l) (boxI lnK)⟩]⟩
  μ := fun x => st.len - x.k
  ren := fun S => [0, S.ix 3]
noncomputable def cxL (st : ST) : Cx Try.prog := { ps := [hdS, eightS], es := [newS, putS, pickS], is := [], n0 := 1, loops := fun i => match i with | 10 => some (.inv (laA st)) | 20 => some (.inv (laW st)) | _ => none, cuts := fun _ => none }
attribute [local irreducible] enter roomsOK putE putL pk popL sumN new0 pkC pkI pkB
set_option maxHeartbeats 8000000 in
theorem runs (st : ST) (hw : Tw st) : Runs (cxL st) Try.f3 [.one (.a (.slc 0 13 0 st.len st.cap))] [roT st] yes := by
  obtain ⟨w1, w2, w3⟩ := hw
  have h100 : roomsOK (eightC 100) := rooms_eight (by decide)
  repeat' (first | with_reducible exact trivial | with_reducible exact rfl | with_reducible exact Nat.le_refl _ | with_reducible exact (fun _ _ => rfl) | ((conv => whnf); first | (refine fun (x : LX) => ?_) | (refine fun (y : LW) => ?_) | (exact fun h => absurd h (by decide)) | (intro h9; (have h8 := of_decide_eq_true (p := type_of% h9) (by decide)); clear h8 h9) | (refine fun _ => ?_) | refine ⟨?_, ?_⟩ | exact trivial | exact Nat.le_refl _ | exact lex_q (by kernel_rfl) | exact lex_t (by kernel_rfl) | exact lex_h (by kernel_rfl) | fail))
  all_goals (try exact absurd (by assumption : (!true) = true) (by decide))
  all_goals (try exact absurd h100 (by assumption))
  all_goals (try (have hi := (by assumption : (laA st).inv x); dsimp only [laA] at hi; obtain ⟨⟨i1, i2⟩, i3, i4⟩ := hi))
  all_goals (try (have hj := (by assumption : (laW st).inv y); dsimp only [laW] at hj; obtain ⟨⟨j1, j2⟩, j3, j4, j5⟩ := hj))
  all_goals (try omega)
  · (conv => whnf); refine enter_mk (la := laA st) ⟨0, new0 (eightC 100)⟩ ?_ (by (repeat' (first | ((conv => whnf); first | refine ⟨?_, ?_⟩ | exact trivial | fail) | (dsimp only; done) | ((try dsimp only); first | with_reducible exact rfl | exact Nat.le_refl _ | with_reducible exact (fun _ _ => rfl)))); all_goals ((first | rfl | (show st.len - (x.i + 1) < st.len - x.i; omega) | (show st.len - (y.k + 1) < st.len - y.k; omega) | (show (st.len : Int) = x.i; omega) | (show (x.i : Int) = st.len; omega) | (dsimp only; rw [w64' (by omega) (by omega)]; done) | (dsimp only; rw [w64' (by omega) (by omega)]; omega) | (dsimp only; omega))))
    exact ⟨⟨Nat.zero_le _, by omega⟩, sum_new _, wait_new _⟩
  · exact absurd (wait_putE i4 (by omega)) (by assumption)
  · (conv => whnf)
    (conv => whnf); refine enter_mk (la := laA st) ⟨x.i + 1, putL x.l (bits .and .i64 (st.c (0 + (x.i : Int).toNat)) 7) ⟨x.i, bits .and .i64 (st.sz (0 + (x.i : Int).toNat)) 1023, false⟩⟩ ?_ (by (repeat' (first | ((conv => whnf); first | refine ⟨?_, ?_⟩ | exact trivial | fail) | (dsimp only; done) | ((try dsimp only); first | with_reducible exact rfl | exact Nat.le_refl _ | with_reducible exact (fun _ _ => rfl)))); all_goals ((first | rfl | (show st.len - (x.i + 1) < st.len - x.i; omega) | (show st.len - (y.k + 1) < st.len - y.k; omega) | (show (st.len : Int) = x.i; omega) | (show (x.i : Int) = st.len; omega) | (dsimp only; rw [w64' (by omega) (by omega)]; done) | (dsimp only; rw [w64' (by omega) (by omega)]; omega) | (dsimp only; omega))))
    have e := wait_putE i4 (by omega) (c := st.c (0 + (x.i : Int).toNat)) (s := st.sz (0 + (x.i : Int).toNat)) (i := x.i)
    have e2 := wait_put i4 (by omega) (s := st.sz (0 + (x.i : Int).toNat))
    rw [show st.c x.i = st.c (0 + (x.i : Int).toNat) by rw [Nat.zero_add, Int.toNat_natCast]] at e2
    refine ⟨⟨by show x.i + 1 ≤ st.len; omega, i2⟩, ?_, e2⟩
    show sumN (putL x.l (bits .and .i64 (st.c (0 + (x.i : Int).toNat)) 7) ⟨x.i, bits .and .i64 (st.sz (0 + (x.i : Int).toNat)) 1023, false⟩) 8 = ((x.i + 1 : Nat) : Int)
    rw [sum_put e, i3]; rfl
  · obtain h9 : x.i = st.len := by omega
    (conv => whnf); refine enter_mk (la := laW st) ⟨0, 8, -1, x.l⟩ ?_ (by (repeat' (first | ((conv => whnf); first | refine ⟨?_, ?_⟩ | exact trivial | fail) | (dsimp only; done) | ((try dsimp only); first | with_reducible exact rfl | exact Nat.le_refl _ | with_reducible exact (fun _ _ => rfl)))); all_goals ((first | rfl | (show st.len - (x.i + 1) < st.len - x.i; omega) | (show st.len - (y.k + 1) < st.len - y.k; omega) | (show (st.len : Int) = x.i; omega) | (show (x.i : Int) = st.len; omega) | (dsimp only; rw [w64' (by omega) (by omega)]; done) | (dsimp only; rw [w64' (by omega) (by omega)]; omega) | (dsimp only; omega))))
    exact ⟨⟨Nat.zero_le _, i2⟩, by show sumN x.l 8 = (st.len : Int) - (0 : Nat); omega, h9 ▸ i4, past_new _⟩
  all_goals (try (have hlt := (by assumption : (y.k : Int) < st.len); obtain ⟨f1, f2, f3, f4, f5, f6, f7, f8⟩ := past_pick j4 j5 (by omega)))
  all_goals (try first | (exact absurd (by assumption : (!pkB (pk y.l (eightC 1048576))) = true) (by rw [f1]; decide); done) | (exact absurd (by assumption : y.last < pkC (pk y.l (eightC 1048576))) f2; done) | (exact absurd (by assumption : (pkI y.l (pk y.l (eightC 1048576))).id ≤ y.id) (f3 (by assumption)); done) | (exact absurd (by assumption : (pkI y.l (pk y.l (eightC 1048576))).id < 0) f4; done) | (exact absurd (by assumption : (st.len : Int) ≤ (pkI y.l (pk y.l (eightC 1048576))).id) f5; done) | (exact absurd f6 (by assumption); done) | fail)
  · (conv => whnf)
    (conv => whnf); refine enter_mk (la := laW st) ⟨y.k + 1, pkC (pk y.l (eightC 1048576)), (pkI y.l (pk y.l (eightC 1048576))).id, popL y.l (pk y.l (eightC 1048576))⟩ ?_ (by (repeat' (first | ((conv => whnf); first | refine ⟨?_, ?_⟩ | exact trivial | fail) | (dsimp only; done) | ((try dsimp only); first | with_reducible exact rfl | exact Nat.le_refl _ | with_reducible exact (fun _ _ => rfl)))); all_goals ((first | rfl | (show st.len - (x.i + 1) < st.len - x.i; omega) | (show st.len - (y.k + 1) < st.len - y.k; omega) | (show (st.len : Int) = x.i; omega) | (show (x.i : Int) = st.len; omega) | (dsimp only; rw [w64' (by omega) (by omega)]; done) | (dsimp only; rw [w64' (by omega) (by omega)]; omega) | (dsimp only; omega))))
    exact ⟨⟨by show y.k + 1 ≤ st.len; omega, j2⟩, by show sumN (popL y.l (pk y.l (eightC 1048576))) 8 = (st.len : Int) - ((y.k + 1 : Nat) : Int); rw [sum_pop f1, j3]; omega, f7, f8⟩
  · (conv => whnf)
    (conv => whnf); refine enter_mk (la := laW st) ⟨y.k + 1, pkC (pk y.l (eightC 1048576)), (pkI y.l (pk y.l (eightC 1048576))).id, popL y.l (pk y.l (eightC 1048576))⟩ ?_ (by (repeat' (first | ((conv => whnf); first | refine ⟨?_, ?_⟩ | exact trivial | fail) | (dsimp only; done) | ((try dsimp only); first | with_reducible exact rfl | exact Nat.le_refl _ | with_reducible exact (fun _ _ => rfl)))); all_goals ((first | rfl | (show st.len - (x.i + 1) < st.len - x.i; omega) | (show st.len - (y.k + 1) < st.len - y.k; omega) | (show (st.len : Int) = x.i; omega) | (show (x.i : Int) = st.len; omega) | (dsimp only; rw [w64' (by omega) (by omega)]; done) | (dsimp only; rw [w64' (by omega) (by omega)]; omega) | (dsimp only; omega))))
    exact ⟨⟨by show y.k + 1 ≤ st.len; omega, j2⟩, by show sumN (popL y.l (pk y.l (eightC 1048576))) 8 = (st.len : Int) - ((y.k + 1 : Nat) : Int); rw [sum_pop f1, j3]; omega, f7, f8⟩
  · have j3 : sumN y.l 8 = 0 := by omega
    show true = !pkB (pk y.l (eightC 1048576))
    rw [empty_pick j3]; rfl

theorem own : ownKnob Try.prog.godebug = none := by kernel_rfl

set_option maxRecDepth 100000 in
theorem lifted (os : Os) (started : os.Started) (H : Type) (enc : TypeId × Value → H) :
    ReturnsInHanded {} Try.checked os 3 .any (Rows.lanesStrictSpec.pre6 enc Try.prog Try.f3 Rows.lanesStrictRow.domain false) (Rows.lanesStrictSpec.post enc Try.prog Try.f3 false true false false) := by
  refine returnsInHanded_of_change (C := Try.checked) own started (by kernel_rfl) Try.func3
    (ChangeSpec.witness6 (enc := enc) (C := Try.checked) false ⟨#[], #[.slice none 0 0], []⟩ 8 (by kernel_rfl) (by kernel_rfl) (by kernel_rfl) (by kernel_rfl)) ?_
  intro W base args ds gs before hval0 hW hcnd _
  have hval : ∀ (j : Nat) t v, Try.f3.params[j]? = some t → args[j]? = some v → Value.okWide Try.prog W .any base t v := hval0
  have hW' := hW
  obtain ⟨p, q, hA0, hV, rfl, hfz, hnd⟩ := hW
  have hA : DataW.TrodAll enc Try.prog W 0 (fun _ => true) true Try.f3.params.toList args.toList ds p := hA0
  rw [Try.params3] at hA hval
  obtain ⟨v0, vs0, d0, ds0, p0, q0, hargs0, rfl, rfl, h0, r0⟩ := trodAll_cons hA
  obtain ⟨rfl, rfl, rfl⟩ := trodAll_nil r0
  obtain ⟨rfl, rfl⟩ := trodVars_none hV
  obtain rfl : args = #[v0] := by cases args; simp_all
  obtain ⟨A0, n0, c0, s0⟩ := slice_open (d := 6) (row := [some .i64, some .i64, some .i64, some .i64, none, some .i64, some .i64, some .i64, some .i64, some .i64, some .i64, some .i64, some .i64]) Try.underlying22 (by kernel_rfl) (by kernel_rfl) (hval 0 22 v0 rfl rfl) h0
  refine Calls.mono (law_calls mixed Try.func3 (runs ⟨n0, c0, n0, fun r => intC W A0 (r * 13 + 0), fun r => intC W A0 (r * 13 + 1), fun r => intC W A0 (r * 13 + 2), fun r => intC W A0 (r * 13 + 3), fun r => boolC W A0 (r * 13 + 4), fun r => intC W A0 (r * 13 + 5), fun r => intC W A0 (r * 13 + 6), fun r => intC W A0 (r * 13 + 7), fun r => intC W A0 (r * 13 + 8), fun r => intC W A0 (r * 13 + 9), fun r => intC W A0 (r * 13 + 10), fun r => intC W A0 (r * 13 + 11), fun r => intC W A0 (r * 13 + 12)⟩ ⟨s0.le, Nat.le_refl _, s0.max⟩) (e := envOf [A0]) (rel_in1 s0.reg) (Nat.le_refl 1) (by rw [s0.val]; exact den_s.symm)) fun e W' ⟨he, hb⟩ => ?_
  subst he
  exact ⟨_, rfl, law_post hW' rfl rfl (by kernel_rfl) (by decide +kernel) rfl Try.underlying4 hb⟩

theorem over : Rows.lanesStrictRow.holds Try.pinned (OpenSpec.ofChange Rows.lanesStrictSpec) :=
  OpenClaim.holds_of_wide 3 Try.f3 rfl rfl rfl rfl rfl rfl rfl ⟨rfl, rfl, rfl, rfl, rfl⟩ rfl rfl rfl rfl rfl (by kernel_rfl) Try.func3 (by kernel_rfl)
    (of_decide_eq_true (by kernel_rfl)) (by unfold Func.isWrapper; first | (rw [if_pos (by decide +kernel)]; kernel_rfl) | (rw [if_neg (by decide +kernel)]; exact ⟨rfl, rfl⟩))
    (fun os started H enc _ => lifted os started H enc)

/-- LanesStrict -/
theorem proved : Rows.LanesStrictSaid := over
#print axioms proved
end Go.Proofs.Ytbbiennjigpheaa.lanesStrict
