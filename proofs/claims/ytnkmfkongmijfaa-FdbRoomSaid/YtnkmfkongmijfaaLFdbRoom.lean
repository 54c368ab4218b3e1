/-
  For all rooms, places where addresses are seen and times the law FdbRoom answers true and leaves all memory as it was.
-/
import Derived.Test.YtnkmfkongmijfaaSx
import Derived.Test.YtnkmfkongmijfaaFdbQ
import Derived.Test.YtnkmfkongmijfaaRows
import Derived.WalkKit
import Derived.ProofKit
import Derived.OpenShut
namespace Go.Proofs.Ytnkmfkongmijfaa.fdbRoom
open Go.ChangeShapes Go.WideShapes Go.ChangeAt Go.RowKit Go.Sx
set_option linter.unusedVariables false
set_option linter.unusedSimpArgs false
set_option maxRecDepth 100000

structure IS where
  len : Nat
  cap : Nat
  N : Nat
  g : Nat → Int
def roS (a : IS) : Option Reg := some ⟨false, .tab a.N [.int .i64 a.g]⟩
def Tw (a : IS) : Prop := a.len ≤ a.cap ∧ a.len ≤ a.N ∧ a.cap ≤ 9223372036854775807
theorem den_on {A : Option Addr} {n cap : Nat} {a c : Int} : #[SV.den (envOf [A]) (int_ .i64 a), SV.den (envOf [A]) (.one (.a (.slc 0 1 0 n cap))), SV.den (envOf [A]) (int_ .i64 c)] = #[.int .i64 a, .slice A n cap, .int .i64 c] := by
  show #[_, SA.den (envOf [A]) (.slc 0 1 0 n cap), _] = _
  rw [den_slc (A := A) rfl]; rfl
def rmN (r : Int) : Int := IntKind.i64.wrap (1 + bits .and .i64 r 15)
theorem rmN_in (r : Int) : 1 ≤ rmN r ∧ rmN r ≤ 16 := by
  have h : bits .and .i64 r 15 = r % 16 := and_mask r 4 (by decide)
  unfold rmN
  rw [h, w64' (by omega) (by omega)]; omega
theorem rm_ok (r : Int) : nOK 4 (rmN r) := by
  have := rmN_in r
  exact ⟨by decide, by omega⟩
def nw (x : Int) : Int := bits .and .i64 x 4294967295
theorem nw_in (x : Int) : 0 ≤ nw x ∧ nw x ≤ 4294967295 := by
  have h : bits .and .i64 x 4294967295 = x % 4294967296 := and_mask x 32 (by decide)
  unfold nw
  rw [h]; omega
def lb (x : Int) : Int := IntKind.u8.wrap (bits .and .i64 x 31)
def la (x : Int) : Int := bits .and .i64 (x.fdiv (2 ^ min (5 : Int).toNat IntKind.i64.bits)) 3
theorem lb_in (x : Int) : 0 ≤ lb x ∧ lb x ≤ 255 := by unfold lb; rw [wu8]; omega
theorem la_in (x : Int) : 0 ≤ la x ∧ la x ≤ 3 := by
  unfold la
  generalize x.fdiv _ = y
  have h : bits .and .i64 y 3 = y % 4 := and_mask y 2 (by decide)
  rw [h]; omega
theorem wr_1 {n : Int} (h : 0 ≤ n ∧ n ≤ 4294967295) : IntKind.i64.wrap (n + 1) = n + 1 := w64' (by omega) (by omega)
theorem rm_f2 {n r : Int} {t : Ft} (h : RmI n r t) : (t.al.length : Int) - (agL t n).length = 0 := by rw [(rm_keep h).1]; omega
theorem rm_f3 {n r : Int} {t : Ft} (h : RmI n r t) (hn : 0 ≤ n ∧ n ≤ 4294967295) (hr : r ≤ 16) : ((agT t n).al.length : Int) - (agL (agT t n) (IntKind.i64.wrap (n + 1))).length = IntKind.i64.wrap ((t.al.length : Int) - 1) := by
  rw [(rm_keep h).2, wr_1 hn, rm_age h]
  have := h.le
  rw [w64' (by omega) (by omega)]; rfl
theorem rm_f4 {n r : Int} {t : Ft} (h : RmI n r t) (hn : 0 ≤ n ∧ n ≤ 4294967295) : ((agT (agT t n) (IntKind.i64.wrap (n + 1))).al.length : Int) = 1 := by
  rw [(rm_keep h).2, wr_1 hn]
  show ((agL t (n + 1)).length : Int) = 1
  rw [rm_age h]; rfl
structure LX where
  i : Nat
  t : Ft
noncomputable abbrev laS (room now : Int) (s : IS) : LA where
  ι := LX
  inv := fun x => x.i ≤ s.len ∧ RmI (nw now) (rmN room) x.t
  T := fun x => ⟨108, [(0, int_ .i64 (rmN room)), (2, int_ .i64 (nw now)), (7, .one (.a (.ptr 1 0))), (41, .one (.a (.slc 0 1 0 s.len s.cap))), (42, int_ .i64 s.len), (43, int_ .i64 x.i)], [roS s, some ⟨true, .obj 82 (ftP x.t) (boxI ftK)⟩]⟩
  μ := fun x => s.len - x.i
  ren := fun S => [0, S.ix 7]
noncomputable def cxL (room now : Int) (s : IS) : Cx Try.prog := { ps := [hdS, otS, lnS], es := [newS, svS, spS, lrS, agS], is := [], n0 := 1, loops := fun i => match i with | 9 => some (.inv (laS room now s)) | _ => none, cuts := fun _ => none }
attribute [local irreducible] enter nOK svE svT spE spT lrE lrT otP otB ft0 PlW vPo vBa agT agL
set_option maxHeartbeats 8000000 in
theorem runs (room now : Int) (s : IS) (hw : Tw s) : Runs (cxL room now s) Try.f6 [int_ .i64 room, .one (.a (.slc 0 1 0 s.len s.cap)), int_ .i64 now] [roS s] yes := by
  obtain ⟨w1, w2, w3⟩ := hw
  have hok := rm_ok room
  repeat' (first | with_reducible exact trivial | with_reducible exact rfl | with_reducible exact Nat.le_refl _ | with_reducible exact (fun _ _ => rfl) | ((conv => whnf); first | (refine fun (x : LX) => ?_) | (exact fun h => absurd h (by decide)) | (intro h9; (have h8 := of_decide_eq_true (p := type_of% h9) (by decide)); clear h8 h9) | (refine fun _ => ?_) | refine ⟨?_, ?_⟩ | exact trivial | exact Nat.le_refl _ | exact lex_q (by kernel_rfl) | exact lex_t (by kernel_rfl) | exact lex_h (by kernel_rfl) | fail))
  all_goals (try exact absurd hok (by assumption))
  all_goals (try (have hx := (by assumption : (laS room now s).inv x); dsimp only [laS] at hx; obtain ⟨x1, hx⟩ := hx; have st := fun v => rm_step hx (lb_in v) (la_in v); have f1 := rm_out hx; have f2 := rm_f2 hx; have f3 := rm_f3 hx (nw_in now) (rmN_in room).2; have f4 := rm_f4 hx (nw_in now)))
  all_goals (try omega)
  all_goals (try first | exact absurd (rm_sv (rmN room)).1 (by assumption) | exact absurd (rm_sp (rmN_in room).1).1 (by assumption) | exact pw_b ⟨by decide, by decide⟩ | exact pw_b (lb_in _) | exact absurd f1 (by assumption) | exact absurd f2 (by assumption) | exact absurd f3 (by assumption) | exact (decide_eq_true f4).symm | fail)
  · (conv => whnf); refine enter_mk (la := laS room now s) ⟨0, spT (rmT (rmN room)) P0 8⟩ ?_ (by (repeat' (first | ((conv => whnf); first | refine ⟨?_, ?_⟩ | exact trivial | fail) | (dsimp only; done) | ((try dsimp only); first | with_reducible exact rfl | exact Nat.le_refl _ | with_reducible exact (fun _ _ => rfl)))); all_goals ((first | rfl | decide)))
    exact ⟨Nat.zero_le _, rm_init (rmN_in room).1⟩
  · rcases (st (s.g (0 + Int.toNat x.i))).1 with h9 | h9
    · exact absurd h9 (by assumption)
    · exact absurd h9.1 (by assumption)
  · rcases (st (s.g (0 + Int.toNat x.i))).1 with h9 | h9
    · exact absurd h9 (by assumption)
    · exact absurd h9.2 (by assumption)
  · (conv => whnf)
    (conv => whnf); refine enter_mk (la := laS room now s) ⟨x.i + 1, lrT x.t (Pb (lb (s.g (0 + Int.toNat x.i)))) (la (s.g (0 + Int.toNat x.i))) (nw now)⟩ ?_ (by (repeat' (first | ((conv => whnf); first | refine ⟨?_, ?_⟩ | exact trivial | fail) | (dsimp only; done) | ((try dsimp only); first | with_reducible exact rfl | exact Nat.le_refl _ | with_reducible exact (fun _ _ => rfl)))); all_goals ((first | rfl | (show s.len - (x.i + 1) < s.len - x.i; omega) | (dsimp only; rw [w64' (by omega) (by omega)]; omega))))
    exact ⟨by show x.i + 1 ≤ s.len; omega, (st _).2⟩
  · exact absurd (st (s.g (0 + Int.toNat x.i))).2.le (Int.not_le.2 (by assumption))
  · (conv => whnf)
    (conv => whnf); refine enter_mk (la := laS room now s) ⟨x.i + 1, lrT x.t (Pb (lb (s.g (0 + Int.toNat x.i)))) (la (s.g (0 + Int.toNat x.i))) (nw now)⟩ ?_ (by (repeat' (first | ((conv => whnf); first | refine ⟨?_, ?_⟩ | exact trivial | fail) | (dsimp only; done) | ((try dsimp only); first | with_reducible exact rfl | exact Nat.le_refl _ | with_reducible exact (fun _ _ => rfl)))); all_goals ((first | rfl | (show s.len - (x.i + 1) < s.len - x.i; omega) | (dsimp only; rw [w64' (by omega) (by omega)]; omega))))
    exact ⟨by show x.i + 1 ≤ s.len; omega, (st _).2⟩

theorem own : ownKnob Try.prog.godebug = none := by kernel_rfl

set_option maxRecDepth 100000 in
theorem lifted (os : Os) (started : os.Started) (H : Type) (enc : TypeId × Value → H) :
    ReturnsInHanded {} Try.checked os 6 .any (Rows.fdbRoomSpec.pre6 enc Try.prog Try.f6 Rows.fdbRoomRow.domain false) (Rows.fdbRoomSpec.post enc Try.prog Try.f6 false true false false) := by
  refine returnsInHanded_of_change (C := Try.checked) own started (by kernel_rfl) Try.func6
    (ChangeSpec.witness6 (enc := enc) (C := Try.checked) false ⟨#[], #[.int .i64 0, .slice none 0 0, .int .i64 0], []⟩ 8 (by kernel_rfl) (by kernel_rfl) (by kernel_rfl) (by kernel_rfl)) ?_
  intro W base args ds gs before hval0 hW hcnd _
  have hval : ∀ (j : Nat) t v, Try.f6.params[j]? = some t → args[j]? = some v → Value.okWide Try.prog W .any base t v := hval0
  have hW' := hW
  obtain ⟨p, q, hA0, hV, rfl, hfz, hnd⟩ := hW
  have hA : DataW.TrodAll enc Try.prog W 0 (fun _ => true) true Try.f6.params.toList args.toList ds p := hA0
  rw [Try.params6] at hA hval
  obtain ⟨v0, vs0, d0, ds0, p0, q0, hargs0, rfl, rfl, h0, r0⟩ := trodAll_cons hA
  obtain ⟨v1, vs1, d1, ds1, p1, q1, hargs1, rfl, rfl, h1, r1⟩ := trodAll_cons r0
  obtain ⟨v2, vs2, d2, ds2, p2, q2, hargs2, rfl, rfl, h2, r2⟩ := trodAll_cons r1
  obtain ⟨rfl, rfl, rfl⟩ := trodAll_nil r2
  obtain ⟨rfl, rfl⟩ := trodVars_none hV
  obtain rfl : args = #[v0, v1, v2] := by cases args; simp_all
  obtain ⟨a0, rfl, rfl, rfl, w0⟩ := open_int Try.underlying3 (hval 0 3 v0 rfl rfl) h0
  obtain ⟨A1, n1, c1, s1⟩ := slice_open (d := 6) (row := [some .i64]) Try.underlying28 (by kernel_rfl) (by kernel_rfl) (hval 1 28 v1 rfl rfl) h1
  obtain ⟨a2, rfl, rfl, rfl, w2⟩ := open_int Try.underlying3 (hval 2 3 v2 rfl rfl) h2
  refine Calls.mono (law_calls mixed Try.func6 (runs a0 a2 ⟨n1, c1, n1, fun r => intC W A1 (r * 1 + 0)⟩ ⟨s1.le, Nat.le_refl _, s1.max⟩) (e := envOf [A1]) (rel_in1 s1.reg) (Nat.le_refl 1) (by rw [s1.val]; exact (den_on).symm)) fun e W' ⟨he, hb⟩ => ?_
  subst he
  exact ⟨_, rfl, law_post hW' rfl rfl (by kernel_rfl) (by decide +kernel) rfl Try.underlying4 hb⟩

theorem over : Rows.fdbRoomRow.holds Try.pinned (OpenSpec.ofChange Rows.fdbRoomSpec) :=
  OpenClaim.holds_of_wide 6 Try.f6 rfl rfl rfl rfl rfl rfl rfl ⟨rfl, rfl, rfl, rfl, rfl⟩ rfl rfl rfl rfl rfl (by kernel_rfl) Try.func6 (by kernel_rfl)
    (of_decide_eq_true (by kernel_rfl)) (by unfold Func.isWrapper; first | (rw [if_pos (by decide +kernel)]; kernel_rfl) | (rw [if_neg (by decide +kernel)]; exact ⟨rfl, rfl⟩))
    (fun os started H enc _ => lifted os started H enc)

/-- FdbRoom -/
theorem proved : Rows.FdbRoomSaid := over
#print axioms proved
end Go.Proofs.Ytnkmfkongmijfaa.fdbRoom
