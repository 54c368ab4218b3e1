/-
  For all whole numbers the law PortChanges answers true and leaves all memory as it was.
-/
import Derived.Test.YtaadejgoafdbcaaSx
import Derived.Test.YtaadejgoafdbcaaPortH
import Derived.Test.YtaadejgoafdbcaaRows
import Derived.WalkKit
import Derived.ProofKit
import Derived.OpenShut
namespace Go.Proofs.Ytaadejgoafdbcaa.portChanges
open Go.ChangeShapes Go.WideShapes Go.ChangeAt Go.RowKit Go.Sx
set_option linter.unusedVariables false
set_option linter.unusedSimpArgs false
set_option maxRecDepth 100000

theorem and14 (a : Int) : bits .and .i64 a 16383 = a % 16384 := and_mask a 14 (by decide)
theorem and10 (a : Int) : bits .and .i64 a 1023 = a % 1024 := and_mask a 10 (by decide)
def lA : GL := ⟨0, 1000, 1, 1, 1, fun r => [255].getD r 0, fun r => [1000].getD r 0⟩
def lN : GL := ⟨20000, 5000, 1, 1, 1, fun r => [0].getD r 0, fun r => [5000].getD r 0⟩
def cI (s : Int) : It := ⟨1, s, false⟩
def cQ (s : Int) : Ln := putL (new0 (eightC 4)) 3 (cI s)
def cP (s : Int) (y y2 : CL) : Pt := ⟨cp lA y, cp lN y2, 20000, true, cQ s⟩
def cP2 (s : Int) (y2 : CL) : Pt := ⟨cp lN y2, glN, 0, false, cQ s⟩
theorem lA_chk : chk lA = 0 := rfl
theorem lN_chk : chk lN = 0 := rfl
theorem c_put {s : Int} (h : 64 ≤ s ∧ s ≤ 1087) : putE (new0 (eightC 4)) 3 (cI s) = 0 ∧ One (cQ s) 3 (cI s) := one_put (n := 4) (c := 3) (by decide) (by decide) ⟨by show 0 ≤ s; omega, by show s ≤ 1600; omega⟩
theorem c_nx1 {s t : Int} {y y2 : CL} (h : 64 ≤ s ∧ s ≤ 1087) (hy : CS 1 lA y) (ht : 0 ≤ t ∧ t < 20000) : nxO (cP s y y2) t = if 8 * s ≤ 20000 - t then some 3 else none := by
  have hns : ¬ swB (cP s y y2).g t := fun hh => by have : (20000 : Int) ≤ t := hh.2; omega
  unfold nxO lfA
  rw [atG_no hns, show (cP s y y2).q = cQ s from rfl, pk_one (c_put h).2 (by decide), lf8_f (by decide)]
  show (if 8 * s ≤ lfV (cp lA y) 20000 true t 3 then some 3 else none) = _
  rw [lfV_yes, cp_left hy, left_open lA_chk rfl (by unfold inR; omega) (by decide) (by decide), w64' (by omega) (by omega)]
  split <;> split <;> first | rfl | (exfalso; omega) | (split <;> first | rfl | (exfalso; omega))
theorem c_p1 {s t : Int} {y y2 : CL} (h : nxO (cP s y y2) t = none) (ht : t < 20000) : nxP (cP s y y2) t = cP s y y2 := by
  have hns : ¬ swB (cP s y y2).g t := fun hh => by have : (20000 : Int) ≤ t := hh.2; omega
  unfold nxP; rw [h, atG_no hns]; rfl
theorem c_sw {s : Int} {y y2 : CL} : atG (cP s y y2).g 26000 = ⟨cp lN y2, glN, 0, false⟩ := atG_sw ⟨rfl, (by decide : (20000 : Int) ≤ 26000)⟩
theorem c_left {y2 : CL} (hy : CS 1 lN y2) : (lf8 (cp lN y2) 0 false 26000).f 3 = 0 := by
  rw [lf8_f (by decide), lfV_no, cp_left hy, left_shut lN_chk rfl (by decide)]
theorem c_nx2 {s : Int} {y y2 : CL} (h : 64 ≤ s ∧ s ≤ 1087) (hy : CS 1 lN y2) : nxO (cP s y y2) 26000 = none ∧ nxP (cP s y y2) 26000 = cP2 s y2 := by
  have e : nxO (cP s y y2) 26000 = none := by
    unfold nxO lfA
    rw [c_sw, show (cP s y y2).q = cQ s from rfl, pk_one (c_put h).2 (by decide), if_neg]
    show ¬ 8 * s ≤ (lf8 (cp lN y2) 0 false 26000).f 3
    rw [c_left hy]; omega
  refine ⟨e, ?_⟩
  unfold nxP; rw [e, c_sw]; rfl
theorem c_wh {s : Int} {y2 : CL} (h : 64 ≤ s ∧ s ≤ 1087) (hy : CS 1 lN y2) : whV (cP2 s y2) 26000 = (0, false) := by
  have ha : anyTo (cP2 s y2).q 8 = true := any_one (c_put h).2 (by decide)
  unfold whV lfA
  rw [if_neg (by rw [ha]; decide), atG_no (sw_no rfl), show (cP2 s y2).q = cQ s from rfl]
  show (match whL (cp lN y2) (cQ s) (lf8 (cp lN y2) 0 false 26000) 26000 8 0 0 false with | none => (26000, true) | some (b, f) => whEnd (cP2 s y2).g 26000 b f) = _
  rw [wl_one (x := cI s) (c_put h).2 (by decide) 8 0 rfl (by decide), c_left hy, if_neg (by show ¬ IntKind.i64.wrap (8 * s) ≤ 0; rw [w64' (by omega) (by omega)]; omega), if_neg]
  · rfl
  · unfold whOpens
    rw [cp_nextB hy, next_shut lN_chk rfl (by decide)]
    exact fun hh => absurd hh.1 (by decide)
theorem c_ch {t : Int} (ht : 0 ≤ t ∧ t ≤ 16383) : chOK lN t ∧ chF lN t = 20000 := by
  refine ⟨⟨lN_chk, by unfold nxOK; omega⟩, ?_⟩
  unfold chF
  rw [if_pos (by show t < 20000; omega)]
  rfl
structure CX where
  a : Int
  s : Int
  y : CL
  y2 : CL
def cM : Mem := [some ⟨true, .tab 1 [.int .i64 fun r => [255].getD r 0, .int .i64 fun r => [1000].getD r 0]⟩, some ⟨true, .flat [i_ 0, i_ 1000, .slc 0 2 0 1 1]⟩, some ⟨true, .tab 1 [.int .i64 fun r => [0].getD r 0, .int .i64 fun r => [5000].getD r 0]⟩, some ⟨true, .flat [i_ 20000, i_ 5000, .slc 2 2 0 1 1]⟩]
def cT (x : CX) : Slots := [(0, int_ .i64 x.a), (1, int_ .i64 x.s), (5, .one (.a (.ptr 1 0))), (6, .one (.a (.ptr 3 0)))]
def cInv (x : CX) : Prop := (0 ≤ x.a ∧ x.a ≤ 16383) ∧ (64 ≤ x.s ∧ x.s ≤ 1087) ∧ CS 1 lA x.y ∧ CS 1 lN x.y2
noncomputable abbrev laA : LA where
  ι := CX
  inv := cInv
  T := fun x => ⟨138, cT x ++ [(7, .one (.a (.ptr 4 0)))], cM ++ [some ⟨true, .obj 69 (ptP (cP x.s x.y x.y2)) (boxI ptK)⟩]⟩
  μ := fun _ => 0
  ren := fun S => [mixO S.m (S.ix 5) 2, S.ix 5, mixO S.m (S.ix 6) 2, S.ix 6, S.ix 7]
noncomputable abbrev laC : LA where
  ι := CX
  inv := cInv
  T := fun x => ⟨138, cT x ++ [(9, int_ .i64 (20000 - 8 * x.s))], cM⟩
  μ := fun _ => 0
  ren := fun S => [mixO S.m (S.ix 5) 2, S.ix 5, mixO S.m (S.ix 6) 2, S.ix 6]
noncomputable abbrev laB : LA where
  ι := CX
  inv := cInv
  T := fun x => ⟨138, [(9, int_ .i64 (20000 - 8 * x.s)), (19, .one (.a (.ptr 0 0)))], [some ⟨true, .obj 69 (ptP (cP x.s x.y x.y2)) (boxI ptK)⟩]⟩
  μ := fun _ => 0
  ren := fun S => [S.ix 19]
noncomputable def cxL : Cx Try.prog := { ps := [hdS, eightS], es := [pnS, pputS, nxS, whS, chS], is := [], n0 := 0, loops := fun _ => none, cuts := fun i => match i with | 10 => some laA | 17 => some laC | 20 => some laB | _ => none, held := fun i => match i with | 7 => some (true, .take 0 (.one 1 (.one 2 (.take 3 (.take 4 (.take 5 (.take 6 (.take 7 .done)))))))) | 17 => some (true, .take 0 (.one 1 (.one 2 (.take 3 (.take 4 (.take 5 (.take 6 (.take 7 .done)))))))) | _ => none }
abbrev bg (s : Int) : Int := IntKind.i64.wrap (20000 - IntKind.i64.wrap (8 * s))
abbrev lt_ (a s : Int) : Int := if IntKind.i64.wrap (bg s + 1) < a then a else IntKind.i64.wrap (bg s + 1)
theorem bg_eq {s : Int} (h : 64 ≤ s ∧ s ≤ 1087) : bg s = 20000 - 8 * s := by unfold bg; rw [w64' (n := 8 * s) (by omega) (by omega), w64' (by omega) (by omega)]
theorem lt_bd {a s : Int} (h : 64 ≤ s ∧ s ≤ 1087) (ha : 0 ≤ a ∧ a ≤ 16383) : 0 ≤ lt_ a s ∧ lt_ a s < 20000 ∧ 20000 - 8 * s < lt_ a s := by
  unfold lt_
  rw [bg_eq h, w64' (by omega) (by omega)]
  split <;> omega
theorem one_row {o c : Int} {x : Int} (ho : I64 o) (hc : I64 c) : ∀ i, i < 1 → I64 (([o] : List Int).getD i 0) ∧ I64 (([c] : List Int).getD i 0) := fun i hi => by
  obtain rfl : i = 0 := by omega
  exact ⟨ho, hc⟩
theorem lA_gw : Gw lA := Gw.mk ⟨⟨(by decide : (-9223372036854775808 : Int) ≤ 0), (by decide : (0 : Int) ≤ 9223372036854775807)⟩, ⟨(by decide : (-9223372036854775808 : Int) ≤ 1000), (by decide : (1000 : Int) ≤ 9223372036854775807)⟩, (by decide : 1 ≤ 1), (by decide : 1 ≤ 1), (by decide : 1 ≤ 9223372036854775807), one_row (x := 0) ⟨by decide, by decide⟩ ⟨by decide, by decide⟩⟩
theorem lN_gw : Gw lN := Gw.mk ⟨⟨(by decide : (-9223372036854775808 : Int) ≤ 20000), (by decide : (20000 : Int) ≤ 9223372036854775807)⟩, ⟨(by decide : (-9223372036854775808 : Int) ≤ 5000), (by decide : (5000 : Int) ≤ 9223372036854775807)⟩, (by decide : 1 ≤ 1), (by decide : 1 ≤ 1), (by decide : 1 ≤ 9223372036854775807), one_row (x := 0) ⟨by decide, by decide⟩ ⟨by decide, by decide⟩⟩
theorem no_4 {A B : Prop} {h : Decidable A} (hb : ¬ B) (h1 : A) (h2 : ¬ A) : False := h2 h1
theorem P_out {x : CX} (h : cInv x) : (0 ≤ x.a ∧ x.a ≤ 16383) ∧ (64 ≤ x.s ∧ x.s ≤ 1087) ∧ CS 1 lA x.y ∧ CS 1 lN x.y2 := h
theorem l_1 {x : CX} (h : cInv x) : pkB (nxO (cP x.s x.y x.y2) (lt_ x.a x.s)) = false := by
  obtain ⟨h1, h2, h3, h4⟩ := P_out h
  obtain ⟨b1, b2, b3⟩ := lt_bd h2 h1
  rw [c_nx1 h2 h3 ⟨b1, b2⟩, if_neg (by omega)]; rfl
theorem l_2 {x : CX} (h : cInv x) : nxP (cP x.s x.y x.y2) (lt_ x.a x.s) = cP x.s x.y x.y2 := by
  obtain ⟨h1, h2, h3, h4⟩ := P_out h
  obtain ⟨b1, b2, b3⟩ := lt_bd h2 h1
  exact c_p1 (by rw [c_nx1 h2 h3 ⟨b1, b2⟩, if_neg (by omega)]) b2
theorem l_3 {x : CX} (h : cInv x) : pkB (nxO (nxP (cP x.s x.y x.y2) (lt_ x.a x.s)) 26000) = false := by
  rw [l_2 h, (c_nx2 (P_out h).2.1 (P_out h).2.2.2).1]; rfl
theorem l_4 {x : CX} (h : cInv x) : whV (nxP (nxP (cP x.s x.y x.y2) (lt_ x.a x.s)) 26000) 26000 = (0, false) := by
  rw [l_2 h, (c_nx2 (P_out h).2.1 (P_out h).2.2.2).2, c_wh (P_out h).2.1 (P_out h).2.2.2]
theorem l_5 {x : CX} (h : cInv x) : nxO (cP x.s x.y x.y2) (20000 - 8 * x.s) = some 3 := by
  obtain ⟨h1, h2, h3, h4⟩ := P_out h
  rw [c_nx1 h2 h3 ⟨by omega, by omega⟩, if_pos (by omega)]
theorem l_6 {x : CX} (h : cInv x) : (pkI (cP x.s x.y x.y2).q (some 3)).id = 1 := (c_put (P_out h).2.1).2.id
theorem s0_bd (b : Int) : 64 ≤ IntKind.i64.wrap (64 + bits .and .i64 b 1023) ∧ IntKind.i64.wrap (64 + bits .and .i64 b 1023) ≤ 1087 := by
  rw [and10, w64' (by omega) (by omega)]; omega
theorem a0_bd (a : Int) : 0 ≤ bits .and .i64 a 16383 ∧ bits .and .i64 a 16383 ≤ 16383 := by rw [and14]; omega
theorem z_0 : chOK lN 0 ∧ chF lN 0 = 20000 := c_ch ⟨by decide, by decide⟩
attribute [local irreducible] anyAlt Gw enter chk roomsOK CS putE whV HeldOK pkB pkC pkI nxO chOK chF
set_option maxHeartbeats 16000000 in
theorem runs (a b : Int) (ha : I64 a) (hb : I64 b) : Runs cxL Try.f5 [int_ .i64 a, int_ .i64 b] [] yes := by
  have hs := s0_bd b
  have hab := a0_bd a
  repeat' (first | with_reducible exact trivial | with_reducible exact rfl | with_reducible exact Nat.le_refl _ | with_reducible exact (fun _ _ => rfl) | ((conv => whnf); first | (refine fun (x : CL) => ?_) | (refine fun (y : CL) => ?_) | (refine fun (z : CX) => ?_) | (refine fun (u : Nat) => ?_) | (refine fun (v : CX) => ?_) | (exact fun h => absurd h (by decide)) | (intro h9; (have h8 := of_decide_eq_true (p := type_of% h9) (by decide)); clear h8 h9) | (refine fun _ => ?_) | refine ⟨?_, ?_⟩ | exact trivial | exact Nat.le_refl _ | exact lex_q (by kernel_rfl) | exact lex_t (by kernel_rfl) | exact lex_h (by kernel_rfl) | fail))
  all_goals (try exact lA_gw)
  all_goals (try exact lN_gw)
  all_goals (try exact absurd (show chk lA = 0 ∧ roomsOK (eightC 4) from ⟨lA_chk, rooms_eight (n := 4) (by decide)⟩) (by assumption))
  all_goals (try exact absurd (c_put hs).1 (by assumption))
  all_goals (try exact absurd (c_ch hab).1 (by assumption))
  all_goals (try exact absurd z_0.1 (by assumption))
  all_goals (try (have hz := (by assumption : laC.inv z); exact absurd (c_put (P_out hz).2.1).1 (by assumption)))
  all_goals (try decide)
  · rename_i x0 k1 k2 k3
    (conv => whnf); refine enter_mk (la := laA) ⟨_, _, x0, x⟩ ?_ (by (repeat' (first | ((conv => whnf); first | refine ⟨?_, ?_⟩ | exact trivial | fail) | (dsimp only; done) | ((try dsimp only); first | with_reducible exact rfl | exact Nat.le_refl _ | with_reducible exact (fun _ _ => rfl)))); all_goals ((first | rfl | exact fun _ _ => rfl | exact (c_ch hab).2 | exact (c_ch hab).2.symm)))
    exact ⟨hab, hs, k1.2, k3.2⟩
  all_goals (try (have hz := (by assumption : laB.inv z); obtain ⟨h1, h2, h3, h4⟩ := P_out hz; first
    | omega
    | exact (decide_eq_true (by show (pkI (cP z.s z.y z.y2).q (nxO (cP z.s z.y z.y2) (20000 - 8 * z.s))).id = 1; rw [l_5 hz]; exact l_6 hz)).symm
    | exact absurd (show pkC (nxO (cP z.s z.y z.y2) (20000 - 8 * z.s)) = 3 by rw [l_5 hz]; exact pkC_s) (by assumption)
    | exact absurd ((show pkB (nxO (cP z.s z.y z.y2) (20000 - 8 * z.s)) = true by rw [l_5 hz]; exact pkB_s).symm.trans (by assumption)) (by decide)
    | fail))
  all_goals (try (have hz := (by assumption : laC.inv z); rename_i x0 k1 k2 k3; obtain ⟨h1, h2, h3, h4⟩ := P_out hz; ((conv => whnf); refine enter_mk (la := laB) ⟨z.a, z.s, x0, x⟩ ?_ (by (repeat' (first | ((conv => whnf); first | refine ⟨?_, ?_⟩ | exact trivial | fail) | (dsimp only; done) | ((try dsimp only); first | with_reducible exact rfl | exact Nat.le_refl _ | with_reducible exact (fun _ _ => rfl)))); all_goals ((first | rfl | exact fun _ _ => rfl | exact z_0.2 | exact z_0.2.symm)))); exact ⟨h1, h2, k1.2, k3.2⟩))
  all_goals (have hz := (by assumption : laA.inv z); obtain ⟨h1, h2, h3, h4⟩ := P_out hz; first
    | exact (lt_bd h2 h1).1
    | exact Int.le_trans (Int.le_of_lt (lt_bd h2 h1).2.1) (by decide)
    | exact absurd ((l_1 hz).symm.trans (by assumption)) (by decide)
    | exact absurd ((l_3 hz).symm.trans (by assumption)) (by decide)
    | exact absurd ((congrArg Prod.snd (l_4 hz)).symm.trans (by assumption)) (by decide)
    | exact absurd (congrArg Prod.fst (l_4 hz)) (by assumption)
    | (((conv => whnf); refine enter_mk (la := laC) z ?_ (by (repeat' (first | ((conv => whnf); first | refine ⟨?_, ?_⟩ | exact trivial | fail) | (dsimp only; done) | ((try dsimp only); first | with_reducible exact rfl | exact Nat.le_refl _ | with_reducible exact (fun _ _ => rfl)))); all_goals ((first | rfl | exact fun _ _ => rfl | exact (bg_eq h2) | exact (bg_eq h2).symm)))); exact hz)
    | fail)

theorem own : ownKnob Try.prog.godebug = none := by kernel_rfl

set_option maxRecDepth 100000 in
theorem lifted (os : Os) (started : os.Started) (H : Type) (enc : TypeId × Value → H) :
    ReturnsInHanded {} Try.checked os 5 .any (Rows.portChangesSpec.pre6 enc Try.prog Try.f5 Rows.portChangesRow.domain false) (Rows.portChangesSpec.post enc Try.prog Try.f5 false true false false) := by
  refine returnsInHanded_of_change (C := Try.checked) own started (by kernel_rfl) Try.func5
    (ChangeSpec.witness6 (enc := enc) (C := Try.checked) false ⟨#[], #[.int .i64 0, .int .i64 0], []⟩ 8 (by kernel_rfl) (by kernel_rfl) (by kernel_rfl) (by kernel_rfl)) ?_
  intro W base args ds gs before hval0 hW hcnd _
  have hval : ∀ (j : Nat) t v, Try.f5.params[j]? = some t → args[j]? = some v → Value.okWide Try.prog W .any base t v := hval0
  have hW' := hW
  obtain ⟨p, q, hA0, hV, rfl, hfz, hnd⟩ := hW
  have hA : DataW.TrodAll enc Try.prog W 0 (fun _ => true) true Try.f5.params.toList args.toList ds p := hA0
  rw [Try.params5] at hA hval
  obtain ⟨v0, vs0, d0, ds0, p0, q0, hargs0, rfl, rfl, h0, r0⟩ := trodAll_cons hA
  obtain ⟨v1, vs1, d1, ds1, p1, q1, hargs1, rfl, rfl, h1, r1⟩ := trodAll_cons r0
  obtain ⟨rfl, rfl, rfl⟩ := trodAll_nil r1
  obtain ⟨rfl, rfl⟩ := trodVars_none hV
  obtain rfl : args = #[v0, v1] := by cases args; simp_all
  obtain ⟨a0, rfl, rfl, rfl, w0⟩ := open_int Try.underlying3 (hval 0 3 v0 rfl rfl) h0
  obtain ⟨a1, rfl, rfl, rfl, w1⟩ := open_int Try.underlying3 (hval 1 3 v1 rfl rfl) h1
  refine Calls.mono (law_calls mixed Try.func5 (runs a0 a1 (i64_of w0) (i64_of w1)) (rel_nil (fun _ => none) W) (Nat.le_refl 0) rfl) fun e W' ⟨he, hb⟩ => ?_
  subst he
  exact ⟨_, rfl, law_post hW' rfl rfl (by kernel_rfl) (by decide +kernel) rfl Try.underlying4 hb⟩

theorem over : Rows.portChangesRow.holds Try.pinned (OpenSpec.ofChange Rows.portChangesSpec) :=
  OpenClaim.holds_of_wide 5 Try.f5 rfl rfl rfl rfl rfl rfl rfl ⟨rfl, rfl, rfl, rfl, rfl⟩ rfl rfl rfl rfl rfl (by kernel_rfl) Try.func5 (by kernel_rfl)
    (of_decide_eq_true (by kernel_rfl)) (by unfold Func.isWrapper; first | (rw [if_pos (by decide +kernel)]; kernel_rfl) | (rw [if_neg (by decide +kernel)]; exact ⟨rfl, rfl⟩))
    (fun os started H enc _ => lifted os started H enc)

/-- PortChanges -/
theorem proved : Rows.PortChangesSaid := over
#print axioms proved
end Go.Proofs.Ytaadejgoafdbcaa.portChanges
