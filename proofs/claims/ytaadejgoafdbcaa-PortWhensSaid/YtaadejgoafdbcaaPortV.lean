/-
  Contracts of functions, and plain facts about them, that a claim of this seat uses.
-/
import Derived.Test.YtaadejgoafdbcaaSx
import Derived.Test.YtaadejgoafdbcaaPortZ
import Derived.Test.YtaadejgoafdbcaaProg
namespace Go.Proofs.Ytaadejgoafdbcaa
open Go.Sx
set_option linter.unusedVariables false
set_option linter.unusedSimpArgs false
set_option maxRecDepth 100000

/-! PortWhens: the walk. -/
noncomputable abbrev laS6 (l : GL) (st : SD) : LA where
  ι := CL
  inv := fun y => pwC l y
  T := fun y => ⟨203, [(1, .one (.a (.slc 1 9 0 st.len st.cap))), (2, .one (.a (.ptr 2 0))), (5, .one (.a (.ptr 3 0))), (6, int_ .i64 0)], pwM l st (opP l y (new0 (eightC 100)))⟩
  μ := fun _ => 0
  ren := fun S => [0, 1, S.ix 2, S.ix 5]
noncomputable def cxWhs (l : GL) (st : SD) : Cx Try.prog := { ps := [hdS, eightS, leftS, nextS, chkS, plenS], es := [pnS, pputS, nxS0, whS0], is := [], n0 := 2, loops := fun i => match i with | 10 => some (.inv (laV l st)) | 21 => some (.inv (laL l st)) | 40 => some (.inv (laC40 l st)) | 45 => some (.here 22 fun n => laJ45 l st n) | _ => none, cuts := fun i => match i with | 6 => some (laS6 l st) | 39 => some (laE l st) | _ => none, cutsAt := fun i => match i with | 31 => some (13, 13, fun n _ => laA31 l st n) | _ => none, held := fun i => match i with | 5 => some (true, .take 0 (.one 1 (.one 2 (.take 3 (.take 4 (.take 5 (.take 6 (.take 7 .done)))))))) | _ => none }
attribute [local irreducible] anyAlt Gw enter chk roomsOK CS putE HeldOK pkB pkC pkI nxO leftV nextV nextB whV lenV SZ Pot sumN
set_option maxHeartbeats 32000000 in
theorem whensRuns (l : GL) (hl : Gw l) (st : SD) (hs : Sw st) : Runs (cxWhs l st) Try.f4 [.one (.agg [i_ l.base, i_ l.cyc, .slc 0 2 0 l.len l.cap]), .one (.a (.slc 1 9 0 st.len st.cap))] [roG l, roS st] yes := by
  repeat' (first | with_reducible exact trivial | with_reducible exact rfl | with_reducible exact Nat.le_refl _ | with_reducible exact (fun _ _ => rfl) | ((conv => whnf); first | (refine fun (x : VX) => ?_) | (refine fun (y : CL) => ?_) | (refine fun (z : LX) => ?_) | (refine fun (u : AX) => ?_) | (refine fun (v : EX) => ?_) | (refine fun (w : CX) => ?_) | (refine fun (s : JX) => ?_) | (exact fun h => absurd h (by decide)) | (intro h9; (have h8 := of_decide_eq_true (p := type_of% h9) (by decide)); clear h8 h9) | (refine fun _ => ?_) | refine ⟨?_, ?_⟩ | exact trivial | exact Nat.le_refl _ | exact lex_q (by kernel_rfl) | exact lex_t (by kernel_rfl) | exact lex_h (by kernel_rfl) | fail))
  all_goals (try exact hl)
  all_goals (try exact rfl)
  all_goals (try decide)
  all_goals (obtain ⟨st1, st2, st3⟩ := hs)
  all_goals (try omega)
  · (conv => whnf); refine enter_mk (la := laS6 l st) y ?_ (by (repeat' (first | ((conv => whnf); first | refine ⟨?_, ?_⟩ | exact trivial | fail) | (dsimp only; done) | ((try dsimp only); first | with_reducible exact rfl | exact Nat.le_refl _ | with_reducible exact (fun _ _ => rfl)))); all_goals ((first | rfl | exact fun _ _ => rfl)))
    exact ⟨⟨And.right (by assumption), And.left (And.left (by assumption))⟩, by omega⟩
  · exact absurd (show chk l = 0 ∧ roomsOK (eightC 100) from ⟨Decidable.not_not.1 (by assumption), rooms_eight (n := 100) (by decide)⟩) (by assumption)
  · have hy := (by assumption : pwC l y)
    (conv => whnf); refine enter_mk (la := laV l st) ⟨y, new0 (eightC 100), 0⟩ ?_ (by (repeat' (first | ((conv => whnf); first | refine ⟨?_, ?_⟩ | exact trivial | fail) | (dsimp only; done) | ((try dsimp only); first | with_reducible exact rfl | exact Nat.le_refl _ | with_reducible exact (fun _ _ => rfl)))); all_goals ((first | rfl | exact fun _ _ => rfl | exact s_new 100 | exact (s_new 100).symm)))
    exact v_new hy (by omega)
  · have hx := (by assumption : vInv l st x)
    have hi : x.i < st.len := by omega
    (conv => whnf); refine enter_mk (la := laV l st) ⟨x.y, x.q, x.i + 1⟩ ?_ (by (repeat' (first | ((conv => whnf); first | refine ⟨?_, ?_⟩ | exact trivial | fail) | (dsimp only; done) | ((try dsimp only); first | with_reducible exact rfl | exact Nat.le_refl _ | with_reducible exact (fun _ _ => rfl)))); all_goals ((first | rfl | exact fun _ _ => rfl | exact v_cnt hx hi | exact v_mu hi)))
    exact v_skip hx hi
  · have hx := (by assumption : vInv l st x)
    have hi : x.i < st.len := by omega
    (conv => whnf); refine enter_mk (la := laV l st) ⟨x.y, x.q, x.i + 1⟩ ?_ (by (repeat' (first | ((conv => whnf); first | refine ⟨?_, ?_⟩ | exact trivial | fail) | (dsimp only; done) | ((try dsimp only); first | with_reducible exact rfl | exact Nat.le_refl _ | with_reducible exact (fun _ _ => rfl)))); all_goals ((first | rfl | exact fun _ _ => rfl | exact v_cnt hx hi | exact v_mu hi)))
    exact v_skip hx hi
  · have hx := (by assumption : vInv l st x)
    have hi : x.i < st.len := by omega
    (conv => whnf); refine enter_mk (la := laV l st) ⟨x.y, x.q, x.i + 1⟩ ?_ (by (repeat' (first | ((conv => whnf); first | refine ⟨?_, ?_⟩ | exact trivial | fail) | (dsimp only; done) | ((try dsimp only); first | with_reducible exact rfl | exact Nat.le_refl _ | with_reducible exact (fun _ _ => rfl)))); all_goals ((first | rfl | exact fun _ _ => rfl | exact v_cnt hx hi | exact v_mu hi)))
    exact v_skip hx hi
  · have hx := (by assumption : vInv l st x)
    have hi : x.i < st.len := by omega
    (conv => whnf); refine enter_mk (la := laV l st) ⟨x.y, x.q, x.i + 1⟩ ?_ (by (repeat' (first | ((conv => whnf); first | refine ⟨?_, ?_⟩ | exact trivial | fail) | (dsimp only; done) | ((try dsimp only); first | with_reducible exact rfl | exact Nat.le_refl _ | with_reducible exact (fun _ _ => rfl)))); all_goals ((first | rfl | exact fun _ _ => rfl | exact v_cnt hx hi | exact v_mu hi)))
    exact v_skip hx hi
  · have hx := (by assumption : vInv l st x)
    exact absurd (v_put (id := x.i) (c := (st.c (0 + (x.i : Int).toNat))) (s := st.sz (0 + (x.i : Int).toNat)) hx (by omega) ⟨by assumption, by assumption⟩ ⟨by assumption, by assumption⟩) (by assumption)
  · have hx := (by assumption : vInv l st x)
    have hi : x.i < st.len := by omega
    have he : putE x.q (st.c (0 + (x.i : Int).toNat)) ⟨x.i, st.sz (0 + (x.i : Int).toNat), false⟩ = 0 := v_put hx hi ⟨by assumption, by assumption⟩ ⟨by assumption, by assumption⟩
    (conv => whnf); refine enter_mk (la := laV l st) ⟨x.y, putL x.q (st.c (0 + (x.i : Int).toNat)) ⟨x.i, st.sz (0 + (x.i : Int).toNat), false⟩, x.i + 1⟩ ?_ (by (repeat' (first | ((conv => whnf); first | refine ⟨?_, ?_⟩ | exact trivial | fail) | (dsimp only; done) | ((try dsimp only); first | with_reducible exact rfl | exact Nat.le_refl _ | with_reducible exact (fun _ _ => rfl)))); all_goals ((first | rfl | exact fun _ _ => rfl | exact v_sum hx hi he | exact v_cnt hx hi | exact v_mu hi)))
    exact v_next hx hi ⟨by assumption, by assumption⟩ he
  · have hx := (by assumption : vInv l st x)
    (conv => whnf); refine enter_mk (la := laL l st) ⟨x.y, x.q, bits .and .i64 l.base 65535, 0, sumN x.q 8⟩ ?_ (by (repeat' (first | ((conv => whnf); first | refine ⟨?_, ?_⟩ | exact trivial | fail) | (dsimp only; done) | ((try dsimp only); first | with_reducible exact rfl | exact Nat.le_refl _ | with_reducible exact (fun _ _ => rfl)))); all_goals ((first | rfl | exact fun _ _ => rfl | exact Int.sub_self _ | exact (Int.sub_self _).symm)))
    exact l_new hx
  · exact (l_ok (by assumption : lInv l z)).1.1
  · exact (l_ok (by assumption : lInv l z)).1.2
  · have hz := (by assumption : lInv l z)
    (conv => whnf); refine enter_mk (la := laE l st) ⟨z.y, z.q, z.now, z.N⟩ ?_ (by (repeat' (first | ((conv => whnf); first | refine ⟨?_, ?_⟩ | exact trivial | fail) | (dsimp only; done) | ((try dsimp only); first | with_reducible exact rfl | exact Nat.le_refl _ | with_reducible exact (fun _ _ => rfl)))); all_goals ((first | rfl | exact fun _ _ => rfl)))
    exact e_of2 hz (by have h9 := (by assumption : (!(whV (opP l z.y z.q) z.now).2) = true); simpa using h9)
  · skip
    have hz := (by assumption : lInv l z)
    have hv : (whV (opP l z.y z.q) z.now).2 = true := by have h9 := (by assumption : (!(whV (opP l z.y z.q) z.now).2) = false); simpa using h9
    have ha := a_of hz (by omega) hv
    have hb := a_bd ha
    have ho := l_ok hz
    have h8 := (by assumption : (whV (opP l z.y z.q) z.now).1 < z.now)
    have hb1 : z.now ≤ (whV (opP l z.y z.q) z.now).1 := hb.1
    omega
  · skip
    have hz := (by assumption : lInv l z)
    have hv : (whV (opP l z.y z.q) z.now).2 = true := by have h9 := (by assumption : (!(whV (opP l z.y z.q) z.now).2) = false); simpa using h9
    have ha := a_of hz (by omega) hv
    have hb := a_bd ha
    have ho := l_ok hz
    have h8 := (by assumption : IntKind.i64.wrap (z.now + 1) < (whV (opP l z.y z.q) z.now).1)
    have hb1 : z.now ≤ (whV (opP l z.y z.q) z.now).1 := hb.1
    have hb2 : (whV (opP l z.y z.q) z.now).1 ≤ z.now + 12800 + 33554432 := hb.2
    have hz0 := (lInv_out hz).2.2.2.1.2.1
    show 0 ≤ IntKind.i64.wrap ((whV (opP l z.y z.q) z.now).1 - 1)
    rw [w64' (n := z.now + 1) (by omega) (by omega)] at h8
    rw [w64' (by omega) (by omega)]
    omega
  · skip
    have hz := (by assumption : lInv l z)
    have hv : (whV (opP l z.y z.q) z.now).2 = true := by have h9 := (by assumption : (!(whV (opP l z.y z.q) z.now).2) = false); simpa using h9
    have ha := a_of hz (by omega) hv
    have hb := a_bd ha
    have ho := l_ok hz
    have h8 := (by assumption : IntKind.i64.wrap (z.now + 1) < (whV (opP l z.y z.q) z.now).1)
    have hb1 : z.now ≤ (whV (opP l z.y z.q) z.now).1 := hb.1
    have hb2 : (whV (opP l z.y z.q) z.now).1 ≤ z.now + 12800 + 33554432 := hb.2
    have hz0 := (lInv_out hz).2.2.2.1.2.1
    show IntKind.i64.wrap ((whV (opP l z.y z.q) z.now).1 - 1) ≤ 1099511627776
    rw [w64' (by omega) (by omega)]
    omega
  · skip
    have hz := (by assumption : lInv l z)
    have hv : (whV (opP l z.y z.q) z.now).2 = true := by have h9 := (by assumption : (!(whV (opP l z.y z.q) z.now).2) = false); simpa using h9
    have ha := a_of hz (by omega) hv
    have hb := a_bd ha
    have ho := l_ok hz
    have h8 := (by assumption : IntKind.i64.wrap (z.now + 1) < (whV (opP l z.y z.q) z.now).1)
    have hb1 : z.now ≤ (whV (opP l z.y z.q) z.now).1 := hb.1
    have hb2 : (whV (opP l z.y z.q) z.now).1 ≤ z.now + 12800 + 33554432 := hb.2
    have hz0 := (lInv_out hz).2.2.2.1.2.1
    have e : nxO (opP l z.y z.q) (IntKind.i64.wrap ((whV (opP l z.y z.q) z.now).1 - 1)) = none := by
      rw [w64' (n := z.now + 1) (by omega) (by omega)] at h8
      rw [w64' (by omega) (by omega)]
      exact a_early ha h8
    have h9 := (by assumption : pkB (nxO (opP l z.y z.q) (IntKind.i64.wrap ((whV (opP l z.y z.q) z.now).1 - 1))) = true)
    rw [e, pkB_0] at h9
    cases h9
  · skip
    have hz := (by assumption : lInv l z)
    have hv : (whV (opP l z.y z.q) z.now).2 = true := by have h9 := (by assumption : (!(whV (opP l z.y z.q) z.now).2) = false); simpa using h9
    have ha := a_of hz (by omega) hv
    have hb := a_bd ha
    have ho := l_ok hz
    have h8 := (by assumption : IntKind.i64.wrap (z.now + 1) < (whV (opP l z.y z.q) z.now).1)
    have hb1 : z.now ≤ (whV (opP l z.y z.q) z.now).1 := hb.1
    have hb2 : (whV (opP l z.y z.q) z.now).1 ≤ z.now + 12800 + 33554432 := hb.2
    have hz0 := (lInv_out hz).2.2.2.1.2.1
    have e : nxO (opP l z.y z.q) (IntKind.i64.wrap ((whV (opP l z.y z.q) z.now).1 - 1)) = none := by
      rw [w64' (n := z.now + 1) (by omega) (by omega)] at h8
      rw [w64' (by omega) (by omega)]
      exact a_early ha h8
    (conv => whnf); refine enter_mk (la := laA31 l st (z.k : Int)) ⟨z, (whV (opP l z.y z.q) z.now).1⟩ ?_ (by (repeat' (first | ((conv => whnf); first | refine ⟨?_, ?_⟩ | exact trivial | fail) | (dsimp only; done) | ((try dsimp only); first | with_reducible exact rfl | exact Nat.le_refl _ | with_reducible exact (fun _ _ => rfl)))); all_goals ((first | rfl | exact fun _ _ => rfl | exact pe_n e | exact (pe_n e).symm | exact pe_id e | exact (pe_id e).symm | exact pe_sz e | exact (pe_sz e).symm | exact pe_dr e | exact (pe_dr e).symm | exact pe_room e | exact (pe_room e).symm | exact pe_lost e | exact (pe_lost e).symm)))
    exact ha
  · skip
    have hz := (by assumption : lInv l z)
    have hv : (whV (opP l z.y z.q) z.now).2 = true := by have h9 := (by assumption : (!(whV (opP l z.y z.q) z.now).2) = false); simpa using h9
    have ha := a_of hz (by omega) hv
    have hb := a_bd ha
    have ho := l_ok hz
    (conv => whnf); refine enter_mk (la := laA31 l st (z.k : Int)) ⟨z, (whV (opP l z.y z.q) z.now).1⟩ ?_ (by (repeat' (first | ((conv => whnf); first | refine ⟨?_, ?_⟩ | exact trivial | fail) | (dsimp only; done) | ((try dsimp only); first | with_reducible exact rfl | exact Nat.le_refl _ | with_reducible exact (fun _ _ => rfl)))); all_goals ((first | rfl | exact fun _ _ => rfl)))
    exact ha
  · exact (a_ok (by assumption : aInv l (z.k : Int) u)).1
  · exact (a_ok (by assumption : aInv l (z.k : Int) u)).2
  · skip
    have hu := (by assumption : aInv l (z.k : Int) u)
    obtain ⟨j, e⟩ := pkB_some (by assumption : pkB (nxO (opP l u.x.y u.x.q) u.at_) = true)
    obtain ⟨⟨g1, g2⟩, g3, g4, g5⟩ := l_go hu e
    have h9 := (by assumption : leftV l u.at_ (pkC (nxO (opP l u.x.y u.x.q) u.at_)) < IntKind.i64.wrap (8 * (pkI u.x.q (nxO (opP l u.x.y u.x.q) u.at_)).sz))
    rw [pkC_f e, pkI_f e, w64' (by show _ ≤ 8 * u.x.q.sz j 0; omega) (by show 8 * u.x.q.sz j 0 ≤ _; omega)] at h9
    have h9 : leftV l u.at_ j < 8 * u.x.q.sz j 0 := h9
    omega
  · skip
    have hu := (by assumption : aInv l (z.k : Int) u)
    obtain ⟨j, e⟩ := pkB_some (by assumption : pkB (nxO (opP l u.x.y u.x.q) u.at_) = true)
    obtain ⟨⟨g1, g2⟩, g3, g4, g5⟩ := l_go hu e
    have hn := (l_ok g5).2
    have hn : u.at_ + 8 * u.x.q.sz j 0 ≤ 268640321535 := hn
    have hn0 := (lInv_out g5).2.2.2.1.2.1
    have hn0 : 0 ≤ u.at_ + 8 * u.x.q.sz j 0 := hn0
    have en : IntKind.i64.wrap (u.at_ + IntKind.i64.wrap (8 * (pkI u.x.q (nxO (opP l u.x.y u.x.q) u.at_)).sz)) = u.at_ + 8 * u.x.q.sz j 0 := by
      rw [pkI_f e]
      show IntKind.i64.wrap (u.at_ + IntKind.i64.wrap (8 * u.x.q.sz j 0)) = _
      rw [w64' (n := 8 * u.x.q.sz j 0) (by omega) (by omega), w64' (by omega) (by omega)]
    have h9 := (by assumption : 549755813888 < IntKind.i64.wrap (u.at_ + IntKind.i64.wrap (8 * (pkI u.x.q (nxO (opP l u.x.y u.x.q) u.at_)).sz)))
    rw [en] at h9
    omega
  · skip
    have hu := (by assumption : aInv l (z.k : Int) u)
    obtain ⟨j, e⟩ := pkB_some (by assumption : pkB (nxO (opP l u.x.y u.x.q) u.at_) = true)
    obtain ⟨⟨g1, g2⟩, g3, g4, g5⟩ := l_go hu e
    have hn := (l_ok g5).2
    have hn : u.at_ + 8 * u.x.q.sz j 0 ≤ 268640321535 := hn
    have hn0 := (lInv_out g5).2.2.2.1.2.1
    have hn0 : 0 ≤ u.at_ + 8 * u.x.q.sz j 0 := hn0
    have en : IntKind.i64.wrap (u.at_ + IntKind.i64.wrap (8 * (pkI u.x.q (nxO (opP l u.x.y u.x.q) u.at_)).sz)) = u.at_ + 8 * u.x.q.sz j 0 := by
      rw [pkI_f e]
      show IntKind.i64.wrap (u.at_ + IntKind.i64.wrap (8 * u.x.q.sz j 0)) = _
      rw [w64' (n := 8 * u.x.q.sz j 0) (by omega) (by omega), w64' (by omega) (by omega)]
    have hs1 := (lInv_out hu.1).2.2.2.2
    have hs2 := sum_pos u.x.q
    have es : u.x.N - sumN (popL u.x.q (nxO (opP l u.x.y u.x.q) u.at_)) 8 = IntKind.i64.wrap (u.x.N - sumN u.x.q 8 + 1) := by
      rw [e, g4, w64' (by omega) (by omega)]; omega
    (conv => whnf); refine enter_mk (la := laL l st) ⟨u.x.y, popL u.x.q (nxO (opP l u.x.y u.x.q) u.at_), IntKind.i64.wrap (u.at_ + IntKind.i64.wrap (8 * (pkI u.x.q (nxO (opP l u.x.y u.x.q) u.at_)).sz)), u.x.k + 1, u.x.N⟩ ?_ (by (repeat' (first | ((conv => whnf); first | refine ⟨?_, ?_⟩ | exact trivial | fail) | (dsimp only; done) | ((try dsimp only); first | with_reducible exact rfl | exact Nat.le_refl _ | with_reducible exact (fun _ _ => rfl)))); all_goals ((first | rfl | exact fun _ _ => rfl | exact es | exact k_cnt hu | exact k_mu hu)))
    rw [en, e]
    exact g5
  · skip
    have hu := (by assumption : aInv l (z.k : Int) u)
    have hb := a_bd hu
    have ho := l_ok hu.1
    omega
  · skip
    have hu := (by assumption : aInv l (z.k : Int) u)
    have e : nxO (opP l u.x.y u.x.q) u.at_ = none := pkB_none (by assumption : pkB (nxO (opP l u.x.y u.x.q) u.at_) = false)
    (conv => whnf); refine enter_mk (la := laL l st) ⟨u.x.y, u.x.q, u.at_, u.x.k + 1, u.x.N⟩ ?_ (by (repeat' (first | ((conv => whnf); first | refine ⟨?_, ?_⟩ | exact trivial | fail) | (dsimp only; done) | ((try dsimp only); first | with_reducible exact rfl | exact Nat.le_refl _ | with_reducible exact (fun _ _ => rfl)))); all_goals ((first | rfl | exact fun _ _ => rfl | exact pe_n e | exact (pe_n e).symm | exact pe_id e | exact (pe_id e).symm | exact pe_sz e | exact (pe_sz e).symm | exact pe_dr e | exact (pe_dr e).symm | exact pe_room e | exact (pe_room e).symm | exact pe_lost e | exact (pe_lost e).symm | exact k_cnt hu | exact k_mu hu)))
    exact l_stay hu e
  · have hz := (by assumption : lInv l z)
    (conv => whnf); refine enter_mk (la := laE l st) ⟨z.y, z.q, z.now, z.N⟩ ?_ (by (repeat' (first | ((conv => whnf); first | refine ⟨?_, ?_⟩ | exact trivial | fail) | (dsimp only; done) | ((try dsimp only); first | with_reducible exact rfl | exact Nat.le_refl _ | with_reducible exact (fun _ _ => rfl)))); all_goals ((first | rfl | exact fun _ _ => rfl)))
    exact e_of hz (by assumption)
  · have hv := (by assumption : eInv l v)
    (conv => whnf); refine enter_mk (la := laC40 l st) ⟨v, 0⟩ ?_ (by (repeat' (first | ((conv => whnf); first | refine ⟨?_, ?_⟩ | exact trivial | fail) | (dsimp only; done) | ((try dsimp only); first | with_reducible exact rfl | exact Nat.le_refl _ | with_reducible exact (fun _ _ => rfl)))); all_goals ((first | rfl | exact fun _ _ => rfl)))
    exact ⟨hv, by show 0 ≤ 8; omega⟩
  · have hw := (by assumption : eInv l w.x ∧ w.c ≤ 8)
    have hc := (by assumption : (w.c : Int) < 8)
    (conv => whnf); refine enter_mk (la := laC40 l st) ⟨w.x, w.c + 1⟩ ?_ (by (repeat' (first | ((conv => whnf); first | refine ⟨?_, ?_⟩ | exact trivial | fail) | (dsimp only; done) | ((try dsimp only); first | with_reducible exact rfl | exact Nat.le_refl _ | with_reducible exact (fun _ _ => rfl)))); all_goals ((first | rfl | exact fun _ _ => rfl | exact cnt_w hc | exact mu_lt hc)))
    exact ⟨hw.1, by show w.c + 1 ≤ 8; omega⟩
  · have hw := (by assumption : eInv l w.x ∧ w.c ≤ 8)
    have hc := (by assumption : (w.c : Int) < 8)
    have hn := (by assumption : ¬ lenV w.x.q w.c = 0)
    have e9 := (eInv_out hw.1).2.2.1
    rw [lenV_n (by omega)] at hn
    (conv => whnf); refine enter_mk (la := laJ45 l st (w.c : Int)) ⟨w, w.x.now, 0⟩ ?_ (by (repeat' (first | ((conv => whnf); first | refine ⟨?_, ?_⟩ | exact trivial | fail) | (dsimp only; done) | ((try dsimp only); first | with_reducible exact rfl | exact Nat.le_refl _ | with_reducible exact (fun _ _ => rfl)))); all_goals ((first | rfl | exact fun _ _ => rfl)))
    exact ⟨⟨⟨hw.1, by show w.c < 8; omega⟩, by show 0 < w.x.q.n w.c; omega, rfl⟩, ⟨e9.1, by show w.x.now ≤ 549755813888 + 33600000 * ((0 : Nat) : Int); omega⟩, Nat.zero_le _⟩
  · have hs := (by assumption : jInv l (w.c : Int) s)
    have hc := hs.1.1.2
    have hn := hs.1.2.2
    (conv => whnf); refine enter_mk (la := laC40 l st) ⟨s.a.x, s.a.c + 1⟩ ?_ (by (repeat' (first | ((conv => whnf); first | refine ⟨?_, ?_⟩ | exact trivial | fail) | (dsimp only; done) | ((try dsimp only); first | with_reducible exact rfl | exact Nat.le_refl _ | with_reducible exact (fun _ _ => rfl)))); all_goals ((first | rfl | exact fun _ _ => rfl | exact cnt_w (by omega) | (show 8 - (s.a.c + 1) < 8 - w.c; omega))))
    exact ⟨hs.1.1.1, by show s.a.c + 1 ≤ 8; omega⟩
  · skip
    have hs := (by assumption : jInv l (w.c : Int) s)
    have hl64 := (chk_ok (eInv_out hs.1.1.1).1.1.2).n2
    have hj := (by assumption : (s.j : Int) < IntKind.i64.wrap (IntKind.i64.wrap (2 * (l.len : Int)) + 2))
    rw [j_lt (j := s.j) hl64] at hj
    have hb : nextB l s.at_ s.a.c = true := by have h9 := (by assumption : (!nextB l s.at_ s.a.c) = false); simpa using h9
    obtain ⟨j1, j2, j3, j4, j5⟩ := j_at hs (by omega) hb
    have h9 := (by assumption : 12800 ≤ leftV l (IntKind.i64.wrap (s.at_ + nextV l s.at_ s.a.c)) s.a.c)
    rw [j1] at h9
    exact absurd h9 j4
  · skip
    have hs := (by assumption : jInv l (w.c : Int) s)
    have hl64 := (chk_ok (eInv_out hs.1.1.1).1.1.2).n2
    have hj := (by assumption : (s.j : Int) < IntKind.i64.wrap (IntKind.i64.wrap (2 * (l.len : Int)) + 2))
    rw [j_lt (j := s.j) hl64] at hj
    have hb : nextB l s.at_ s.a.c = true := by have h9 := (by assumption : (!nextB l s.at_ s.a.c) = false); simpa using h9
    obtain ⟨j1, j2, j3, j4, j5⟩ := j_at hs (by omega) hb
    have hjc : ((s.j + 1 : Nat) : Int) = IntKind.i64.wrap ((s.j : Int) + 1) := by rw [w64' (by omega) (by omega)]; omega
    have hjm : 2 * l.len + 2 - (s.j + 1) < 2 * l.len + 2 - s.j := by omega
    (conv => whnf); refine enter_mk (la := laJ45 l st (w.c : Int)) ⟨s.a, IntKind.i64.wrap (IntKind.i64.wrap (s.at_ + nextV l s.at_ s.a.c) + leftV l (IntKind.i64.wrap (s.at_ + nextV l s.at_ s.a.c)) s.a.c), s.j + 1⟩ ?_ (by (repeat' (first | ((conv => whnf); first | refine ⟨?_, ?_⟩ | exact trivial | fail) | (dsimp only; done) | ((try dsimp only); first | with_reducible exact rfl | exact Nat.le_refl _ | with_reducible exact (fun _ _ => rfl)))); all_goals ((first | rfl | exact fun _ _ => rfl | exact hjc | exact hjm)))
    exact j_step hs (by omega) hb
  · have hs := (by assumption : jInv l (w.c : Int) s)
    have h9 := (by assumption : ¬ 0 < lenV s.a.x.q s.a.c)
    rw [lenV_n hs.1.1.2] at h9
    have := hs.1.2.1
    exact absurd (by omega) h9
  · have hs := (by assumption : jInv l (w.c : Int) s)
    have hc := hs.1.1.2
    have hn := hs.1.2.2
    (conv => whnf); refine enter_mk (la := laC40 l st) ⟨s.a.x, s.a.c + 1⟩ ?_ (by (repeat' (first | ((conv => whnf); first | refine ⟨?_, ?_⟩ | exact trivial | fail) | (dsimp only; done) | ((try dsimp only); first | with_reducible exact rfl | exact Nat.le_refl _ | with_reducible exact (fun _ _ => rfl)))); all_goals ((first | rfl | exact fun _ _ => rfl | exact cnt_w (by omega) | (show 8 - (s.a.c + 1) < 8 - w.c; omega))))
    exact ⟨hs.1.1.1, by show s.a.c + 1 ≤ 8; omega⟩
  · have := sum_pos w.x.q
    exact (decide_eq_true (by omega)).symm

end Go.Proofs.Ytaadejgoafdbcaa
