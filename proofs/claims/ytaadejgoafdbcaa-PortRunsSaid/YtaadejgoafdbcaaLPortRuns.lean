/-
  For every list of gates, any rooms and all steps the law PortRuns answers true and leaves all memory as it was.
-/
import Derived.Test.YtaadejgoafdbcaaSx
import Derived.Test.YtaadejgoafdbcaaPortT
import Derived.Test.YtaadejgoafdbcaaRows
import Derived.WalkKit
import Derived.ProofKit
import Derived.OpenShut
namespace Go.Proofs.Ytaadejgoafdbcaa.portRuns
open Go.ChangeShapes Go.WideShapes Go.ChangeAt Go.RowKit Go.Sx
set_option linter.unusedVariables false
set_option linter.unusedSimpArgs false
set_option maxRecDepth 100000

theorem eq36 : EqOK Try.prog 36 := by unfold EqOK; kernel_rfl
noncomputable def cxN : Cx Try.prog := { ps := [], es := [], is := [], n0 := 0, loops := fun _ => none, cuts := fun _ => none }
noncomputable def cxZ : Cx Try.prog := { ps := [hdS, eightS, chkS], es := [pnZ], is := [inl fn11 cxN, inl fn14 cxN, inl fn10 cxN, inl fn17 cxN, inl fn18 cxN, inl fn15 cxN, inl fn19 cxN], n0 := 3, loops := fun _ => none, cuts := fun _ => none, held := fun i => match i with | 6 => some (true, .take 0 (.take 1 (.one 2 (.one 3 (.take 4 (.take 5 (.take 6 (.take 7 (.take 8 .done))))))))) | _ => none }
section
attribute [local irreducible] anyAlt enter Gw CS Lex HeldOK SmG chk roomsOK
set_option maxHeartbeats 16000000 in
theorem runs0 (l : GL) (a : Int) (st : SD) (hl : Gw l) (hc : ¬ chk l = 0) : Runs cxZ Try.f6 [G1a l, int_ .i64 a, .one (.a (.slc 1 9 0 st.len st.cap))] [roG l, roS st, opR st] yes := by
  repeat' (first | with_reducible exact trivial | with_reducible exact rfl | with_reducible exact Nat.le_refl _ | with_reducible exact (fun _ _ => rfl) | ((conv => whnf); first | (refine fun (x : Nat) => ?_) | (exact fun h => absurd h (by decide)) | (intro h9; (have h8 := of_decide_eq_true (p := type_of% h9) (by decide)); clear h8 h9) | (refine fun _ => ?_) | refine ⟨?_, ?_⟩ | exact trivial | exact Nat.le_refl _ | exact lex_q (by kernel_rfl) | exact lex_t (by kernel_rfl) | exact lex_h (by kernel_rfl) | fail))
  all_goals (try exact hl)
  all_goals (try exact hc)
  all_goals (try exact absurd hc (by assumption))
  all_goals (try exact (decide_eq_true rfl).symm)
  all_goals (try exact hc (by assumption))
  all_goals (exact absurd rfl (by assumption))
end
noncomputable def cxY (st : SD) (l : GL) : Cx Try.prog := { ps := [hdS, eightS, chkS, plenS, lenS, plostS, lostS, rsyS, rtuS], es := [pnY, newS, pputS, putS, nxS, pickS, chS, rplS], is := [], n0 := 3, loops := fun i => match i with | 22 => some (.inv (laH st l)) | 40 => some (.here 125 fun n => la40 st l n) | 64 => some (.here 125 fun n => la64 st l n) | _ => none, cuts := fun _ => none, cutsAt := fun i => match i with | 24 => some (125, 125, fun n _ => la24 st l n) | 28 => some (125, 125, fun n _ => la28 st l n) | 37 => some (125, 125, fun n _ => la37 st l n) | 56 => some (125, 125, fun n _ => la37 st l n) | 63 => some (125, 125, fun n _ => la63 st l n) | _ => none, lose := fun i => match i with | 30 => [3, 4] | _ => [], held := fun i => match i with | 6 => some (true, .take 0 (.take 1 (.one 2 (.one 3 (.take 4 (.take 5 (.take 6 (.take 7 (.take 8 .done))))))))) | 30 => some (true, .take 0 (.take 1 (.take 2 (.take 3 (.take 4 (.take 6 (.take 7 (.take 8 (.take 9 (.take 10 (.one 5 (.one 11 (.take 12 .done))))))))))))) | 61 => some (true, .take 0 (.take 1 (.take 3 (.take 4 (.take 5 (.take 6 (.take 7 (.one 2 (.one 8 (.take 9 .done)))))))))) | _ => none }
section
attribute [local irreducible] anyAlt anyO enter Gw CS Lex HeldOK SmG Tm chk turnV turnR stayV lfV pk pkC pkI pkB popL putE putL lenV lostV nxO nxP oK lfOK pR s28 chF chE chOK inR roomsOK gateR
set_option maxHeartbeats 32000000 in
theorem runs1 (l : GL) (a : Int) (st : SD) (hl : Gw l) (hc : chk l = 0) (hs : Sw st) : Runs (cxY st l) Try.f6 [G1a l, int_ .i64 a, .one (.a (.slc 1 9 0 st.len st.cap))] [roG l, roS st, opR st] yes := by
  obtain ⟨st1, st2, st3⟩ := hs.1
  repeat' (first | with_reducible exact trivial | with_reducible exact rfl | with_reducible exact Nat.le_refl _ | with_reducible exact (fun _ _ => rfl) | ((conv => whnf); first | (refine fun (x : PX) => ?_) | (refine fun (y : KX) => ?_) | (refine fun (z : CX) => ?_) | (refine fun (u : CL) => ?_) | (refine fun (v : Nat) => ?_) | (exact fun h => absurd h (by decide)) | (intro h9; (have h8 := of_decide_eq_true (p := type_of% h9) (by decide)); clear h8 h9) | (refine fun _ => ?_) | refine ⟨?_, ?_⟩ | exact trivial | exact Nat.le_refl _ | exact lex_q (by kernel_rfl) | exact lex_t (by kernel_rfl) | exact lex_h (by kernel_rfl) | fail))
  all_goals (try exact hl)
  all_goals (try exact hc)
  all_goals (try omega)
  all_goals (try exact absurd hc (by assumption))
  all_goals (try exact eq36)
  · skip
    exact rooms_eight (n := IntKind.i64.wrap (1 + bits .and .i64 a 15)) (by have := and15 a; rw [w64' (by omega) (by omega)]; omega)
  · skip
    have hy := (by assumption : CS l.len l u)
    (conv => whnf); refine enter_mk (la := laH st l) ⟨0, pn0 l (eightC (IntKind.i64.wrap (1 + bits .and .i64 a 15))) u, ⟨l, glN, 0, false⟩, 0⟩ ?_ (by (repeat' (first | ((conv => whnf); first | refine ⟨?_, ?_⟩ | exact trivial | fail) | (dsimp only; done) | ((try dsimp only); first | with_reducible exact rfl | exact Nat.le_refl _ | with_reducible exact (fun _ _ => rfl)))); all_goals ((first | rfl | exact fun _ _ => rfl)))
    exact ⟨p_new hl hc hy (by assumption), Nat.zero_le _, Int.le_refl _⟩
  · skip
    have hx := (by assumption : pR st x ∧ x.i ≤ st.len ∧ x.now ≤ 1073741824 * x.i)
    have hi : x.i < st.len := by omega
    (conv => whnf); refine enter_mk (la := la24 st l x.i) x ?_ (by (repeat' (first | ((conv => whnf); first | refine ⟨?_, ?_⟩ | exact trivial | fail) | (dsimp only; done) | ((try dsimp only); first | with_reducible exact rfl | exact Nat.le_refl _ | with_reducible exact (fun _ _ => rfl)))); all_goals ((first | rfl | exact fun _ _ => rfl | exact rr_lt hi)))
    exact ⟨hx.1, ⟨rfl, hi⟩, hx.2.2⟩
  · skip
    have hx := (by assumption : pR st x ∧ ((x.i : Int) = _ ∧ x.i < st.len) ∧ x.now ≤ 1073741824 * x.i)
    have hc9 := i_cnt hx.2.1.1 (by have := hx.2.1.2; have := (pR_out hx.1).1.2; omega)
    have hm : ∀ k : Nat, (x.i : Int) = k → st.len - (x.i + 1) < st.len - k := fun k hk => by have := hx.2.1.2; omega
    (conv => whnf); refine enter_mk (la := laH st l) ⟨x.i + 1, x.p, x.h, x.now⟩ ?_ (by (repeat' (first | ((conv => whnf); first | refine ⟨?_, ?_⟩ | exact trivial | fail) | (dsimp only; done) | ((try dsimp only); first | with_reducible exact rfl | exact Nat.le_refl _ | with_reducible exact (fun _ _ => rfl)))); all_goals ((first | rfl | exact fun _ _ => rfl | exact hc9 | exact hm _ hx.2.1.1)))
    exact ⟨p_i _ hx.1, hx.2.1.2, by have := hx.2.2; show x.now ≤ 1073741824 * ((x.i + 1 : Nat) : Int); omega⟩
  · skip
    have hx := (by assumption : pR st x ∧ ((x.i : Int) = _ ∧ x.i < st.len) ∧ x.now ≤ 1073741824 * x.i)
    have hc9 := i_cnt hx.2.1.1 (by have := hx.2.1.2; have := (pR_out hx.1).1.2; omega)
    have hm : ∀ k : Nat, (x.i : Int) = k → st.len - (x.i + 1) < st.len - k := fun k hk => by have := hx.2.1.2; omega
    (conv => whnf); refine enter_mk (la := laH st l) ⟨x.i + 1, x.p, x.h, x.now⟩ ?_ (by (repeat' (first | ((conv => whnf); first | refine ⟨?_, ?_⟩ | exact trivial | fail) | (dsimp only; done) | ((try dsimp only); first | with_reducible exact rfl | exact Nat.le_refl _ | with_reducible exact (fun _ _ => rfl)))); all_goals ((first | rfl | exact fun _ _ => rfl | exact hc9 | exact hm _ hx.2.1.1)))
    exact ⟨p_i _ hx.1, hx.2.1.2, by have := hx.2.2; show x.now ≤ 1073741824 * ((x.i + 1 : Nat) : Int); omega⟩
  · skip
    have hx := (by assumption : pR st x ∧ ((x.i : Int) = _ ∧ x.i < st.len) ∧ x.now ≤ 1073741824 * x.i)
    have hc9 := i_cnt hx.2.1.1 (by have := hx.2.1.2; have := (pR_out hx.1).1.2; omega)
    have hm : ∀ k : Nat, (x.i : Int) = k → st.len - (x.i + 1) < st.len - k := fun k hk => by have := hx.2.1.2; omega
    (conv => whnf); refine enter_mk (la := laH st l) ⟨x.i + 1, x.p, x.h, x.now⟩ ?_ (by (repeat' (first | ((conv => whnf); first | refine ⟨?_, ?_⟩ | exact trivial | fail) | (dsimp only; done) | ((try dsimp only); first | with_reducible exact rfl | exact Nat.le_refl _ | with_reducible exact (fun _ _ => rfl)))); all_goals ((first | rfl | exact fun _ _ => rfl | exact hc9 | exact hm _ hx.2.1.1)))
    exact ⟨p_i _ hx.1, hx.2.1.2, by have := hx.2.2; show x.now ≤ 1073741824 * ((x.i + 1 : Nat) : Int); omega⟩
  · skip
    have hx := (by assumption : pR st x ∧ ((x.i : Int) = _ ∧ x.i < st.len) ∧ x.now ≤ 1073741824 * x.i)
    (conv => whnf); refine enter_mk (la := la28 st l _) ⟨x.i, x.p, ⟨x.h.a, x.h.a, x.h.fr, false⟩, x.now⟩ ?_ (by (repeat' (first | ((conv => whnf); first | refine ⟨?_, ?_⟩ | exact trivial | fail) | (dsimp only; done) | ((try dsimp only); first | with_reducible exact rfl | exact Nat.le_refl _ | with_reducible exact (fun _ _ => rfl)))); all_goals ((first | rfl | exact fun _ _ => rfl)))
    have hw : swB x.h x.now := ⟨by assumption, by assumption⟩
    exact ⟨p_law hx.1 hw, s_mk hx.2.1 (by show (sl st (rr x)).len ≤ 64; omega) (fun hh => (by cases hh.1)), hx.2.2, (by show 0 ≤ st.d (rr x); omega), (by show st.d (rr x) ≤ 1073741824; omega)⟩
  · skip
    have hx := (by assumption : pR st x ∧ ((x.i : Int) = _ ∧ x.i < st.len) ∧ x.now ≤ 1073741824 * x.i)
    (conv => whnf); refine enter_mk (la := la28 st l _) x ?_ (by (repeat' (first | ((conv => whnf); first | refine ⟨?_, ?_⟩ | exact trivial | fail) | (dsimp only; done) | ((try dsimp only); first | with_reducible exact rfl | exact Nat.le_refl _ | with_reducible exact (fun _ _ => rfl)))); all_goals ((first | rfl | exact fun _ _ => rfl)))
    exact ⟨hx.1, s_mk hx.2.1 (by omega) (fun hh => absurd hh.2 (by assumption)), hx.2.2, by omega, by omega⟩
  · skip
    have hx := (by assumption : pR st x ∧ ((x.i : Int) = _ ∧ x.i < st.len) ∧ x.now ≤ 1073741824 * x.i)
    (conv => whnf); refine enter_mk (la := la28 st l _) x ?_ (by (repeat' (first | ((conv => whnf); first | refine ⟨?_, ?_⟩ | exact trivial | fail) | (dsimp only; done) | ((try dsimp only); first | with_reducible exact rfl | exact Nat.le_refl _ | with_reducible exact (fun _ _ => rfl)))); all_goals ((first | rfl | exact fun _ _ => rfl)))
    exact ⟨hx.1, s_mk hx.2.1 (by omega) (fun hh => absurd (hh.1.symm.trans (by assumption : x.h.wait = false)) (by decide)), hx.2.2, by omega, by omega⟩
  · skip
    exact absurd rfl (by assumption)
  · skip
    have hx := (by assumption : pR st x ∧ s28 st _ x ∧ x.now ≤ 1073741824 * x.i ∧ 0 ≤ st.d (rr x) ∧ st.d (rr x) ≤ 1073741824)
    have hsi := s_i hx.2.1
    (conv => whnf); refine enter_mk (la := la63 st l _) ⟨x.i, ptQ x.p (putL x.p.q (st.c (rr x)) ⟨st.id (rr x), st.sz (rr x), st.dr (rr x)⟩), x.h, x.now⟩ ?_ (by (repeat' (first | ((conv => whnf); first | refine ⟨?_, ?_⟩ | exact trivial | fail) | (dsimp only; done) | ((try dsimp only); first | with_reducible exact rfl | exact Nat.le_refl _ | with_reducible exact (fun _ _ => rfl)))); all_goals ((first | rfl | exact fun _ _ => rfl)))
    exact ⟨p_q _ hx.1, hsi, by have := hx.2.2.1; show x.now ≤ 1073741824 * (x.i : Int) + 1073741824; omega⟩
  · skip
    have hx := (by assumption : pR st x ∧ s28 st _ x ∧ x.now ≤ 1073741824 * x.i ∧ 0 ≤ st.d (rr x) ∧ st.d (rr x) ≤ 1073741824)
    have hsi := s_i hx.2.1
    have hsl := s_l hx.2.1
    have hw : IntKind.i64.wrap (x.now + st.d (rr x)) = x.now + st.d (rr x) := p_wrap hx.1 hsi.2 hx.2.2.1 hx.2.2.2
    have hb : x.now + st.d (rr x) ≤ 1073741824 * (x.i : Int) + 1073741824 := by have := hx.2.2.1; have := hx.2.2.2.2; omega
    (conv => whnf); refine enter_mk (la := la37 st l _) ⟨x.i, x.p, ⟨x.h.a, x.h.a, x.h.fr, false⟩, x.now + st.d (rr x)⟩ ?_ (by (repeat' (first | ((conv => whnf); first | refine ⟨?_, ?_⟩ | exact trivial | fail) | (dsimp only; done) | ((try dsimp only); first | with_reducible exact rfl | exact Nat.le_refl _ | with_reducible exact (fun _ _ => rfl)))); all_goals ((first | rfl | exact fun _ _ => rfl | exact hw | exact hw.symm)))
    have h9 := (by assumption : x.h.fr ≤ IntKind.i64.wrap (x.now + st.d (rr x)))
    rw [hw] at h9
    have hs9 : swB x.h (x.now + st.d (rr x)) := ⟨by assumption, h9⟩
    exact ⟨p_law (p_time hx.1 hx.2.2.2.1) hs9, s_mk hsi hsl (fun hh => (by cases hh.1)), hb⟩
  · skip
    have hx := (by assumption : pR st x ∧ s28 st _ x ∧ x.now ≤ 1073741824 * x.i ∧ 0 ≤ st.d (rr x) ∧ st.d (rr x) ≤ 1073741824)
    have hsi := s_i hx.2.1
    have hsl := s_l hx.2.1
    have hw : IntKind.i64.wrap (x.now + st.d (rr x)) = x.now + st.d (rr x) := p_wrap hx.1 hsi.2 hx.2.2.1 hx.2.2.2
    have hb : x.now + st.d (rr x) ≤ 1073741824 * (x.i : Int) + 1073741824 := by have := hx.2.2.1; have := hx.2.2.2.2; omega
    (conv => whnf); refine enter_mk (la := la37 st l _) ⟨x.i, x.p, x.h, x.now + st.d (rr x)⟩ ?_ (by (repeat' (first | ((conv => whnf); first | refine ⟨?_, ?_⟩ | exact trivial | fail) | (dsimp only; done) | ((try dsimp only); first | with_reducible exact rfl | exact Nat.le_refl _ | with_reducible exact (fun _ _ => rfl)))); all_goals ((first | rfl | exact fun _ _ => rfl | exact hw | exact hw.symm)))
    have h9 := (by assumption : ¬ x.h.fr ≤ IntKind.i64.wrap (x.now + st.d (rr x)))
    rw [hw] at h9
    exact ⟨p_time hx.1 hx.2.2.2.1, s_mk hsi hsl (fun hh => absurd hh.2 h9), hb⟩
  · skip
    have hx := (by assumption : pR st x ∧ s28 st _ x ∧ x.now ≤ 1073741824 * x.i ∧ 0 ≤ st.d (rr x) ∧ st.d (rr x) ≤ 1073741824)
    have hsi := s_i hx.2.1
    have hsl := s_l hx.2.1
    have hw : IntKind.i64.wrap (x.now + st.d (rr x)) = x.now + st.d (rr x) := p_wrap hx.1 hsi.2 hx.2.2.1 hx.2.2.2
    have hb : x.now + st.d (rr x) ≤ 1073741824 * (x.i : Int) + 1073741824 := by have := hx.2.2.1; have := hx.2.2.2.2; omega
    (conv => whnf); refine enter_mk (la := la37 st l _) ⟨x.i, x.p, x.h, x.now + st.d (rr x)⟩ ?_ (by (repeat' (first | ((conv => whnf); first | refine ⟨?_, ?_⟩ | exact trivial | fail) | (dsimp only; done) | ((try dsimp only); first | with_reducible exact rfl | exact Nat.le_refl _ | with_reducible exact (fun _ _ => rfl)))); all_goals ((first | rfl | exact fun _ _ => rfl | exact hw | exact hw.symm)))
    exact ⟨p_time hx.1 hx.2.2.2.1, s_mk hsi hsl (fun hh => absurd (hh.1.symm.trans (by assumption : x.h.wait = false)) (by decide)), hb⟩
  · skip
    have hx := (by assumption : pR st x ∧ s28 st _ x ∧ x.now ≤ 1073741824 * x.i + 1073741824)
    have hsi := s_i hx.2.1
    exact (pR_out hx.1).1.1
  · skip
    have hx := (by assumption : pR st x ∧ s28 st _ x ∧ x.now ≤ 1073741824 * x.i + 1073741824)
    have hsi := s_i hx.2.1
    exact p_max hx.1 hsi.2 hx.2.2
  · skip
    have hx := (by assumption : pR st x ∧ s28 st _ x ∧ x.now ≤ 1073741824 * x.i + 1073741824)
    have hsi := s_i hx.2.1
    have hp := p_nx hx.1 (s_n hx.2.1)
    have eo := hp.1
    (conv => whnf); refine enter_mk (la := la40 st l _) ⟨⟨x.i, nxP x.p x.now, x.h, x.now⟩, x.p.q, 0, _⟩ ?_ (by (repeat' (first | ((conv => whnf); first | refine ⟨?_, ?_⟩ | exact trivial | fail) | (dsimp only; done) | ((try dsimp only); first | with_reducible exact rfl | exact Nat.le_refl _ | with_reducible exact (fun _ _ => rfl)))); all_goals ((first | rfl | exact fun _ _ => rfl | exact congrArg pkC eo | exact (congrArg pkC eo).symm | exact congrArg pkB eo | exact (congrArg pkB eo).symm | exact congrArg (fun o => (pkI x.p.q o).id) eo | exact (congrArg (fun o => (pkI x.p.q o).id) eo).symm | exact congrArg (fun o => (pkI x.p.q o).sz) eo | exact (congrArg (fun o => (pkI x.p.q o).sz) eo).symm | exact congrArg (fun o => (pkI x.p.q o).dr) eo | exact (congrArg (fun o => (pkI x.p.q o).dr) eo).symm)))
    exact ⟨hp.2, ⟨hsi, hx.2.2⟩, nx_q eo, Nat.zero_le _, lk_0⟩
  · skip
    have hy := (by assumption : pR st y.x ∧ (((y.x.i : Int) = _ ∧ y.x.i < st.len) ∧ y.x.now ≤ 1073741824 * y.x.i + 1073741824) ∧ y.x.p.q = popL y.q (oK y.q y.x.h y.x.now) ∧ y.j ≤ 8 ∧ lfOK y.x.h y.x.now y.j y.g)
    exact (pR_out hy.1).2.1.1
  · skip
    have hy := (by assumption : pR st y.x ∧ (((y.x.i : Int) = _ ∧ y.x.i < st.len) ∧ y.x.now ≤ 1073741824 * y.x.i + 1073741824) ∧ y.x.p.q = popL y.q (oK y.q y.x.h y.x.now) ∧ y.j ≤ 8 ∧ lfOK y.x.h y.x.now y.j y.g)
    exact (pR_out hy.1).2.1.2
  · skip
    have hy := (by assumption : pR st y.x ∧ (((y.x.i : Int) = _ ∧ y.x.i < st.len) ∧ y.x.now ≤ 1073741824 * y.x.i + 1073741824) ∧ y.x.p.q = popL y.q (oK y.q y.x.h y.x.now) ∧ y.j ≤ 8 ∧ lfOK y.x.h y.x.now y.j y.g)
    have hcp := (by assumption : CS y.x.h.l.len y.x.h.l u)
    exact cp_gw hcp (pR_out hy.1).2.1.1
  · skip
    have hy := (by assumption : pR st y.x ∧ (((y.x.i : Int) = _ ∧ y.x.i < st.len) ∧ y.x.now ≤ 1073741824 * y.x.i + 1073741824) ∧ y.x.p.q = popL y.q (oK y.q y.x.h y.x.now) ∧ y.j ≤ 8 ∧ lfOK y.x.h y.x.now y.j y.g)
    have hcp := (by assumption : CS y.x.h.l.len y.x.h.l u)
    exact (cp_chk hcp).trans (pR_out hy.1).2.1.2
  · skip
    have hy := (by assumption : pR st y.x ∧ (((y.x.i : Int) = _ ∧ y.x.i < st.len) ∧ y.x.now ≤ 1073741824 * y.x.i + 1073741824) ∧ y.x.p.q = popL y.q (oK y.q y.x.h y.x.now) ∧ y.j ≤ 8 ∧ lfOK y.x.h y.x.now y.j y.g)
    exact p_in hy.1 hy.2.1.1.2 hy.2.1.2
  · skip
    exact gt_mk (j := y.j) (by omega)
  · skip
    have hy := (by assumption : pR st y.x ∧ (((y.x.i : Int) = _ ∧ y.x.i < st.len) ∧ y.x.now ≤ 1073741824 * y.x.i + 1073741824) ∧ y.x.p.q = popL y.q (oK y.q y.x.h y.x.now) ∧ y.j ≤ 8 ∧ lfOK y.x.h y.x.now y.j y.g)
    have hcp := (by assumption : CS y.x.h.l.len y.x.h.l u)
    have hj8 : y.j < 8 := by omega
    have hL := lv_of hcp (pR_out hy.1).2.1.2 (p_in hy.1 hy.2.1.1.2 hy.2.1.2) hj8
    have hk := chk_ok (pR_out hy.1).2.1.2
    have wc : IntKind.i64.wrap (2 * y.x.h.l.cyc) = 2 * y.x.h.l.cyc := w64' (by have := hk.c1; have := hk.c2; omega) (by have := hk.c1; have := hk.c2; omega)
    have hc9 := i_cnt (i := y.j) rfl (by omega)
    have hm : 8 - (y.j + 1) < 8 - y.j := by omega
    have h9 := (by assumption : (if ((y.j : Nat) : Int).toNat = ((y.j : Nat) : Int).toNat then stayV (cp y.x.h.l u) (phV (cp y.x.h.l u) y.x.now) (y.j : Int) (oI true) else y.g ((y.j : Nat) : Int).toNat) = IntKind.i64.wrap (2 * y.x.h.l.cyc))
    rw [if_pos rfl, wc] at h9
    rw [if_pos h9] at hL
    (conv => whnf); refine enter_mk (la := la40 st l _) ⟨y.x, y.q, y.j + 1, _⟩ ?_ (by (repeat' (first | ((conv => whnf); first | refine ⟨?_, ?_⟩ | exact trivial | fail) | (dsimp only; done) | ((try dsimp only); first | with_reducible exact rfl | exact Nat.le_refl _ | with_reducible exact (fun _ _ => rfl)))); all_goals ((first | rfl | exact fun _ _ => rfl | exact hc9 | exact hm)))
    refine ⟨hy.1, hy.2.1, hy.2.2.1, hj8, ?_⟩
    exact lk_w hy.2.2.2.2 (by assumption) (fun q hq => by simp [hq]) ((if_pos (Int.toNat_natCast _).symm).trans hL.symm)
  · skip
    have hy := (by assumption : pR st y.x ∧ (((y.x.i : Int) = _ ∧ y.x.i < st.len) ∧ y.x.now ≤ 1073741824 * y.x.i + 1073741824) ∧ y.x.p.q = popL y.q (oK y.q y.x.h y.x.now) ∧ y.j ≤ 8 ∧ lfOK y.x.h y.x.now y.j y.g)
    have hcp := (by assumption : CS y.x.h.l.len y.x.h.l u)
    have hj8 : y.j < 8 := by omega
    have hL := lv_of hcp (pR_out hy.1).2.1.2 (p_in hy.1 hy.2.1.1.2 hy.2.1.2) hj8
    have hk := chk_ok (pR_out hy.1).2.1.2
    have wc : IntKind.i64.wrap (2 * y.x.h.l.cyc) = 2 * y.x.h.l.cyc := w64' (by have := hk.c1; have := hk.c2; omega) (by have := hk.c1; have := hk.c2; omega)
    have hc9 := i_cnt (i := y.j) rfl (by omega)
    have hm : 8 - (y.j + 1) < 8 - y.j := by omega
    have h9 := (by assumption : (if ((y.j : Nat) : Int).toNat = ((y.j : Nat) : Int).toNat then stayV (cp y.x.h.l u) (phV (cp y.x.h.l u) y.x.now) (y.j : Int) (oI true) else y.g ((y.j : Nat) : Int).toNat) = IntKind.i64.wrap (2 * y.x.h.l.cyc))
    rw [if_pos rfl, wc] at h9
    rw [if_pos h9] at hL
    (conv => whnf); refine enter_mk (la := la40 st l _) ⟨y.x, y.q, y.j + 1, _⟩ ?_ (by (repeat' (first | ((conv => whnf); first | refine ⟨?_, ?_⟩ | exact trivial | fail) | (dsimp only; done) | ((try dsimp only); first | with_reducible exact rfl | exact Nat.le_refl _ | with_reducible exact (fun _ _ => rfl)))); all_goals ((first | rfl | exact fun _ _ => rfl | exact hc9 | exact hm)))
    refine ⟨hy.1, hy.2.1, hy.2.2.1, hj8, ?_⟩
    exact lk_n hy.2.2.2.2 (by assumption) (fun q hq => by simp [hq]) ((if_pos (Int.toNat_natCast _).symm).trans hL.symm)
  · skip
    have hy := (by assumption : pR st y.x ∧ (((y.x.i : Int) = _ ∧ y.x.i < st.len) ∧ y.x.now ≤ 1073741824 * y.x.i + 1073741824) ∧ y.x.p.q = popL y.q (oK y.q y.x.h y.x.now) ∧ y.j ≤ 8 ∧ lfOK y.x.h y.x.now y.j y.g)
    have hcp := (by assumption : CS y.x.h.l.len y.x.h.l u)
    have hj8 : y.j < 8 := by omega
    have hL := lv_of hcp (pR_out hy.1).2.1.2 (p_in hy.1 hy.2.1.1.2 hy.2.1.2) hj8
    have hk := chk_ok (pR_out hy.1).2.1.2
    have wc : IntKind.i64.wrap (2 * y.x.h.l.cyc) = 2 * y.x.h.l.cyc := w64' (by have := hk.c1; have := hk.c2; omega) (by have := hk.c1; have := hk.c2; omega)
    have hc9 := i_cnt (i := y.j) rfl (by omega)
    have hm : 8 - (y.j + 1) < 8 - y.j := by omega
    have h9 := (by assumption : ¬ (if ((y.j : Nat) : Int).toNat = ((y.j : Nat) : Int).toNat then stayV (cp y.x.h.l u) (phV (cp y.x.h.l u) y.x.now) (y.j : Int) (oI true) else y.g ((y.j : Nat) : Int).toNat) = IntKind.i64.wrap (2 * y.x.h.l.cyc))
    rw [if_pos rfl, wc] at h9
    rw [if_neg h9] at hL
    (conv => whnf); refine enter_mk (la := la40 st l _) ⟨y.x, y.q, y.j + 1, _⟩ ?_ (by (repeat' (first | ((conv => whnf); first | refine ⟨?_, ?_⟩ | exact trivial | fail) | (dsimp only; done) | ((try dsimp only); first | with_reducible exact rfl | exact Nat.le_refl _ | with_reducible exact (fun _ _ => rfl)))); all_goals ((first | rfl | exact fun _ _ => rfl | exact hc9 | exact hm)))
    refine ⟨hy.1, hy.2.1, hy.2.2.1, hj8, ?_⟩
    exact lk_w hy.2.2.2.2 (by assumption) (fun q hq => by simp [hq]) ((if_pos (Int.toNat_natCast _).symm).trans hL.symm)
  · skip
    have hy := (by assumption : pR st y.x ∧ (((y.x.i : Int) = _ ∧ y.x.i < st.len) ∧ y.x.now ≤ 1073741824 * y.x.i + 1073741824) ∧ y.x.p.q = popL y.q (oK y.q y.x.h y.x.now) ∧ y.j ≤ 8 ∧ lfOK y.x.h y.x.now y.j y.g)
    have hcp := (by assumption : CS y.x.h.l.len y.x.h.l u)
    have hj8 : y.j < 8 := by omega
    have hL := lv_of hcp (pR_out hy.1).2.1.2 (p_in hy.1 hy.2.1.1.2 hy.2.1.2) hj8
    have hk := chk_ok (pR_out hy.1).2.1.2
    have wc : IntKind.i64.wrap (2 * y.x.h.l.cyc) = 2 * y.x.h.l.cyc := w64' (by have := hk.c1; have := hk.c2; omega) (by have := hk.c1; have := hk.c2; omega)
    have hc9 := i_cnt (i := y.j) rfl (by omega)
    have hm : 8 - (y.j + 1) < 8 - y.j := by omega
    have h9 := (by assumption : ¬ (if ((y.j : Nat) : Int).toNat = ((y.j : Nat) : Int).toNat then stayV (cp y.x.h.l u) (phV (cp y.x.h.l u) y.x.now) (y.j : Int) (oI true) else y.g ((y.j : Nat) : Int).toNat) = IntKind.i64.wrap (2 * y.x.h.l.cyc))
    rw [if_pos rfl, wc] at h9
    rw [if_neg h9] at hL
    (conv => whnf); refine enter_mk (la := la40 st l _) ⟨y.x, y.q, y.j + 1, _⟩ ?_ (by (repeat' (first | ((conv => whnf); first | refine ⟨?_, ?_⟩ | exact trivial | fail) | (dsimp only; done) | ((try dsimp only); first | with_reducible exact rfl | exact Nat.le_refl _ | with_reducible exact (fun _ _ => rfl)))); all_goals ((first | rfl | exact fun _ _ => rfl | exact hc9 | exact hm)))
    refine ⟨hy.1, hy.2.1, hy.2.2.1, hj8, ?_⟩
    exact lk_n hy.2.2.2.2 (by assumption) (fun q hq => by simp [hq]) ((if_pos (Int.toNat_natCast _).symm).trans hL.symm)
  · skip
    have hy := (by assumption : pR st y.x ∧ (((y.x.i : Int) = _ ∧ y.x.i < st.len) ∧ y.x.now ≤ 1073741824 * y.x.i + 1073741824) ∧ y.x.p.q = popL y.q (oK y.q y.x.h y.x.now) ∧ y.j ≤ 8 ∧ lfOK y.x.h y.x.now y.j y.g)
    have h8 : y.j = 8 := by have := hy.2.2.2.1; omega
    have hk8 : lfOK y.x.h y.x.now 8 y.g := h8 ▸ hy.2.2.2.2
    have eo : pk y.q ⟨y.g 0, y.g 1, y.g 2, y.g 3, y.g 4, y.g 5, y.g 6, y.g 7⟩ = oK y.q y.x.h y.x.now := pk_of hk8
    have h9 : (!(pkB (oK y.q y.x.h y.x.now) == pkB (pk y.q ⟨y.g 0, y.g 1, y.g 2, y.g 3, y.g 4, y.g 5, y.g 6, y.g 7⟩))) = true := by assumption
    rw [eo] at h9
    exact absurd h9 (by generalize pkB (oK y.q y.x.h y.x.now) = b; cases b <;> decide)
  · skip
    have hy := (by assumption : pR st y.x ∧ (((y.x.i : Int) = _ ∧ y.x.i < st.len) ∧ y.x.now ≤ 1073741824 * y.x.i + 1073741824) ∧ y.x.p.q = popL y.q (oK y.q y.x.h y.x.now) ∧ y.j ≤ 8 ∧ lfOK y.x.h y.x.now y.j y.g)
    have h8 : y.j = 8 := by have := hy.2.2.2.1; omega
    have hk8 : lfOK y.x.h y.x.now 8 y.g := h8 ▸ hy.2.2.2.2
    have eo : pk y.q ⟨y.g 0, y.g 1, y.g 2, y.g 3, y.g 4, y.g 5, y.g 6, y.g 7⟩ = oK y.q y.x.h y.x.now := pk_of hk8
    have h9 : (!(decide ((pkI y.q (oK y.q y.x.h y.x.now)).id = (pkI y.q (pk y.q ⟨y.g 0, y.g 1, y.g 2, y.g 3, y.g 4, y.g 5, y.g 6, y.g 7⟩)).id) && (decide ((pkI y.q (oK y.q y.x.h y.x.now)).sz = (pkI y.q (pk y.q ⟨y.g 0, y.g 1, y.g 2, y.g 3, y.g 4, y.g 5, y.g 6, y.g 7⟩)).sz) && (((pkI y.q (oK y.q y.x.h y.x.now)).dr == (pkI y.q (pk y.q ⟨y.g 0, y.g 1, y.g 2, y.g 3, y.g 4, y.g 5, y.g 6, y.g 7⟩)).dr) && true)))) = true := by assumption
    rw [eo] at h9
    simp at h9
  · skip
    have hy := (by assumption : pR st y.x ∧ (((y.x.i : Int) = _ ∧ y.x.i < st.len) ∧ y.x.now ≤ 1073741824 * y.x.i + 1073741824) ∧ y.x.p.q = popL y.q (oK y.q y.x.h y.x.now) ∧ y.j ≤ 8 ∧ lfOK y.x.h y.x.now y.j y.g)
    have h8 : y.j = 8 := by have := hy.2.2.2.1; omega
    have hk8 : lfOK y.x.h y.x.now 8 y.g := h8 ▸ hy.2.2.2.2
    have eo : pk y.q ⟨y.g 0, y.g 1, y.g 2, y.g 3, y.g 4, y.g 5, y.g 6, y.g 7⟩ = oK y.q y.x.h y.x.now := pk_of hk8
    have h9 : ¬ pkC (oK y.q y.x.h y.x.now) = pkC (pk y.q ⟨y.g 0, y.g 1, y.g 2, y.g 3, y.g 4, y.g 5, y.g 6, y.g 7⟩) := by assumption
    rw [eo] at h9
    exact absurd rfl h9
  · skip
    have hy := (by assumption : pR st y.x ∧ (((y.x.i : Int) = _ ∧ y.x.i < st.len) ∧ y.x.now ≤ 1073741824 * y.x.i + 1073741824) ∧ y.x.p.q = popL y.q (oK y.q y.x.h y.x.now) ∧ y.j ≤ 8 ∧ lfOK y.x.h y.x.now y.j y.g)
    have h8 : y.j = 8 := by have := hy.2.2.2.1; omega
    have hk8 : lfOK y.x.h y.x.now 8 y.g := h8 ▸ hy.2.2.2.2
    have eo : pk y.q ⟨y.g 0, y.g 1, y.g 2, y.g 3, y.g 4, y.g 5, y.g 6, y.g 7⟩ = oK y.q y.x.h y.x.now := pk_of hk8
    have e2 : popL y.q (pk y.q ⟨y.g 0, y.g 1, y.g 2, y.g 3, y.g 4, y.g 5, y.g 6, y.g 7⟩) = y.x.p.q := by rw [eo]; exact hy.2.2.1.symm
    (conv => whnf); refine enter_mk (la := la63 st l _) y.x ?_ (by (repeat' (first | ((conv => whnf); first | refine ⟨?_, ?_⟩ | exact trivial | fail) | (dsimp only; done) | ((try dsimp only); first | with_reducible exact rfl | exact Nat.le_refl _ | with_reducible exact (fun _ _ => rfl)))); all_goals ((first | rfl | exact fun _ _ => rfl | exact congrArg Ln.n e2 | exact (congrArg Ln.n e2).symm | exact congrArg Ln.room e2 | exact (congrArg Ln.room e2).symm | exact congrArg Ln.lost e2 | exact (congrArg Ln.lost e2).symm | exact congrArg Ln.id e2 | exact (congrArg Ln.id e2).symm | exact congrArg Ln.sz e2 | exact (congrArg Ln.sz e2).symm | exact congrArg Ln.dr e2 | exact (congrArg Ln.dr e2).symm)))
    exact ⟨hy.1, hy.2.1.1, hy.2.1.2⟩
  · skip
    have hx := (by assumption : pR st x ∧ s28 st _ x ∧ x.now ≤ 1073741824 * x.i ∧ 0 ≤ st.d (rr x) ∧ st.d (rr x) ≤ 1073741824)
    have hsi := s_i hx.2.1
    have hsl := s_l hx.2.1
    have hw : IntKind.i64.wrap (x.now + st.d (rr x)) = x.now + st.d (rr x) := p_wrap hx.1 hsi.2 hx.2.2.1 hx.2.2.2
    have hb : x.now + st.d (rr x) ≤ 1073741824 * (x.i : Int) + 1073741824 := by have := hx.2.2.1; have := hx.2.2.2.2; omega
    (conv => whnf); refine enter_mk (la := la37 st l _) ⟨x.i, x.p, ⟨x.h.a, x.h.a, x.h.fr, false⟩, x.now + st.d (rr x)⟩ ?_ (by (repeat' (first | ((conv => whnf); first | refine ⟨?_, ?_⟩ | exact trivial | fail) | (dsimp only; done) | ((try dsimp only); first | with_reducible exact rfl | exact Nat.le_refl _ | with_reducible exact (fun _ _ => rfl)))); all_goals ((first | rfl | exact fun _ _ => rfl | exact hw | exact hw.symm)))
    have h9 := (by assumption : x.h.fr ≤ IntKind.i64.wrap (x.now + st.d (rr x)))
    rw [hw] at h9
    have hs9 : swB x.h (x.now + st.d (rr x)) := ⟨by assumption, h9⟩
    exact ⟨p_law (p_time hx.1 hx.2.2.2.1) hs9, s_mk hsi hsl (fun hh => (by cases hh.1)), hb⟩
  · skip
    have hx := (by assumption : pR st x ∧ s28 st _ x ∧ x.now ≤ 1073741824 * x.i ∧ 0 ≤ st.d (rr x) ∧ st.d (rr x) ≤ 1073741824)
    have hsi := s_i hx.2.1
    have hsl := s_l hx.2.1
    have hw : IntKind.i64.wrap (x.now + st.d (rr x)) = x.now + st.d (rr x) := p_wrap hx.1 hsi.2 hx.2.2.1 hx.2.2.2
    have hb : x.now + st.d (rr x) ≤ 1073741824 * (x.i : Int) + 1073741824 := by have := hx.2.2.1; have := hx.2.2.2.2; omega
    (conv => whnf); refine enter_mk (la := la37 st l _) ⟨x.i, x.p, x.h, x.now + st.d (rr x)⟩ ?_ (by (repeat' (first | ((conv => whnf); first | refine ⟨?_, ?_⟩ | exact trivial | fail) | (dsimp only; done) | ((try dsimp only); first | with_reducible exact rfl | exact Nat.le_refl _ | with_reducible exact (fun _ _ => rfl)))); all_goals ((first | rfl | exact fun _ _ => rfl | exact hw | exact hw.symm)))
    have h9 := (by assumption : ¬ x.h.fr ≤ IntKind.i64.wrap (x.now + st.d (rr x)))
    rw [hw] at h9
    exact ⟨p_time hx.1 hx.2.2.2.1, s_mk hsi hsl (fun hh => absurd hh.2 h9), hb⟩
  · skip
    have hx := (by assumption : pR st x ∧ s28 st _ x ∧ x.now ≤ 1073741824 * x.i ∧ 0 ≤ st.d (rr x) ∧ st.d (rr x) ≤ 1073741824)
    have hsi := s_i hx.2.1
    have hsl := s_l hx.2.1
    have hw : IntKind.i64.wrap (x.now + st.d (rr x)) = x.now + st.d (rr x) := p_wrap hx.1 hsi.2 hx.2.2.1 hx.2.2.2
    have hb : x.now + st.d (rr x) ≤ 1073741824 * (x.i : Int) + 1073741824 := by have := hx.2.2.1; have := hx.2.2.2.2; omega
    (conv => whnf); refine enter_mk (la := la37 st l _) ⟨x.i, x.p, x.h, x.now + st.d (rr x)⟩ ?_ (by (repeat' (first | ((conv => whnf); first | refine ⟨?_, ?_⟩ | exact trivial | fail) | (dsimp only; done) | ((try dsimp only); first | with_reducible exact rfl | exact Nat.le_refl _ | with_reducible exact (fun _ _ => rfl)))); all_goals ((first | rfl | exact fun _ _ => rfl | exact hw | exact hw.symm)))
    exact ⟨p_time hx.1 hx.2.2.2.1, s_mk hsi hsl (fun hh => absurd (hh.1.symm.trans (by assumption : x.h.wait = false)) (by decide)), hb⟩
  · skip
    have hx := (by assumption : pR st x ∧ s28 st _ x ∧ x.now ≤ 1073741824 * x.i + 1073741824)
    have hsi := s_i hx.2.1
    exact st3g hs hsi.2
  · skip
    have hx := (by assumption : pR st x ∧ s28 st _ x ∧ x.now ≤ 1073741824 * x.i + 1073741824)
    have hsi := s_i hx.2.1
    exact st3g hs hsi.2
  · skip
    have hx := (by assumption : pR st x ∧ s28 st _ x ∧ x.now ≤ 1073741824 * x.i + 1073741824)
    have hsi := s_i hx.2.1
    have h0 : ¬ chOK (sl st (rr x)) x.now := by assumption
    have h9 : ¬ chE (sl st (rr x)) = chk (sl st (rr x)) := by assumption
    exact absurd (ch_e h0 (p_ok hx.1 hsi.2 hx.2.2)) h9
  · skip
    have h9 : chE (sl st (rr x)) = 0 := by assumption
    exact (chE_ne h9).elim
  · skip
    have h9 : chE (sl st (rr x)) = 0 := by assumption
    exact (chE_ne h9).elim
  · skip
    have h9 : chE (sl st (rr x)) = 0 := by assumption
    exact (chE_ne h9).elim
  · skip
    have h9 : chE (sl st (rr x)) = 0 := by assumption
    exact (chE_ne h9).elim
  · skip
    have h9 : chE (sl st (rr x)) = 0 := by assumption
    exact (chE_ne h9).elim
  · skip
    have h9 : chE (sl st (rr x)) = 0 := by assumption
    exact (chE_ne h9).elim
  · skip
    have hx := (by assumption : pR st x ∧ s28 st _ x ∧ x.now ≤ 1073741824 * x.i + 1073741824)
    have hsi := s_i hx.2.1
    (conv => whnf); refine enter_mk (la := la63 st l _) x ?_ (by (repeat' (first | ((conv => whnf); first | refine ⟨?_, ?_⟩ | exact trivial | fail) | (dsimp only; done) | ((try dsimp only); first | with_reducible exact rfl | exact Nat.le_refl _ | with_reducible exact (fun _ _ => rfl)))); all_goals ((first | rfl | exact fun _ _ => rfl)))
    exact ⟨hx.1, hsi, hx.2.2⟩
  · skip
    have hx := (by assumption : pR st x ∧ s28 st _ x ∧ x.now ≤ 1073741824 * x.i + 1073741824)
    have hsi := s_i hx.2.1
    exact st3g hs hsi.2
  · skip
    have hx := (by assumption : pR st x ∧ s28 st _ x ∧ x.now ≤ 1073741824 * x.i + 1073741824)
    have hsi := s_i hx.2.1
    have hco : chOK (sl st (rr x)) x.now ∧ CS (sl st (rr x)).len (sl st (rr x)) u := by assumption
    have h9 : ¬ 0 = chk (sl st (rr x)) := by assumption
    exact absurd (ch_0 hco.1).symm h9
  · skip
    have hx := (by assumption : pR st x ∧ s28 st _ x ∧ x.now ≤ 1073741824 * x.i + 1073741824)
    have hsi := s_i hx.2.1
    exact st3g hs hsi.2
  · skip
    have hx := (by assumption : pR st x ∧ s28 st _ x ∧ x.now ≤ 1073741824 * x.i + 1073741824)
    have hsi := s_i hx.2.1
    have hc0 : chk (sl st (rr x)) = 0 := (Decidable.not_not.1 (by assumption : ¬ ¬ 0 = chk (sl st (rr x)))).symm
    exact hc0
  · skip
    have hx := (by assumption : pR st x ∧ s28 st _ x ∧ x.now ≤ 1073741824 * x.i + 1073741824)
    have hsi := s_i hx.2.1
    have hcp := (by assumption : CS (sl st (rr x)).len (sl st (rr x)) u)
    exact cp_gw hcp (st3g hs hsi.2)
  · skip
    have hx := (by assumption : pR st x ∧ s28 st _ x ∧ x.now ≤ 1073741824 * x.i + 1073741824)
    have hsi := s_i hx.2.1
    have hc0 : chk (sl st (rr x)) = 0 := (Decidable.not_not.1 (by assumption : ¬ ¬ 0 = chk (sl st (rr x)))).symm
    have hcp := (by assumption : CS (sl st (rr x)).len (sl st (rr x)) u)
    exact (cp_chk hcp).trans hc0
  · skip
    have hx := (by assumption : pR st x ∧ s28 st _ x ∧ x.now ≤ 1073741824 * x.i + 1073741824)
    have hsi := s_i hx.2.1
    have hc0 : chk (sl st (rr x)) = 0 := (Decidable.not_not.1 (by assumption : ¬ ¬ 0 = chk (sl st (rr x)))).symm
    exact tm_in (t_in (st3g hs hsi.2) hc0 (pR_out hx.1).1.1 (p_max hx.1 hsi.2 hx.2.2))
  · skip
    have hx := (by assumption : pR st x ∧ s28 st _ x ∧ x.now ≤ 1073741824 * x.i + 1073741824)
    have hsi := s_i hx.2.1
    have hc0 : chk (sl st (rr x)) = 0 := (Decidable.not_not.1 (by assumption : ¬ ¬ 0 = chk (sl st (rr x)))).symm
    rename_i u1 hu1 _ _
    have hu2 : chOK (sl st (rr x)) x.now ∧ CS (sl st (rr x)).len (sl st (rr x)) u1 := hu1
    have hcp := hu2.2
    (conv => whnf); refine enter_mk (la := la63 st l _) ⟨x.i, chP (atG x.p.g x.now).l (sl st (rr x)) x.now x.p.q u1, ⟨x.h.l, sl st (rr x), turnR (sl st (rr x)) (mx x.now (sl st (rr x)).base), true⟩, x.now⟩ ?_ (by (repeat' (first | ((conv => whnf); first | refine ⟨?_, ?_⟩ | exact trivial | fail) | (dsimp only; done) | ((try dsimp only); first | with_reducible exact rfl | exact Nat.le_refl _ | with_reducible exact (fun _ _ => rfl)))); all_goals ((first | rfl | exact fun _ _ => rfl | exact tR_cp | exact tR_cp.symm)))
    exact ⟨p_ch hx.1 (s_n hx.2.1) (st3g hs hsi.2) hc0 (p_max hx.1 hsi.2 hx.2.2) hcp, hsi, hx.2.2⟩
  · skip
    have hx := (by assumption : pR st x ∧ s28 st _ x ∧ x.now ≤ 1073741824 * x.i ∧ 0 ≤ st.d (rr x) ∧ st.d (rr x) ≤ 1073741824)
    have hsi := s_i hx.2.1
    (conv => whnf); refine enter_mk (la := la63 st l _) x ?_ (by (repeat' (first | ((conv => whnf); first | refine ⟨?_, ?_⟩ | exact trivial | fail) | (dsimp only; done) | ((try dsimp only); first | with_reducible exact rfl | exact Nat.le_refl _ | with_reducible exact (fun _ _ => rfl)))); all_goals ((first | rfl | exact fun _ _ => rfl)))
    exact ⟨hx.1, hsi, by have := hx.2.2.1; omega⟩
  · skip
    have hx := (by assumption : pR st x ∧ ((x.i : Int) = _ ∧ x.i < st.len) ∧ x.now ≤ 1073741824 * x.i + 1073741824)
    (conv => whnf); refine enter_mk (la := la64 st l _) ⟨x, 0⟩ ?_ (by (repeat' (first | ((conv => whnf); first | refine ⟨?_, ?_⟩ | exact trivial | fail) | (dsimp only; done) | ((try dsimp only); first | with_reducible exact rfl | exact Nat.le_refl _ | with_reducible exact (fun _ _ => rfl)))); all_goals ((first | rfl | exact fun _ _ => rfl)))
    exact ⟨hx, Nat.zero_le _⟩
  · skip
    exact absurd rfl (by assumption)
  · skip
    exact absurd rfl (by assumption)
  · skip
    have hz := (by assumption : (pR st z.x ∧ ((z.x.i : Int) = _ ∧ z.x.i < st.len) ∧ z.x.now ≤ 1073741824 * z.x.i + 1073741824) ∧ z.c ≤ 8)
    have hc9 := i_cnt (i := z.c) rfl (by omega)
    have hm : 8 - (z.c + 1) < 8 - z.c := by omega
    (conv => whnf); refine enter_mk (la := la64 st l _) ⟨z.x, z.c + 1⟩ ?_ (by (repeat' (first | ((conv => whnf); first | refine ⟨?_, ?_⟩ | exact trivial | fail) | (dsimp only; done) | ((try dsimp only); first | with_reducible exact rfl | exact Nat.le_refl _ | with_reducible exact (fun _ _ => rfl)))); all_goals ((first | rfl | exact fun _ _ => rfl | exact hc9 | exact hm)))
    exact ⟨hz.1, by show z.c + 1 ≤ 8; omega⟩
  · skip
    have hz := (by assumption : (pR st z.x ∧ ((z.x.i : Int) = _ ∧ z.x.i < st.len) ∧ z.x.now ≤ 1073741824 * z.x.i + 1073741824) ∧ z.c ≤ 8)
    have hc9 := i_cnt hz.1.2.1.1 (by have := hz.1.2.1.2; have := (pR_out hz.1.1).1.2; omega)
    have hm : ∀ k : Nat, (z.x.i : Int) = k → st.len - (z.x.i + 1) < st.len - k := fun k hk => by have := hz.1.2.1.2; omega
    (conv => whnf); refine enter_mk (la := laH st l) ⟨z.x.i + 1, z.x.p, z.x.h, z.x.now⟩ ?_ (by (repeat' (first | ((conv => whnf); first | refine ⟨?_, ?_⟩ | exact trivial | fail) | (dsimp only; done) | ((try dsimp only); first | with_reducible exact rfl | exact Nat.le_refl _ | with_reducible exact (fun _ _ => rfl)))); all_goals ((first | rfl | exact fun _ _ => rfl | exact hc9 | exact hm _ hz.1.2.1.1)))
    exact ⟨p_i _ hz.1.1, hz.1.2.1.2, by have := hz.1.2.2; show z.x.now ≤ 1073741824 * ((z.x.i + 1 : Nat) : Int); omega⟩
  · skip
    exact absurd (rooms_eight (n := IntKind.i64.wrap (1 + bits .and .i64 a 15)) (by have := and15 a; rw [w64' (by omega) (by omega)]; omega)) (by assumption)
end
noncomputable def cxA (st : SD) (l : GL) : Cx Try.prog := if chk l = 0 then cxY st l else cxZ
theorem cxA_n0 {st : SD} {l : GL} : (cxA st l).n0 ≤ 3 := by unfold cxA; split <;> exact Nat.le_refl 3
theorem runsA (l : GL) (a : Int) (st : SD) (hl : Gw l) (hs : Sw st) : Runs (cxA st l) Try.f6 [G1a l, int_ .i64 a, .one (.a (.slc 1 9 0 st.len st.cap))] [roG l, roS st, opR st] yes := by
  unfold cxA
  split
  · exact runs1 l a st hl (by assumption) hs
  · exact runs0 l a st hl (by assumption)

theorem own : ownKnob Try.prog.godebug = none := by kernel_rfl

set_option maxRecDepth 100000 in
theorem lifted (os : Os) (started : os.Started) (H : Type) (enc : TypeId × Value → H) :
    ReturnsInHanded {} Try.checked os 6 .any (Rows.portRunsSpec.pre6 enc Try.prog Try.f6 Rows.portRunsRow.domain false) (Rows.portRunsSpec.post enc Try.prog Try.f6 false true false false) := by
  refine returnsInHanded_of_change (C := Try.checked) own started (by kernel_rfl) Try.func6
    (ChangeSpec.witness6 (enc := enc) (C := Try.checked) false ⟨#[], #[.agg #[.int .i64 0, .int .i64 0, .slice none 0 0], .int .i64 0, .slice none 0 0], []⟩ 8 (by kernel_rfl) (by kernel_rfl) (by kernel_rfl) (by kernel_rfl)) ?_
  intro W base args ds gs before hval0 hW hcnd _
  have hval : ∀ (j : Nat) t v, Try.f6.params[j]? = some t → args[j]? = some v → Value.okWide Try.prog W .any base t v := hval0
  have hW' := hW
  obtain ⟨p, q, hA0, hV, rfl, hfz, hnd⟩ := hW
  have hA : DataW.TrodAll enc Try.prog W 0 (fun _ => true) true Try.f6.params.toList args.toList ds p := hA0
  rw [Try.params6] at hA hval
  obtain ⟨v0, vs0, d0, ds0, p0, q0, hargs0, rfl, rfl, h0, r0⟩ := trodAll_cons hA
  obtain ⟨v1, vs1, d1, ds1, p1, q1, hargs1, rfl, rfl, h1, r1⟩ := trodAll_cons r0
  obtain ⟨v2, vs2, d2, ds2, p2, q2, hargs2, rfl, rfl, h2, r2⟩ := trodAll_cons r1
  obtain ⟨rfl, rfl, rfl⟩ := trodAll_nil r2
  obtain ⟨rfl, rfl⟩ := trodVars_none hV
  obtain rfl : args = #[v0, v1, v2] := by cases args; simp_all
  obtain ⟨a1, rfl, rfl, rfl, w1⟩ := open_int Try.underlying3 (hval 1 3 v1 rfl rfl) h1
  obtain ⟨A2, n2, c2, s2⟩ := sliceM_open (d := 6) (ss := [.num (some .i64), .num (some .i64), .num (some .i64), .num (some .i64), .num none, .num (some .i64), .num (some .i64), .num (some .i64), .sl [some .i64, some .i64]]) Try.underlying25 (by kernel_rfl) (by kernel_rfl) (hval 2 25 v2 rfl rfl) h2
  obtain ⟨cs0, hv0, hl0, hc0⟩ := mix_agg (d := 6) (ss := [.num (some .i64), .num (some .i64), .sl [some .i64, some .i64]]) Try.underlying24 (by kernel_rfl) (by kernel_rfl) (hval 0 24 v0 rfl rfl) h0
  have g0_0 := listMix_of hl0 hc0
  clear hl0 hc0
  obtain ⟨_, cs0_1, rfl, ⟨b0_0, rfl, w0_0⟩, g0_1⟩ := listMix_cons g0_0
  obtain ⟨_, cs0_2, rfl, ⟨b0_1, rfl, w0_1⟩, g0_2⟩ := listMix_cons g0_1
  obtain ⟨u0_2, cs0_3, rfl, ⟨A0_2, n0_2, c0_2, s0_2⟩, g0_3⟩ := listMix_cons g0_2
  obtain rfl := listMix_nil g0_3
  subst hv0
  refine Calls.mono (law_calls mixed Try.func6 (runsA ⟨b0_0, b0_1, n0_2, c0_2, n0_2, fun r => intC W A0_2 (r * 2 + 0), fun r => intC W A0_2 (r * 2 + 1)⟩ a1 (sdOf W A2 n2 c2) (gw_of w0_0 w0_1 s0_2) (sd_w s2)) (e := envOf [A0_2, A2, some default]) (rel_in2o s0_2.reg s2.reg (sd_q s2)) cxA_n0 (by rw [s0_2.val, s2.val]; exact den_sd.symm)) fun e W' ⟨he, hb⟩ => ?_
  subst he
  exact ⟨_, rfl, law_post hW' rfl rfl (by kernel_rfl) (by decide +kernel) rfl Try.underlying4 hb⟩

theorem over : Rows.portRunsRow.holds Try.pinned (OpenSpec.ofChange Rows.portRunsSpec) :=
  OpenClaim.holds_of_wide 6 Try.f6 rfl rfl rfl rfl rfl rfl rfl ⟨rfl, rfl, rfl, rfl, rfl⟩ rfl rfl rfl rfl rfl (by kernel_rfl) Try.func6 (by kernel_rfl)
    (of_decide_eq_true (by kernel_rfl)) (by unfold Func.isWrapper; first | (rw [if_pos (by decide +kernel)]; kernel_rfl) | (rw [if_neg (by decide +kernel)]; exact ⟨rfl, rfl⟩))
    (fun os started H enc _ => lifted os started H enc)

/-- PortRuns -/
theorem proved : Rows.PortRunsSaid := over
#print axioms proved
end Go.Proofs.Ytaadejgoafdbcaa.portRuns
