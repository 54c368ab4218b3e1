/-
  For every setup, time and row of frames the law MergeRuns answers true and leaves all memory as it was.
-/
import Derived.Test.YtlhlegjndembdaaSx
import Derived.Test.YtlhlegjndembdaaMgR
import Derived.Test.YtlhlegjndembdaaRows
import Derived.WalkKit
import Derived.ProofKit
import Derived.OpenShut
namespace Go.Proofs.Ytlhlegjndembdaa.mergeRuns
open Go.ChangeShapes Go.WideShapes Go.ChangeAt Go.RowKit Go.Sx
set_option linter.unusedVariables false
set_option linter.unusedSimpArgs false
set_option maxRecDepth 100000

noncomputable def cxRt : Cx Try.prog := { ps := [rrightS], es := [], is := [], n0 := 0, loops := fun _ => none, cuts := fun _ => none }
noncomputable def cxR (st : MS) (c : MC) (now : Int) : Cx Try.prog := { ps := [mhdS, rrightS, siS, ctS], es := [mnS, minS, lkS, rinV, rinS], is := [inl fn33 cxRt, inl fn24 cx00, inl fn30 cx00, inl fn31 cx00, inl fn32 cx00, inl fn34 cx00], n0 := 2, loops := fun i => match i with | 13 => some (.inv (la13 st c now)) | 22 => some (.inv (laMH st c)) | 54 => some (.inv (la54 st c)) | _ => none, cuts := fun _ => none, cutsAt := fun i => match i with | 39 => some (129, 129, fun n _ => la39 st c n) | 40 => some (129, 129, fun n _ => la40 st c n) | 42 => some (129, 129, fun n _ => la42 st c n) | 45 => some (129, 129, fun n _ => la45 st c n) | 50 => some (129, 129, fun n _ => la50 st c n) | _ => none, xa := [putLX 7 5], lose := fun i => match i with | 39 => [1] | _ => [], held := fun i => match i with | 39 => some (true, .take 0 (.take 1 (.take 2 (.take 3 (.take 4 (.take 5 (.take 6 (.take 7 (.take 8 (.two 9 (.take 10 (.take 11 (.take 12 (.take 13 (.one 14 (.one 15 (.take 16 (.take 17 .done)))))))) 14 (.one 9 (.take 10 (.take 11 (.take 12 (.take 13 (.one 15 (.take 16 (.take 17 .done)))))))))))))))))) | _ => none }
abbrev mgA (t : Mg) (s : Sq) : Mg := { t with all := s }
section
attribute [local irreducible] anyAlt anyO enter Lex HeldOK MN mgIn lkIn ctQ rW hasN Wy inW Fin1 Fin2 mgOne LOK
set_option maxHeartbeats 32000000 in
theorem runs (c : MC) (now : Int) (st : MS) (hw : Mw st) : Runs (cxR st c now) Try.f10 [mcV c, int_ .i64 now, .one (.a (.slc 0 4 0 st.len st.cap))] [roM st, some ⟨true, .obj 7 (mkL (fun _ => 0) (fun _ => 0) (fun _ _ => 0) []) (listI c.w.toNat nilF)⟩] yes := by
  obtain ⟨st1, st2, st3⟩ := hw.1
  repeat' (first | with_reducible exact trivial | with_reducible exact rfl | with_reducible exact Nat.le_refl _ | with_reducible exact (fun _ _ => rfl) | ((conv => whnf); first | (refine fun (x : HX) => ?_) | (refine fun (y : IX) => ?_) | (refine fun (z : GX) => ?_) | (refine fun (u : AX) => ?_) | (refine fun (v : BX) => ?_) | (refine fun (w : CX) => ?_) | (refine fun (s : EX) => ?_) | (refine fun (t : LS) => ?_) | (exact fun h => absurd h (by decide)) | (intro h9; (have h8 := of_decide_eq_true (p := type_of% h9) (by decide)); clear h8 h9) | (refine fun _ => ?_) | refine ⟨?_, ?_⟩ | exact trivial | exact Nat.le_refl _ | exact lex_q (by kernel_rfl) | exact lex_t (by kernel_rfl) | exact lex_h (by kernel_rfl) | fail))
  all_goals (try exact eq46m)
  all_goals (try (have hm := mn_out (by assumption : MN c now); obtain ⟨m1, m2, m3, m4, cf1, cf2⟩ := hm))
  all_goals (try omega)
  all_goals (try exact absurd cf1 (of_decide_eq_false (by assumption)))
  all_goals (try (exfalso; have h9 := (by assumption : (!decide (CfOK (c.a0, c.a1, c.a2))) = true); rw [decide_eq_true cf2] at h9; cases h9))
  · skip
    have hmn := (by assumption : MN c now)
    (conv => whnf); refine enter_mk (la := la13 st c now) ⟨0, 0, 0, ⟨_, _, _, _, _, fun _ => none, _, _, _, _, _, _, _⟩, _⟩ ?_ (by (repeat' (first | ((conv => whnf); first | refine ⟨?_, ?_⟩ | exact trivial | fail) | (dsimp only; done) | ((try dsimp only); first | with_reducible exact rfl | exact Nat.le_refl _ | with_reducible exact (fun _ _ => rfl)))); all_goals ((first | rfl | exact fun _ _ => rfl)))
    exact ⟨⟨hmn, Nat.zero_le _⟩, ⟨Nat.le_refl _, Nat.le_refl _, by decide⟩, fun k hk => absurd hk (Nat.not_lt_zero k)⟩
  · skip
    have hy := (by assumption : (MN c now ∧ y.i ≤ c.w.toNat) ∧ (y.i ≤ y.cap ∧ y.cap ≤ y.N ∧ y.cap ≤ 9223372036854775807) ∧ ∀ k, k < y.i → y.o.at_ k = z0 (sq0 c.o0 c.o1 c.o2 now) ∧ y.V k = .slice none 0 0)
    have hc9 := i_cnt (i := y.i) rfl (by omega)
    have hm9 : c.w.toNat - (y.i + 1) < c.w.toNat - y.i := by omega
    (conv => whnf); refine enter_mk (la := la13 st c now) ⟨y.i + 1, _, _, ⟨_, _, _, _, _, fun _ => none, _, _, _, _, _, _, _⟩, _⟩ ?_ (by (repeat' (first | ((conv => whnf); first | refine ⟨?_, ?_⟩ | exact trivial | fail) | (dsimp only; done) | ((try dsimp only); first | with_reducible exact rfl | exact Nat.le_refl _ | with_reducible exact (fun _ _ => rfl)))); all_goals ((first | rfl | exact fun _ _ => rfl | exact hc9 | exact hm9)))
    refine ⟨⟨hy.1.1, by show y.i + 1 ≤ c.w.toNat; omega⟩, ⟨by assumption, Nat.le_refl _, by assumption⟩, fun k hk => ?_⟩
    have hk : k < y.i + 1 := hk
    by_cases hki : k < y.i
    · obtain ⟨e1, e2⟩ := hy.2.2 k hki
      refine ⟨?_, ?_⟩
      · rw [← e1]; simp only [OC.at_, if_pos hki]
      · simp only [if_pos hki]; exact e2
    · obtain rfl : k = y.i := by omega
      refine ⟨?_, ?_⟩
      · simp [OC.at_, z0, sq0]
      · simp
  · skip
    have hy := (by assumption : (MN c now ∧ y.i ≤ c.w.toNat) ∧ (y.i ≤ y.cap ∧ y.cap ≤ y.N ∧ y.cap ≤ 9223372036854775807) ∧ ∀ k, k < y.i → y.o.at_ k = z0 (sq0 c.o0 c.o1 c.o2 now) ∧ y.V k = .slice none 0 0)
    have hii : y.i = c.w.toNat := by omega
    have hN : c.w.toNat ≤ y.N := by omega
    (conv => whnf); refine enter_mk (la := laMH st c) ⟨0, mg0 c now, ⟨y.o.way, y.o.len, y.o.reset, y.o.any, y.o.last, fun _ => none, y.o.wen, y.o.k0, y.o.k1, y.o.k2, y.o.k3, y.o.resets, y.o.lost⟩, y.cap, fun _ => 0, fun _ => 0, fun _ _ => 0, ⟨0, 0, fun _ => 0⟩⟩ ?_ (by (repeat' (first | ((conv => whnf); first | refine ⟨?_, ?_⟩ | exact trivial | fail) | (dsimp only; done) | ((try dsimp only); first | with_reducible exact rfl | exact Nat.le_refl _ | with_reducible exact (fun _ _ => rfl)))); all_goals ((first | rfl | exact fun _ _ => rfl | exact hii | exact hii.symm | exact hN | exact fun r hr => ((hy.2.2 r (by omega)).2).symm)))
    exact ⟨rl_new hy.1.1 (fun k hk => (hy.2.2 k (by omega)).1), Nat.zero_le _, by omega⟩
  · skip
    have hx := (by assumption : Rl c x x.i x.i ∧ x.i ≤ st.len ∧ st.len ≤ 100)
    have d1 := (by assumption : x.t.next ≤ st.now (rw_ x))
    have d2 := (by assumption : st.now (rw_ x) ≤ 1099511627776)
    have h9 := (by assumption : (!((lkIn x.t (st.now (rw_ x))).1 == decide (c.li < IntKind.i64.wrap (IntKind.i64.wrap (x.t.passed * IntKind.i64.wrap (c.w - 1)) - x.t.again)))) = true)
    rw [lk_1 hx.1 d1 d2] at h9
    exact (nb h9).elim
  · skip
    have hx := (by assumption : Rl c x x.i x.i ∧ x.i ≤ st.len ∧ st.len ≤ 100)
    have hxi : x.i < st.len := by omega
    have hc9 := i_cnt (i := x.i) rfl (by omega)
    have hm9 : st.len - (x.i + 1) < st.len - x.i := by omega
    have d1 := (by assumption : x.t.next ≤ st.now (rw_ x))
    have d2 := (by assumption : st.now (rw_ x) ≤ 1099511627776)
    have hb := (by assumption : c.li < IntKind.i64.wrap (IntKind.i64.wrap (x.t.passed * IntKind.i64.wrap (c.w - 1)) - x.t.again))
    have el := lk_t (t := x.t) (now := st.now (rw_ x)) (by omega) (by omega) ((lk_b hx.1).2 hb)
    (conv => whnf); refine enter_mk (la := laMH st c) ⟨x.i + 1, (lkIn x.t (st.now (rw_ x))).2, x.o, x.cap, x.hl, x.hc, x.hd, x.y⟩ ?_ (by (repeat' (first | ((conv => whnf); first | refine ⟨?_, ?_⟩ | exact trivial | fail) | (dsimp only; done) | ((try dsimp only); first | with_reducible exact rfl | exact Nat.le_refl _ | with_reducible exact (fun _ _ => rfl)))); all_goals ((first | rfl | exact fun _ _ => rfl | exact hc9 | exact hm9 | (rw [el]; first | done | rfl) | (rw [el]; show IntKind.i64.wrap (_ + x.t.every) = _; rw [hx.1.ev]; rfl))))
    refine ⟨?_, (by show x.i + 1 ≤ st.len; omega), hx.2.2⟩
    show Rl c ⟨x.i + 1, (lkIn x.t (st.now (rw_ x))).2, x.o, x.cap, x.hl, x.hc, x.hd, x.y⟩ (x.i + 1) (x.i + 1)
    rw [el]
    refine rl_at (x := ⟨x.i, _, x.o, x.cap, x.hl, x.hc, x.hd, x.y⟩) ?_ (Nat.le_succ _) (Nat.le_succ _) (x.i + 1)
    refine rl_t hx.1 ?_ ?_ ?_ ?_ ?_ x.i <;> rfl
  · skip
    have hx := (by assumption : Rl c x x.i x.i ∧ x.i ≤ st.len ∧ st.len ≤ 100)
    have hxi : x.i < st.len := by omega
    have hc9 := i_cnt (i := x.i) rfl (by omega)
    have hm9 : st.len - (x.i + 1) < st.len - x.i := by omega
    have d1 := (by assumption : x.t.next ≤ st.now (rw_ x))
    have d2 := (by assumption : st.now (rw_ x) ≤ 1099511627776)
    have hb := (by assumption : ¬ c.li < IntKind.i64.wrap (IntKind.i64.wrap (x.t.passed * IntKind.i64.wrap (c.w - 1)) - x.t.again))
    have el := lk_f (t := x.t) (now := st.now (rw_ x)) (by omega) (by omega) (fun hh => hb ((lk_b hx.1).1 hh))
    (conv => whnf); refine enter_mk (la := laMH st c) ⟨x.i + 1, (lkIn x.t (st.now (rw_ x))).2, x.o, x.cap, x.hl, x.hc, x.hd, x.y⟩ ?_ (by (repeat' (first | ((conv => whnf); first | refine ⟨?_, ?_⟩ | exact trivial | fail) | (dsimp only; done) | ((try dsimp only); first | with_reducible exact rfl | exact Nat.le_refl _ | with_reducible exact (fun _ _ => rfl)))); all_goals ((first | rfl | exact fun _ _ => rfl | exact hc9 | exact hm9 | (rw [el]; first | done | rfl) | (rw [el]; show IntKind.i64.wrap (_ + x.t.every) = _; rw [hx.1.ev]; rfl))))
    refine ⟨?_, (by show x.i + 1 ≤ st.len; omega), hx.2.2⟩
    show Rl c ⟨x.i + 1, (lkIn x.t (st.now (rw_ x))).2, x.o, x.cap, x.hl, x.hc, x.hd, x.y⟩ (x.i + 1) (x.i + 1)
    rw [el]
    refine rl_at (x := ⟨x.i, _, x.o, x.cap, x.hl, x.hc, x.hd, x.y⟩) ?_ (Nat.le_succ _) (Nat.le_succ _) (x.i + 1)
    refine rl_t hx.1 ?_ ?_ ?_ ?_ ?_ x.i <;> rfl
  · skip
    have hx := (by assumption : Rl c x x.i x.i ∧ x.i ≤ st.len ∧ st.len ≤ 100)
    have el := lk_no (t := x.t) (now := st.now (rw_ x)) (by first | exact .inr (Int.not_le.1 (by assumption)) | exact .inl (Int.not_le.1 (by assumption)))
    have h9 := (by assumption : (!((lkIn x.t (st.now (rw_ x))).1 == false)) = true)
    rw [el] at h9
    exact (nb h9).elim
  · skip
    have hx := (by assumption : Rl c x x.i x.i ∧ x.i ≤ st.len ∧ st.len ≤ 100)
    have hxi : x.i < st.len := by omega
    have hc9 := i_cnt (i := x.i) rfl (by omega)
    have hm9 : st.len - (x.i + 1) < st.len - x.i := by omega
    have el := lk_no (t := x.t) (now := st.now (rw_ x)) (by first | exact .inr (Int.not_le.1 (by assumption)) | exact .inl (Int.not_le.1 (by assumption)))
    (conv => whnf); refine enter_mk (la := laMH st c) ⟨x.i + 1, (lkIn x.t (st.now (rw_ x))).2, x.o, x.cap, x.hl, x.hc, x.hd, x.y⟩ ?_ (by (repeat' (first | ((conv => whnf); first | refine ⟨?_, ?_⟩ | exact trivial | fail) | (dsimp only; done) | ((try dsimp only); first | with_reducible exact rfl | exact Nat.le_refl _ | with_reducible exact (fun _ _ => rfl)))); all_goals ((first | rfl | exact fun _ _ => rfl | exact hc9 | exact hm9 | (rw [el]; first | done | rfl) | (rw [el]; show IntKind.i64.wrap (_ + x.t.every) = _; rw [hx.1.ev]; rfl))))
    refine ⟨?_, (by show x.i + 1 ≤ st.len; omega), hx.2.2⟩
    show Rl c ⟨x.i + 1, (lkIn x.t (st.now (rw_ x))).2, x.o, x.cap, x.hl, x.hc, x.hd, x.y⟩ (x.i + 1) (x.i + 1)
    rw [el]
    refine rl_at (x := ⟨x.i, _, x.o, x.cap, x.hl, x.hc, x.hd, x.y⟩) ?_ (Nat.le_succ _) (Nat.le_succ _) (x.i + 1)
    refine rl_t hx.1 ?_ ?_ ?_ ?_ ?_ x.i <;> rfl
  · skip
    have hx := (by assumption : Rl c x x.i x.i ∧ x.i ≤ st.len ∧ st.len ≤ 100)
    have el := lk_no (t := x.t) (now := st.now (rw_ x)) (by first | exact .inr (Int.not_le.1 (by assumption)) | exact .inl (Int.not_le.1 (by assumption)))
    have h9 := (by assumption : (!((lkIn x.t (st.now (rw_ x))).1 == false)) = true)
    rw [el] at h9
    exact (nb h9).elim
  · skip
    have hx := (by assumption : Rl c x x.i x.i ∧ x.i ≤ st.len ∧ st.len ≤ 100)
    have hxi : x.i < st.len := by omega
    have hc9 := i_cnt (i := x.i) rfl (by omega)
    have hm9 : st.len - (x.i + 1) < st.len - x.i := by omega
    have el := lk_no (t := x.t) (now := st.now (rw_ x)) (by first | exact .inr (Int.not_le.1 (by assumption)) | exact .inl (Int.not_le.1 (by assumption)))
    (conv => whnf); refine enter_mk (la := laMH st c) ⟨x.i + 1, (lkIn x.t (st.now (rw_ x))).2, x.o, x.cap, x.hl, x.hc, x.hd, x.y⟩ ?_ (by (repeat' (first | ((conv => whnf); first | refine ⟨?_, ?_⟩ | exact trivial | fail) | (dsimp only; done) | ((try dsimp only); first | with_reducible exact rfl | exact Nat.le_refl _ | with_reducible exact (fun _ _ => rfl)))); all_goals ((first | rfl | exact fun _ _ => rfl | exact hc9 | exact hm9 | (rw [el]; first | done | rfl) | (rw [el]; show IntKind.i64.wrap (_ + x.t.every) = _; rw [hx.1.ev]; rfl))))
    refine ⟨?_, (by show x.i + 1 ≤ st.len; omega), hx.2.2⟩
    show Rl c ⟨x.i + 1, (lkIn x.t (st.now (rw_ x))).2, x.o, x.cap, x.hl, x.hc, x.hd, x.y⟩ (x.i + 1) (x.i + 1)
    rw [el]
    refine rl_at (x := ⟨x.i, _, x.o, x.cap, x.hl, x.hc, x.hd, x.y⟩) ?_ (Nat.le_succ _) (Nat.le_succ _) (x.i + 1)
    refine rl_t hx.1 ?_ ?_ ?_ ?_ ?_ x.i <;> rfl
  · skip
    have hx := (by assumption : Rl c x x.i x.i ∧ x.i ≤ st.len ∧ st.len ≤ 100)
    have em : mgIn x.t (st.now (rw_ x)) (st.way (rw_ x)) (st.seq (rw_ x)) = (false, 40, x.t) := mo_40 hx.1 (.inl (by assumption))
    have h9 := (by assumption : (mgIn x.t (st.now (rw_ x)) (st.way (rw_ x)) (st.seq (rw_ x))).1 = true)
    rw [em] at h9
    cases h9
  · skip
    have hx := (by assumption : Rl c x x.i x.i ∧ x.i ≤ st.len ∧ st.len ≤ 100)
    have em : mgIn x.t (st.now (rw_ x)) (st.way (rw_ x)) (st.seq (rw_ x)) = (false, 40, x.t) := mo_40 hx.1 (.inl (by assumption))
    have h9 := (by assumption : ¬ (mgIn x.t (st.now (rw_ x)) (st.way (rw_ x)) (st.seq (rw_ x))).2.1 = 40)
    rw [em] at h9
    exact absurd rfl h9
  · skip
    have hx := (by assumption : Rl c x x.i x.i ∧ x.i ≤ st.len ∧ st.len ≤ 100)
    have hxi : x.i < st.len := by omega
    have hc9 := i_cnt (i := x.i) rfl (by omega)
    have hm9 : st.len - (x.i + 1) < st.len - x.i := by omega
    have em : mgIn x.t (st.now (rw_ x)) (st.way (rw_ x)) (st.seq (rw_ x)) = (false, 40, x.t) := mo_40 hx.1 (.inl (by assumption))
    (conv => whnf); refine enter_mk (la := laMH st c) ⟨x.i + 1, (mgIn x.t (st.now (rw_ x)) (st.way (rw_ x)) (st.seq (rw_ x))).2.2, x.o, x.cap, x.hl, x.hc, x.hd, x.y⟩ ?_ (by (repeat' (first | ((conv => whnf); first | refine ⟨?_, ?_⟩ | exact trivial | fail) | (dsimp only; done) | ((try dsimp only); first | with_reducible exact rfl | exact Nat.le_refl _ | with_reducible exact (fun _ _ => rfl)))); all_goals ((first | rfl | exact fun _ _ => rfl | exact hc9 | exact hm9 | (rw [em]; done))))
    refine ⟨?_, (by show x.i + 1 ≤ st.len; omega), hx.2.2⟩
    show Rl c ⟨x.i + 1, (mgIn x.t (st.now (rw_ x)) (st.way (rw_ x)) (st.seq (rw_ x))).2.2, x.o, x.cap, x.hl, x.hc, x.hd, x.y⟩ (x.i + 1) (x.i + 1)
    rw [em]
    exact rl_at hx.1 (Nat.le_succ _) (Nat.le_succ _) (x.i + 1)
  · skip
    have hx := (by assumption : Rl c x x.i x.i ∧ x.i ≤ st.len ∧ st.len ≤ 100)
    have em : mgIn x.t (st.now (rw_ x)) (st.way (rw_ x)) (st.seq (rw_ x)) = (false, 40, x.t) := mo_40 hx.1 (.inr (by assumption))
    have h9 := (by assumption : (mgIn x.t (st.now (rw_ x)) (st.way (rw_ x)) (st.seq (rw_ x))).1 = true)
    rw [em] at h9
    cases h9
  · skip
    have hx := (by assumption : Rl c x x.i x.i ∧ x.i ≤ st.len ∧ st.len ≤ 100)
    have em : mgIn x.t (st.now (rw_ x)) (st.way (rw_ x)) (st.seq (rw_ x)) = (false, 40, x.t) := mo_40 hx.1 (.inr (by assumption))
    have h9 := (by assumption : ¬ (mgIn x.t (st.now (rw_ x)) (st.way (rw_ x)) (st.seq (rw_ x))).2.1 = 40)
    rw [em] at h9
    exact absurd rfl h9
  · skip
    have hx := (by assumption : Rl c x x.i x.i ∧ x.i ≤ st.len ∧ st.len ≤ 100)
    have hxi : x.i < st.len := by omega
    have hc9 := i_cnt (i := x.i) rfl (by omega)
    have hm9 : st.len - (x.i + 1) < st.len - x.i := by omega
    have em : mgIn x.t (st.now (rw_ x)) (st.way (rw_ x)) (st.seq (rw_ x)) = (false, 40, x.t) := mo_40 hx.1 (.inr (by assumption))
    (conv => whnf); refine enter_mk (la := laMH st c) ⟨x.i + 1, (mgIn x.t (st.now (rw_ x)) (st.way (rw_ x)) (st.seq (rw_ x))).2.2, x.o, x.cap, x.hl, x.hc, x.hd, x.y⟩ ?_ (by (repeat' (first | ((conv => whnf); first | refine ⟨?_, ?_⟩ | exact trivial | fail) | (dsimp only; done) | ((try dsimp only); first | with_reducible exact rfl | exact Nat.le_refl _ | with_reducible exact (fun _ _ => rfl)))); all_goals ((first | rfl | exact fun _ _ => rfl | exact hc9 | exact hm9 | (rw [em]; done))))
    refine ⟨?_, (by show x.i + 1 ≤ st.len; omega), hx.2.2⟩
    show Rl c ⟨x.i + 1, (mgIn x.t (st.now (rw_ x)) (st.way (rw_ x)) (st.seq (rw_ x))).2.2, x.o, x.cap, x.hl, x.hc, x.hd, x.y⟩ (x.i + 1) (x.i + 1)
    rw [em]
    exact rl_at hx.1 (Nat.le_succ _) (Nat.le_succ _) (x.i + 1)
  · skip
    have hx := (by assumption : Rl c x x.i x.i ∧ x.i ≤ st.len ∧ st.len ≤ 100)
    have hxi : x.i < st.len := by omega
    have hc9 := i_cnt (i := x.i) rfl (by omega)
    have hm9 : st.len - (x.i + 1) < st.len - x.i := by omega
    (conv => whnf); refine enter_mk (la := la39 st c x.i) x ?_ (by (repeat' (first | ((conv => whnf); first | refine ⟨?_, ?_⟩ | exact trivial | fail) | (dsimp only; done) | ((try dsimp only); first | with_reducible exact rfl | exact Nat.le_refl _ | with_reducible exact (fun _ _ => rfl)))); all_goals ((first | rfl | exact fun _ _ => rfl)))
    exact ⟨hx.1, inW_mk ⟨rfl, hxi, hx.2.2⟩ (by assumption) (by assumption)⟩
  · skip
    have hx := (by assumption : Rl c x x.i x.i ∧ inW st c _ x)
    have ho := inW_out hx.2
    omega
  · skip
    have hx := (by assumption : Rl c x x.i x.i ∧ inW st c _ x)
    have ho := inW_out hx.2
    omega
  · skip
    have hx := (by assumption : Rl c x x.i x.i ∧ inW st c _ x)
    have ho := inW_out hx.2
    omega
  · skip
    have hx := (by assumption : Rl c x x.i x.i ∧ inW st c _ x)
    have ho := inW_out hx.2
    omega
  · skip
    exact rfl
  · skip
    exact rfl
  · skip
    have hx := (by assumption : Rl c x x.i x.i ∧ inW st c _ x)
    have ho := inW_out hx.2
    show 0 + (st.way (rw_ x)).toNat < c.w.toNat
    omega
  · skip
    exact rfl
  · skip
    have hx := (by assumption : Rl c x x.i x.i ∧ inW st c _ x)
    exact r_in hw hx.1 hx.2
  · skip
    have hx := (by assumption : Rl c x x.i x.i ∧ inW st c _ x)
    have hk := (by assumption : (rO ((x.o.at_ (wr_ st x), (⟨x.hl (wr_ st x), x.hc (wr_ st x), x.hc (wr_ st x) - 0, fun q => x.hd (wr_ st x) (q + 0)⟩ : IS)), st.now (rw_ x), st.seq (rw_ x))).kind = 0)
    have hg := g_ok hw hx.1 hx.2 (L := (⟨x.hl (wr_ st x), x.hc (wr_ st x), x.hc (wr_ st x) - 0, fun q => x.hd (wr_ st x) (q + 0)⟩ : IS)) rfl rfl
    (conv => whnf); refine enter_mk (la := la40 st c _) ⟨x, _, _, ⟨_, _, _, _, _, 0, _, _, _, _, _, _, _⟩, _, _, _⟩ ?_ (by (repeat' (first | ((conv => whnf); first | refine ⟨?_, ?_⟩ | exact trivial | fail) | (dsimp only; done) | ((try dsimp only); first | with_reducible exact rfl | exact Nat.le_refl _ | with_reducible exact (fun _ _ => rfl)))); all_goals ((first | rfl | exact fun _ _ => rfl)))
    exact ⟨hx.1, hx.2, z0_eta hg.1, ⟨hg.2.1, hg.2.2.1⟩, hg.2.2.2.1 hk, (hx.1.one _ (wr_lt hx.2)).2.2⟩
  · skip
    have hx := (by assumption : Rl c x x.i x.i ∧ inW st c _ x)
    have hk := (by assumption : (rO ((x.o.at_ (wr_ st x), (⟨x.hl (wr_ st x), x.hc (wr_ st x), x.hc (wr_ st x) - 0, fun q => x.hd (wr_ st x) (q + 0)⟩ : IS)), st.now (rw_ x), st.seq (rw_ x))).kind = 1)
    have hg := g_ok hw hx.1 hx.2 (L := (⟨x.hl (wr_ st x), x.hc (wr_ st x), x.hc (wr_ st x) - 0, fun q => x.hd (wr_ st x) (q + 0)⟩ : IS)) rfl rfl
    (conv => whnf); refine enter_mk (la := la40 st c _) ⟨x, _, _, ⟨_, _, _, _, _, 0, _, _, _, _, _, _, _⟩, _, _, _⟩ ?_ (by (repeat' (first | ((conv => whnf); first | refine ⟨?_, ?_⟩ | exact trivial | fail) | (dsimp only; done) | ((try dsimp only); first | with_reducible exact rfl | exact Nat.le_refl _ | with_reducible exact (fun _ _ => rfl)))); all_goals ((first | rfl | exact fun _ _ => rfl)))
    exact ⟨hx.1, hx.2, z0_eta hg.1, ⟨hg.2.1, hg.2.2.1⟩, hg.2.2.2.2.1 hk _, Nat.le_refl _, Nat.zero_le _⟩
  · skip
    have hx := (by assumption : Rl c x x.i x.i ∧ inW st c _ x)
    have hk := (by assumption : (rO ((x.o.at_ (wr_ st x), (⟨x.hl (wr_ st x), x.hc (wr_ st x), x.hc (wr_ st x) - 0, fun q => x.hd (wr_ st x) (q + 0)⟩ : IS)), st.now (rw_ x), st.seq (rw_ x))).kind = 2 ∧ LOK t ((⟨x.hl (wr_ st x), x.hc (wr_ st x), x.hc (wr_ st x) - 0, fun q => x.hd (wr_ st x) (q + 0)⟩ : IS).len + 1) ∧ ∀ k, hasN t.g t.len k = (rO ((x.o.at_ (wr_ st x), (⟨x.hl (wr_ st x), x.hc (wr_ st x), x.hc (wr_ st x) - 0, fun q => x.hd (wr_ st x) (q + 0)⟩ : IS)), st.now (rw_ x), st.seq (rw_ x))).N k)
    have hg := g_ok hw hx.1 hx.2 (L := (⟨x.hl (wr_ st x), x.hc (wr_ st x), x.hc (wr_ st x) - 0, fun q => x.hd (wr_ st x) (q + 0)⟩ : IS)) rfl rfl
    have hlo := lok_out hk.2.1
    (conv => whnf); refine enter_mk (la := la40 st c _) ⟨x, _, _, ⟨_, _, _, _, _, 0, _, _, _, _, _, _, _⟩, _, _, _⟩ ?_ (by (repeat' (first | ((conv => whnf); first | refine ⟨?_, ?_⟩ | exact trivial | fail) | (dsimp only; done) | ((try dsimp only); first | with_reducible exact rfl | exact Nat.le_refl _ | with_reducible exact (fun _ _ => rfl)))); all_goals ((first | rfl | exact fun _ _ => rfl)))
    exact ⟨hx.1, hx.2, z0_eta hg.1, ⟨hg.2.1, hg.2.2.1⟩, hg.2.2.2.2.2 hk.1 t hk.2.1 hk.2.2, hlo.1, hlo.2⟩
  · skip
    exact rfl
  · skip
    exact rfl
  · skip
    have hx := (by assumption : Rl c x x.i x.i ∧ inW st c _ x)
    have ho := inW_out hx.2
    show 0 + (st.way (rw_ x)).toNat < c.w.toNat
    omega
  · skip
    exact rfl
  · skip
    have hx := (by assumption : Rl c x x.i x.i ∧ inW st c _ x)
    exact r_in hw hx.1 hx.2
  · skip
    have hx := (by assumption : Rl c x x.i x.i ∧ inW st c _ x)
    have hk := (by assumption : (rO ((x.o.at_ (wr_ st x), (⟨x.hl (wr_ st x), x.hc (wr_ st x), x.hc (wr_ st x) - 0, fun q => x.hd (wr_ st x) (q + 0)⟩ : IS)), st.now (rw_ x), st.seq (rw_ x))).kind = 0)
    have hg := g_ok hw hx.1 hx.2 (L := (⟨x.hl (wr_ st x), x.hc (wr_ st x), x.hc (wr_ st x) - 0, fun q => x.hd (wr_ st x) (q + 0)⟩ : IS)) rfl rfl
    (conv => whnf); refine enter_mk (la := la40 st c _) ⟨x, _, _, ⟨_, _, _, _, _, 0, _, _, _, _, _, _, _⟩, _, _, _⟩ ?_ (by (repeat' (first | ((conv => whnf); first | refine ⟨?_, ?_⟩ | exact trivial | fail) | (dsimp only; done) | ((try dsimp only); first | with_reducible exact rfl | exact Nat.le_refl _ | with_reducible exact (fun _ _ => rfl)))); all_goals ((first | rfl | exact fun _ _ => rfl)))
    exact ⟨hx.1, hx.2, z0_eta hg.1, ⟨hg.2.1, hg.2.2.1⟩, hg.2.2.2.1 hk, (hx.1.one _ (wr_lt hx.2)).2.2⟩
  · skip
    have hx := (by assumption : Rl c x x.i x.i ∧ inW st c _ x)
    have hk := (by assumption : (rO ((x.o.at_ (wr_ st x), (⟨x.hl (wr_ st x), x.hc (wr_ st x), x.hc (wr_ st x) - 0, fun q => x.hd (wr_ st x) (q + 0)⟩ : IS)), st.now (rw_ x), st.seq (rw_ x))).kind = 1)
    have hg := g_ok hw hx.1 hx.2 (L := (⟨x.hl (wr_ st x), x.hc (wr_ st x), x.hc (wr_ st x) - 0, fun q => x.hd (wr_ st x) (q + 0)⟩ : IS)) rfl rfl
    (conv => whnf); refine enter_mk (la := la40 st c _) ⟨x, _, _, ⟨_, _, _, _, _, 0, _, _, _, _, _, _, _⟩, _, _, _⟩ ?_ (by (repeat' (first | ((conv => whnf); first | refine ⟨?_, ?_⟩ | exact trivial | fail) | (dsimp only; done) | ((try dsimp only); first | with_reducible exact rfl | exact Nat.le_refl _ | with_reducible exact (fun _ _ => rfl)))); all_goals ((first | rfl | exact fun _ _ => rfl)))
    exact ⟨hx.1, hx.2, z0_eta hg.1, ⟨hg.2.1, hg.2.2.1⟩, hg.2.2.2.2.1 hk _, Nat.le_refl _, Nat.zero_le _⟩
  · skip
    have hx := (by assumption : Rl c x x.i x.i ∧ inW st c _ x)
    have hk := (by assumption : (rO ((x.o.at_ (wr_ st x), (⟨x.hl (wr_ st x), x.hc (wr_ st x), x.hc (wr_ st x) - 0, fun q => x.hd (wr_ st x) (q + 0)⟩ : IS)), st.now (rw_ x), st.seq (rw_ x))).kind = 2 ∧ LOK t ((⟨x.hl (wr_ st x), x.hc (wr_ st x), x.hc (wr_ st x) - 0, fun q => x.hd (wr_ st x) (q + 0)⟩ : IS).len + 1) ∧ ∀ k, hasN t.g t.len k = (rO ((x.o.at_ (wr_ st x), (⟨x.hl (wr_ st x), x.hc (wr_ st x), x.hc (wr_ st x) - 0, fun q => x.hd (wr_ st x) (q + 0)⟩ : IS)), st.now (rw_ x), st.seq (rw_ x))).N k)
    have hg := g_ok hw hx.1 hx.2 (L := (⟨x.hl (wr_ st x), x.hc (wr_ st x), x.hc (wr_ st x) - 0, fun q => x.hd (wr_ st x) (q + 0)⟩ : IS)) rfl rfl
    have hlo := lok_out hk.2.1
    (conv => whnf); refine enter_mk (la := la40 st c _) ⟨x, _, _, ⟨_, _, _, _, _, 0, _, _, _, _, _, _, _⟩, _, _, _⟩ ?_ (by (repeat' (first | ((conv => whnf); first | refine ⟨?_, ?_⟩ | exact trivial | fail) | (dsimp only; done) | ((try dsimp only); first | with_reducible exact rfl | exact Nat.le_refl _ | with_reducible exact (fun _ _ => rfl)))); all_goals ((first | rfl | exact fun _ _ => rfl)))
    exact ⟨hx.1, hx.2, z0_eta hg.1, ⟨hg.2.1, hg.2.2.1⟩, hg.2.2.2.2.2 hk.1 t hk.2.1 hk.2.2, hlo.1, hlo.2⟩
  · skip
    have hz := (by assumption : Rl c z.x z.x.i z.x.i ∧ inW st c _ z.x ∧ z0 (mgOne z.x.t (st.now (rw_ z.x)) (st.way (rw_ z.x)) (st.seq (rw_ z.x))).2.2 = z0 z.s ∧ (z.w = (mgOne z.x.t (st.now (rw_ z.x)) (st.way (rw_ z.x)) (st.seq (rw_ z.x))).1 ∧ z.e = (mgOne z.x.t (st.now (rw_ z.x)) (st.way (rw_ z.x)) (st.seq (rw_ z.x))).2.1) ∧ Wy (mgOne z.x.t (st.now (rw_ z.x)) (st.way (rw_ z.x)) (st.seq (rw_ z.x))).2.2 z.l z.g (z.x.i + 1) ∧ z.l ≤ z.cp ∧ z.cp ≤ 9223372036854775807)
    have ho := inW_out hz.2.1
    omega
  · skip
    have hz := (by assumption : Rl c z.x z.x.i z.x.i ∧ inW st c _ z.x ∧ z0 (mgOne z.x.t (st.now (rw_ z.x)) (st.way (rw_ z.x)) (st.seq (rw_ z.x))).2.2 = z0 z.s ∧ (z.w = (mgOne z.x.t (st.now (rw_ z.x)) (st.way (rw_ z.x)) (st.seq (rw_ z.x))).1 ∧ z.e = (mgOne z.x.t (st.now (rw_ z.x)) (st.way (rw_ z.x)) (st.seq (rw_ z.x))).2.1) ∧ Wy (mgOne z.x.t (st.now (rw_ z.x)) (st.way (rw_ z.x)) (st.seq (rw_ z.x))).2.2 z.l z.g (z.x.i + 1) ∧ z.l ≤ z.cp ∧ z.cp ≤ 9223372036854775807)
    have ho := inW_out hz.2.1
    omega
  · skip
    have hz := (by assumption : Rl c z.x z.x.i z.x.i ∧ inW st c _ z.x ∧ z0 (mgOne z.x.t (st.now (rw_ z.x)) (st.way (rw_ z.x)) (st.seq (rw_ z.x))).2.2 = z0 z.s ∧ (z.w = (mgOne z.x.t (st.now (rw_ z.x)) (st.way (rw_ z.x)) (st.seq (rw_ z.x))).1 ∧ z.e = (mgOne z.x.t (st.now (rw_ z.x)) (st.way (rw_ z.x)) (st.seq (rw_ z.x))).2.1) ∧ Wy (mgOne z.x.t (st.now (rw_ z.x)) (st.way (rw_ z.x)) (st.seq (rw_ z.x))).2.2 z.l z.g (z.x.i + 1) ∧ z.l ≤ z.cp ∧ z.cp ≤ 9223372036854775807)
    have ho := inW_out hz.2.1
    omega
  · skip
    exact rfl
  · skip
    exact rfl
  · skip
    have hz := (by assumption : Rl c z.x z.x.i z.x.i ∧ inW st c _ z.x ∧ z0 (mgOne z.x.t (st.now (rw_ z.x)) (st.way (rw_ z.x)) (st.seq (rw_ z.x))).2.2 = z0 z.s ∧ (z.w = (mgOne z.x.t (st.now (rw_ z.x)) (st.way (rw_ z.x)) (st.seq (rw_ z.x))).1 ∧ z.e = (mgOne z.x.t (st.now (rw_ z.x)) (st.way (rw_ z.x)) (st.seq (rw_ z.x))).2.1) ∧ Wy (mgOne z.x.t (st.now (rw_ z.x)) (st.way (rw_ z.x)) (st.seq (rw_ z.x))).2.2 z.l z.g (z.x.i + 1) ∧ z.l ≤ z.cp ∧ z.cp ≤ 9223372036854775807)
    have ho := inW_out hz.2.1
    show 0 + (st.way (rw_ z.x)).toNat < c.w.toNat
    omega
  · skip
    rename_i A
    have hz := (by assumption : Rl c z.x z.x.i z.x.i ∧ inW st c _ z.x ∧ z0 (mgOne z.x.t (st.now (rw_ z.x)) (st.way (rw_ z.x)) (st.seq (rw_ z.x))).2.2 = z0 z.s ∧ (z.w = (mgOne z.x.t (st.now (rw_ z.x)) (st.way (rw_ z.x)) (st.seq (rw_ z.x))).1 ∧ z.e = (mgOne z.x.t (st.now (rw_ z.x)) (st.way (rw_ z.x)) (st.seq (rw_ z.x))).2.1) ∧ Wy (mgOne z.x.t (st.now (rw_ z.x)) (st.way (rw_ z.x)) (st.seq (rw_ z.x))).2.2 z.l z.g (z.x.i + 1) ∧ z.l ≤ z.cp ∧ z.cp ≤ 9223372036854775807)
    have ho := inW_out hz.2.1
    (conv => whnf); refine enter_mk (la := la42 st c _) ⟨⟨z.x.i, mgT1 z.x.t (st.now (rw_ z.x)) (st.way (rw_ z.x)) (st.seq (rw_ z.x)), ⟨_, _, _, _, _, Go.Sx.upd z.x.o.B (wr_ st z.x) A, _, _, _, _, _, _, _⟩, z.x.cap, Go.Sx.upd z.x.hl (wr_ st z.x) z.l, Go.Sx.upd z.x.hc (wr_ st z.x) z.cp, Go.Sx.upd z.x.hd (wr_ st z.x) z.g, z.x.y⟩, z.w, z.e, mgX st z.x⟩ ?_ (by (repeat' (first | ((conv => whnf); first | refine ⟨?_, ?_⟩ | exact trivial | fail) | (dsimp only; done) | ((try dsimp only); first | with_reducible exact rfl | exact Nat.le_refl _ | with_reducible exact (fun _ _ => rfl)))); all_goals ((first | rfl | exact fun _ _ => rfl | exact congrArg (listI _) (v_upd _ _ _ _ _ _ _ rfl _ _ _ _) | exact (congrArg (listI _) (v_upd _ _ _ _ _ _ _ rfl _ _ _ _)).symm | exact fun q _ => congrFun (v_upd z.x _ (wr_ st z.x) z.l z.cp z.g A rfl _ _ _ _) q)))
    refine ⟨rl_put hz.1 hz.2.1 hz.2.2.1 hz.2.2.2.2.1 hz.2.2.2.2.2 ?_, inW_i hz.2.1 rfl, ?_⟩
    · intro k
      show OC.at_ _ k = if k = 0 + (st.way (rw_ z.x)).toNat then z0 z.s else z.x.o.at_ k
      by_cases h : k = 0 + (st.way (rw_ z.x)).toNat
      · simp only [OC.at_, if_pos h]; rfl
      · simp only [OC.at_, if_neg h]
    · show mgX st z.x = Fin1 _ z.w z.e _ _
      rw [hz.2.2.2.1.1, hz.2.2.2.1.2]
      exact fin1_of (by rw [hz.1.w]; omega)
  · skip
    have hu := (by assumption : Rl c u.x (u.x.i + 1) u.x.i ∧ inW st c _ u.x ∧ u.u = Fin1 u.x.t u.w u.e (st.now (rw_ u.x)) (st.seq (rw_ u.x)))
    exact r_all hw hu.1 hu.2.1
  · skip
    have hu := (by assumption : Rl c u.x (u.x.i + 1) u.x.i ∧ inW st c _ u.x ∧ u.u = Fin1 u.x.t u.w u.e (st.now (rw_ u.x)) (st.seq (rw_ u.x)))
    have hk := (by assumption : (rO ((z0 u.x.t.all, (⟨u.x.y.len, u.x.y.cap, u.x.y.cap - 0, fun q => u.x.y.g (q + 0)⟩ : IS)), st.now (rw_ u.x), st.seq (rw_ u.x))).kind = 0)
    have hg := g_all hw hu.1 hu.2.1 (L := (⟨u.x.y.len, u.x.y.cap, u.x.y.cap - 0, fun q => u.x.y.g (q + 0)⟩ : IS)) rfl rfl
    have q_way := congrArg Sq.way hg.1
    have q_len := congrArg Sq.len hg.1
    have q_reset := congrArg Sq.reset hg.1
    have q_any := congrArg Sq.any hg.1
    have q_last := congrArg Sq.last hg.1
    have q_wen := congrArg Sq.wen hg.1
    have q_k0 := congrArg Sq.k0 hg.1
    have q_k1 := congrArg Sq.k1 hg.1
    have q_k2 := congrArg Sq.k2 hg.1
    have q_k3 := congrArg Sq.k3 hg.1
    have q_resets := congrArg Sq.resets hg.1
    have q_lost := congrArg Sq.lost hg.1
    (conv => whnf); refine enter_mk (la := la45 st c _) ⟨⟨u.x.i, mgA u.x.t (u.x.t.all.in_ (st.now (rw_ u.x)) (st.seq (rw_ u.x))).2.2, u.x.o, u.x.cap, u.x.hl, u.x.hc, u.x.hd, ⟨_, _, _⟩⟩, _, u.u⟩ ?_ (by (repeat' (first | ((conv => whnf); first | refine ⟨?_, ?_⟩ | exact trivial | fail) | (dsimp only; done) | ((try dsimp only); first | with_reducible exact rfl | exact Nat.le_refl _ | with_reducible exact (fun _ _ => rfl)))); all_goals ((first | rfl | exact fun _ _ => rfl | exact q_way | exact q_len | exact q_reset | exact q_any | exact q_last | exact q_wen | exact q_k0 | exact q_k1 | exact q_k2 | exact q_k3 | exact q_resets | exact q_lost | exact (by assumption : u.e = 0).symm)))
    refine ⟨rl_all (st := st) (n := 0) hu.1 (hg.2.2.1 hk) hu.1.ay, inW_i hu.2.1 rfl, (hu.2.2.trans (fin2_of (by omega) ⟨by omega, by omega⟩)).trans (congrArg (Fin2 _) hg.2.1.symm)⟩
  · skip
    have hv := (by assumption : Rl c v.x (v.x.i + 1) (v.x.i + 1) ∧ inW st c _ v.x ∧ v.u = Fin2 v.x.t v.w)
    have eu := hv.2.2.trans (f2_a (.inl (by assumption)))
    (conv => whnf); refine enter_mk (la := la50 st c _) ⟨⟨v.x.i, v.u.2.2, v.x.o, v.x.cap, v.x.hl, v.x.hc, v.x.hd, v.x.y⟩, v.u.1, v.u.2.1⟩ ?_ (by (repeat' (first | ((conv => whnf); first | refine ⟨?_, ?_⟩ | exact trivial | fail) | (dsimp only; done) | ((try dsimp only); first | with_reducible exact rfl | exact Nat.le_refl _ | with_reducible exact (fun _ _ => rfl)))); all_goals ((first | rfl | exact fun _ _ => rfl | (rw [eu]; done) | (rw [eu]; exact rfl) | (simp only [eu]; done))))
    refine ⟨?_, inW_i hv.2.1 rfl⟩
    show Rl c ⟨v.x.i, v.u.2.2, v.x.o, v.x.cap, v.x.hl, v.x.hc, v.x.hd, v.x.y⟩ (v.x.i + 1) (v.x.i + 1)
    rw [eu]
    refine rl_t hv.1 ?_ ?_ ?_ ?_ ?_ v.x.i <;> rfl
  · skip
    have hv := (by assumption : Rl c v.x (v.x.i + 1) (v.x.i + 1) ∧ inW st c _ v.x ∧ v.u = Fin2 v.x.t v.w)
    have h3 := (by assumption : v.w = 3)
    have eu := hv.2.2.trans (f2_a (.inr h3))
    (conv => whnf); refine enter_mk (la := la50 st c _) ⟨⟨v.x.i, v.u.2.2, v.x.o, v.x.cap, v.x.hl, v.x.hc, v.x.hd, v.x.y⟩, v.u.1, v.u.2.1⟩ ?_ (by (repeat' (first | ((conv => whnf); first | refine ⟨?_, ?_⟩ | exact trivial | fail) | (dsimp only; done) | ((try dsimp only); first | with_reducible exact rfl | exact Nat.le_refl _ | with_reducible exact (fun _ _ => rfl)))); all_goals ((first | rfl | exact fun _ _ => rfl | (rw [eu]; done) | (rw [eu]; exact (decide_eq_true h3).symm) | (simp only [eu]; done))))
    refine ⟨?_, inW_i hv.2.1 rfl⟩
    show Rl c ⟨v.x.i, v.u.2.2, v.x.o, v.x.cap, v.x.hl, v.x.hc, v.x.hd, v.x.y⟩ (v.x.i + 1) (v.x.i + 1)
    rw [eu]
    refine rl_t hv.1 ?_ ?_ ?_ ?_ ?_ v.x.i <;> rfl
  · skip
    have hv := (by assumption : Rl c v.x (v.x.i + 1) (v.x.i + 1) ∧ inW st c _ v.x ∧ v.u = Fin2 v.x.t v.w)
    have eu := hv.2.2.trans (f2_b (by assumption))
    (conv => whnf); refine enter_mk (la := la50 st c _) ⟨⟨v.x.i, v.u.2.2, v.x.o, v.x.cap, v.x.hl, v.x.hc, v.x.hd, v.x.y⟩, v.u.1, v.u.2.1⟩ ?_ (by (repeat' (first | ((conv => whnf); first | refine ⟨?_, ?_⟩ | exact trivial | fail) | (dsimp only; done) | ((try dsimp only); first | with_reducible exact rfl | exact Nat.le_refl _ | with_reducible exact (fun _ _ => rfl)))); all_goals ((first | rfl | exact fun _ _ => rfl | (rw [eu]; done) | (rw [eu]; exact (decide_eq_false (by omega)).symm) | (simp only [eu]; done))))
    refine ⟨?_, inW_i hv.2.1 rfl⟩
    show Rl c ⟨v.x.i, v.u.2.2, v.x.o, v.x.cap, v.x.hl, v.x.hc, v.x.hd, v.x.y⟩ (v.x.i + 1) (v.x.i + 1)
    rw [eu]
    refine rl_t hv.1 ?_ ?_ ?_ ?_ ?_ v.x.i <;> rfl
  · skip
    have hv := (by assumption : Rl c v.x (v.x.i + 1) (v.x.i + 1) ∧ inW st c _ v.x ∧ v.u = Fin2 v.x.t v.w)
    have eu := hv.2.2.trans (f2_c (by omega) (by omega))
    (conv => whnf); refine enter_mk (la := la50 st c _) ⟨⟨v.x.i, v.u.2.2, v.x.o, v.x.cap, v.x.hl, v.x.hc, v.x.hd, v.x.y⟩, v.u.1, v.u.2.1⟩ ?_ (by (repeat' (first | ((conv => whnf); first | refine ⟨?_, ?_⟩ | exact trivial | fail) | (dsimp only; done) | ((try dsimp only); first | with_reducible exact rfl | exact Nat.le_refl _ | with_reducible exact (fun _ _ => rfl)))); all_goals ((first | rfl | exact fun _ _ => rfl | (rw [eu]; done) | (rw [eu]; exact (decide_eq_false (by omega)).symm) | (simp only [eu]; done))))
    refine ⟨?_, inW_i hv.2.1 rfl⟩
    show Rl c ⟨v.x.i, v.u.2.2, v.x.o, v.x.cap, v.x.hl, v.x.hc, v.x.hd, v.x.y⟩ (v.x.i + 1) (v.x.i + 1)
    rw [eu]
    refine rl_t hv.1 ?_ ?_ ?_ ?_ ?_ v.x.i <;> rfl
  · skip
    have hu := (by assumption : Rl c u.x (u.x.i + 1) u.x.i ∧ inW st c _ u.x ∧ u.u = Fin1 u.x.t u.w u.e (st.now (rw_ u.x)) (st.seq (rw_ u.x)))
    have hk := (by assumption : (rO ((z0 u.x.t.all, (⟨u.x.y.len, u.x.y.cap, u.x.y.cap - 0, fun q => u.x.y.g (q + 0)⟩ : IS)), st.now (rw_ u.x), st.seq (rw_ u.x))).kind = 1)
    have hg := g_all hw hu.1 hu.2.1 (L := (⟨u.x.y.len, u.x.y.cap, u.x.y.cap - 0, fun q => u.x.y.g (q + 0)⟩ : IS)) rfl rfl
    have q_way := congrArg Sq.way hg.1
    have q_len := congrArg Sq.len hg.1
    have q_reset := congrArg Sq.reset hg.1
    have q_any := congrArg Sq.any hg.1
    have q_last := congrArg Sq.last hg.1
    have q_wen := congrArg Sq.wen hg.1
    have q_k0 := congrArg Sq.k0 hg.1
    have q_k1 := congrArg Sq.k1 hg.1
    have q_k2 := congrArg Sq.k2 hg.1
    have q_k3 := congrArg Sq.k3 hg.1
    have q_resets := congrArg Sq.resets hg.1
    have q_lost := congrArg Sq.lost hg.1
    (conv => whnf); refine enter_mk (la := la45 st c _) ⟨⟨u.x.i, mgA u.x.t (u.x.t.all.in_ (st.now (rw_ u.x)) (st.seq (rw_ u.x))).2.2, u.x.o, u.x.cap, u.x.hl, u.x.hc, u.x.hd, ⟨_, _, _⟩⟩, _, u.u⟩ ?_ (by (repeat' (first | ((conv => whnf); first | refine ⟨?_, ?_⟩ | exact trivial | fail) | (dsimp only; done) | ((try dsimp only); first | with_reducible exact rfl | exact Nat.le_refl _ | with_reducible exact (fun _ _ => rfl)))); all_goals ((first | rfl | exact fun _ _ => rfl | exact q_way | exact q_len | exact q_reset | exact q_any | exact q_last | exact q_wen | exact q_k0 | exact q_k1 | exact q_k2 | exact q_k3 | exact q_resets | exact q_lost | exact (by assumption : u.e = 0).symm)))
    refine ⟨rl_all (st := st) (n := 0) hu.1 (hg.2.2.2.1 hk _) ⟨Nat.le_refl _, Nat.zero_le _⟩, inW_i hu.2.1 rfl, (hu.2.2.trans (fin2_of (by omega) ⟨by omega, by omega⟩)).trans (congrArg (Fin2 _) hg.2.1.symm)⟩
  · skip
    have hv := (by assumption : Rl c v.x (v.x.i + 1) (v.x.i + 1) ∧ inW st c _ v.x ∧ v.u = Fin2 v.x.t v.w)
    have eu := hv.2.2.trans (f2_a (.inl (by assumption)))
    (conv => whnf); refine enter_mk (la := la50 st c _) ⟨⟨v.x.i, v.u.2.2, v.x.o, v.x.cap, v.x.hl, v.x.hc, v.x.hd, v.x.y⟩, v.u.1, v.u.2.1⟩ ?_ (by (repeat' (first | ((conv => whnf); first | refine ⟨?_, ?_⟩ | exact trivial | fail) | (dsimp only; done) | ((try dsimp only); first | with_reducible exact rfl | exact Nat.le_refl _ | with_reducible exact (fun _ _ => rfl)))); all_goals ((first | rfl | exact fun _ _ => rfl | (rw [eu]; done) | (rw [eu]; exact rfl) | (simp only [eu]; done))))
    refine ⟨?_, inW_i hv.2.1 rfl⟩
    show Rl c ⟨v.x.i, v.u.2.2, v.x.o, v.x.cap, v.x.hl, v.x.hc, v.x.hd, v.x.y⟩ (v.x.i + 1) (v.x.i + 1)
    rw [eu]
    refine rl_t hv.1 ?_ ?_ ?_ ?_ ?_ v.x.i <;> rfl
  · skip
    have hv := (by assumption : Rl c v.x (v.x.i + 1) (v.x.i + 1) ∧ inW st c _ v.x ∧ v.u = Fin2 v.x.t v.w)
    have h3 := (by assumption : v.w = 3)
    have eu := hv.2.2.trans (f2_a (.inr h3))
    (conv => whnf); refine enter_mk (la := la50 st c _) ⟨⟨v.x.i, v.u.2.2, v.x.o, v.x.cap, v.x.hl, v.x.hc, v.x.hd, v.x.y⟩, v.u.1, v.u.2.1⟩ ?_ (by (repeat' (first | ((conv => whnf); first | refine ⟨?_, ?_⟩ | exact trivial | fail) | (dsimp only; done) | ((try dsimp only); first | with_reducible exact rfl | exact Nat.le_refl _ | with_reducible exact (fun _ _ => rfl)))); all_goals ((first | rfl | exact fun _ _ => rfl | (rw [eu]; done) | (rw [eu]; exact (decide_eq_true h3).symm) | (simp only [eu]; done))))
    refine ⟨?_, inW_i hv.2.1 rfl⟩
    show Rl c ⟨v.x.i, v.u.2.2, v.x.o, v.x.cap, v.x.hl, v.x.hc, v.x.hd, v.x.y⟩ (v.x.i + 1) (v.x.i + 1)
    rw [eu]
    refine rl_t hv.1 ?_ ?_ ?_ ?_ ?_ v.x.i <;> rfl
  · skip
    have hv := (by assumption : Rl c v.x (v.x.i + 1) (v.x.i + 1) ∧ inW st c _ v.x ∧ v.u = Fin2 v.x.t v.w)
    have eu := hv.2.2.trans (f2_b (by assumption))
    (conv => whnf); refine enter_mk (la := la50 st c _) ⟨⟨v.x.i, v.u.2.2, v.x.o, v.x.cap, v.x.hl, v.x.hc, v.x.hd, v.x.y⟩, v.u.1, v.u.2.1⟩ ?_ (by (repeat' (first | ((conv => whnf); first | refine ⟨?_, ?_⟩ | exact trivial | fail) | (dsimp only; done) | ((try dsimp only); first | with_reducible exact rfl | exact Nat.le_refl _ | with_reducible exact (fun _ _ => rfl)))); all_goals ((first | rfl | exact fun _ _ => rfl | (rw [eu]; done) | (rw [eu]; exact (decide_eq_false (by omega)).symm) | (simp only [eu]; done))))
    refine ⟨?_, inW_i hv.2.1 rfl⟩
    show Rl c ⟨v.x.i, v.u.2.2, v.x.o, v.x.cap, v.x.hl, v.x.hc, v.x.hd, v.x.y⟩ (v.x.i + 1) (v.x.i + 1)
    rw [eu]
    refine rl_t hv.1 ?_ ?_ ?_ ?_ ?_ v.x.i <;> rfl
  · skip
    have hv := (by assumption : Rl c v.x (v.x.i + 1) (v.x.i + 1) ∧ inW st c _ v.x ∧ v.u = Fin2 v.x.t v.w)
    have eu := hv.2.2.trans (f2_c (by omega) (by omega))
    (conv => whnf); refine enter_mk (la := la50 st c _) ⟨⟨v.x.i, v.u.2.2, v.x.o, v.x.cap, v.x.hl, v.x.hc, v.x.hd, v.x.y⟩, v.u.1, v.u.2.1⟩ ?_ (by (repeat' (first | ((conv => whnf); first | refine ⟨?_, ?_⟩ | exact trivial | fail) | (dsimp only; done) | ((try dsimp only); first | with_reducible exact rfl | exact Nat.le_refl _ | with_reducible exact (fun _ _ => rfl)))); all_goals ((first | rfl | exact fun _ _ => rfl | (rw [eu]; done) | (rw [eu]; exact (decide_eq_false (by omega)).symm) | (simp only [eu]; done))))
    refine ⟨?_, inW_i hv.2.1 rfl⟩
    show Rl c ⟨v.x.i, v.u.2.2, v.x.o, v.x.cap, v.x.hl, v.x.hc, v.x.hd, v.x.y⟩ (v.x.i + 1) (v.x.i + 1)
    rw [eu]
    refine rl_t hv.1 ?_ ?_ ?_ ?_ ?_ v.x.i <;> rfl
  · skip
    have hu := (by assumption : Rl c u.x (u.x.i + 1) u.x.i ∧ inW st c _ u.x ∧ u.u = Fin1 u.x.t u.w u.e (st.now (rw_ u.x)) (st.seq (rw_ u.x)))
    have hk := (by assumption : (rO ((z0 u.x.t.all, (⟨u.x.y.len, u.x.y.cap, u.x.y.cap - 0, fun q => u.x.y.g (q + 0)⟩ : IS)), st.now (rw_ u.x), st.seq (rw_ u.x))).kind = 2 ∧ LOK t ((⟨u.x.y.len, u.x.y.cap, u.x.y.cap - 0, fun q => u.x.y.g (q + 0)⟩ : IS).len + 1) ∧ ∀ k, hasN t.g t.len k = (rO ((z0 u.x.t.all, (⟨u.x.y.len, u.x.y.cap, u.x.y.cap - 0, fun q => u.x.y.g (q + 0)⟩ : IS)), st.now (rw_ u.x), st.seq (rw_ u.x))).N k)
    have hg := g_all hw hu.1 hu.2.1 (L := (⟨u.x.y.len, u.x.y.cap, u.x.y.cap - 0, fun q => u.x.y.g (q + 0)⟩ : IS)) rfl rfl
    have q_way := congrArg Sq.way hg.1
    have q_len := congrArg Sq.len hg.1
    have q_reset := congrArg Sq.reset hg.1
    have q_any := congrArg Sq.any hg.1
    have q_last := congrArg Sq.last hg.1
    have q_wen := congrArg Sq.wen hg.1
    have q_k0 := congrArg Sq.k0 hg.1
    have q_k1 := congrArg Sq.k1 hg.1
    have q_k2 := congrArg Sq.k2 hg.1
    have q_k3 := congrArg Sq.k3 hg.1
    have q_resets := congrArg Sq.resets hg.1
    have q_lost := congrArg Sq.lost hg.1
    (conv => whnf); refine enter_mk (la := la45 st c _) ⟨⟨u.x.i, mgA u.x.t (u.x.t.all.in_ (st.now (rw_ u.x)) (st.seq (rw_ u.x))).2.2, u.x.o, u.x.cap, u.x.hl, u.x.hc, u.x.hd, ⟨_, _, _⟩⟩, _, u.u⟩ ?_ (by (repeat' (first | ((conv => whnf); first | refine ⟨?_, ?_⟩ | exact trivial | fail) | (dsimp only; done) | ((try dsimp only); first | with_reducible exact rfl | exact Nat.le_refl _ | with_reducible exact (fun _ _ => rfl)))); all_goals ((first | rfl | exact fun _ _ => rfl | exact q_way | exact q_len | exact q_reset | exact q_any | exact q_last | exact q_wen | exact q_k0 | exact q_k1 | exact q_k2 | exact q_k3 | exact q_resets | exact q_lost | exact (by assumption : u.e = 0).symm)))
    refine ⟨rl_all (st := st) (n := 0) hu.1 (hg.2.2.2.2 hk.1 t hk.2.1 hk.2.2) ⟨(lok_out hk.2.1).1, (lok_out hk.2.1).2⟩, inW_i hu.2.1 rfl, (hu.2.2.trans (fin2_of (by omega) ⟨by omega, by omega⟩)).trans (congrArg (Fin2 _) hg.2.1.symm)⟩
  · skip
    have hv := (by assumption : Rl c v.x (v.x.i + 1) (v.x.i + 1) ∧ inW st c _ v.x ∧ v.u = Fin2 v.x.t v.w)
    have eu := hv.2.2.trans (f2_a (.inl (by assumption)))
    (conv => whnf); refine enter_mk (la := la50 st c _) ⟨⟨v.x.i, v.u.2.2, v.x.o, v.x.cap, v.x.hl, v.x.hc, v.x.hd, v.x.y⟩, v.u.1, v.u.2.1⟩ ?_ (by (repeat' (first | ((conv => whnf); first | refine ⟨?_, ?_⟩ | exact trivial | fail) | (dsimp only; done) | ((try dsimp only); first | with_reducible exact rfl | exact Nat.le_refl _ | with_reducible exact (fun _ _ => rfl)))); all_goals ((first | rfl | exact fun _ _ => rfl | (rw [eu]; done) | (rw [eu]; exact rfl) | (simp only [eu]; done))))
    refine ⟨?_, inW_i hv.2.1 rfl⟩
    show Rl c ⟨v.x.i, v.u.2.2, v.x.o, v.x.cap, v.x.hl, v.x.hc, v.x.hd, v.x.y⟩ (v.x.i + 1) (v.x.i + 1)
    rw [eu]
    refine rl_t hv.1 ?_ ?_ ?_ ?_ ?_ v.x.i <;> rfl
  · skip
    have hv := (by assumption : Rl c v.x (v.x.i + 1) (v.x.i + 1) ∧ inW st c _ v.x ∧ v.u = Fin2 v.x.t v.w)
    have h3 := (by assumption : v.w = 3)
    have eu := hv.2.2.trans (f2_a (.inr h3))
    (conv => whnf); refine enter_mk (la := la50 st c _) ⟨⟨v.x.i, v.u.2.2, v.x.o, v.x.cap, v.x.hl, v.x.hc, v.x.hd, v.x.y⟩, v.u.1, v.u.2.1⟩ ?_ (by (repeat' (first | ((conv => whnf); first | refine ⟨?_, ?_⟩ | exact trivial | fail) | (dsimp only; done) | ((try dsimp only); first | with_reducible exact rfl | exact Nat.le_refl _ | with_reducible exact (fun _ _ => rfl)))); all_goals ((first | rfl | exact fun _ _ => rfl | (rw [eu]; done) | (rw [eu]; exact (decide_eq_true h3).symm) | (simp only [eu]; done))))
    refine ⟨?_, inW_i hv.2.1 rfl⟩
    show Rl c ⟨v.x.i, v.u.2.2, v.x.o, v.x.cap, v.x.hl, v.x.hc, v.x.hd, v.x.y⟩ (v.x.i + 1) (v.x.i + 1)
    rw [eu]
    refine rl_t hv.1 ?_ ?_ ?_ ?_ ?_ v.x.i <;> rfl
  · skip
    have hv := (by assumption : Rl c v.x (v.x.i + 1) (v.x.i + 1) ∧ inW st c _ v.x ∧ v.u = Fin2 v.x.t v.w)
    have eu := hv.2.2.trans (f2_b (by assumption))
    (conv => whnf); refine enter_mk (la := la50 st c _) ⟨⟨v.x.i, v.u.2.2, v.x.o, v.x.cap, v.x.hl, v.x.hc, v.x.hd, v.x.y⟩, v.u.1, v.u.2.1⟩ ?_ (by (repeat' (first | ((conv => whnf); first | refine ⟨?_, ?_⟩ | exact trivial | fail) | (dsimp only; done) | ((try dsimp only); first | with_reducible exact rfl | exact Nat.le_refl _ | with_reducible exact (fun _ _ => rfl)))); all_goals ((first | rfl | exact fun _ _ => rfl | (rw [eu]; done) | (rw [eu]; exact (decide_eq_false (by omega)).symm) | (simp only [eu]; done))))
    refine ⟨?_, inW_i hv.2.1 rfl⟩
    show Rl c ⟨v.x.i, v.u.2.2, v.x.o, v.x.cap, v.x.hl, v.x.hc, v.x.hd, v.x.y⟩ (v.x.i + 1) (v.x.i + 1)
    rw [eu]
    refine rl_t hv.1 ?_ ?_ ?_ ?_ ?_ v.x.i <;> rfl
  · skip
    have hv := (by assumption : Rl c v.x (v.x.i + 1) (v.x.i + 1) ∧ inW st c _ v.x ∧ v.u = Fin2 v.x.t v.w)
    have eu := hv.2.2.trans (f2_c (by omega) (by omega))
    (conv => whnf); refine enter_mk (la := la50 st c _) ⟨⟨v.x.i, v.u.2.2, v.x.o, v.x.cap, v.x.hl, v.x.hc, v.x.hd, v.x.y⟩, v.u.1, v.u.2.1⟩ ?_ (by (repeat' (first | ((conv => whnf); first | refine ⟨?_, ?_⟩ | exact trivial | fail) | (dsimp only; done) | ((try dsimp only); first | with_reducible exact rfl | exact Nat.le_refl _ | with_reducible exact (fun _ _ => rfl)))); all_goals ((first | rfl | exact fun _ _ => rfl | (rw [eu]; done) | (rw [eu]; exact (decide_eq_false (by omega)).symm) | (simp only [eu]; done))))
    refine ⟨?_, inW_i hv.2.1 rfl⟩
    show Rl c ⟨v.x.i, v.u.2.2, v.x.o, v.x.cap, v.x.hl, v.x.hc, v.x.hd, v.x.y⟩ (v.x.i + 1) (v.x.i + 1)
    rw [eu]
    refine rl_t hv.1 ?_ ?_ ?_ ?_ ?_ v.x.i <;> rfl
  · skip
    have hu := (by assumption : Rl c u.x (u.x.i + 1) u.x.i ∧ inW st c _ u.x ∧ u.u = Fin1 u.x.t u.w u.e (st.now (rw_ u.x)) (st.seq (rw_ u.x)))
    have he := (by assumption : u.e = 0)
    have eu := hu.2.2.trans (f1_b he (.inr (by omega)))
    (conv => whnf); refine enter_mk (la := la50 st c _) ⟨⟨u.x.i, u.u.2.2, u.x.o, u.x.cap, u.x.hl, u.x.hc, u.x.hd, u.x.y⟩, u.u.1, u.u.2.1⟩ ?_ (by (repeat' (first | ((conv => whnf); first | refine ⟨?_, ?_⟩ | exact trivial | fail) | (dsimp only; done) | ((try dsimp only); first | with_reducible exact rfl | exact Nat.le_refl _ | with_reducible exact (fun _ _ => rfl)))); all_goals ((first | rfl | exact fun _ _ => rfl | (rw [eu]; done) | (rw [eu]; exact he.symm) | (simp only [eu]; done))))
    refine ⟨?_, inW_i hu.2.1 rfl⟩
    show Rl c ⟨u.x.i, u.u.2.2, u.x.o, u.x.cap, u.x.hl, u.x.hc, u.x.hd, u.x.y⟩ (u.x.i + 1) (u.x.i + 1)
    rw [eu]
    exact rl_at hu.1 (Nat.le_refl _) (Nat.le_succ _) u.x.i
  · skip
    have hu := (by assumption : Rl c u.x (u.x.i + 1) u.x.i ∧ inW st c _ u.x ∧ u.u = Fin1 u.x.t u.w u.e (st.now (rw_ u.x)) (st.seq (rw_ u.x)))
    have he := (by assumption : u.e = 0)
    have eu := hu.2.2.trans (f1_b he (.inl (by omega)))
    (conv => whnf); refine enter_mk (la := la50 st c _) ⟨⟨u.x.i, u.u.2.2, u.x.o, u.x.cap, u.x.hl, u.x.hc, u.x.hd, u.x.y⟩, u.u.1, u.u.2.1⟩ ?_ (by (repeat' (first | ((conv => whnf); first | refine ⟨?_, ?_⟩ | exact trivial | fail) | (dsimp only; done) | ((try dsimp only); first | with_reducible exact rfl | exact Nat.le_refl _ | with_reducible exact (fun _ _ => rfl)))); all_goals ((first | rfl | exact fun _ _ => rfl | (rw [eu]; done) | (rw [eu]; exact he.symm) | (simp only [eu]; done))))
    refine ⟨?_, inW_i hu.2.1 rfl⟩
    show Rl c ⟨u.x.i, u.u.2.2, u.x.o, u.x.cap, u.x.hl, u.x.hc, u.x.hd, u.x.y⟩ (u.x.i + 1) (u.x.i + 1)
    rw [eu]
    exact rl_at hu.1 (Nat.le_refl _) (Nat.le_succ _) u.x.i
  · skip
    have hu := (by assumption : Rl c u.x (u.x.i + 1) u.x.i ∧ inW st c _ u.x ∧ u.u = Fin1 u.x.t u.w u.e (st.now (rw_ u.x)) (st.seq (rw_ u.x)))
    have he : u.e = u.e := rfl
    have eu := hu.2.2.trans (f1_a (by assumption))
    (conv => whnf); refine enter_mk (la := la50 st c _) ⟨⟨u.x.i, u.u.2.2, u.x.o, u.x.cap, u.x.hl, u.x.hc, u.x.hd, u.x.y⟩, u.u.1, u.u.2.1⟩ ?_ (by (repeat' (first | ((conv => whnf); first | refine ⟨?_, ?_⟩ | exact trivial | fail) | (dsimp only; done) | ((try dsimp only); first | with_reducible exact rfl | exact Nat.le_refl _ | with_reducible exact (fun _ _ => rfl)))); all_goals ((first | rfl | exact fun _ _ => rfl | (rw [eu]; done) | (rw [eu]; exact he.symm) | (simp only [eu]; done))))
    refine ⟨?_, inW_i hu.2.1 rfl⟩
    show Rl c ⟨u.x.i, u.u.2.2, u.x.o, u.x.cap, u.x.hl, u.x.hc, u.x.hd, u.x.y⟩ (u.x.i + 1) (u.x.i + 1)
    rw [eu]
    exact rl_at hu.1 (Nat.le_refl _) (Nat.le_succ _) u.x.i
  · skip
    exact (nb (by assumption : (!(w.ok == w.ok)) = true)).elim
  · skip
    have hv := (by assumption : Rl c w.x (w.x.i + 1) (w.x.i + 1) ∧ inW st c _ w.x)
    have ho := inW_out hv.2
    have hc9 := i_cnt ho.1.1 (by omega)
    have hm9 : ∀ k : Nat, (w.x.i : Int) = k → st.len - (w.x.i + 1) < st.len - k := fun k hk => by omega
    (conv => whnf); refine enter_mk (la := laMH st c) ⟨w.x.i + 1, w.x.t, w.x.o, w.x.cap, w.x.hl, w.x.hc, w.x.hd, w.x.y⟩ ?_ (by (repeat' (first | ((conv => whnf); first | refine ⟨?_, ?_⟩ | exact trivial | fail) | (dsimp only; done) | ((try dsimp only); first | with_reducible exact rfl | exact Nat.le_refl _ | with_reducible exact (fun _ _ => rfl)))); all_goals ((first | rfl | exact fun _ _ => rfl | exact hc9 | exact hm9 _ ho.1.1)))
    exact ⟨rl_at hv.1 (Nat.le_refl _) (Nat.le_refl _) (w.x.i + 1), (by show w.x.i + 1 ≤ st.len; omega), ho.1.2.2⟩
  · skip
    have hx := (by assumption : Rl c x x.i x.i ∧ x.i ≤ st.len ∧ st.len ≤ 100)
    have hi : x.i = st.len := by omega
    (conv => whnf); refine enter_mk (la := la54 st c) ⟨x, 0⟩ ?_ (by (repeat' (first | ((conv => whnf); first | refine ⟨?_, ?_⟩ | exact trivial | fail) | (dsimp only; done) | ((try dsimp only); first | with_reducible exact rfl | exact Nat.le_refl _ | with_reducible exact (fun _ _ => rfl)))); all_goals ((first | rfl | exact fun _ _ => rfl)))
    exact ⟨hi ▸ hx.1, Nat.zero_le _⟩
  · skip
    have hs := (by assumption : Rl c s.x st.len st.len ∧ s.c ≤ c.w.toNat)
    have hk : s.c < c.w.toNat := by omega
    have e0 : 0 + ((s.c : Nat) : Int).toNat = s.c := by omega
    have h9 := (by assumption : (!(eq4 (ctQ s.x.t (s.c : Int)) (s.x.o.k0 (0 + ((s.c : Nat) : Int).toNat)) (s.x.o.k1 (0 + ((s.c : Nat) : Int).toNat)) (s.x.o.k2 (0 + ((s.c : Nat) : Int).toNat)) (s.x.o.k3 (0 + ((s.c : Nat) : Int).toNat)))) = true)
    have e1 := (hs.1.one s.c hk).1
    have q0 := congrArg Sq.k0 e1
    have q1 := congrArg Sq.k1 e1
    have q2 := congrArg Sq.k2 e1
    have q3 := congrArg Sq.k3 e1
    have h7 : eq4 (s.x.t.ones s.c) (s.x.o.k0 s.c) (s.x.o.k1 s.c) (s.x.o.k2 s.c) (s.x.o.k3 s.c) = true := eq4_t ⟨q0.symm, q1.symm, q2.symm, q3.symm⟩
    rw [e0, ct_o hs.1 hk, h7] at h9
    cases h9
  · skip
    have hs := (by assumption : Rl c s.x st.len st.len ∧ s.c ≤ c.w.toNat)
    have hc9 := i_cnt (i := s.c) rfl (by omega)
    have hm9 : c.w.toNat - (s.c + 1) < c.w.toNat - s.c := by omega
    (conv => whnf); refine enter_mk (la := la54 st c) ⟨s.x, s.c + 1⟩ ?_ (by (repeat' (first | ((conv => whnf); first | refine ⟨?_, ?_⟩ | exact trivial | fail) | (dsimp only; done) | ((try dsimp only); first | with_reducible exact rfl | exact Nat.le_refl _ | with_reducible exact (fun _ _ => rfl)))); all_goals ((first | rfl | exact fun _ _ => rfl | exact hc9 | exact hm9)))
    exact ⟨hs.1, by show s.c + 1 ≤ c.w.toNat; omega⟩
  · skip
    have hs := (by assumption : Rl c s.x st.len st.len ∧ s.c ≤ c.w.toNat)
    have e := cq_0 (t := s.x.t) (y := IntKind.i64.wrap (c.w + 1)) (.inr (by rw [w64' (by omega) (by omega), hs.1.w]; omega))
    show true = eq4 (ctQ s.x.t (IntKind.i64.wrap (c.w + 1))) 0 0 0 0
    rw [e]
    rfl
  · skip
    have hs := (by assumption : Rl c s.x st.len st.len ∧ s.c ≤ c.w.toNat)
    have e := cq_0 (t := s.x.t) (y := -1) (.inl (by decide))
    have h9 := (by assumption : eq4 (ctQ s.x.t (-1)) 0 0 0 0 = false)
    rw [e] at h9
    cases h9
  · skip
    exact absurd rfl (by assumption)
  · skip
    have hs := (by assumption : Rl c s.x st.len st.len ∧ s.c ≤ c.w.toNat)
    have e := cq_a (t := s.x.t) (y := c.w) hs.1.w.symm
    have h9 := (by assumption : eq4 (ctQ s.x.t c.w) s.x.t.all.k0 s.x.t.all.k1 s.x.t.all.k2 s.x.t.all.k3 = false)
    rw [e, eq4_t ⟨rfl, rfl, rfl, rfl⟩] at h9
    cases h9
  · skip
    exact absurd (mn_in (by assumption) (by assumption) (by assumption) (by assumption) (by assumption) (by assumption) (of_decide_eq_true (by assumption)) (by have h9 := (by assumption : (!decide (CfOK (c.a0, c.a1, c.a2))) = false); simpa using h9) (by assumption) (by assumption)) (by assumption)
end

theorem own : ownKnob Try.prog.godebug = none := by kernel_rfl

set_option maxRecDepth 100000 in
theorem lifted (os : Os) (started : os.Started) (H : Type) (enc : TypeId × Value → H) :
    ReturnsInHanded {} Try.checked os 10 .any (Rows.mergeRunsSpec.pre6 enc Try.prog Try.f10 Rows.mergeRunsRow.domain false) (Rows.mergeRunsSpec.post enc Try.prog Try.f10 false true false false) := by
  refine returnsInHanded_of_change (C := Try.checked) own started (by kernel_rfl) Try.func10
    (ChangeSpec.witness6 (enc := enc) (C := Try.checked) false ⟨#[], #[.agg #[.int .i64 0, .int .i64 0, .int .i64 0, .int .i64 0, .int .i64 0, .int .i64 0, .int .i64 0, .int .i64 0, .int .i64 0], .int .i64 0, .slice none 0 0], []⟩ 8 (by kernel_rfl) (by kernel_rfl) (by kernel_rfl) (by kernel_rfl)) ?_
  intro W base args ds gs before hval0 hW hcnd _
  have hval : ∀ (j : Nat) t v, Try.f10.params[j]? = some t → args[j]? = some v → Value.okWide Try.prog W .any base t v := hval0
  have hW' := hW
  obtain ⟨p, q, hA0, hV, rfl, hfz, hnd⟩ := hW
  have hA : DataW.TrodAll enc Try.prog W 0 (fun _ => true) true Try.f10.params.toList args.toList ds p := hA0
  rw [Try.params10] at hA hval
  obtain ⟨v0, vs0, d0, ds0, p0, q0, hargs0, rfl, rfl, h0, r0⟩ := trodAll_cons hA
  obtain ⟨v1, vs1, d1, ds1, p1, q1, hargs1, rfl, rfl, h1, r1⟩ := trodAll_cons r0
  obtain ⟨v2, vs2, d2, ds2, p2, q2, hargs2, rfl, rfl, h2, r2⟩ := trodAll_cons r1
  obtain ⟨rfl, rfl, rfl⟩ := trodAll_nil r2
  obtain ⟨rfl, rfl⟩ := trodVars_none hV
  obtain rfl : args = #[v0, v1, v2] := by cases args; simp_all
  obtain ⟨cs0, hv0, hl0, hc0⟩ := agg_open (d := 6) (row := [some .i64, some .i64, some .i64, some .i64, some .i64, some .i64, some .i64, some .i64, some .i64]) (by kernel_rfl) (by kernel_rfl) (hval 0 62 v0 rfl rfl) h0
  have g0_0 := listIs_of hl0 hc0
  clear hl0 hc0
  obtain ⟨_, cs0_1, rfl, ⟨b0_0, rfl, w0_0⟩, g0_1⟩ := listIs_cons g0_0
  obtain ⟨_, cs0_2, rfl, ⟨b0_1, rfl, w0_1⟩, g0_2⟩ := listIs_cons g0_1
  obtain ⟨_, cs0_3, rfl, ⟨b0_2, rfl, w0_2⟩, g0_3⟩ := listIs_cons g0_2
  obtain ⟨_, cs0_4, rfl, ⟨b0_3, rfl, w0_3⟩, g0_4⟩ := listIs_cons g0_3
  obtain ⟨_, cs0_5, rfl, ⟨b0_4, rfl, w0_4⟩, g0_5⟩ := listIs_cons g0_4
  obtain ⟨_, cs0_6, rfl, ⟨b0_5, rfl, w0_5⟩, g0_6⟩ := listIs_cons g0_5
  obtain ⟨_, cs0_7, rfl, ⟨b0_6, rfl, w0_6⟩, g0_7⟩ := listIs_cons g0_6
  obtain ⟨_, cs0_8, rfl, ⟨b0_7, rfl, w0_7⟩, g0_8⟩ := listIs_cons g0_7
  obtain ⟨_, cs0_9, rfl, ⟨b0_8, rfl, w0_8⟩, g0_9⟩ := listIs_cons g0_8
  obtain rfl := listIs_nil g0_9
  subst hv0
  obtain ⟨a1, rfl, rfl, rfl, w1⟩ := open_int Try.underlying3 (hval 1 3 v1 rfl rfl) h1
  obtain ⟨A2, n2, c2, s2⟩ := slice_open (d := 6) (row := [none, some .i64, some .i64, some .i64]) Try.underlying67 (by kernel_rfl) (by kernel_rfl) (hval 2 67 v2 rfl rfl) h2
  refine Calls.mono (law_calls mixed Try.func10 (runs ⟨b0_0, b0_1, b0_2, b0_3, b0_4, b0_5, b0_6, b0_7, b0_8⟩ a1 ⟨n2, c2, n2, fun r => boolC W A2 (r * 4 + 0), fun r => intC W A2 (r * 4 + 1), fun r => intC W A2 (r * 4 + 2), fun r => intC W A2 (r * 4 + 3)⟩ ⟨⟨s2.le, Nat.le_refl _, s2.max⟩, fun r hr => i64_of (s2.wf 1 .i64 rfl r hr)⟩) (e := envOf [A2, some default]) (rel_mr s2.reg) (Nat.le_refl 2) (by rw [s2.val]; exact den_mr.symm)) fun e W' ⟨he, hb⟩ => ?_
  subst he
  exact ⟨_, rfl, law_post hW' rfl rfl (by kernel_rfl) (by decide +kernel) rfl Try.underlying4 hb⟩

theorem over : Rows.mergeRunsRow.holds Try.pinned (OpenSpec.ofChange Rows.mergeRunsSpec) :=
  OpenClaim.holds_of_wide 10 Try.f10 rfl rfl rfl rfl rfl rfl rfl ⟨rfl, rfl, rfl, rfl, rfl⟩ rfl rfl rfl rfl rfl (by kernel_rfl) Try.func10 (by kernel_rfl)
    (of_decide_eq_true (by kernel_rfl)) (by unfold Func.isWrapper; first | (rw [if_pos (by decide +kernel)]; kernel_rfl) | (rw [if_neg (by decide +kernel)]; exact ⟨rfl, rfl⟩))
    (fun os started H enc _ => lifted os started H enc)

/-- MergeRuns -/
theorem proved : Rows.MergeRunsSaid := over
#print axioms proved
end Go.Proofs.Ytlhlegjndembdaa.mergeRuns
