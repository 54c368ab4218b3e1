/-
  Contracts of functions, and plain facts about them, that a claim of this seat uses.
-/
import Derived.Test.YtaadejgoafdbcaaSx
import Derived.Test.YtaadejgoafdbcaaPLanA
import Derived.Test.YtaadejgoafdbcaaProg
namespace Go.Proofs.Ytaadejgoafdbcaa
open Go.Sx
set_option linter.unusedVariables false
set_option linter.unusedSimpArgs false
set_option maxRecDepth 100000

/-! lanes: Put. -/
noncomputable def cxPut (k : Nat) : Cx Try.prog := { ps := [], es := [], is := [], n0 := 1, loops := fun _ => none, cuts := fun _ => none, held := fun i => (match i with | 9 => some (true, .take 0 (.take 1 (.take 2 (.take 3 (.take 4 (.take 5 (.take 6 (.take 8 (.take 11 (.take 12 (.two 7 (.one 9 (.one 10 (.take 13 (.one 14 .done)))) 9 (.one 7 (.one 10 (.take 13 (.one 14 .done))))))))))))))) | _ => none), lose := fun i => (match i with | 9 => [0, k] | _ => []) }
section
attribute [local irreducible] anyO putE putL
set_option maxHeartbeats 8000000 in
theorem put0 (l : Ln) (x : It) (h : LH) (hi : LnInv l h) : Runs (cxPut 1) Try.f21 (.one (.a (.ptr 0 0)) :: [int_ .i64 0, .one (itC x)]) (lnMem l h) fun v m => ghosted (fun _ _ => []) v m fun v m => anyO lnK (lnRen m) v m [.one (int_ .i64 (putE l 0 x)) (lnP (putL l 0 x))] := by
  have hn := hi.ok.n 0 (by decide)
  have hr := hi.ok.room 0 (by decide)
  have hq := hi.q0.n
  have hc := hi.q0.c
  repeat' (first | with_reducible exact trivial | with_reducible exact rfl | with_reducible exact Nat.le_refl _ | with_reducible exact (fun _ _ => rfl) | ((conv => whnf); first | (exact fun h => absurd h (by decide)) | (intro h9; (have h8 := of_decide_eq_true (p := type_of% h9) (by decide)); clear h8 h9) | (refine fun _ => ?_) | refine ⟨?_, ?_⟩ | exact trivial | exact Nat.le_refl _ | exact lex_q (by kernel_rfl) | exact lex_t (by kernel_rfl) | exact lex_h (by kernel_rfl) | fail))
  all_goals (try decide)
  all_goals (try omega)
  · have he : putE l 0 x = 1 := put_1 (by omega)
    have e0 : putE l 0 x ≠ 0 := by rw [he]; decide
    have e1 : putE l 0 x ≠ 30 := by rw [he]; decide
    (conv => whnf); refine o_one ⟨⟨_, _, _, _⟩, ⟨_, _, _, _⟩, ⟨_, _, _, _⟩, ⟨_, _, _, _⟩, ⟨_, _, _, _⟩, ⟨_, _, _, _⟩, ⟨_, _, _, _⟩, ⟨_, _, _, _⟩⟩ (by (repeat' (first | ((conv => whnf); first | refine ⟨?_, ?_⟩ | exact trivial | fail) | (dsimp only; done) | ((try dsimp only); first | with_reducible exact rfl | exact Nat.le_refl _ | with_reducible exact (fun _ _ => rfl)))); all_goals ((first | exact he | rfl | (rw [lnOf_P, put_room]) | (rw [lnOf_P, put_n' e0]) | (rw [lnOf_P, put_lost' e1])))) ?_; exact put_inv' hi e0
  · have he : putE l 0 x = 1 := put_1 (by omega)
    have e0 : putE l 0 x ≠ 0 := by rw [he]; decide
    have e1 : putE l 0 x ≠ 30 := by rw [he]; decide
    (conv => whnf); refine o_one ⟨⟨_, _, _, _⟩, ⟨_, _, _, _⟩, ⟨_, _, _, _⟩, ⟨_, _, _, _⟩, ⟨_, _, _, _⟩, ⟨_, _, _, _⟩, ⟨_, _, _, _⟩, ⟨_, _, _, _⟩⟩ (by (repeat' (first | ((conv => whnf); first | refine ⟨?_, ?_⟩ | exact trivial | fail) | (dsimp only; done) | ((try dsimp only); first | with_reducible exact rfl | exact Nat.le_refl _ | with_reducible exact (fun _ _ => rfl)))); all_goals ((first | exact he | rfl | (rw [lnOf_P, put_room]) | (rw [lnOf_P, put_n' e0]) | (rw [lnOf_P, put_lost' e1])))) ?_; exact put_inv' hi e0
  all_goals (try rw [w64' (by omega) (by omega)] at *)
  all_goals (try omega)
  · have he : putE l 0 x = 30 := put_30 (by omega) (by decide) (.inl (by assumption))
    have e0 : putE l 0 x ≠ 0 := by rw [he]; decide
    (conv => whnf); refine o_one ⟨⟨_, _, _, _⟩, ⟨_, _, _, _⟩, ⟨_, _, _, _⟩, ⟨_, _, _, _⟩, ⟨_, _, _, _⟩, ⟨_, _, _, _⟩, ⟨_, _, _, _⟩, ⟨_, _, _, _⟩⟩ (by (repeat' (first | ((conv => whnf); first | refine ⟨?_, ?_⟩ | exact trivial | fail) | (dsimp only; done) | ((try dsimp only); first | with_reducible exact rfl | exact Nat.le_refl _ | with_reducible exact (fun _ _ => rfl)))); all_goals ((first | exact he | rfl | (rw [lnOf_P, put_room]) | (rw [lnOf_P, put_n' e0]) | (rw [lnOf_P, put_lost he]; rfl)))) ?_; exact put_inv' hi e0
  · have he : putE l 0 x = 30 := put_30 (by omega) (by decide) (.inr ⟨by assumption, by assumption⟩)
    have e0 : putE l 0 x ≠ 0 := by rw [he]; decide
    (conv => whnf); refine o_one ⟨⟨_, _, _, _⟩, ⟨_, _, _, _⟩, ⟨_, _, _, _⟩, ⟨_, _, _, _⟩, ⟨_, _, _, _⟩, ⟨_, _, _, _⟩, ⟨_, _, _, _⟩, ⟨_, _, _, _⟩⟩ (by (repeat' (first | ((conv => whnf); first | refine ⟨?_, ?_⟩ | exact trivial | fail) | (dsimp only; done) | ((try dsimp only); first | with_reducible exact rfl | exact Nat.le_refl _ | with_reducible exact (fun _ _ => rfl)))); all_goals ((first | exact he | rfl | (rw [lnOf_P, put_room]) | (rw [lnOf_P, put_n' e0]) | (rw [lnOf_P, put_lost he]; rfl)))) ?_; exact put_inv' hi e0
  all_goals
    have he : putE l 0 x = 0 := put_0 (by omega) (by decide) (fun hf => hf.elim (by assumption) fun hf => (by first | exact absurd hf.2 (by assumption) | exact absurd (hf.1.symm.trans (by assumption : x.dr = false)) (by decide)))
    have e1 : putE l 0 x ≠ 30 := by rw [he]; decide
    (conv => whnf); refine o_one ⟨⟨_, _, _, _⟩, ⟨_, _, _, _⟩, ⟨_, _, _, _⟩, ⟨_, _, _, _⟩, ⟨_, _, _, _⟩, ⟨_, _, _, _⟩, ⟨_, _, _, _⟩, ⟨_, _, _, _⟩⟩ (by (repeat' (first | ((conv => whnf); first | refine ⟨?_, ?_⟩ | exact trivial | fail) | (dsimp only; done) | ((try dsimp only); first | with_reducible exact rfl | exact Nat.le_refl _ | with_reducible exact (fun _ _ => rfl)))); all_goals ((first | exact he | rfl | (rw [lnOf_P, put_room]) | (rw [lnOf_P, put_n he]; rfl) | (rw [lnOf_P, put_lost' e1])))) ?_; refine ⟨put_ok hi.ok _ _, qput_at (c := 0) he hi.q0 (by assumption) (by assumption) (fun r hr => ?_) ?_, qput_ne he (by decide) hi.q1, qput_ne he (by decide) hi.q2, qput_ne he (by decide) hi.q3, qput_ne he (by decide) hi.q4, qput_ne he (by decide) hi.q5, qput_ne he (by decide) hi.q6, qput_ne he (by decide) hi.q7⟩
    · have hr : r < l.n 0 := hr
      dsimp only
      rw [if_pos hr, if_pos hr, if_pos hr]; exact ⟨rfl, rfl, rfl⟩
    · refine ⟨?_, ?_, ?_⟩ <;> (show (if l.n 0 < l.n 0 then _ else (if l.n 0 < l.n 0 + 1 then _ else _)) = _; rw [if_neg (Nat.lt_irrefl _), if_pos (Nat.lt_add_one _), show l.n (Int.toNat 0) - l.n 0 = 0 from Nat.sub_self _]; rfl)
set_option maxHeartbeats 8000000 in
theorem put1 (l : Ln) (x : It) (h : LH) (hi : LnInv l h) : Runs (cxPut 2) Try.f21 (.one (.a (.ptr 0 0)) :: [int_ .i64 1, .one (itC x)]) (lnMem l h) fun v m => ghosted (fun _ _ => []) v m fun v m => anyO lnK (lnRen m) v m [.one (int_ .i64 (putE l 1 x)) (lnP (putL l 1 x))] := by
  have hn := hi.ok.n 1 (by decide)
  have hr := hi.ok.room 1 (by decide)
  have hq := hi.q1.n
  have hc := hi.q1.c
  repeat' (first | with_reducible exact trivial | with_reducible exact rfl | with_reducible exact Nat.le_refl _ | with_reducible exact (fun _ _ => rfl) | ((conv => whnf); first | (exact fun h => absurd h (by decide)) | (intro h9; (have h8 := of_decide_eq_true (p := type_of% h9) (by decide)); clear h8 h9) | (refine fun _ => ?_) | refine ⟨?_, ?_⟩ | exact trivial | exact Nat.le_refl _ | exact lex_q (by kernel_rfl) | exact lex_t (by kernel_rfl) | exact lex_h (by kernel_rfl) | fail))
  all_goals (try decide)
  all_goals (try omega)
  · have he : putE l 1 x = 1 := put_1 (by omega)
    have e0 : putE l 1 x ≠ 0 := by rw [he]; decide
    have e1 : putE l 1 x ≠ 30 := by rw [he]; decide
    (conv => whnf); refine o_one ⟨⟨_, _, _, _⟩, ⟨_, _, _, _⟩, ⟨_, _, _, _⟩, ⟨_, _, _, _⟩, ⟨_, _, _, _⟩, ⟨_, _, _, _⟩, ⟨_, _, _, _⟩, ⟨_, _, _, _⟩⟩ (by (repeat' (first | ((conv => whnf); first | refine ⟨?_, ?_⟩ | exact trivial | fail) | (dsimp only; done) | ((try dsimp only); first | with_reducible exact rfl | exact Nat.le_refl _ | with_reducible exact (fun _ _ => rfl)))); all_goals ((first | exact he | rfl | (rw [lnOf_P, put_room]) | (rw [lnOf_P, put_n' e0]) | (rw [lnOf_P, put_lost' e1])))) ?_; exact put_inv' hi e0
  · have he : putE l 1 x = 1 := put_1 (by omega)
    have e0 : putE l 1 x ≠ 0 := by rw [he]; decide
    have e1 : putE l 1 x ≠ 30 := by rw [he]; decide
    (conv => whnf); refine o_one ⟨⟨_, _, _, _⟩, ⟨_, _, _, _⟩, ⟨_, _, _, _⟩, ⟨_, _, _, _⟩, ⟨_, _, _, _⟩, ⟨_, _, _, _⟩, ⟨_, _, _, _⟩, ⟨_, _, _, _⟩⟩ (by (repeat' (first | ((conv => whnf); first | refine ⟨?_, ?_⟩ | exact trivial | fail) | (dsimp only; done) | ((try dsimp only); first | with_reducible exact rfl | exact Nat.le_refl _ | with_reducible exact (fun _ _ => rfl)))); all_goals ((first | exact he | rfl | (rw [lnOf_P, put_room]) | (rw [lnOf_P, put_n' e0]) | (rw [lnOf_P, put_lost' e1])))) ?_; exact put_inv' hi e0
  all_goals (try rw [w64' (by omega) (by omega)] at *)
  all_goals (try omega)
  · have he : putE l 1 x = 30 := put_30 (by omega) (by decide) (.inl (by assumption))
    have e0 : putE l 1 x ≠ 0 := by rw [he]; decide
    (conv => whnf); refine o_one ⟨⟨_, _, _, _⟩, ⟨_, _, _, _⟩, ⟨_, _, _, _⟩, ⟨_, _, _, _⟩, ⟨_, _, _, _⟩, ⟨_, _, _, _⟩, ⟨_, _, _, _⟩, ⟨_, _, _, _⟩⟩ (by (repeat' (first | ((conv => whnf); first | refine ⟨?_, ?_⟩ | exact trivial | fail) | (dsimp only; done) | ((try dsimp only); first | with_reducible exact rfl | exact Nat.le_refl _ | with_reducible exact (fun _ _ => rfl)))); all_goals ((first | exact he | rfl | (rw [lnOf_P, put_room]) | (rw [lnOf_P, put_n' e0]) | (rw [lnOf_P, put_lost he]; rfl)))) ?_; exact put_inv' hi e0
  · have he : putE l 1 x = 30 := put_30 (by omega) (by decide) (.inr ⟨by assumption, by assumption⟩)
    have e0 : putE l 1 x ≠ 0 := by rw [he]; decide
    (conv => whnf); refine o_one ⟨⟨_, _, _, _⟩, ⟨_, _, _, _⟩, ⟨_, _, _, _⟩, ⟨_, _, _, _⟩, ⟨_, _, _, _⟩, ⟨_, _, _, _⟩, ⟨_, _, _, _⟩, ⟨_, _, _, _⟩⟩ (by (repeat' (first | ((conv => whnf); first | refine ⟨?_, ?_⟩ | exact trivial | fail) | (dsimp only; done) | ((try dsimp only); first | with_reducible exact rfl | exact Nat.le_refl _ | with_reducible exact (fun _ _ => rfl)))); all_goals ((first | exact he | rfl | (rw [lnOf_P, put_room]) | (rw [lnOf_P, put_n' e0]) | (rw [lnOf_P, put_lost he]; rfl)))) ?_; exact put_inv' hi e0
  all_goals
    have he : putE l 1 x = 0 := put_0 (by omega) (by decide) (fun hf => hf.elim (by assumption) fun hf => (by first | exact absurd hf.2 (by assumption) | exact absurd (hf.1.symm.trans (by assumption : x.dr = false)) (by decide)))
    have e1 : putE l 1 x ≠ 30 := by rw [he]; decide
    (conv => whnf); refine o_one ⟨⟨_, _, _, _⟩, ⟨_, _, _, _⟩, ⟨_, _, _, _⟩, ⟨_, _, _, _⟩, ⟨_, _, _, _⟩, ⟨_, _, _, _⟩, ⟨_, _, _, _⟩, ⟨_, _, _, _⟩⟩ (by (repeat' (first | ((conv => whnf); first | refine ⟨?_, ?_⟩ | exact trivial | fail) | (dsimp only; done) | ((try dsimp only); first | with_reducible exact rfl | exact Nat.le_refl _ | with_reducible exact (fun _ _ => rfl)))); all_goals ((first | exact he | rfl | (rw [lnOf_P, put_room]) | (rw [lnOf_P, put_n he]; rfl) | (rw [lnOf_P, put_lost' e1])))) ?_; refine ⟨put_ok hi.ok _ _, qput_ne he (by decide) hi.q0, qput_at (c := 1) he hi.q1 (by assumption) (by assumption) (fun r hr => ?_) ?_, qput_ne he (by decide) hi.q2, qput_ne he (by decide) hi.q3, qput_ne he (by decide) hi.q4, qput_ne he (by decide) hi.q5, qput_ne he (by decide) hi.q6, qput_ne he (by decide) hi.q7⟩
    · have hr : r < l.n 1 := hr
      dsimp only
      rw [if_pos hr, if_pos hr, if_pos hr]; exact ⟨rfl, rfl, rfl⟩
    · refine ⟨?_, ?_, ?_⟩ <;> (show (if l.n 1 < l.n 1 then _ else (if l.n 1 < l.n 1 + 1 then _ else _)) = _; rw [if_neg (Nat.lt_irrefl _), if_pos (Nat.lt_add_one _), show l.n (Int.toNat 1) - l.n 1 = 0 from Nat.sub_self _]; rfl)
set_option maxHeartbeats 8000000 in
theorem put2 (l : Ln) (x : It) (h : LH) (hi : LnInv l h) : Runs (cxPut 3) Try.f21 (.one (.a (.ptr 0 0)) :: [int_ .i64 2, .one (itC x)]) (lnMem l h) fun v m => ghosted (fun _ _ => []) v m fun v m => anyO lnK (lnRen m) v m [.one (int_ .i64 (putE l 2 x)) (lnP (putL l 2 x))] := by
  have hn := hi.ok.n 2 (by decide)
  have hr := hi.ok.room 2 (by decide)
  have hq := hi.q2.n
  have hc := hi.q2.c
  repeat' (first | with_reducible exact trivial | with_reducible exact rfl | with_reducible exact Nat.le_refl _ | with_reducible exact (fun _ _ => rfl) | ((conv => whnf); first | (exact fun h => absurd h (by decide)) | (intro h9; (have h8 := of_decide_eq_true (p := type_of% h9) (by decide)); clear h8 h9) | (refine fun _ => ?_) | refine ⟨?_, ?_⟩ | exact trivial | exact Nat.le_refl _ | exact lex_q (by kernel_rfl) | exact lex_t (by kernel_rfl) | exact lex_h (by kernel_rfl) | fail))
  all_goals (try decide)
  all_goals (try omega)
  · have he : putE l 2 x = 1 := put_1 (by omega)
    have e0 : putE l 2 x ≠ 0 := by rw [he]; decide
    have e1 : putE l 2 x ≠ 30 := by rw [he]; decide
    (conv => whnf); refine o_one ⟨⟨_, _, _, _⟩, ⟨_, _, _, _⟩, ⟨_, _, _, _⟩, ⟨_, _, _, _⟩, ⟨_, _, _, _⟩, ⟨_, _, _, _⟩, ⟨_, _, _, _⟩, ⟨_, _, _, _⟩⟩ (by (repeat' (first | ((conv => whnf); first | refine ⟨?_, ?_⟩ | exact trivial | fail) | (dsimp only; done) | ((try dsimp only); first | with_reducible exact rfl | exact Nat.le_refl _ | with_reducible exact (fun _ _ => rfl)))); all_goals ((first | exact he | rfl | (rw [lnOf_P, put_room]) | (rw [lnOf_P, put_n' e0]) | (rw [lnOf_P, put_lost' e1])))) ?_; exact put_inv' hi e0
  · have he : putE l 2 x = 1 := put_1 (by omega)
    have e0 : putE l 2 x ≠ 0 := by rw [he]; decide
    have e1 : putE l 2 x ≠ 30 := by rw [he]; decide
    (conv => whnf); refine o_one ⟨⟨_, _, _, _⟩, ⟨_, _, _, _⟩, ⟨_, _, _, _⟩, ⟨_, _, _, _⟩, ⟨_, _, _, _⟩, ⟨_, _, _, _⟩, ⟨_, _, _, _⟩, ⟨_, _, _, _⟩⟩ (by (repeat' (first | ((conv => whnf); first | refine ⟨?_, ?_⟩ | exact trivial | fail) | (dsimp only; done) | ((try dsimp only); first | with_reducible exact rfl | exact Nat.le_refl _ | with_reducible exact (fun _ _ => rfl)))); all_goals ((first | exact he | rfl | (rw [lnOf_P, put_room]) | (rw [lnOf_P, put_n' e0]) | (rw [lnOf_P, put_lost' e1])))) ?_; exact put_inv' hi e0
  all_goals (try rw [w64' (by omega) (by omega)] at *)
  all_goals (try omega)
  · have he : putE l 2 x = 30 := put_30 (by omega) (by decide) (.inl (by assumption))
    have e0 : putE l 2 x ≠ 0 := by rw [he]; decide
    (conv => whnf); refine o_one ⟨⟨_, _, _, _⟩, ⟨_, _, _, _⟩, ⟨_, _, _, _⟩, ⟨_, _, _, _⟩, ⟨_, _, _, _⟩, ⟨_, _, _, _⟩, ⟨_, _, _, _⟩, ⟨_, _, _, _⟩⟩ (by (repeat' (first | ((conv => whnf); first | refine ⟨?_, ?_⟩ | exact trivial | fail) | (dsimp only; done) | ((try dsimp only); first | with_reducible exact rfl | exact Nat.le_refl _ | with_reducible exact (fun _ _ => rfl)))); all_goals ((first | exact he | rfl | (rw [lnOf_P, put_room]) | (rw [lnOf_P, put_n' e0]) | (rw [lnOf_P, put_lost he]; rfl)))) ?_; exact put_inv' hi e0
  · have he : putE l 2 x = 30 := put_30 (by omega) (by decide) (.inr ⟨by assumption, by assumption⟩)
    have e0 : putE l 2 x ≠ 0 := by rw [he]; decide
    (conv => whnf); refine o_one ⟨⟨_, _, _, _⟩, ⟨_, _, _, _⟩, ⟨_, _, _, _⟩, ⟨_, _, _, _⟩, ⟨_, _, _, _⟩, ⟨_, _, _, _⟩, ⟨_, _, _, _⟩, ⟨_, _, _, _⟩⟩ (by (repeat' (first | ((conv => whnf); first | refine ⟨?_, ?_⟩ | exact trivial | fail) | (dsimp only; done) | ((try dsimp only); first | with_reducible exact rfl | exact Nat.le_refl _ | with_reducible exact (fun _ _ => rfl)))); all_goals ((first | exact he | rfl | (rw [lnOf_P, put_room]) | (rw [lnOf_P, put_n' e0]) | (rw [lnOf_P, put_lost he]; rfl)))) ?_; exact put_inv' hi e0
  all_goals
    have he : putE l 2 x = 0 := put_0 (by omega) (by decide) (fun hf => hf.elim (by assumption) fun hf => (by first | exact absurd hf.2 (by assumption) | exact absurd (hf.1.symm.trans (by assumption : x.dr = false)) (by decide)))
    have e1 : putE l 2 x ≠ 30 := by rw [he]; decide
    (conv => whnf); refine o_one ⟨⟨_, _, _, _⟩, ⟨_, _, _, _⟩, ⟨_, _, _, _⟩, ⟨_, _, _, _⟩, ⟨_, _, _, _⟩, ⟨_, _, _, _⟩, ⟨_, _, _, _⟩, ⟨_, _, _, _⟩⟩ (by (repeat' (first | ((conv => whnf); first | refine ⟨?_, ?_⟩ | exact trivial | fail) | (dsimp only; done) | ((try dsimp only); first | with_reducible exact rfl | exact Nat.le_refl _ | with_reducible exact (fun _ _ => rfl)))); all_goals ((first | exact he | rfl | (rw [lnOf_P, put_room]) | (rw [lnOf_P, put_n he]; rfl) | (rw [lnOf_P, put_lost' e1])))) ?_; refine ⟨put_ok hi.ok _ _, qput_ne he (by decide) hi.q0, qput_ne he (by decide) hi.q1, qput_at (c := 2) he hi.q2 (by assumption) (by assumption) (fun r hr => ?_) ?_, qput_ne he (by decide) hi.q3, qput_ne he (by decide) hi.q4, qput_ne he (by decide) hi.q5, qput_ne he (by decide) hi.q6, qput_ne he (by decide) hi.q7⟩
    · have hr : r < l.n 2 := hr
      dsimp only
      rw [if_pos hr, if_pos hr, if_pos hr]; exact ⟨rfl, rfl, rfl⟩
    · refine ⟨?_, ?_, ?_⟩ <;> (show (if l.n 2 < l.n 2 then _ else (if l.n 2 < l.n 2 + 1 then _ else _)) = _; rw [if_neg (Nat.lt_irrefl _), if_pos (Nat.lt_add_one _), show l.n (Int.toNat 2) - l.n 2 = 0 from Nat.sub_self _]; rfl)
set_option maxHeartbeats 8000000 in
theorem put3 (l : Ln) (x : It) (h : LH) (hi : LnInv l h) : Runs (cxPut 4) Try.f21 (.one (.a (.ptr 0 0)) :: [int_ .i64 3, .one (itC x)]) (lnMem l h) fun v m => ghosted (fun _ _ => []) v m fun v m => anyO lnK (lnRen m) v m [.one (int_ .i64 (putE l 3 x)) (lnP (putL l 3 x))] := by
  have hn := hi.ok.n 3 (by decide)
  have hr := hi.ok.room 3 (by decide)
  have hq := hi.q3.n
  have hc := hi.q3.c
  repeat' (first | with_reducible exact trivial | with_reducible exact rfl | with_reducible exact Nat.le_refl _ | with_reducible exact (fun _ _ => rfl) | ((conv => whnf); first | (exact fun h => absurd h (by decide)) | (intro h9; (have h8 := of_decide_eq_true (p := type_of% h9) (by decide)); clear h8 h9) | (refine fun _ => ?_) | refine ⟨?_, ?_⟩ | exact trivial | exact Nat.le_refl _ | exact lex_q (by kernel_rfl) | exact lex_t (by kernel_rfl) | exact lex_h (by kernel_rfl) | fail))
  all_goals (try decide)
  all_goals (try omega)
  · have he : putE l 3 x = 1 := put_1 (by omega)
    have e0 : putE l 3 x ≠ 0 := by rw [he]; decide
    have e1 : putE l 3 x ≠ 30 := by rw [he]; decide
    (conv => whnf); refine o_one ⟨⟨_, _, _, _⟩, ⟨_, _, _, _⟩, ⟨_, _, _, _⟩, ⟨_, _, _, _⟩, ⟨_, _, _, _⟩, ⟨_, _, _, _⟩, ⟨_, _, _, _⟩, ⟨_, _, _, _⟩⟩ (by (repeat' (first | ((conv => whnf); first | refine ⟨?_, ?_⟩ | exact trivial | fail) | (dsimp only; done) | ((try dsimp only); first | with_reducible exact rfl | exact Nat.le_refl _ | with_reducible exact (fun _ _ => rfl)))); all_goals ((first | exact he | rfl | (rw [lnOf_P, put_room]) | (rw [lnOf_P, put_n' e0]) | (rw [lnOf_P, put_lost' e1])))) ?_; exact put_inv' hi e0
  · have he : putE l 3 x = 1 := put_1 (by omega)
    have e0 : putE l 3 x ≠ 0 := by rw [he]; decide
    have e1 : putE l 3 x ≠ 30 := by rw [he]; decide
    (conv => whnf); refine o_one ⟨⟨_, _, _, _⟩, ⟨_, _, _, _⟩, ⟨_, _, _, _⟩, ⟨_, _, _, _⟩, ⟨_, _, _, _⟩, ⟨_, _, _, _⟩, ⟨_, _, _, _⟩, ⟨_, _, _, _⟩⟩ (by (repeat' (first | ((conv => whnf); first | refine ⟨?_, ?_⟩ | exact trivial | fail) | (dsimp only; done) | ((try dsimp only); first | with_reducible exact rfl | exact Nat.le_refl _ | with_reducible exact (fun _ _ => rfl)))); all_goals ((first | exact he | rfl | (rw [lnOf_P, put_room]) | (rw [lnOf_P, put_n' e0]) | (rw [lnOf_P, put_lost' e1])))) ?_; exact put_inv' hi e0
  all_goals (try rw [w64' (by omega) (by omega)] at *)
  all_goals (try omega)
  · have he : putE l 3 x = 30 := put_30 (by omega) (by decide) (.inl (by assumption))
    have e0 : putE l 3 x ≠ 0 := by rw [he]; decide
    (conv => whnf); refine o_one ⟨⟨_, _, _, _⟩, ⟨_, _, _, _⟩, ⟨_, _, _, _⟩, ⟨_, _, _, _⟩, ⟨_, _, _, _⟩, ⟨_, _, _, _⟩, ⟨_, _, _, _⟩, ⟨_, _, _, _⟩⟩ (by (repeat' (first | ((conv => whnf); first | refine ⟨?_, ?_⟩ | exact trivial | fail) | (dsimp only; done) | ((try dsimp only); first | with_reducible exact rfl | exact Nat.le_refl _ | with_reducible exact (fun _ _ => rfl)))); all_goals ((first | exact he | rfl | (rw [lnOf_P, put_room]) | (rw [lnOf_P, put_n' e0]) | (rw [lnOf_P, put_lost he]; rfl)))) ?_; exact put_inv' hi e0
  · have he : putE l 3 x = 30 := put_30 (by omega) (by decide) (.inr ⟨by assumption, by assumption⟩)
    have e0 : putE l 3 x ≠ 0 := by rw [he]; decide
    (conv => whnf); refine o_one ⟨⟨_, _, _, _⟩, ⟨_, _, _, _⟩, ⟨_, _, _, _⟩, ⟨_, _, _, _⟩, ⟨_, _, _, _⟩, ⟨_, _, _, _⟩, ⟨_, _, _, _⟩, ⟨_, _, _, _⟩⟩ (by (repeat' (first | ((conv => whnf); first | refine ⟨?_, ?_⟩ | exact trivial | fail) | (dsimp only; done) | ((try dsimp only); first | with_reducible exact rfl | exact Nat.le_refl _ | with_reducible exact (fun _ _ => rfl)))); all_goals ((first | exact he | rfl | (rw [lnOf_P, put_room]) | (rw [lnOf_P, put_n' e0]) | (rw [lnOf_P, put_lost he]; rfl)))) ?_; exact put_inv' hi e0
  all_goals
    have he : putE l 3 x = 0 := put_0 (by omega) (by decide) (fun hf => hf.elim (by assumption) fun hf => (by first | exact absurd hf.2 (by assumption) | exact absurd (hf.1.symm.trans (by assumption : x.dr = false)) (by decide)))
    have e1 : putE l 3 x ≠ 30 := by rw [he]; decide
    (conv => whnf); refine o_one ⟨⟨_, _, _, _⟩, ⟨_, _, _, _⟩, ⟨_, _, _, _⟩, ⟨_, _, _, _⟩, ⟨_, _, _, _⟩, ⟨_, _, _, _⟩, ⟨_, _, _, _⟩, ⟨_, _, _, _⟩⟩ (by (repeat' (first | ((conv => whnf); first | refine ⟨?_, ?_⟩ | exact trivial | fail) | (dsimp only; done) | ((try dsimp only); first | with_reducible exact rfl | exact Nat.le_refl _ | with_reducible exact (fun _ _ => rfl)))); all_goals ((first | exact he | rfl | (rw [lnOf_P, put_room]) | (rw [lnOf_P, put_n he]; rfl) | (rw [lnOf_P, put_lost' e1])))) ?_; refine ⟨put_ok hi.ok _ _, qput_ne he (by decide) hi.q0, qput_ne he (by decide) hi.q1, qput_ne he (by decide) hi.q2, qput_at (c := 3) he hi.q3 (by assumption) (by assumption) (fun r hr => ?_) ?_, qput_ne he (by decide) hi.q4, qput_ne he (by decide) hi.q5, qput_ne he (by decide) hi.q6, qput_ne he (by decide) hi.q7⟩
    · have hr : r < l.n 3 := hr
      dsimp only
      rw [if_pos hr, if_pos hr, if_pos hr]; exact ⟨rfl, rfl, rfl⟩
    · refine ⟨?_, ?_, ?_⟩ <;> (show (if l.n 3 < l.n 3 then _ else (if l.n 3 < l.n 3 + 1 then _ else _)) = _; rw [if_neg (Nat.lt_irrefl _), if_pos (Nat.lt_add_one _), show l.n (Int.toNat 3) - l.n 3 = 0 from Nat.sub_self _]; rfl)
end

end Go.Proofs.Ytaadejgoafdbcaa
