/-
  Contracts of functions, and plain facts about them, that a claim of this seat uses.
-/
import Derived.Test.YtaadejgoafdbcaaSx
import Derived.Test.YtaadejgoafdbcaaPLanB
import Derived.Test.YtaadejgoafdbcaaProg
namespace Go.Proofs.Ytaadejgoafdbcaa
open Go.Sx
set_option linter.unusedVariables false
set_option linter.unusedSimpArgs false
set_option maxRecDepth 100000

/-! lanes: Put. -/
section
attribute [local irreducible] anyO putE putL
set_option maxHeartbeats 8000000 in
theorem put4 (l : Ln) (x : It) (h : LH) (hi : LnInv l h) : Runs (cxPut 5) Try.f21 (.one (.a (.ptr 0 0)) :: [int_ .i64 4, .one (itC x)]) (lnMem l h) fun v m => ghosted (fun _ _ => []) v m fun v m => anyO lnK (lnRen m) v m [.one (int_ .i64 (putE l 4 x)) (lnP (putL l 4 x))] := by
  have hn := hi.ok.n 4 (by decide)
  have hr := hi.ok.room 4 (by decide)
  have hq := hi.q4.n
  have hc := hi.q4.c
  repeat' (first | with_reducible exact trivial | with_reducible exact rfl | with_reducible exact Nat.le_refl _ | with_reducible exact (fun _ _ => rfl) | ((conv => whnf); first | (exact fun h => absurd h (by decide)) | (intro h9; (have h8 := of_decide_eq_true (p := type_of% h9) (by decide)); clear h8 h9) | (refine fun _ => ?_) | refine ⟨?_, ?_⟩ | exact trivial | exact Nat.le_refl _ | exact lex_q (by kernel_rfl) | exact lex_t (by kernel_rfl) | exact lex_h (by kernel_rfl) | fail))
  all_goals (try decide)
  all_goals (try omega)
  · have he : putE l 4 x = 1 := put_1 (by omega)
    have e0 : putE l 4 x ≠ 0 := by rw [he]; decide
    have e1 : putE l 4 x ≠ 30 := by rw [he]; decide
    (conv => whnf); refine o_one ⟨⟨_, _, _, _⟩, ⟨_, _, _, _⟩, ⟨_, _, _, _⟩, ⟨_, _, _, _⟩, ⟨_, _, _, _⟩, ⟨_, _, _, _⟩, ⟨_, _, _, _⟩, ⟨_, _, _, _⟩⟩ (by (repeat' (first | ((conv => whnf); first | refine ⟨?_, ?_⟩ | exact trivial | fail) | (dsimp only; done) | ((try dsimp only); first | with_reducible exact rfl | exact Nat.le_refl _ | with_reducible exact (fun _ _ => rfl)))); all_goals ((first | exact he | rfl | (rw [lnOf_P, put_room]) | (rw [lnOf_P, put_n' e0]) | (rw [lnOf_P, put_lost' e1])))) ?_; exact put_inv' hi e0
  · have he : putE l 4 x = 1 := put_1 (by omega)
    have e0 : putE l 4 x ≠ 0 := by rw [he]; decide
    have e1 : putE l 4 x ≠ 30 := by rw [he]; decide
    (conv => whnf); refine o_one ⟨⟨_, _, _, _⟩, ⟨_, _, _, _⟩, ⟨_, _, _, _⟩, ⟨_, _, _, _⟩, ⟨_, _, _, _⟩, ⟨_, _, _, _⟩, ⟨_, _, _, _⟩, ⟨_, _, _, _⟩⟩ (by (repeat' (first | ((conv => whnf); first | refine ⟨?_, ?_⟩ | exact trivial | fail) | (dsimp only; done) | ((try dsimp only); first | with_reducible exact rfl | exact Nat.le_refl _ | with_reducible exact (fun _ _ => rfl)))); all_goals ((first | exact he | rfl | (rw [lnOf_P, put_room]) | (rw [lnOf_P, put_n' e0]) | (rw [lnOf_P, put_lost' e1])))) ?_; exact put_inv' hi e0
  all_goals (try rw [w64' (by omega) (by omega)] at *)
  all_goals (try omega)
  · have he : putE l 4 x = 30 := put_30 (by omega) (by decide) (.inl (by assumption))
    have e0 : putE l 4 x ≠ 0 := by rw [he]; decide
    (conv => whnf); refine o_one ⟨⟨_, _, _, _⟩, ⟨_, _, _, _⟩, ⟨_, _, _, _⟩, ⟨_, _, _, _⟩, ⟨_, _, _, _⟩, ⟨_, _, _, _⟩, ⟨_, _, _, _⟩, ⟨_, _, _, _⟩⟩ (by (repeat' (first | ((conv => whnf); first | refine ⟨?_, ?_⟩ | exact trivial | fail) | (dsimp only; done) | ((try dsimp only); first | with_reducible exact rfl | exact Nat.le_refl _ | with_reducible exact (fun _ _ => rfl)))); all_goals ((first | exact he | rfl | (rw [lnOf_P, put_room]) | (rw [lnOf_P, put_n' e0]) | (rw [lnOf_P, put_lost he]; rfl)))) ?_; exact put_inv' hi e0
  · have he : putE l 4 x = 30 := put_30 (by omega) (by decide) (.inr ⟨by assumption, by assumption⟩)
    have e0 : putE l 4 x ≠ 0 := by rw [he]; decide
    (conv => whnf); refine o_one ⟨⟨_, _, _, _⟩, ⟨_, _, _, _⟩, ⟨_, _, _, _⟩, ⟨_, _, _, _⟩, ⟨_, _, _, _⟩, ⟨_, _, _, _⟩, ⟨_, _, _, _⟩, ⟨_, _, _, _⟩⟩ (by (repeat' (first | ((conv => whnf); first | refine ⟨?_, ?_⟩ | exact trivial | fail) | (dsimp only; done) | ((try dsimp only); first | with_reducible exact rfl | exact Nat.le_refl _ | with_reducible exact (fun _ _ => rfl)))); all_goals ((first | exact he | rfl | (rw [lnOf_P, put_room]) | (rw [lnOf_P, put_n' e0]) | (rw [lnOf_P, put_lost he]; rfl)))) ?_; exact put_inv' hi e0
  all_goals
    have he : putE l 4 x = 0 := put_0 (by omega) (by decide) (fun hf => hf.elim (by assumption) fun hf => (by first | exact absurd hf.2 (by assumption) | exact absurd (hf.1.symm.trans (by assumption : x.dr = false)) (by decide)))
    have e1 : putE l 4 x ≠ 30 := by rw [he]; decide
    (conv => whnf); refine o_one ⟨⟨_, _, _, _⟩, ⟨_, _, _, _⟩, ⟨_, _, _, _⟩, ⟨_, _, _, _⟩, ⟨_, _, _, _⟩, ⟨_, _, _, _⟩, ⟨_, _, _, _⟩, ⟨_, _, _, _⟩⟩ (by (repeat' (first | ((conv => whnf); first | refine ⟨?_, ?_⟩ | exact trivial | fail) | (dsimp only; done) | ((try dsimp only); first | with_reducible exact rfl | exact Nat.le_refl _ | with_reducible exact (fun _ _ => rfl)))); all_goals ((first | exact he | rfl | (rw [lnOf_P, put_room]) | (rw [lnOf_P, put_n he]; rfl) | (rw [lnOf_P, put_lost' e1])))) ?_; refine ⟨put_ok hi.ok _ _, qput_ne he (by decide) hi.q0, qput_ne he (by decide) hi.q1, qput_ne he (by decide) hi.q2, qput_ne he (by decide) hi.q3, qput_at (c := 4) he hi.q4 (by assumption) (by assumption) (fun r hr => ?_) ?_, qput_ne he (by decide) hi.q5, qput_ne he (by decide) hi.q6, qput_ne he (by decide) hi.q7⟩
    · have hr : r < l.n 4 := hr
      dsimp only
      rw [if_pos hr, if_pos hr, if_pos hr]; exact ⟨rfl, rfl, rfl⟩
    · refine ⟨?_, ?_, ?_⟩ <;> (show (if l.n 4 < l.n 4 then _ else (if l.n 4 < l.n 4 + 1 then _ else _)) = _; rw [if_neg (Nat.lt_irrefl _), if_pos (Nat.lt_add_one _), show l.n (Int.toNat 4) - l.n 4 = 0 from Nat.sub_self _]; rfl)
set_option maxHeartbeats 8000000 in
theorem put5 (l : Ln) (x : It) (h : LH) (hi : LnInv l h) : Runs (cxPut 6) Try.f21 (.one (.a (.ptr 0 0)) :: [int_ .i64 5, .one (itC x)]) (lnMem l h) fun v m => ghosted (fun _ _ => []) v m fun v m => anyO lnK (lnRen m) v m [.one (int_ .i64 (putE l 5 x)) (lnP (putL l 5 x))] := by
  have hn := hi.ok.n 5 (by decide)
  have hr := hi.ok.room 5 (by decide)
  have hq := hi.q5.n
  have hc := hi.q5.c
  repeat' (first | with_reducible exact trivial | with_reducible exact rfl | with_reducible exact Nat.le_refl _ | with_reducible exact (fun _ _ => rfl) | ((conv => whnf); first | (exact fun h => absurd h (by decide)) | (intro h9; (have h8 := of_decide_eq_true (p := type_of% h9) (by decide)); clear h8 h9) | (refine fun _ => ?_) | refine ⟨?_, ?_⟩ | exact trivial | exact Nat.le_refl _ | exact lex_q (by kernel_rfl) | exact lex_t (by kernel_rfl) | exact lex_h (by kernel_rfl) | fail))
  all_goals (try decide)
  all_goals (try omega)
  · have he : putE l 5 x = 1 := put_1 (by omega)
    have e0 : putE l 5 x ≠ 0 := by rw [he]; decide
    have e1 : putE l 5 x ≠ 30 := by rw [he]; decide
    (conv => whnf); refine o_one ⟨⟨_, _, _, _⟩, ⟨_, _, _, _⟩, ⟨_, _, _, _⟩, ⟨_, _, _, _⟩, ⟨_, _, _, _⟩, ⟨_, _, _, _⟩, ⟨_, _, _, _⟩, ⟨_, _, _, _⟩⟩ (by (repeat' (first | ((conv => whnf); first | refine ⟨?_, ?_⟩ | exact trivial | fail) | (dsimp only; done) | ((try dsimp only); first | with_reducible exact rfl | exact Nat.le_refl _ | with_reducible exact (fun _ _ => rfl)))); all_goals ((first | exact he | rfl | (rw [lnOf_P, put_room]) | (rw [lnOf_P, put_n' e0]) | (rw [lnOf_P, put_lost' e1])))) ?_; exact put_inv' hi e0
  · have he : putE l 5 x = 1 := put_1 (by omega)
    have e0 : putE l 5 x ≠ 0 := by rw [he]; decide
    have e1 : putE l 5 x ≠ 30 := by rw [he]; decide
    (conv => whnf); refine o_one ⟨⟨_, _, _, _⟩, ⟨_, _, _, _⟩, ⟨_, _, _, _⟩, ⟨_, _, _, _⟩, ⟨_, _, _, _⟩, ⟨_, _, _, _⟩, ⟨_, _, _, _⟩, ⟨_, _, _, _⟩⟩ (by (repeat' (first | ((conv => whnf); first | refine ⟨?_, ?_⟩ | exact trivial | fail) | (dsimp only; done) | ((try dsimp only); first | with_reducible exact rfl | exact Nat.le_refl _ | with_reducible exact (fun _ _ => rfl)))); all_goals ((first | exact he | rfl | (rw [lnOf_P, put_room]) | (rw [lnOf_P, put_n' e0]) | (rw [lnOf_P, put_lost' e1])))) ?_; exact put_inv' hi e0
  all_goals (try rw [w64' (by omega) (by omega)] at *)
  all_goals (try omega)
  · have he : putE l 5 x = 30 := put_30 (by omega) (by decide) (.inl (by assumption))
    have e0 : putE l 5 x ≠ 0 := by rw [he]; decide
    (conv => whnf); refine o_one ⟨⟨_, _, _, _⟩, ⟨_, _, _, _⟩, ⟨_, _, _, _⟩, ⟨_, _, _, _⟩, ⟨_, _, _, _⟩, ⟨_, _, _, _⟩, ⟨_, _, _, _⟩, ⟨_, _, _, _⟩⟩ (by (repeat' (first | ((conv => whnf); first | refine ⟨?_, ?_⟩ | exact trivial | fail) | (dsimp only; done) | ((try dsimp only); first | with_reducible exact rfl | exact Nat.le_refl _ | with_reducible exact (fun _ _ => rfl)))); all_goals ((first | exact he | rfl | (rw [lnOf_P, put_room]) | (rw [lnOf_P, put_n' e0]) | (rw [lnOf_P, put_lost he]; rfl)))) ?_; exact put_inv' hi e0
  · have he : putE l 5 x = 30 := put_30 (by omega) (by decide) (.inr ⟨by assumption, by assumption⟩)
    have e0 : putE l 5 x ≠ 0 := by rw [he]; decide
    (conv => whnf); refine o_one ⟨⟨_, _, _, _⟩, ⟨_, _, _, _⟩, ⟨_, _, _, _⟩, ⟨_, _, _, _⟩, ⟨_, _, _, _⟩, ⟨_, _, _, _⟩, ⟨_, _, _, _⟩, ⟨_, _, _, _⟩⟩ (by (repeat' (first | ((conv => whnf); first | refine ⟨?_, ?_⟩ | exact trivial | fail) | (dsimp only; done) | ((try dsimp only); first | with_reducible exact rfl | exact Nat.le_refl _ | with_reducible exact (fun _ _ => rfl)))); all_goals ((first | exact he | rfl | (rw [lnOf_P, put_room]) | (rw [lnOf_P, put_n' e0]) | (rw [lnOf_P, put_lost he]; rfl)))) ?_; exact put_inv' hi e0
  all_goals
    have he : putE l 5 x = 0 := put_0 (by omega) (by decide) (fun hf => hf.elim (by assumption) fun hf => (by first | exact absurd hf.2 (by assumption) | exact absurd (hf.1.symm.trans (by assumption : x.dr = false)) (by decide)))
    have e1 : putE l 5 x ≠ 30 := by rw [he]; decide
    (conv => whnf); refine o_one ⟨⟨_, _, _, _⟩, ⟨_, _, _, _⟩, ⟨_, _, _, _⟩, ⟨_, _, _, _⟩, ⟨_, _, _, _⟩, ⟨_, _, _, _⟩, ⟨_, _, _, _⟩, ⟨_, _, _, _⟩⟩ (by (repeat' (first | ((conv => whnf); first | refine ⟨?_, ?_⟩ | exact trivial | fail) | (dsimp only; done) | ((try dsimp only); first | with_reducible exact rfl | exact Nat.le_refl _ | with_reducible exact (fun _ _ => rfl)))); all_goals ((first | exact he | rfl | (rw [lnOf_P, put_room]) | (rw [lnOf_P, put_n he]; rfl) | (rw [lnOf_P, put_lost' e1])))) ?_; refine ⟨put_ok hi.ok _ _, qput_ne he (by decide) hi.q0, qput_ne he (by decide) hi.q1, qput_ne he (by decide) hi.q2, qput_ne he (by decide) hi.q3, qput_ne he (by decide) hi.q4, qput_at (c := 5) he hi.q5 (by assumption) (by assumption) (fun r hr => ?_) ?_, qput_ne he (by decide) hi.q6, qput_ne he (by decide) hi.q7⟩
    · have hr : r < l.n 5 := hr
      dsimp only
      rw [if_pos hr, if_pos hr, if_pos hr]; exact ⟨rfl, rfl, rfl⟩
    · refine ⟨?_, ?_, ?_⟩ <;> (show (if l.n 5 < l.n 5 then _ else (if l.n 5 < l.n 5 + 1 then _ else _)) = _; rw [if_neg (Nat.lt_irrefl _), if_pos (Nat.lt_add_one _), show l.n (Int.toNat 5) - l.n 5 = 0 from Nat.sub_self _]; rfl)
set_option maxHeartbeats 8000000 in
theorem put6 (l : Ln) (x : It) (h : LH) (hi : LnInv l h) : Runs (cxPut 7) Try.f21 (.one (.a (.ptr 0 0)) :: [int_ .i64 6, .one (itC x)]) (lnMem l h) fun v m => ghosted (fun _ _ => []) v m fun v m => anyO lnK (lnRen m) v m [.one (int_ .i64 (putE l 6 x)) (lnP (putL l 6 x))] := by
  have hn := hi.ok.n 6 (by decide)
  have hr := hi.ok.room 6 (by decide)
  have hq := hi.q6.n
  have hc := hi.q6.c
  repeat' (first | with_reducible exact trivial | with_reducible exact rfl | with_reducible exact Nat.le_refl _ | with_reducible exact (fun _ _ => rfl) | ((conv => whnf); first | (exact fun h => absurd h (by decide)) | (intro h9; (have h8 := of_decide_eq_true (p := type_of% h9) (by decide)); clear h8 h9) | (refine fun _ => ?_) | refine ⟨?_, ?_⟩ | exact trivial | exact Nat.le_refl _ | exact lex_q (by kernel_rfl) | exact lex_t (by kernel_rfl) | exact lex_h (by kernel_rfl) | fail))
  all_goals (try decide)
  all_goals (try omega)
  · have he : putE l 6 x = 1 := put_1 (by omega)
    have e0 : putE l 6 x ≠ 0 := by rw [he]; decide
    have e1 : putE l 6 x ≠ 30 := by rw [he]; decide
    (conv => whnf); refine o_one ⟨⟨_, _, _, _⟩, ⟨_, _, _, _⟩, ⟨_, _, _, _⟩, ⟨_, _, _, _⟩, ⟨_, _, _, _⟩, ⟨_, _, _, _⟩, ⟨_, _, _, _⟩, ⟨_, _, _, _⟩⟩ (by (repeat' (first | ((conv => whnf); first | refine ⟨?_, ?_⟩ | exact trivial | fail) | (dsimp only; done) | ((try dsimp only); first | with_reducible exact rfl | exact Nat.le_refl _ | with_reducible exact (fun _ _ => rfl)))); all_goals ((first | exact he | rfl | (rw [lnOf_P, put_room]) | (rw [lnOf_P, put_n' e0]) | (rw [lnOf_P, put_lost' e1])))) ?_; exact put_inv' hi e0
  · have he : putE l 6 x = 1 := put_1 (by omega)
    have e0 : putE l 6 x ≠ 0 := by rw [he]; decide
    have e1 : putE l 6 x ≠ 30 := by rw [he]; decide
    (conv => whnf); refine o_one ⟨⟨_, _, _, _⟩, ⟨_, _, _, _⟩, ⟨_, _, _, _⟩, ⟨_, _, _, _⟩, ⟨_, _, _, _⟩, ⟨_, _, _, _⟩, ⟨_, _, _, _⟩, ⟨_, _, _, _⟩⟩ (by (repeat' (first | ((conv => whnf); first | refine ⟨?_, ?_⟩ | exact trivial | fail) | (dsimp only; done) | ((try dsimp only); first | with_reducible exact rfl | exact Nat.le_refl _ | with_reducible exact (fun _ _ => rfl)))); all_goals ((first | exact he | rfl | (rw [lnOf_P, put_room]) | (rw [lnOf_P, put_n' e0]) | (rw [lnOf_P, put_lost' e1])))) ?_; exact put_inv' hi e0
  all_goals (try rw [w64' (by omega) (by omega)] at *)
  all_goals (try omega)
  · have he : putE l 6 x = 30 := put_30 (by omega) (by decide) (.inl (by assumption))
    have e0 : putE l 6 x ≠ 0 := by rw [he]; decide
    (conv => whnf); refine o_one ⟨⟨_, _, _, _⟩, ⟨_, _, _, _⟩, ⟨_, _, _, _⟩, ⟨_, _, _, _⟩, ⟨_, _, _, _⟩, ⟨_, _, _, _⟩, ⟨_, _, _, _⟩, ⟨_, _, _, _⟩⟩ (by (repeat' (first | ((conv => whnf); first | refine ⟨?_, ?_⟩ | exact trivial | fail) | (dsimp only; done) | ((try dsimp only); first | with_reducible exact rfl | exact Nat.le_refl _ | with_reducible exact (fun _ _ => rfl)))); all_goals ((first | exact he | rfl | (rw [lnOf_P, put_room]) | (rw [lnOf_P, put_n' e0]) | (rw [lnOf_P, put_lost he]; rfl)))) ?_; exact put_inv' hi e0
  · have he : putE l 6 x = 30 := put_30 (by omega) (by decide) (.inr ⟨by assumption, by assumption⟩)
    have e0 : putE l 6 x ≠ 0 := by rw [he]; decide
    (conv => whnf); refine o_one ⟨⟨_, _, _, _⟩, ⟨_, _, _, _⟩, ⟨_, _, _, _⟩, ⟨_, _, _, _⟩, ⟨_, _, _, _⟩, ⟨_, _, _, _⟩, ⟨_, _, _, _⟩, ⟨_, _, _, _⟩⟩ (by (repeat' (first | ((conv => whnf); first | refine ⟨?_, ?_⟩ | exact trivial | fail) | (dsimp only; done) | ((try dsimp only); first | with_reducible exact rfl | exact Nat.le_refl _ | with_reducible exact (fun _ _ => rfl)))); all_goals ((first | exact he | rfl | (rw [lnOf_P, put_room]) | (rw [lnOf_P, put_n' e0]) | (rw [lnOf_P, put_lost he]; rfl)))) ?_; exact put_inv' hi e0
  all_goals
    have he : putE l 6 x = 0 := put_0 (by omega) (by decide) (fun hf => hf.elim (by assumption) fun hf => (by first | exact absurd hf.2 (by assumption) | exact absurd (hf.1.symm.trans (by assumption : x.dr = false)) (by decide)))
    have e1 : putE l 6 x ≠ 30 := by rw [he]; decide
    (conv => whnf); refine o_one ⟨⟨_, _, _, _⟩, ⟨_, _, _, _⟩, ⟨_, _, _, _⟩, ⟨_, _, _, _⟩, ⟨_, _, _, _⟩, ⟨_, _, _, _⟩, ⟨_, _, _, _⟩, ⟨_, _, _, _⟩⟩ (by (repeat' (first | ((conv => whnf); first | refine ⟨?_, ?_⟩ | exact trivial | fail) | (dsimp only; done) | ((try dsimp only); first | with_reducible exact rfl | exact Nat.le_refl _ | with_reducible exact (fun _ _ => rfl)))); all_goals ((first | exact he | rfl | (rw [lnOf_P, put_room]) | (rw [lnOf_P, put_n he]; rfl) | (rw [lnOf_P, put_lost' e1])))) ?_; refine ⟨put_ok hi.ok _ _, qput_ne he (by decide) hi.q0, qput_ne he (by decide) hi.q1, qput_ne he (by decide) hi.q2, qput_ne he (by decide) hi.q3, qput_ne he (by decide) hi.q4, qput_ne he (by decide) hi.q5, qput_at (c := 6) he hi.q6 (by assumption) (by assumption) (fun r hr => ?_) ?_, qput_ne he (by decide) hi.q7⟩
    · have hr : r < l.n 6 := hr
      dsimp only
      rw [if_pos hr, if_pos hr, if_pos hr]; exact ⟨rfl, rfl, rfl⟩
    · refine ⟨?_, ?_, ?_⟩ <;> (show (if l.n 6 < l.n 6 then _ else (if l.n 6 < l.n 6 + 1 then _ else _)) = _; rw [if_neg (Nat.lt_irrefl _), if_pos (Nat.lt_add_one _), show l.n (Int.toNat 6) - l.n 6 = 0 from Nat.sub_self _]; rfl)
set_option maxHeartbeats 8000000 in
theorem put7 (l : Ln) (x : It) (h : LH) (hi : LnInv l h) : Runs (cxPut 8) Try.f21 (.one (.a (.ptr 0 0)) :: [int_ .i64 7, .one (itC x)]) (lnMem l h) fun v m => ghosted (fun _ _ => []) v m fun v m => anyO lnK (lnRen m) v m [.one (int_ .i64 (putE l 7 x)) (lnP (putL l 7 x))] := by
  have hn := hi.ok.n 7 (by decide)
  have hr := hi.ok.room 7 (by decide)
  have hq := hi.q7.n
  have hc := hi.q7.c
  repeat' (first | with_reducible exact trivial | with_reducible exact rfl | with_reducible exact Nat.le_refl _ | with_reducible exact (fun _ _ => rfl) | ((conv => whnf); first | (exact fun h => absurd h (by decide)) | (intro h9; (have h8 := of_decide_eq_true (p := type_of% h9) (by decide)); clear h8 h9) | (refine fun _ => ?_) | refine ⟨?_, ?_⟩ | exact trivial | exact Nat.le_refl _ | exact lex_q (by kernel_rfl) | exact lex_t (by kernel_rfl) | exact lex_h (by kernel_rfl) | fail))
  all_goals (try decide)
  all_goals (try omega)
  · have he : putE l 7 x = 1 := put_1 (by omega)
    have e0 : putE l 7 x ≠ 0 := by rw [he]; decide
    have e1 : putE l 7 x ≠ 30 := by rw [he]; decide
    (conv => whnf); refine o_one ⟨⟨_, _, _, _⟩, ⟨_, _, _, _⟩, ⟨_, _, _, _⟩, ⟨_, _, _, _⟩, ⟨_, _, _, _⟩, ⟨_, _, _, _⟩, ⟨_, _, _, _⟩, ⟨_, _, _, _⟩⟩ (by (repeat' (first | ((conv => whnf); first | refine ⟨?_, ?_⟩ | exact trivial | fail) | (dsimp only; done) | ((try dsimp only); first | with_reducible exact rfl | exact Nat.le_refl _ | with_reducible exact (fun _ _ => rfl)))); all_goals ((first | exact he | rfl | (rw [lnOf_P, put_room]) | (rw [lnOf_P, put_n' e0]) | (rw [lnOf_P, put_lost' e1])))) ?_; exact put_inv' hi e0
  · have he : putE l 7 x = 1 := put_1 (by omega)
    have e0 : putE l 7 x ≠ 0 := by rw [he]; decide
    have e1 : putE l 7 x ≠ 30 := by rw [he]; decide
    (conv => whnf); refine o_one ⟨⟨_, _, _, _⟩, ⟨_, _, _, _⟩, ⟨_, _, _, _⟩, ⟨_, _, _, _⟩, ⟨_, _, _, _⟩, ⟨_, _, _, _⟩, ⟨_, _, _, _⟩, ⟨_, _, _, _⟩⟩ (by (repeat' (first | ((conv => whnf); first | refine ⟨?_, ?_⟩ | exact trivial | fail) | (dsimp only; done) | ((try dsimp only); first | with_reducible exact rfl | exact Nat.le_refl _ | with_reducible exact (fun _ _ => rfl)))); all_goals ((first | exact he | rfl | (rw [lnOf_P, put_room]) | (rw [lnOf_P, put_n' e0]) | (rw [lnOf_P, put_lost' e1])))) ?_; exact put_inv' hi e0
  all_goals (try rw [w64' (by omega) (by omega)] at *)
  all_goals (try omega)
  · have he : putE l 7 x = 30 := put_30 (by omega) (by decide) (.inl (by assumption))
    have e0 : putE l 7 x ≠ 0 := by rw [he]; decide
    (conv => whnf); refine o_one ⟨⟨_, _, _, _⟩, ⟨_, _, _, _⟩, ⟨_, _, _, _⟩, ⟨_, _, _, _⟩, ⟨_, _, _, _⟩, ⟨_, _, _, _⟩, ⟨_, _, _, _⟩, ⟨_, _, _, _⟩⟩ (by (repeat' (first | ((conv => whnf); first | refine ⟨?_, ?_⟩ | exact trivial | fail) | (dsimp only; done) | ((try dsimp only); first | with_reducible exact rfl | exact Nat.le_refl _ | with_reducible exact (fun _ _ => rfl)))); all_goals ((first | exact he | rfl | (rw [lnOf_P, put_room]) | (rw [lnOf_P, put_n' e0]) | (rw [lnOf_P, put_lost he]; rfl)))) ?_; exact put_inv' hi e0
  · have he : putE l 7 x = 30 := put_30 (by omega) (by decide) (.inr ⟨by assumption, by assumption⟩)
    have e0 : putE l 7 x ≠ 0 := by rw [he]; decide
    (conv => whnf); refine o_one ⟨⟨_, _, _, _⟩, ⟨_, _, _, _⟩, ⟨_, _, _, _⟩, ⟨_, _, _, _⟩, ⟨_, _, _, _⟩, ⟨_, _, _, _⟩, ⟨_, _, _, _⟩, ⟨_, _, _, _⟩⟩ (by (repeat' (first | ((conv => whnf); first | refine ⟨?_, ?_⟩ | exact trivial | fail) | (dsimp only; done) | ((try dsimp only); first | with_reducible exact rfl | exact Nat.le_refl _ | with_reducible exact (fun _ _ => rfl)))); all_goals ((first | exact he | rfl | (rw [lnOf_P, put_room]) | (rw [lnOf_P, put_n' e0]) | (rw [lnOf_P, put_lost he]; rfl)))) ?_; exact put_inv' hi e0
  all_goals
    have he : putE l 7 x = 0 := put_0 (by omega) (by decide) (fun hf => hf.elim (by assumption) fun hf => (by first | exact absurd hf.2 (by assumption) | exact absurd (hf.1.symm.trans (by assumption : x.dr = false)) (by decide)))
    have e1 : putE l 7 x ≠ 30 := by rw [he]; decide
    (conv => whnf); refine o_one ⟨⟨_, _, _, _⟩, ⟨_, _, _, _⟩, ⟨_, _, _, _⟩, ⟨_, _, _, _⟩, ⟨_, _, _, _⟩, ⟨_, _, _, _⟩, ⟨_, _, _, _⟩, ⟨_, _, _, _⟩⟩ (by (repeat' (first | ((conv => whnf); first | refine ⟨?_, ?_⟩ | exact trivial | fail) | (dsimp only; done) | ((try dsimp only); first | with_reducible exact rfl | exact Nat.le_refl _ | with_reducible exact (fun _ _ => rfl)))); all_goals ((first | exact he | rfl | (rw [lnOf_P, put_room]) | (rw [lnOf_P, put_n he]; rfl) | (rw [lnOf_P, put_lost' e1])))) ?_; refine ⟨put_ok hi.ok _ _, qput_ne he (by decide) hi.q0, qput_ne he (by decide) hi.q1, qput_ne he (by decide) hi.q2, qput_ne he (by decide) hi.q3, qput_ne he (by decide) hi.q4, qput_ne he (by decide) hi.q5, qput_ne he (by decide) hi.q6, qput_at (c := 7) he hi.q7 (by assumption) (by assumption) (fun r hr => ?_) ?_⟩
    · have hr : r < l.n 7 := hr
      dsimp only
      rw [if_pos hr, if_pos hr, if_pos hr]; exact ⟨rfl, rfl, rfl⟩
    · refine ⟨?_, ?_, ?_⟩ <;> (show (if l.n 7 < l.n 7 then _ else (if l.n 7 < l.n 7 + 1 then _ else _)) = _; rw [if_neg (Nat.lt_irrefl _), if_pos (Nat.lt_add_one _), show l.n (Int.toNat 7) - l.n 7 = 0 from Nat.sub_self _]; rfl)
end

end Go.Proofs.Ytaadejgoafdbcaa
