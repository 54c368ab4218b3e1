/-
  Contracts of functions, and plain facts about them, that a claim of this seat uses.
-/
import Derived.Test.YtaadejgoafdbcaaSx
import Derived.Test.YtaadejgoafdbcaaPLanE
import Derived.Test.YtaadejgoafdbcaaProg
namespace Go.Proofs.Ytaadejgoafdbcaa
open Go.Sx
set_option linter.unusedVariables false
set_option linter.unusedSimpArgs false
set_option maxRecDepth 100000

/-! lanes: Head; lanes that are not there. -/
def hdO (l : Ln) (c : Int) : Option Nat := if c < 0 ∨ 7 < c ∨ l.n c.toNat = 0 then none else some c.toNat
def hdV (l : Ln) (c : Int) : SV := .tup [itC (pkI l (hdO l c)), .a (b_ (pkB (hdO l c)))]
noncomputable def cxHX : Cx Try.prog := { ps := [], es := [], is := [], n0 := 1, loops := fun _ => none, cuts := fun i => match i with | 3 => some laFalse | _ => none }
section
attribute [local irreducible] anyO enter
set_option maxHeartbeats 8000000 in
theorem hdX (l : Ln) (c : Int) (h : LH) (hi : LnInv l h) (hx : c < 0 ∨ 7 < c) : Runs cxHX Try.f33 (.one (.a (.ptr 0 0)) :: [int_ .i64 c]) (lnMem l h) fun v m => ghosted (fun _ _ => []) v m fun v m => anyO lnK (lnRen m) v m [.one (hdV l c) (lnP l)] := by
  have he : hdO l c = none := if_pos (by omega)
  unfold hdV
  rw [he]
  repeat' (first | with_reducible exact trivial | with_reducible exact rfl | with_reducible exact Nat.le_refl _ | with_reducible exact (fun _ _ => rfl) | ((conv => whnf); first | (exact fun h => absurd h (by decide)) | (intro h9; (have h8 := of_decide_eq_true (p := type_of% h9) (by decide)); clear h8 h9) | (refine fun _ => ?_) | refine ⟨?_, ?_⟩ | exact trivial | exact Nat.le_refl _ | exact lex_q (by kernel_rfl) | exact lex_t (by kernel_rfl) | exact lex_h (by kernel_rfl) | fail))
  all_goals (try decide)
  all_goals (try exact enter_false (by omega))
  all_goals (try exact (by assumption : False).elim)
  all_goals (try omega)
  all_goals (try (exfalso; omega))
  all_goals ((conv => whnf); refine o_one ⟨⟨_, _, _, _⟩, ⟨_, _, _, _⟩, ⟨_, _, _, _⟩, ⟨_, _, _, _⟩, ⟨_, _, _, _⟩, ⟨_, _, _, _⟩, ⟨_, _, _, _⟩, ⟨_, _, _, _⟩⟩ (by (repeat' (first | ((conv => whnf); first | refine ⟨?_, ?_⟩ | exact trivial | fail) | (dsimp only; done) | ((try dsimp only); first | with_reducible exact rfl | exact Nat.le_refl _ | with_reducible exact (fun _ _ => rfl)))); all_goals ((first | rfl))) ?_; exact hi)
set_option maxHeartbeats 8000000 in
theorem hd0 (l : Ln) (h : LH) (hi : LnInv l h) : Runs cx00 Try.f33 (.one (.a (.ptr 0 0)) :: [int_ .i64 0]) (lnMem l h) fun v m => ghosted (fun _ _ => []) v m fun v m => anyO lnK (lnRen m) v m [.one (hdV l 0) (lnP l)] := by
  have hn := hi.q0.n
  by_cases hz : l.n 0 = 0
  · have he : hdO l 0 = none := if_pos (by simp only [Int.reduceToNat]; omega)
    unfold hdV
    rw [he]
    repeat' (first | with_reducible exact trivial | with_reducible exact rfl | with_reducible exact Nat.le_refl _ | with_reducible exact (fun _ _ => rfl) | ((conv => whnf); first | (exact fun h => absurd h (by decide)) | (intro h9; (have h8 := of_decide_eq_true (p := type_of% h9) (by decide)); clear h8 h9) | (refine fun _ => ?_) | refine ⟨?_, ?_⟩ | exact trivial | exact Nat.le_refl _ | exact lex_q (by kernel_rfl) | exact lex_t (by kernel_rfl) | exact lex_h (by kernel_rfl) | fail))
    all_goals (try decide)
    all_goals (try omega)
    all_goals ((conv => whnf); refine o_one ⟨⟨_, _, _, _⟩, ⟨_, _, _, _⟩, ⟨_, _, _, _⟩, ⟨_, _, _, _⟩, ⟨_, _, _, _⟩, ⟨_, _, _, _⟩, ⟨_, _, _, _⟩, ⟨_, _, _, _⟩⟩ (by (repeat' (first | ((conv => whnf); first | refine ⟨?_, ?_⟩ | exact trivial | fail) | (dsimp only; done) | ((try dsimp only); first | with_reducible exact rfl | exact Nat.le_refl _ | with_reducible exact (fun _ _ => rfl)))); all_goals ((first | rfl))) ?_; exact hi)
  · have he : hdO l 0 = some 0 := if_neg (by simp only [Int.reduceToNat]; omega)
    unfold hdV
    rw [he]
    repeat' (first | with_reducible exact trivial | with_reducible exact rfl | with_reducible exact Nat.le_refl _ | with_reducible exact (fun _ _ => rfl) | ((conv => whnf); first | (exact fun h => absurd h (by decide)) | (intro h9; (have h8 := of_decide_eq_true (p := type_of% h9) (by decide)); clear h8 h9) | (refine fun _ => ?_) | refine ⟨?_, ?_⟩ | exact trivial | exact Nat.le_refl _ | exact lex_q (by kernel_rfl) | exact lex_t (by kernel_rfl) | exact lex_h (by kernel_rfl) | fail))
    all_goals (try decide)
    all_goals (try omega)
    all_goals ((conv => whnf); refine o_one ⟨⟨_, _, _, _⟩, ⟨_, _, _, _⟩, ⟨_, _, _, _⟩, ⟨_, _, _, _⟩, ⟨_, _, _, _⟩, ⟨_, _, _, _⟩, ⟨_, _, _, _⟩, ⟨_, _, _, _⟩⟩ (by (repeat' (first | ((conv => whnf); first | refine ⟨?_, ?_⟩ | exact trivial | fail) | (dsimp only; done) | ((try dsimp only); first | with_reducible exact rfl | exact Nat.le_refl _ | with_reducible exact (fun _ _ => rfl)))); all_goals ((first | rfl | exact (hi.q0.at_ 0 (by omega)).1.symm | exact (hi.q0.at_ 0 (by omega)).2.1.symm | exact (hi.q0.at_ 0 (by omega)).2.2.symm))) ?_; exact hi)
set_option maxHeartbeats 8000000 in
theorem hd1 (l : Ln) (h : LH) (hi : LnInv l h) : Runs cx00 Try.f33 (.one (.a (.ptr 0 0)) :: [int_ .i64 1]) (lnMem l h) fun v m => ghosted (fun _ _ => []) v m fun v m => anyO lnK (lnRen m) v m [.one (hdV l 1) (lnP l)] := by
  have hn := hi.q1.n
  by_cases hz : l.n 1 = 0
  · have he : hdO l 1 = none := if_pos (by simp only [Int.reduceToNat]; omega)
    unfold hdV
    rw [he]
    repeat' (first | with_reducible exact trivial | with_reducible exact rfl | with_reducible exact Nat.le_refl _ | with_reducible exact (fun _ _ => rfl) | ((conv => whnf); first | (exact fun h => absurd h (by decide)) | (intro h9; (have h8 := of_decide_eq_true (p := type_of% h9) (by decide)); clear h8 h9) | (refine fun _ => ?_) | refine ⟨?_, ?_⟩ | exact trivial | exact Nat.le_refl _ | exact lex_q (by kernel_rfl) | exact lex_t (by kernel_rfl) | exact lex_h (by kernel_rfl) | fail))
    all_goals (try decide)
    all_goals (try omega)
    all_goals ((conv => whnf); refine o_one ⟨⟨_, _, _, _⟩, ⟨_, _, _, _⟩, ⟨_, _, _, _⟩, ⟨_, _, _, _⟩, ⟨_, _, _, _⟩, ⟨_, _, _, _⟩, ⟨_, _, _, _⟩, ⟨_, _, _, _⟩⟩ (by (repeat' (first | ((conv => whnf); first | refine ⟨?_, ?_⟩ | exact trivial | fail) | (dsimp only; done) | ((try dsimp only); first | with_reducible exact rfl | exact Nat.le_refl _ | with_reducible exact (fun _ _ => rfl)))); all_goals ((first | rfl))) ?_; exact hi)
  · have he : hdO l 1 = some 1 := if_neg (by simp only [Int.reduceToNat]; omega)
    unfold hdV
    rw [he]
    repeat' (first | with_reducible exact trivial | with_reducible exact rfl | with_reducible exact Nat.le_refl _ | with_reducible exact (fun _ _ => rfl) | ((conv => whnf); first | (exact fun h => absurd h (by decide)) | (intro h9; (have h8 := of_decide_eq_true (p := type_of% h9) (by decide)); clear h8 h9) | (refine fun _ => ?_) | refine ⟨?_, ?_⟩ | exact trivial | exact Nat.le_refl _ | exact lex_q (by kernel_rfl) | exact lex_t (by kernel_rfl) | exact lex_h (by kernel_rfl) | fail))
    all_goals (try decide)
    all_goals (try omega)
    all_goals ((conv => whnf); refine o_one ⟨⟨_, _, _, _⟩, ⟨_, _, _, _⟩, ⟨_, _, _, _⟩, ⟨_, _, _, _⟩, ⟨_, _, _, _⟩, ⟨_, _, _, _⟩, ⟨_, _, _, _⟩, ⟨_, _, _, _⟩⟩ (by (repeat' (first | ((conv => whnf); first | refine ⟨?_, ?_⟩ | exact trivial | fail) | (dsimp only; done) | ((try dsimp only); first | with_reducible exact rfl | exact Nat.le_refl _ | with_reducible exact (fun _ _ => rfl)))); all_goals ((first | rfl | exact (hi.q1.at_ 0 (by omega)).1.symm | exact (hi.q1.at_ 0 (by omega)).2.1.symm | exact (hi.q1.at_ 0 (by omega)).2.2.symm))) ?_; exact hi)
set_option maxHeartbeats 8000000 in
theorem hd2 (l : Ln) (h : LH) (hi : LnInv l h) : Runs cx00 Try.f33 (.one (.a (.ptr 0 0)) :: [int_ .i64 2]) (lnMem l h) fun v m => ghosted (fun _ _ => []) v m fun v m => anyO lnK (lnRen m) v m [.one (hdV l 2) (lnP l)] := by
  have hn := hi.q2.n
  by_cases hz : l.n 2 = 0
  · have he : hdO l 2 = none := if_pos (by simp only [Int.reduceToNat]; omega)
    unfold hdV
    rw [he]
    repeat' (first | with_reducible exact trivial | with_reducible exact rfl | with_reducible exact Nat.le_refl _ | with_reducible exact (fun _ _ => rfl) | ((conv => whnf); first | (exact fun h => absurd h (by decide)) | (intro h9; (have h8 := of_decide_eq_true (p := type_of% h9) (by decide)); clear h8 h9) | (refine fun _ => ?_) | refine ⟨?_, ?_⟩ | exact trivial | exact Nat.le_refl _ | exact lex_q (by kernel_rfl) | exact lex_t (by kernel_rfl) | exact lex_h (by kernel_rfl) | fail))
    all_goals (try decide)
    all_goals (try omega)
    all_goals ((conv => whnf); refine o_one ⟨⟨_, _, _, _⟩, ⟨_, _, _, _⟩, ⟨_, _, _, _⟩, ⟨_, _, _, _⟩, ⟨_, _, _, _⟩, ⟨_, _, _, _⟩, ⟨_, _, _, _⟩, ⟨_, _, _, _⟩⟩ (by (repeat' (first | ((conv => whnf); first | refine ⟨?_, ?_⟩ | exact trivial | fail) | (dsimp only; done) | ((try dsimp only); first | with_reducible exact rfl | exact Nat.le_refl _ | with_reducible exact (fun _ _ => rfl)))); all_goals ((first | rfl))) ?_; exact hi)
  · have he : hdO l 2 = some 2 := if_neg (by simp only [Int.reduceToNat]; omega)
    unfold hdV
    rw [he]
    repeat' (first | with_reducible exact trivial | with_reducible exact rfl | with_reducible exact Nat.le_refl _ | with_reducible exact (fun _ _ => rfl) | ((conv => whnf); first | (exact fun h => absurd h (by decide)) | (intro h9; (have h8 := of_decide_eq_true (p := type_of% h9) (by decide)); clear h8 h9) | (refine fun _ => ?_) | refine ⟨?_, ?_⟩ | exact trivial | exact Nat.le_refl _ | exact lex_q (by kernel_rfl) | exact lex_t (by kernel_rfl) | exact lex_h (by kernel_rfl) | fail))
    all_goals (try decide)
    all_goals (try omega)
    all_goals ((conv => whnf); refine o_one ⟨⟨_, _, _, _⟩, ⟨_, _, _, _⟩, ⟨_, _, _, _⟩, ⟨_, _, _, _⟩, ⟨_, _, _, _⟩, ⟨_, _, _, _⟩, ⟨_, _, _, _⟩, ⟨_, _, _, _⟩⟩ (by (repeat' (first | ((conv => whnf); first | refine ⟨?_, ?_⟩ | exact trivial | fail) | (dsimp only; done) | ((try dsimp only); first | with_reducible exact rfl | exact Nat.le_refl _ | with_reducible exact (fun _ _ => rfl)))); all_goals ((first | rfl | exact (hi.q2.at_ 0 (by omega)).1.symm | exact (hi.q2.at_ 0 (by omega)).2.1.symm | exact (hi.q2.at_ 0 (by omega)).2.2.symm))) ?_; exact hi)
set_option maxHeartbeats 8000000 in
theorem hd3 (l : Ln) (h : LH) (hi : LnInv l h) : Runs cx00 Try.f33 (.one (.a (.ptr 0 0)) :: [int_ .i64 3]) (lnMem l h) fun v m => ghosted (fun _ _ => []) v m fun v m => anyO lnK (lnRen m) v m [.one (hdV l 3) (lnP l)] := by
  have hn := hi.q3.n
  by_cases hz : l.n 3 = 0
  · have he : hdO l 3 = none := if_pos (by simp only [Int.reduceToNat]; omega)
    unfold hdV
    rw [he]
    repeat' (first | with_reducible exact trivial | with_reducible exact rfl | with_reducible exact Nat.le_refl _ | with_reducible exact (fun _ _ => rfl) | ((conv => whnf); first | (exact fun h => absurd h (by decide)) | (intro h9; (have h8 := of_decide_eq_true (p := type_of% h9) (by decide)); clear h8 h9) | (refine fun _ => ?_) | refine ⟨?_, ?_⟩ | exact trivial | exact Nat.le_refl _ | exact lex_q (by kernel_rfl) | exact lex_t (by kernel_rfl) | exact lex_h (by kernel_rfl) | fail))
    all_goals (try decide)
    all_goals (try omega)
    all_goals ((conv => whnf); refine o_one ⟨⟨_, _, _, _⟩, ⟨_, _, _, _⟩, ⟨_, _, _, _⟩, ⟨_, _, _, _⟩, ⟨_, _, _, _⟩, ⟨_, _, _, _⟩, ⟨_, _, _, _⟩, ⟨_, _, _, _⟩⟩ (by (repeat' (first | ((conv => whnf); first | refine ⟨?_, ?_⟩ | exact trivial | fail) | (dsimp only; done) | ((try dsimp only); first | with_reducible exact rfl | exact Nat.le_refl _ | with_reducible exact (fun _ _ => rfl)))); all_goals ((first | rfl))) ?_; exact hi)
  · have he : hdO l 3 = some 3 := if_neg (by simp only [Int.reduceToNat]; omega)
    unfold hdV
    rw [he]
    repeat' (first | with_reducible exact trivial | with_reducible exact rfl | with_reducible exact Nat.le_refl _ | with_reducible exact (fun _ _ => rfl) | ((conv => whnf); first | (exact fun h => absurd h (by decide)) | (intro h9; (have h8 := of_decide_eq_true (p := type_of% h9) (by decide)); clear h8 h9) | (refine fun _ => ?_) | refine ⟨?_, ?_⟩ | exact trivial | exact Nat.le_refl _ | exact lex_q (by kernel_rfl) | exact lex_t (by kernel_rfl) | exact lex_h (by kernel_rfl) | fail))
    all_goals (try decide)
    all_goals (try omega)
    all_goals ((conv => whnf); refine o_one ⟨⟨_, _, _, _⟩, ⟨_, _, _, _⟩, ⟨_, _, _, _⟩, ⟨_, _, _, _⟩, ⟨_, _, _, _⟩, ⟨_, _, _, _⟩, ⟨_, _, _, _⟩, ⟨_, _, _, _⟩⟩ (by (repeat' (first | ((conv => whnf); first | refine ⟨?_, ?_⟩ | exact trivial | fail) | (dsimp only; done) | ((try dsimp only); first | with_reducible exact rfl | exact Nat.le_refl _ | with_reducible exact (fun _ _ => rfl)))); all_goals ((first | rfl | exact (hi.q3.at_ 0 (by omega)).1.symm | exact (hi.q3.at_ 0 (by omega)).2.1.symm | exact (hi.q3.at_ 0 (by omega)).2.2.symm))) ?_; exact hi)
set_option maxHeartbeats 8000000 in
theorem hd4 (l : Ln) (h : LH) (hi : LnInv l h) : Runs cx00 Try.f33 (.one (.a (.ptr 0 0)) :: [int_ .i64 4]) (lnMem l h) fun v m => ghosted (fun _ _ => []) v m fun v m => anyO lnK (lnRen m) v m [.one (hdV l 4) (lnP l)] := by
  have hn := hi.q4.n
  by_cases hz : l.n 4 = 0
  · have he : hdO l 4 = none := if_pos (by simp only [Int.reduceToNat]; omega)
    unfold hdV
    rw [he]
    repeat' (first | with_reducible exact trivial | with_reducible exact rfl | with_reducible exact Nat.le_refl _ | with_reducible exact (fun _ _ => rfl) | ((conv => whnf); first | (exact fun h => absurd h (by decide)) | (intro h9; (have h8 := of_decide_eq_true (p := type_of% h9) (by decide)); clear h8 h9) | (refine fun _ => ?_) | refine ⟨?_, ?_⟩ | exact trivial | exact Nat.le_refl _ | exact lex_q (by kernel_rfl) | exact lex_t (by kernel_rfl) | exact lex_h (by kernel_rfl) | fail))
    all_goals (try decide)
    all_goals (try omega)
    all_goals ((conv => whnf); refine o_one ⟨⟨_, _, _, _⟩, ⟨_, _, _, _⟩, ⟨_, _, _, _⟩, ⟨_, _, _, _⟩, ⟨_, _, _, _⟩, ⟨_, _, _, _⟩, ⟨_, _, _, _⟩, ⟨_, _, _, _⟩⟩ (by (repeat' (first | ((conv => whnf); first | refine ⟨?_, ?_⟩ | exact trivial | fail) | (dsimp only; done) | ((try dsimp only); first | with_reducible exact rfl | exact Nat.le_refl _ | with_reducible exact (fun _ _ => rfl)))); all_goals ((first | rfl))) ?_; exact hi)
  · have he : hdO l 4 = some 4 := if_neg (by simp only [Int.reduceToNat]; omega)
    unfold hdV
    rw [he]
    repeat' (first | with_reducible exact trivial | with_reducible exact rfl | with_reducible exact Nat.le_refl _ | with_reducible exact (fun _ _ => rfl) | ((conv => whnf); first | (exact fun h => absurd h (by decide)) | (intro h9; (have h8 := of_decide_eq_true (p := type_of% h9) (by decide)); clear h8 h9) | (refine fun _ => ?_) | refine ⟨?_, ?_⟩ | exact trivial | exact Nat.le_refl _ | exact lex_q (by kernel_rfl) | exact lex_t (by kernel_rfl) | exact lex_h (by kernel_rfl) | fail))
    all_goals (try decide)
    all_goals (try omega)
    all_goals ((conv => whnf); refine o_one ⟨⟨_, _, _, _⟩, ⟨_, _, _, _⟩, ⟨_, _, _, _⟩, ⟨_, _, _, _⟩, ⟨_, _, _, _⟩, ⟨_, _, _, _⟩, ⟨_, _, _, _⟩, ⟨_, _, _, _⟩⟩ (by (repeat' (first | ((conv => whnf); first | refine ⟨?_, ?_⟩ | exact trivial | fail) | (dsimp only; done) | ((try dsimp only); first | with_reducible exact rfl | exact Nat.le_refl _ | with_reducible exact (fun _ _ => rfl)))); all_goals ((first | rfl | exact (hi.q4.at_ 0 (by omega)).1.symm | exact (hi.q4.at_ 0 (by omega)).2.1.symm | exact (hi.q4.at_ 0 (by omega)).2.2.symm))) ?_; exact hi)
set_option maxHeartbeats 8000000 in
theorem hd5 (l : Ln) (h : LH) (hi : LnInv l h) : Runs cx00 Try.f33 (.one (.a (.ptr 0 0)) :: [int_ .i64 5]) (lnMem l h) fun v m => ghosted (fun _ _ => []) v m fun v m => anyO lnK (lnRen m) v m [.one (hdV l 5) (lnP l)] := by
  have hn := hi.q5.n
  by_cases hz : l.n 5 = 0
  · have he : hdO l 5 = none := if_pos (by simp only [Int.reduceToNat]; omega)
    unfold hdV
    rw [he]
    repeat' (first | with_reducible exact trivial | with_reducible exact rfl | with_reducible exact Nat.le_refl _ | with_reducible exact (fun _ _ => rfl) | ((conv => whnf); first | (exact fun h => absurd h (by decide)) | (intro h9; (have h8 := of_decide_eq_true (p := type_of% h9) (by decide)); clear h8 h9) | (refine fun _ => ?_) | refine ⟨?_, ?_⟩ | exact trivial | exact Nat.le_refl _ | exact lex_q (by kernel_rfl) | exact lex_t (by kernel_rfl) | exact lex_h (by kernel_rfl) | fail))
    all_goals (try decide)
    all_goals (try omega)
    all_goals ((conv => whnf); refine o_one ⟨⟨_, _, _, _⟩, ⟨_, _, _, _⟩, ⟨_, _, _, _⟩, ⟨_, _, _, _⟩, ⟨_, _, _, _⟩, ⟨_, _, _, _⟩, ⟨_, _, _, _⟩, ⟨_, _, _, _⟩⟩ (by (repeat' (first | ((conv => whnf); first | refine ⟨?_, ?_⟩ | exact trivial | fail) | (dsimp only; done) | ((try dsimp only); first | with_reducible exact rfl | exact Nat.le_refl _ | with_reducible exact (fun _ _ => rfl)))); all_goals ((first | rfl))) ?_; exact hi)
  · have he : hdO l 5 = some 5 := if_neg (by simp only [Int.reduceToNat]; omega)
    unfold hdV
    rw [he]
    repeat' (first | with_reducible exact trivial | with_reducible exact rfl | with_reducible exact Nat.le_refl _ | with_reducible exact (fun _ _ => rfl) | ((conv => whnf); first | (exact fun h => absurd h (by decide)) | (intro h9; (have h8 := of_decide_eq_true (p := type_of% h9) (by decide)); clear h8 h9) | (refine fun _ => ?_) | refine ⟨?_, ?_⟩ | exact trivial | exact Nat.le_refl _ | exact lex_q (by kernel_rfl) | exact lex_t (by kernel_rfl) | exact lex_h (by kernel_rfl) | fail))
    all_goals (try decide)
    all_goals (try omega)
    all_goals ((conv => whnf); refine o_one ⟨⟨_, _, _, _⟩, ⟨_, _, _, _⟩, ⟨_, _, _, _⟩, ⟨_, _, _, _⟩, ⟨_, _, _, _⟩, ⟨_, _, _, _⟩, ⟨_, _, _, _⟩, ⟨_, _, _, _⟩⟩ (by (repeat' (first | ((conv => whnf); first | refine ⟨?_, ?_⟩ | exact trivial | fail) | (dsimp only; done) | ((try dsimp only); first | with_reducible exact rfl | exact Nat.le_refl _ | with_reducible exact (fun _ _ => rfl)))); all_goals ((first | rfl | exact (hi.q5.at_ 0 (by omega)).1.symm | exact (hi.q5.at_ 0 (by omega)).2.1.symm | exact (hi.q5.at_ 0 (by omega)).2.2.symm))) ?_; exact hi)
set_option maxHeartbeats 8000000 in
theorem hd6 (l : Ln) (h : LH) (hi : LnInv l h) : Runs cx00 Try.f33 (.one (.a (.ptr 0 0)) :: [int_ .i64 6]) (lnMem l h) fun v m => ghosted (fun _ _ => []) v m fun v m => anyO lnK (lnRen m) v m [.one (hdV l 6) (lnP l)] := by
  have hn := hi.q6.n
  by_cases hz : l.n 6 = 0
  · have he : hdO l 6 = none := if_pos (by simp only [Int.reduceToNat]; omega)
    unfold hdV
    rw [he]
    repeat' (first | with_reducible exact trivial | with_reducible exact rfl | with_reducible exact Nat.le_refl _ | with_reducible exact (fun _ _ => rfl) | ((conv => whnf); first | (exact fun h => absurd h (by decide)) | (intro h9; (have h8 := of_decide_eq_true (p := type_of% h9) (by decide)); clear h8 h9) | (refine fun _ => ?_) | refine ⟨?_, ?_⟩ | exact trivial | exact Nat.le_refl _ | exact lex_q (by kernel_rfl) | exact lex_t (by kernel_rfl) | exact lex_h (by kernel_rfl) | fail))
    all_goals (try decide)
    all_goals (try omega)
    all_goals ((conv => whnf); refine o_one ⟨⟨_, _, _, _⟩, ⟨_, _, _, _⟩, ⟨_, _, _, _⟩, ⟨_, _, _, _⟩, ⟨_, _, _, _⟩, ⟨_, _, _, _⟩, ⟨_, _, _, _⟩, ⟨_, _, _, _⟩⟩ (by (repeat' (first | ((conv => whnf); first | refine ⟨?_, ?_⟩ | exact trivial | fail) | (dsimp only; done) | ((try dsimp only); first | with_reducible exact rfl | exact Nat.le_refl _ | with_reducible exact (fun _ _ => rfl)))); all_goals ((first | rfl))) ?_; exact hi)
  · have he : hdO l 6 = some 6 := if_neg (by simp only [Int.reduceToNat]; omega)
    unfold hdV
    rw [he]
    repeat' (first | with_reducible exact trivial | with_reducible exact rfl | with_reducible exact Nat.le_refl _ | with_reducible exact (fun _ _ => rfl) | ((conv => whnf); first | (exact fun h => absurd h (by decide)) | (intro h9; (have h8 := of_decide_eq_true (p := type_of% h9) (by decide)); clear h8 h9) | (refine fun _ => ?_) | refine ⟨?_, ?_⟩ | exact trivial | exact Nat.le_refl _ | exact lex_q (by kernel_rfl) | exact lex_t (by kernel_rfl) | exact lex_h (by kernel_rfl) | fail))
    all_goals (try decide)
    all_goals (try omega)
    all_goals ((conv => whnf); refine o_one ⟨⟨_, _, _, _⟩, ⟨_, _, _, _⟩, ⟨_, _, _, _⟩, ⟨_, _, _, _⟩, ⟨_, _, _, _⟩, ⟨_, _, _, _⟩, ⟨_, _, _, _⟩, ⟨_, _, _, _⟩⟩ (by (repeat' (first | ((conv => whnf); first | refine ⟨?_, ?_⟩ | exact trivial | fail) | (dsimp only; done) | ((try dsimp only); first | with_reducible exact rfl | exact Nat.le_refl _ | with_reducible exact (fun _ _ => rfl)))); all_goals ((first | rfl | exact (hi.q6.at_ 0 (by omega)).1.symm | exact (hi.q6.at_ 0 (by omega)).2.1.symm | exact (hi.q6.at_ 0 (by omega)).2.2.symm))) ?_; exact hi)
set_option maxHeartbeats 8000000 in
theorem hd7 (l : Ln) (h : LH) (hi : LnInv l h) : Runs cx00 Try.f33 (.one (.a (.ptr 0 0)) :: [int_ .i64 7]) (lnMem l h) fun v m => ghosted (fun _ _ => []) v m fun v m => anyO lnK (lnRen m) v m [.one (hdV l 7) (lnP l)] := by
  have hn := hi.q7.n
  by_cases hz : l.n 7 = 0
  · have he : hdO l 7 = none := if_pos (by simp only [Int.reduceToNat]; omega)
    unfold hdV
    rw [he]
    repeat' (first | with_reducible exact trivial | with_reducible exact rfl | with_reducible exact Nat.le_refl _ | with_reducible exact (fun _ _ => rfl) | ((conv => whnf); first | (exact fun h => absurd h (by decide)) | (intro h9; (have h8 := of_decide_eq_true (p := type_of% h9) (by decide)); clear h8 h9) | (refine fun _ => ?_) | refine ⟨?_, ?_⟩ | exact trivial | exact Nat.le_refl _ | exact lex_q (by kernel_rfl) | exact lex_t (by kernel_rfl) | exact lex_h (by kernel_rfl) | fail))
    all_goals (try decide)
    all_goals (try omega)
    all_goals ((conv => whnf); refine o_one ⟨⟨_, _, _, _⟩, ⟨_, _, _, _⟩, ⟨_, _, _, _⟩, ⟨_, _, _, _⟩, ⟨_, _, _, _⟩, ⟨_, _, _, _⟩, ⟨_, _, _, _⟩, ⟨_, _, _, _⟩⟩ (by (repeat' (first | ((conv => whnf); first | refine ⟨?_, ?_⟩ | exact trivial | fail) | (dsimp only; done) | ((try dsimp only); first | with_reducible exact rfl | exact Nat.le_refl _ | with_reducible exact (fun _ _ => rfl)))); all_goals ((first | rfl))) ?_; exact hi)
  · have he : hdO l 7 = some 7 := if_neg (by simp only [Int.reduceToNat]; omega)
    unfold hdV
    rw [he]
    repeat' (first | with_reducible exact trivial | with_reducible exact rfl | with_reducible exact Nat.le_refl _ | with_reducible exact (fun _ _ => rfl) | ((conv => whnf); first | (exact fun h => absurd h (by decide)) | (intro h9; (have h8 := of_decide_eq_true (p := type_of% h9) (by decide)); clear h8 h9) | (refine fun _ => ?_) | refine ⟨?_, ?_⟩ | exact trivial | exact Nat.le_refl _ | exact lex_q (by kernel_rfl) | exact lex_t (by kernel_rfl) | exact lex_h (by kernel_rfl) | fail))
    all_goals (try decide)
    all_goals (try omega)
    all_goals ((conv => whnf); refine o_one ⟨⟨_, _, _, _⟩, ⟨_, _, _, _⟩, ⟨_, _, _, _⟩, ⟨_, _, _, _⟩, ⟨_, _, _, _⟩, ⟨_, _, _, _⟩, ⟨_, _, _, _⟩, ⟨_, _, _, _⟩⟩ (by (repeat' (first | ((conv => whnf); first | refine ⟨?_, ?_⟩ | exact trivial | fail) | (dsimp only; done) | ((try dsimp only); first | with_reducible exact rfl | exact Nat.le_refl _ | with_reducible exact (fun _ _ => rfl)))); all_goals ((first | rfl | exact (hi.q7.at_ 0 (by omega)).1.symm | exact (hi.q7.at_ 0 (by omega)).2.1.symm | exact (hi.q7.at_ 0 (by omega)).2.2.symm))) ?_; exact hi)
end
noncomputable def cxHC (c : Int) : Cx Try.prog := if c < 0 ∨ 7 < c then cxHX else cx00
theorem cxHC_n0 (c : Int) : (cxHC c).n0 = 1 := by unfold cxHC; split <;> rfl
theorem hd_all (l : Ln) (c : Int) (h : LH) (hi : LnInv l h) : Runs (cxHC c) Try.f33 (.one (.a (.ptr 0 0)) :: [int_ .i64 c]) (lnMem l h) fun v m => ghosted (fun _ _ => []) v m fun v m => anyO lnK (lnRen m) v m [.one (hdV l c) (lnP l)] := by
  by_cases hx : c < 0 ∨ 7 < c
  · rw [show cxHC c = cxHX from if_pos hx]; exact hdX l c h hi hx
  · rw [show cxHC c = cx00 from if_neg hx]
    rcases (by omega : c = 0 ∨ c = 1 ∨ c = 2 ∨ c = 3 ∨ c = 4 ∨ c = 5 ∨ c = 6 ∨ c = 7) with rfl | rfl | rfl | rfl | rfl | rfl | rfl | rfl
    · exact hd0 l h hi
    · exact hd1 l h hi
    · exact hd2 l h hi
    · exact hd3 l h hi
    · exact hd4 l h hi
    · exact hd5 l h hi
    · exact hd6 l h hi
    · exact hd7 l h hi
noncomputable def headS : PSpec Try.prog := obP fn33 15 lnK (.s1 (.int .i64)) lnR lnP lnR_ok (fun _ => rfl) (fun _ c _ => cxHC c) (fun _ _ => True) (fun l c => hdV l c) (fun _ _ => []) (fun _ m => lnRen m) (fun _ c _ => cxHC_n0 c) (fun l c _ h hi => hd_all l c h hi)
/-! none there -/
def nil_ : SV := .one (.a (.v (.pointer none)))

end Go.Proofs.Ytaadejgoafdbcaa
