/-
  Contracts of functions, and plain facts about them, that a claim of this seat uses.
-/
import Derived.Test.YtbbiennjigpheaaSx
import Derived.Test.YtbbiennjigpheaaLanV
import Derived.Test.YtbbiennjigpheaaProg
namespace Go.Proofs.Ytbbiennjigpheaa
open Go.Sx
set_option linter.unusedVariables false
set_option linter.unusedSimpArgs false
set_option maxRecDepth 100000

/-! lanes: Head; lanes that are not there. -/
def hdO (l : Ln) (c : Int) : Option Nat := if c < 0 ∨ 7 < c ∨ l.n c.toNat = 0 then none else some c.toNat
def hdV (l : Ln) (c : Int) : SV := .tup [itC (pkI l (hdO l c)), .a (b_ (pkB (hdO l c)))]
noncomputable def cxHX : Cx Try.prog := { ps := [], es := [], is := [], n0 := 1, loops := fun _ => none, cuts := fun i => match i with | 3 => some laFalse | _ => none }
section
attribute [local irreducible] anyO enter
set_option maxHeartbeats 8000000 in
theorem hdX (l : Ln) (c : Int) (h : LH) (hi : LnInv l h) (hx : c < 0 ∨ 7 < c) : Runs cxHX Try.f15 (.one (.a (.ptr 0 0)) :: [int_ .i64 c]) (lnMem l h) fun v m => ghosted (fun _ _ => []) v m fun v m => anyO lnK (lnRen m) v m [.one (hdV l c) (lnP l)] := by
  have he : hdO l c = none := if_pos (by omega)
  unfold hdV
  rw [he]
  repeat' (first | with_reducible exact trivial | with_reducible exact rfl | with_reducible exact Nat.le_refl _ | with_reducible exact (fun _ _ => rfl) | ((conv => whnf); first | (exact fun h => absurd h (by decide)) | (intro h9; (have h8 := of_decide_eq_true (p := type_of% h9) (by decide)); clear h8 h9) | (refine fun _ => ?_) | refine ⟨?_, ?_⟩ | exact trivial | exact Nat.le_refl _ | exact lex_q (by kernel_rfl) | exact lex_t (by kernel_rfl) | exact lex_h (by kernel_rfl) | fail))
  all_goals (try decide)
  all_goals (try exact enter_false (by omega))
  all_goals (try exact (by assumption : False).elim)
  all_goals (try omega)
  all_goals (try (exfalso; omega))
  all_goals ((conv => whnf); refine o_one ⟨⟨_, _, _, _⟩, ⟨_, _, _, _⟩, ⟨_, _, _, _⟩, ⟨_, _, _, _⟩, ⟨_, _, _, _⟩, ⟨_, _, _, _⟩, ⟨_, _, _, _⟩, ⟨_, _, _, _⟩⟩ (by (repeat' (first | ((conv => whnf); first | refine ⟨?_, ?_⟩ | exact trivial | fail) | (dsimp only; done) | ((try dsimp only); first | with_reducible exact rfl | exact Nat.le_refl _ | with_reducible exact (fun _ _ => rfl)))); all_goals ((first | rfl))) ?_; exact hi)
set_option maxHeartbeats 8000000 in
theorem hd0 (l : Ln) (h : LH) (hi : LnInv l h) : Runs cx00 Try.f15 (.one (.a (.ptr 0 0)) :: [int_ .i64 0]) (lnMem l h) fun v m => ghosted (fun _ _ => []) v m fun v m => anyO lnK (lnRen m) v m [.one (hdV l 0) (lnP l)] := by
  have hn := hi.q0.n
  by_cases hz : l.n 0 = 0
  · have he : hdO l 0 = none := if_pos (by simp only [Int.reduceToNat]; omega)
    unfold hdV
    rw [he]
    repeat' (first | with_reducible exact trivial | with_reducible exact rfl | with_reducible exact Nat.le_refl _ | with_reducible exact (fun _ _ => rfl) | ((conv => whnf); first | (exact fun h => absurd h (by decide)) | (intro h9; (have h8 := of_decide_eq_true (p := type_of% h9) (by decide)); clear h8 h9) | (refine fun _ => ?_) | refine ⟨?_, ?_⟩ | exact trivial | exact Nat.le_refl _ | exact lex_q (by kernel_rfl) | exact lex_t (by kernel_rfl) | exact lex_h (by kernel_rfl) | fail))
    all_goals (try decide)
    all_goals (try omega)
    all_goals ((conv => whnf); refine o_one ⟨⟨_, _, _, _⟩, ⟨_, _, _, _⟩, ⟨_, _, _, _⟩, ⟨_, _, _, _⟩, ⟨_, _, _, _⟩, ⟨_, _, _, _⟩, ⟨_, _, _, _⟩, ⟨_, _, _, _⟩⟩ (by (repeat' (first | ((conv => whnf); first | refine ⟨?_, ?_⟩ | exact trivial | fail) | (dsimp only; done) | ((try dsimp only); first | with_reducible exact rfl | exact Nat.le_refl _ | with_reducible exact (fun _ _ => rfl)))); all_goals ((first | rfl))) ?_; exact hi)
  · have he : hdO l 0 = some 0 := if_neg (by simp only [Int.reduceToNat]; omega)
    unfold hdV
    rw [he]
    repeat' (first | with_reducible exact trivial | with_reducible exact rfl | with_reducible exact Nat.le_refl _ | with_reducible exact (fun _ _ => rfl) | ((conv => whnf); first | (exact fun h => absurd h (by decide)) | (intro h9; (have h8 := of_decide_eq_true (p := type_of% h9) (by decide)); clear h8 h9) | (refine fun _ => ?_) | refine ⟨?_, ?_⟩ | exact trivial | exact Nat.le_refl _ | exact lex_q (by kernel_rfl) | exact lex_t (by kernel_rfl) | exact lex_h (by kernel_rfl) | fail))
    all_goals (try decide)
    all_goals (try omega)
    all_goals ((conv => whnf); refine o_one ⟨⟨_, _, _, _⟩, ⟨_, _, _, _⟩, ⟨_, _, _, _⟩, ⟨_, _, _, _⟩, ⟨_, _, _, _⟩, ⟨_, _, _, _⟩, ⟨_, _, _, _⟩, ⟨_, _, _, _⟩⟩ (by (repeat' (first | ((conv => whnf); first | refine ⟨?_, ?_⟩ | exact trivial | fail) | (dsimp only; done) | ((try dsimp only); first | with_reducible exact rfl | exact Nat.le_refl _ | with_reducible exact (fun _ _ => rfl)))); all_goals ((first | rfl | exact (hi.q0.at_ 0 (by omega)).1.symm | exact (hi.q0.at_ 0 (by omega)).2.1.symm | exact (hi.q0.at_ 0 (by omega)).2.2.symm))) ?_; exact hi)
set_option maxHeartbeats 8000000 in
theorem hd1 (l : Ln) (h : LH) (hi : LnInv l h) : Runs cx00 Try.f15 (.one (.a (.ptr 0 0)) :: [int_ .i64 1]) (lnMem l h) fun v m => ghosted (fun _ _ => []) v m fun v m => anyO lnK (lnRen m) v m [.one (hdV l 1) (lnP l)] := by
  have hn := hi.q1.n
  by_cases hz : l.n 1 = 0
  · have he : hdO l 1 = none := if_pos (by simp only [Int.reduceToNat]; omega)
    unfold hdV
    rw [he]
    repeat' (first | with_reducible exact trivial | with_reducible exact rfl | with_reducible exact Nat.le_refl _ | with_reducible exact (fun _ _ => rfl) | ((conv => whnf); first | (exact fun h => absurd h (by decide)) | (intro h9; (have h8 := of_decide_eq_true (p := type_of% h9) (by decide)); clear h8 h9) | (refine fun _ => ?_) | refine ⟨?_, ?_⟩ | exact trivial | exact Nat.le_refl _ | exact lex_q (by kernel_rfl) | exact lex_t (by kernel_rfl) | exact lex_h (by kernel_rfl) | fail))
    all_goals (try decide)
    all_goals (try omega)
    all_goals ((conv => whnf); refine o_one ⟨⟨_, _, _, _⟩, ⟨_, _, _, _⟩, ⟨_, _, _, _⟩, ⟨_, _, _, _⟩, ⟨_, _, _, _⟩, ⟨_, _, _, _⟩, ⟨_, _, _, _⟩, ⟨_, _, _, _⟩⟩ (by (repeat' (first | ((conv => whnf); first | refine ⟨?_, ?_⟩ | exact trivial | fail) | (dsimp only; done) | ((try dsimp only); first | with_reducible exact rfl | exact Nat.le_refl _ | with_reducible exact (fun _ _ => rfl)))); all_goals ((first | rfl))) ?_; exact hi)
  · have he : hdO l 1 = some 1 := if_neg (by simp only [Int.reduceToNat]; omega)
    unfold hdV
    rw [he]
    repeat' (first | with_reducible exact trivial | with_reducible exact rfl | with_reducible exact Nat.le_refl _ | with_reducible exact (fun _ _ => rfl) | ((conv => whnf); first | (exact fun h => absurd h (by decide)) | (intro h9; (have h8 := of_decide_eq_true (p := type_of% h9) (by decide)); clear h8 h9) | (refine fun _ => ?_) | refine ⟨?_, ?_⟩ | exact trivial | exact Nat.le_refl _ | exact lex_q (by kernel_rfl) | exact lex_t (by kernel_rfl) | exact lex_h (by kernel_rfl) | fail))
    all_goals (try decide)
    all_goals (try omega)
    all_goals ((conv => whnf); refine o_one ⟨⟨_, _, _, _⟩, ⟨_, _, _, _⟩, ⟨_, _, _, _⟩, ⟨_, _, _, _⟩, ⟨_, _, _, _⟩, ⟨_, _, _, _⟩, ⟨_, _, _, _⟩, ⟨_, _, _, _⟩⟩ (by (repeat' (first | ((conv => whnf); first | refine ⟨?_, ?_⟩ | exact trivial | fail) | (dsimp only; done) | ((try dsimp only); first | with_reducible exact rfl | exact Nat.le_refl _ | with_reducible exact (fun _ _ => rfl)))); all_goals ((first | rfl | exact (hi.q1.at_ 0 (by omega)).1.symm | exact (hi.q1.at_ 0 (by omega)).2.1.symm | exact (hi.q1.at_ 0 (by omega)).2.2.symm))) ?_; exact hi)
set_option maxHeartbeats 8000000 in
theorem hd2 (l : Ln) (h : LH) (hi : LnInv l h) : Runs cx00 Try.f15 (.one (.a (.ptr 0 0)) :: [int_ .i64 2]) (lnMem l h) fun v m => ghosted (fun _ _ => []) v m fun v m => anyO lnK (lnRen m) v m [.one (hdV l 2) (lnP l)] := by
  have hn := hi.q2.n
  by_cases hz : l.n 2 = 0
  · have he : hdO l 2 = none := if_pos (by simp only [Int.reduceToNat]; omega)
    unfold hdV
    rw [he]
    repeat' (first | with_reducible exact trivial | with_reducible exact rfl | with_reducible exact Nat.le_refl _ | with_reducible exact (fun _ _ => rfl) | ((conv => whnf); first | (exact fun h => absurd h (by decide)) | (intro h9; (have h8 := of_decide_eq_true (p := type_of% h9) (by decide)); clear h8 h9) | (refine fun _ => ?_) | refine ⟨?_, ?_⟩ | exact trivial | exact Nat.le_refl _ | exact lex_q (by kernel_rfl) | exact lex_t (by kernel_rfl) | exact lex_h (by kernel_rfl) | fail))
    all_goals (try decide)
    all_goals (try omega)
    all_goals ((conv => whnf); refine o_one ⟨⟨_, _, _, _⟩, ⟨_, _, _, _⟩, ⟨_, _, _, _⟩, ⟨_, _, _, _⟩, ⟨_, _, _, _⟩, ⟨_, _, _, _⟩, ⟨_, _, _, _⟩, ⟨_, _, _, _⟩⟩ (by (repeat' (first | ((conv => whnf); first | refine ⟨?_, ?_⟩ | exact trivial | fail) | (dsimp only; done) | ((try dsimp only); first | with_reducible exact rfl | exact Nat.le_refl _ | with_reducible exact (fun _ _ => rfl)))); all_goals ((first | rfl))) ?_; exact hi)
  · have he : hdO l 2 = some 2 := if_neg (by simp only [Int.reduceToNat]; omega)
    unfold hdV
    rw [he]
    repeat' (first | with_reducible exact trivial | with_reducible exact rfl | with_reducible exact Nat.le_refl _ | with_reducible exact (fun _ _ => rfl) | ((conv => whnf); first | (exact fun h => absurd h (by decide)) | (intro h9; (have h8 := of_decide_eq_true (p := type_of% h9) (by decide)); clear h8 h9) | (refine fun _ => ?_) | refine ⟨?_, ?_⟩ | exact trivial | exact Nat.le_refl _ | exact lex_q (by kernel_rfl) | exact lex_t (by kernel_rfl) | exact lex_h (by kernel_rfl) | fail))
    all_goals (try decide)
    all_goals (try omega)
    all_goals ((conv => whnf); refine o_one ⟨⟨_, _, _, _⟩, ⟨_, _, _, _⟩, ⟨_, _, _, _⟩, ⟨_, _, _, _⟩, ⟨_, _, _, _⟩, ⟨_, _, _, _⟩, ⟨_, _, _, _⟩, ⟨_, _, _, _⟩⟩ (by (repeat' (first | ((conv => whnf); first | refine ⟨?_, ?_⟩ | exact trivial | fail) | (dsimp only; done) | ((try dsimp only); first | with_reducible exact rfl | exact Nat.le_refl _ | with_reducible exact (fun _ _ => rfl)))); all_goals ((first | rfl | exact (hi.q2.at_ 0 (by omega)).1.symm | exact (hi.q2.at_ 0 (by omega)).2.1.symm | exact (hi.q2.at_ 0 (by omega)).2.2.symm))) ?_; exact hi)
set_option maxHeartbeats 8000000 in
theorem hd3 (l : Ln) (h : LH) (hi : LnInv l h) : Runs cx00 Try.f15 (.one (.a (.ptr 0 0)) :: [int_ .i64 3]) (lnMem l h) fun v m => ghosted (fun _ _ => []) v m fun v m => anyO lnK (lnRen m) v m [.one (hdV l 3) (lnP l)] := by
  have hn := hi.q3.n
  by_cases hz : l.n 3 = 0
  · have he : hdO l 3 = none := if_pos (by simp only [Int.reduceToNat]; omega)
    unfold hdV
    rw [he]
    repeat' (first | with_reducible exact trivial | with_reducible exact rfl | with_reducible exact Nat.le_refl _ | with_reducible exact (fun _ _ => rfl) | ((conv => whnf); first | (exact fun h => absurd h (by decide)) | (intro h9; (have h8 := of_decide_eq_true (p := type_of% h9) (by decide)); clear h8 h9) | (refine fun _ => ?_) | refine ⟨?_, ?_⟩ | exact trivial | exact Nat.le_refl _ | exact lex_q (by kernel_rfl) | exact lex_t (by kernel_rfl) | exact lex_h (by kernel_rfl) | fail))
    all_goals (try decide)
    all_goals (try omega)
    all_goals ((conv => whnf); refine o_one ⟨⟨_, _, _, _⟩, ⟨_, _, _, _⟩, ⟨_, _, _, _⟩, ⟨_, _, _, _⟩, ⟨_, _, _, _⟩, ⟨_, _, _, _⟩, ⟨_, _, _, _⟩, ⟨_, _, _, _⟩⟩ (by (repeat' (first | ((conv => whnf); first | refine ⟨?_, ?_⟩ | exact trivial | fail) | (dsimp only; done) | ((try dsimp only); first | with_reducible exact rfl | exact Nat.le_refl _ | with_reducible exact (fun _ _ => rfl)))); all_goals ((first | rfl))) ?_; exact hi)
  · have he : hdO l 3 = some 3 := if_neg (by simp only [Int.reduceToNat]; omega)
    unfold hdV
    rw [he]
    repeat' (first | with_reducible exact trivial | with_reducible exact rfl | with_reducible exact Nat.le_refl _ | with_reducible exact (fun _ _ => rfl) | ((conv => whnf); first | (exact fun h => absurd h (by decide)) | (intro h9; (have h8 := of_decide_eq_true (p := type_of% h9) (by decide)); clear h8 h9) | (refine fun _ => ?_) | refine ⟨?_, ?_⟩ | exact trivial | exact Nat.le_refl _ | exact lex_q (by kernel_rfl) | exact lex_t (by kernel_rfl) | exact lex_h (by kernel_rfl) | fail))
    all_goals (try decide)
    all_goals (try omega)
    all_goals ((conv => whnf); refine o_one ⟨⟨_, _, _, _⟩, ⟨_, _, _, _⟩, ⟨_, _, _, _⟩, ⟨_, _, _, _⟩, ⟨_, _, _, _⟩, ⟨_, _, _, _⟩, ⟨_, _, _, _⟩, ⟨_, _, _, _⟩⟩ (by (repeat' (first | ((conv => whnf); first | refine ⟨?_, ?_⟩ | exact trivial | fail) | (dsimp only; done) | ((try dsimp only); first | with_reducible exact rfl | exact Nat.le_refl _ | with_reducible exact (fun _ _ => rfl)))); all_goals ((first | rfl | exact (hi.q3.at_ 0 (by omega)).1.symm | exact (hi.q3.at_ 0 (by omega)).2.1.symm | exact (hi.q3.at_ 0 (by omega)).2.2.symm))) ?_; exact hi)
set_option maxHeartbeats 8000000 in
theorem hd4 (l : Ln) (h : LH) (hi : LnInv l h) : Runs cx00 Try.f15 (.one (.a (.ptr 0 0)) :: [int_ .i64 4]) (lnMem l h) fun v m => ghosted (fun _ _ => []) v m fun v m => anyO lnK (lnRen m) v m [.one (hdV l 4) (lnP l)] := by
  have hn := hi.q4.n
  by_cases hz : l.n 4 = 0
  · have he : hdO l 4 = none := if_pos (by simp only [Int.reduceToNat]; omega)
    unfold hdV
    rw [he]
    repeat' (first | with_reducible exact trivial | with_reducible exact rfl | with_reducible exact Nat.le_refl _ | with_reducible exact (fun _ _ => rfl) | ((conv => whnf); first | (exact fun h => absurd h (by decide)) | (intro h9; (have h8 := of_decide_eq_true (p := type_of% h9) (by decide)); clear h8 h9) | (refine fun _ => ?_) | refine ⟨?_, ?_⟩ | exact trivial | exact Nat.le_refl _ | exact lex_q (by kernel_rfl) | exact lex_t (by kernel_rfl) | exact lex_h (by kernel_rfl) | fail))
    all_goals (try decide)
    all_goals (try omega)
    all_goals ((conv => whnf); refine o_one ⟨⟨_, _, _, _⟩, ⟨_, _, _, _⟩, ⟨_, _, _, _⟩, ⟨_, _, _, _⟩, ⟨_, _, _, _⟩, ⟨_, _, _, _⟩, ⟨_, _, _, _⟩, ⟨_, _, _, _⟩⟩ (by (repeat' (first | ((conv => whnf); first | refine ⟨?_, ?_⟩ | exact trivial | fail) | (dsimp only; done) | ((try dsimp only); first | with_reducible exact rfl | exact Nat.le_refl _ | with_reducible exact (fun _ _ => rfl)))); all_goals ((first | rfl))) ?_; exact hi)
  · have he : hdO l 4 = some 4 := if_neg (by simp only [Int.reduceToNat]; omega)
    unfold hdV
    rw [he]
    repeat' (first | with_reducible exact trivial | with_reducible exact rfl | with_reducible exact Nat.le_refl _ | with_reducible exact (fun _ _ => rfl) | ((conv => whnf); first | (exact fun h => absurd h (by decide)) | (intro h9; (have h8 := of_decide_eq_true (p := type_of% h9) (by decide)); clear h8 h9) | (refine fun _ => ?_) | refine ⟨?_, ?_⟩ | exact trivial | exact Nat.le_refl _ | exact lex_q (by kernel_rfl) | exact lex_t (by kernel_rfl) | exact lex_h (by kernel_rfl) | fail))
    all_goals (try decide)
    all_goals (try omega)
    all_goals ((conv => whnf); refine o_one ⟨⟨_, _, _, _⟩, ⟨_, _, _, _⟩, ⟨_, _, _, _⟩, ⟨_, _, _, _⟩, ⟨_, _, _, _⟩, ⟨_, _, _, _⟩, ⟨_, _, _, _⟩, ⟨_, _, _, _⟩⟩ (by (repeat' (first | ((conv => whnf); first | refine ⟨?_, ?_⟩ | exact trivial | fail) | (dsimp only; done) | ((try dsimp only); first | with_reducible exact rfl | exact Nat.le_refl _ | with_reducible exact (fun _ _ => rfl)))); all_goals ((first | rfl | exact (hi.q4.at_ 0 (by omega)).1.symm | exact (hi.q4.at_ 0 (by omega)).2.1.symm | exact (hi.q4.at_ 0 (by omega)).2.2.symm))) ?_; exact hi)
set_option maxHeartbeats 8000000 in
theorem hd5 (l : Ln) (h : LH) (hi : LnInv l h) : Runs cx00 Try.f15 (.one (.a (.ptr 0 0)) :: [int_ .i64 5]) (lnMem l h) fun v m => ghosted (fun _ _ => []) v m fun v m => anyO lnK (lnRen m) v m [.one (hdV l 5) (lnP l)] := by
  have hn := hi.q5.n
  by_cases hz : l.n 5 = 0
  · have he : hdO l 5 = none := if_pos (by simp only [Int.reduceToNat]; omega)
    unfold hdV
    rw [he]
    repeat' (first | with_reducible exact trivial | with_reducible exact rfl | with_reducible exact Nat.le_refl _ | with_reducible exact (fun _ _ => rfl) | ((conv => whnf); first | (exact fun h => absurd h (by decide)) | (intro h9; (have h8 := of_decide_eq_true (p := type_of% h9) (by decide)); clear h8 h9) | (refine fun _ => ?_) | refine ⟨?_, ?_⟩ | exact trivial | exact Nat.le_refl _ | exact lex_q (by kernel_rfl) | exact lex_t (by kernel_rfl) | exact lex_h (by kernel_rfl) | fail))
    all_goals (try decide)
    all_goals (try omega)
    all_goals ((conv => whnf); refine o_one ⟨⟨_, _, _, _⟩, ⟨_, _, _, _⟩, ⟨_, _, _, _⟩, ⟨_, _, _, _⟩, ⟨_, _, _, _⟩, ⟨_, _, _, _⟩, ⟨_, _, _, _⟩, ⟨_, _, _, _⟩⟩ (by (repeat' (first | ((conv => whnf); first | refine ⟨?_, ?_⟩ | exact trivial | fail) | (dsimp only; done) | ((try dsimp only); first | with_reducible exact rfl | exact Nat.le_refl _ | with_reducible exact (fun _ _ => rfl)))); all_goals ((first | rfl))) ?_; exact hi)
  · have he : hdO l 5 = some 5 := if_neg (by simp only [Int.reduceToNat]; omega)
    unfold hdV
    rw [he]
    repeat' (first | with_reducible exact trivial | with_reducible exact rfl | with_reducible exact Nat.le_refl _ | with_reducible exact (fun _ _ => rfl) | ((conv => whnf); first | (exact fun h => absurd h (by decide)) | (intro h9; (have h8 := of_decide_eq_true (p := type_of% h9) (by decide)); clear h8 h9) | (refine fun _ => ?_) | refine ⟨?_, ?_⟩ | exact trivial | exact Nat.le_refl _ | exact lex_q (by kernel_rfl) | exact lex_t (by kernel_rfl) | exact lex_h (by kernel_rfl) | fail))
    all_goals (try decide)
    all_goals (try omega)
    all_goals ((conv => whnf); refine o_one ⟨⟨_, _, _, _⟩, ⟨_, _, _, _⟩, ⟨_, _, _, _⟩, ⟨_, _, _, _⟩, ⟨_, _, _, _⟩, ⟨_, _, _, _⟩, ⟨_, _, _, _⟩, ⟨_, _, _, _⟩⟩ (by (repeat' (first | ((conv => whnf); first | refine ⟨?_, ?_⟩ | exact trivial | fail) | (dsimp only; done) | ((try dsimp only); first | with_reducible exact rfl | exact Nat.le_refl _ | with_reducible exact (fun _ _ => rfl)))); all_goals ((first | rfl | exact (hi.q5.at_ 0 (by omega)).1.symm | exact (hi.q5.at_ 0 (by omega)).2.1.symm | exact (hi.q5.at_ 0 (by omega)).2.2.symm))) ?_; exact hi)
set_option maxHeartbeats 8000000 in
theorem hd6 (l : Ln) (h : LH) (hi : LnInv l h) : Runs cx00 Try.f15 (.one (.a (.ptr 0 0)) :: [int_ .i64 6]) (lnMem l h) fun v m => ghosted (fun _ _ => []) v m fun v m => anyO lnK (lnRen m) v m [.one (hdV l 6) (lnP l)] := by
  have hn := hi.q6.n
  by_cases hz : l.n 6 = 0
  · have he : hdO l 6 = none := if_pos (by simp only [Int.reduceToNat]; omega)
    unfold hdV
    rw [he]
    repeat' (first | with_reducible exact trivial | with_reducible exact rfl | with_reducible exact Nat.le_refl _ | with_reducible exact (fun _ _ => rfl) | ((conv => whnf); first | (exact fun h => absurd h (by decide)) | (intro h9; (have h8 := of_decide_eq_true (p := type_of% h9) (by decide)); clear h8 h9) | (refine fun _ => ?_) | refine ⟨?_, ?_⟩ | exact trivial | exact Nat.le_refl _ | exact lex_q (by kernel_rfl) | exact lex_t (by kernel_rfl) | exact lex_h (by kernel_rfl) | fail))
    all_goals (try decide)
    all_goals (try omega)
    all_goals ((conv => whnf); refine o_one ⟨⟨_, _, _, _⟩, ⟨_, _, _, _⟩, ⟨_, _, _, _⟩, ⟨_, _, _, _⟩, ⟨_, _, _, _⟩, ⟨_, _, _, _⟩, ⟨_, _, _, _⟩, ⟨_, _, _, _⟩⟩ (by (repeat' (first | ((conv => whnf); first | refine ⟨?_, ?_⟩ | exact trivial | fail) | (dsimp only; done) | ((try dsimp only); first | with_reducible exact rfl | exact Nat.le_refl _ | with_reducible exact (fun _ _ => rfl)))); all_goals ((first | rfl))) ?_; exact hi)
  · have he : hdO l 6 = some 6 := if_neg (by simp only [Int.reduceToNat]; omega)
    unfold hdV
    rw [he]
    repeat' (first | with_reducible exact trivial | with_reducible exact rfl | with_reducible exact Nat.le_refl _ | with_reducible exact (fun _ _ => rfl) | ((conv => whnf); first | (exact fun h => absurd h (by decide)) | (intro h9; (have h8 := of_decide_eq_true (p := type_of% h9) (by decide)); clear h8 h9) | (refine fun _ => ?_) | refine ⟨?_, ?_⟩ | exact trivial | exact Nat.le_refl _ | exact lex_q (by kernel_rfl) | exact lex_t (by kernel_rfl) | exact lex_h (by kernel_rfl) | fail))
    all_goals (try decide)
    all_goals (try omega)
    all_goals ((conv => whnf); refine o_one ⟨⟨_, _, _, _⟩, ⟨_, _, _, _⟩, ⟨_, _, _, _⟩, ⟨_, _, _, _⟩, ⟨_, _, _, _⟩, ⟨_, _, _, _⟩, ⟨_, _, _, _⟩, ⟨_, _, _, _⟩⟩ (by (repeat' (first | ((conv => whnf); first | refine ⟨?_, ?_⟩ | exact trivial | fail) | (dsimp only; done) | ((try dsimp only); first | with_reducible exact rfl | exact Nat.le_refl _ | with_reducible exact (fun _ _ => rfl)))); all_goals ((first | rfl | exact (hi.q6.at_ 0 (by omega)).1.symm | exact (hi.q6.at_ 0 (by omega)).2.1.symm | exact (hi.q6.at_ 0 (by omega)).2.2.symm))) ?_; exact hi)
set_option maxHeartbeats 8000000 in
theorem hd7 (l : Ln) (h : LH) (hi : LnInv l h) : Runs cx00 Try.f15 (.one (.a (.ptr 0 0)) :: [int_ .i64 7]) (lnMem l h) fun v m => ghosted (fun _ _ => []) v m fun v m => anyO lnK (lnRen m) v m [.one (hdV l 7) (lnP l)] := by
  have hn := hi.q7.n
  by_cases hz : l.n 7 = 0
  · have he : hdO l 7 = none := if_pos (by simp only [Int.reduceToNat]; omega)
    unfold hdV
    rw [he]
    repeat' (first | with_reducible exact trivial | with_reducible exact rfl | with_reducible exact Nat.le_refl _ | with_reducible exact (fun _ _ => rfl) | ((conv => whnf); first | (exact fun h => absurd h (by decide)) | (intro h9; (have h8 := of_decide_eq_true (p := type_of% h9) (by decide)); clear h8 h9) | (refine fun _ => ?_) | refine ⟨?_, ?_⟩ | exact trivial | exact Nat.le_refl _ | exact lex_q (by kernel_rfl) | exact lex_t (by kernel_rfl) | exact lex_h (by kernel_rfl) | fail))
    all_goals (try decide)
    all_goals (try omega)
    all_goals ((conv => whnf); refine o_one ⟨⟨_, _, _, _⟩, ⟨_, _, _, _⟩, ⟨_, _, _, _⟩, ⟨_, _, _, _⟩, ⟨_, _, _, _⟩, ⟨_, _, _, _⟩, ⟨_, _, _, _⟩, ⟨_, _, _, _⟩⟩ (by (repeat' (first | ((conv => whnf); first | refine ⟨?_, ?_⟩ | exact trivial | fail) | (dsimp only; done) | ((try dsimp only); first | with_reducible exact rfl | exact Nat.le_refl _ | with_reducible exact (fun _ _ => rfl)))); all_goals ((first | rfl))) ?_; exact hi)
  · have he : hdO l 7 = some 7 := if_neg (by simp only [Int.reduceToNat]; omega)
    unfold hdV
    rw [he]
    repeat' (first | with_reducible exact trivial | with_reducible exact rfl | with_reducible exact Nat.le_refl _ | with_reducible exact (fun _ _ => rfl) | ((conv => whnf); first | (exact fun h => absurd h (by decide)) | (intro h9; (have h8 := of_decide_eq_true (p := type_of% h9) (by decide)); clear h8 h9) | (refine fun _ => ?_) | refine ⟨?_, ?_⟩ | exact trivial | exact Nat.le_refl _ | exact lex_q (by kernel_rfl) | exact lex_t (by kernel_rfl) | exact lex_h (by kernel_rfl) | fail))
    all_goals (try decide)
    all_goals (try omega)
    all_goals ((conv => whnf); refine o_one ⟨⟨_, _, _, _⟩, ⟨_, _, _, _⟩, ⟨_, _, _, _⟩, ⟨_, _, _, _⟩, ⟨_, _, _, _⟩, ⟨_, _, _, _⟩, ⟨_, _, _, _⟩, ⟨_, _, _, _⟩⟩ (by (repeat' (first | ((conv => whnf); first | refine ⟨?_, ?_⟩ | exact trivial | fail) | (dsimp only; done) | ((try dsimp only); first | with_reducible exact rfl | exact Nat.le_refl _ | with_reducible exact (fun _ _ => rfl)))); all_goals ((first | rfl | exact (hi.q7.at_ 0 (by omega)).1.symm | exact (hi.q7.at_ 0 (by omega)).2.1.symm | exact (hi.q7.at_ 0 (by omega)).2.2.symm))) ?_; exact hi)
end
noncomputable def cxHC (c : Int) : Cx Try.prog := if c < 0 ∨ 7 < c then cxHX else cx00
theorem cxHC_n0 (c : Int) : (cxHC c).n0 = 1 := by unfold cxHC; split <;> rfl
theorem hd_all (l : Ln) (c : Int) (h : LH) (hi : LnInv l h) : Runs (cxHC c) Try.f15 (.one (.a (.ptr 0 0)) :: [int_ .i64 c]) (lnMem l h) fun v m => ghosted (fun _ _ => []) v m fun v m => anyO lnK (lnRen m) v m [.one (hdV l c) (lnP l)] := by
  by_cases hx : c < 0 ∨ 7 < c
  · rw [show cxHC c = cxHX from if_pos hx]; exact hdX l c h hi hx
  · rw [show cxHC c = cx00 from if_neg hx]
    rcases (by omega : c = 0 ∨ c = 1 ∨ c = 2 ∨ c = 3 ∨ c = 4 ∨ c = 5 ∨ c = 6 ∨ c = 7) with rfl | rfl | rfl | rfl | rfl | rfl | rfl | rfl
    · exact hd0 l h hi
    · exact hd1 l h hi
    · exact hd2 l h hi
    · exact hd3 l h hi
    · exact hd4 l h hi
    · exact hd5 l h hi
    · exact hd6 l h hi
    · exact hd7 l h hi
noncomputable def headS : PSpec Try.prog := obP fn15 15 lnK (.s1 (.int .i64)) lnR lnP lnR_ok (fun _ => rfl) (fun _ c _ => cxHC c) (fun _ _ => True) (fun l c => hdV l c) (fun _ _ => []) (fun _ m => lnRen m) (fun _ c _ => cxHC_n0 c) (fun l c _ h hi => hd_all l c h hi)
/-! none there -/
def nil_ : SV := .one (.a (.v (.pointer none)))
noncomputable def cxN : Cx Try.prog := { ps := [], es := [], is := [], n0 := 0, loops := fun _ => none, cuts := fun _ => none }
theorem pickN_runs (a : A8) (_ : obp (some True)) : Runs cxN Try.f11 [nil_, a8C a] [] fun v _ => isRes (.tup [.a (i_ 0), itC ⟨0, 0, false⟩, .a .ff]) v := by
  repeat' (first | with_reducible exact trivial | with_reducible exact rfl | with_reducible exact Nat.le_refl _ | with_reducible exact (fun _ _ => rfl) | ((conv => whnf); first | (refine fun _ => ?_) | refine ⟨?_, ?_⟩ | exact trivial | exact Nat.le_refl _ | exact lex_q (by kernel_rfl) | exact lex_t (by kernel_rfl) | exact lex_h (by kernel_rfl) | fail))
noncomputable def pickN : PSpec Try.prog := pureSpec fn11 cxN rfl A8 (fun l => match l with | [.one (.a (.v (.pointer none))), .one (.agg [.v (.int .i64 a0), .v (.int .i64 a1), .v (.int .i64 a2), .v (.int .i64 a3), .v (.int .i64 a4), .v (.int .i64 a5), .v (.int .i64 a6), .v (.int .i64 a7)])] => some ⟨a0, a1, a2, a3, a4, a5, a6, a7⟩ | _ => none) (fun a => [nil_, a8C a]) (fun _ => some True) (fun _ => .tup [.a (i_ 0), itC ⟨0, 0, false⟩, .a .ff]) (fun l x h => by
  split at h
  · cases h; rfl
  · cases h) (fun _ => rfl) (fun _ => rfl) pickN_runs
theorem putN_runs (_ : Unit) (_ : obp (some True)) : Runs cxN Try.f10 [nil_, int_ .i64 0, .one (.agg [i_ 0, i_ 0, .ff])] [] fun v _ => isRes (int_ .i64 1) v := by
  repeat' (first | with_reducible exact trivial | with_reducible exact rfl | with_reducible exact Nat.le_refl _ | with_reducible exact (fun _ _ => rfl) | ((conv => whnf); first | (refine fun _ => ?_) | refine ⟨?_, ?_⟩ | exact trivial | exact Nat.le_refl _ | exact lex_q (by kernel_rfl) | exact lex_t (by kernel_rfl) | exact lex_h (by kernel_rfl) | fail))
noncomputable def putN : PSpec Try.prog := pureSpec fn10 cxN rfl Unit (fun l => match l with | [.one (.a (.v (.pointer none))), .one (.a (.v (.int .i64 0))), .one (.agg [.v (.int .i64 0), .v (.int .i64 0), .ff])] => some () | _ => none) (fun _ => [nil_, int_ .i64 0, .one (.agg [i_ 0, i_ 0, .ff])]) (fun _ => some True) (fun _ => int_ .i64 1) (fun l x h => by
  split at h
  · rfl
  · cases h) (fun _ => rfl) (fun _ => rfl) putN_runs
theorem clrN_runs (_ : Unit) (_ : obp (some True)) : Runs cxN Try.f14 [nil_] [] fun v _ => isRes (int_ .i64 0) v := by
  repeat' (first | with_reducible exact trivial | with_reducible exact rfl | with_reducible exact Nat.le_refl _ | with_reducible exact (fun _ _ => rfl) | ((conv => whnf); first | (refine fun _ => ?_) | refine ⟨?_, ?_⟩ | exact trivial | exact Nat.le_refl _ | exact lex_q (by kernel_rfl) | exact lex_t (by kernel_rfl) | exact lex_h (by kernel_rfl) | fail))
noncomputable def clrN : PSpec Try.prog := pureSpec fn14 cxN rfl Unit (fun l => match l with | [.one (.a (.v (.pointer none)))] => some () | _ => none) (fun _ => [nil_]) (fun _ => some True) (fun _ => int_ .i64 0) (fun l x h => by
  split at h
  · rfl
  · cases h) (fun _ => rfl) (fun _ => rfl) clrN_runs
theorem lenN_runs (_ : Unit) (_ : obp (some True)) : Runs cxN Try.f12 [nil_, int_ .i64 0] [] fun v _ => isRes (int_ .i64 0) v := by
  repeat' (first | with_reducible exact trivial | with_reducible exact rfl | with_reducible exact Nat.le_refl _ | with_reducible exact (fun _ _ => rfl) | ((conv => whnf); first | (refine fun _ => ?_) | refine ⟨?_, ?_⟩ | exact trivial | exact Nat.le_refl _ | exact lex_q (by kernel_rfl) | exact lex_t (by kernel_rfl) | exact lex_h (by kernel_rfl) | fail))
noncomputable def lenN : PSpec Try.prog := pureSpec fn12 cxN rfl Unit (fun l => match l with | [.one (.a (.v (.pointer none))), .one (.a (.v (.int .i64 0)))] => some () | _ => none) (fun _ => [nil_, int_ .i64 0]) (fun _ => some True) (fun _ => int_ .i64 0) (fun l x h => by
  split at h
  · rfl
  · cases h) (fun _ => rfl) (fun _ => rfl) lenN_runs
theorem lostN_runs (_ : Unit) (_ : obp (some True)) : Runs cxN Try.f13 [nil_, int_ .i64 0] [] fun v _ => isRes (int_ .i64 0) v := by
  repeat' (first | with_reducible exact trivial | with_reducible exact rfl | with_reducible exact Nat.le_refl _ | with_reducible exact (fun _ _ => rfl) | ((conv => whnf); first | (refine fun _ => ?_) | refine ⟨?_, ?_⟩ | exact trivial | exact Nat.le_refl _ | exact lex_q (by kernel_rfl) | exact lex_t (by kernel_rfl) | exact lex_h (by kernel_rfl) | fail))
noncomputable def lostN : PSpec Try.prog := pureSpec fn13 cxN rfl Unit (fun l => match l with | [.one (.a (.v (.pointer none))), .one (.a (.v (.int .i64 0)))] => some () | _ => none) (fun _ => [nil_, int_ .i64 0]) (fun _ => some True) (fun _ => int_ .i64 0) (fun l x h => by
  split at h
  · rfl
  · cases h) (fun _ => rfl) (fun _ => rfl) lostN_runs

end Go.Proofs.Ytbbiennjigpheaa
