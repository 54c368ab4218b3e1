/-
  Contracts of functions, and plain facts about them, that a claim of this seat uses.
-/
import Derived.Test.YtlhlegjndembdaaSx
import Derived.Test.YtlhlegjndembdaaSeqA
import Derived.Test.YtlhlegjndembdaaProg
namespace Go.Proofs.Ytlhlegjndembdaa
open Go.Sx
set_option linter.unusedVariables false
set_option linter.unusedSimpArgs false
set_option maxRecDepth 100000

/-! numbers that came: In. -/
theorem mid_ok (s : Sq) (n q : Int) (hl : 1 ≤ s.len ∧ s.len ≤ 9223372036854775807) : (1 ≤ ((s.turn n).match_ q).2.len ∧ ((s.turn n).match_ q).2.len ≤ 9223372036854775807) ∧ (0 ≤ ((s.turn n).match_ q).1 ∧ ((s.turn n).match_ q).1 < 4) ∧ (0 ≤ (((s.turn n).match_ q).2.vector q).1 ∧ (((s.turn n).match_ q).2.vector q).1 < 4) := by
  have m1 := match_len (s.turn n) q
  have t1 := turn_len s n
  have v1 := vector_len ((s.turn n).match_ q).2 q
  exact ⟨by rw [m1.1, t1.1]; exact hl, m1.2.2.2, v1.2.2.2⟩
abbrev laI (s : Sq) (n q : Int) : LA where
  ι := Int × Sq
  inv := fun x => s.mid n q = (x.1, x.2) ∧ 0 ≤ x.1 ∧ x.1 < 4
  T := fun x => ⟨58, [(0, .one (.a (.ptr 0 0))), (1, int_ .i64 n), (8, int_ .i64 x.1)], [some ⟨true, .flat x.2.cells⟩]⟩
  μ := fun _ => 0
  ren := fun _ => [0]
noncomputable def cxIn (s : Sq) (n q : Int) : Cx Try.prog := { ps := [], es := [turnS, matchS, vectorS], is := [], n0 := 1, loops := fun _ => none, cuts := fun i => match i with | 7 => some (laI s n q) | _ => none }
theorem in_bad {s : Sq} {n q : Int} (h : q < 0 ∨ 65536 ≤ q) : s.in_ n q = (2, 1, s) := by
  unfold Sq.in_
  rw [if_pos h]
theorem in_mid {s : Sq} {n q : Int} {w : Int} {t : Sq} (h : ¬ (q < 0 ∨ 65536 ≤ q)) (hm : s.mid n q = (w, t)) : s.in_ n q = (w, 0, (t.bump w).fin w n) := by
  unfold Sq.in_
  rw [if_neg h, hm]
section
attribute [local irreducible] enter anyAlt
set_option maxHeartbeats 16000000 in
theorem in_runs (s : Sq) (n q : Int) (hl : 1 ≤ s.len ∧ s.len ≤ 9223372036854775807) : Runs (cxIn s n q) Try.f17 [.one (.a (.ptr 0 0)), int_ .i64 n, int_ .i64 q] [some ⟨true, .flat s.cells⟩] fun v m' => anyAlt [some ⟨true, .flat s.cells⟩] [0] v m' [.one (.tup [.a (i_ (s.in_ n q).1), .a (i_ (s.in_ n q).2.1)]) [some ⟨true, .flat (s.in_ n q).2.2.cells⟩]] := by
  obtain ⟨hl1, mb, vb⟩ := mid_ok s n q hl
  repeat' (first | with_reducible exact trivial | with_reducible exact rfl | with_reducible exact Nat.le_refl _ | with_reducible exact (fun _ _ => rfl) | ((conv => whnf); first | (refine fun (x : Int × Sq) => ?_) | (refine fun _ => ?_) | refine ⟨?_, ?_⟩ | exact trivial | exact Nat.le_refl _ | exact lex_q (by kernel_rfl) | exact lex_t (by kernel_rfl) | exact lex_h (by kernel_rfl) | fail))
  all_goals (try (have hi := (by assumption : (laI s n q).inv x); dsimp only [laI] at hi))
  all_goals (try omega)
  all_goals (try (exfalso; obtain ⟨w, t⟩ := x; clear hi hl hl1 mb vb; simp at *; omega))
  all_goals (try exact hl1.1)
  all_goals (try exact hl1.2)
  any_goals first
    | (refine enter_mk (la := laI s n q) ((((s.turn n).match_ q).2.vector q).1, (((s.turn n).match_ q).2.vector q).2) ?_ (by (repeat' (first | ((conv => whnf); first | refine ⟨?_, ?_⟩ | exact trivial | fail) | (dsimp only; done) | ((try dsimp only); first | with_reducible exact rfl | exact Nat.le_refl _ | with_reducible exact (fun _ _ => rfl)))); first | ((all_goals ((try dsimp only [id] at *); (all_goals (try simp (disch := omega) only [w64', wu64', tdiv_pos, tmod_pos, Int.toNat_natCast, Nat.zero_add] at *)); (all_goals (rfl)))); done) | fail))
    | (refine enter_mk (la := laI s n q) (((s.turn n).match_ q).1, ((s.turn n).match_ q).2) ?_ (by (repeat' (first | ((conv => whnf); first | refine ⟨?_, ?_⟩ | exact trivial | fail) | (dsimp only; done) | ((try dsimp only); first | with_reducible exact rfl | exact Nat.le_refl _ | with_reducible exact (fun _ _ => rfl)))); first | ((all_goals ((try dsimp only [id] at *); (all_goals (try simp (disch := omega) only [w64', wu64', tdiv_pos, tmod_pos, Int.toNat_natCast, Nat.zero_add] at *)); (all_goals (rfl)))); done) | fail))
    | (refine alt_one (by (repeat' (first | with_reducible exact rfl | exact Nat.le_refl _ | with_reducible exact (fun _ _ => rfl) | ((conv => whnf); first | refine ⟨?_, ?_⟩ | exact trivial | fail))); first | ((all_goals ((try dsimp only [id] at *); (all_goals (try simp (disch := omega) only [w64', wu64', tdiv_pos, tmod_pos, Int.toNat_natCast, Nat.zero_add] at *)); (all_goals ((rw [in_bad (by omega)]))))); done) | fail))
    | fail
  all_goals (try (refine ⟨?_, by first | exact mb | exact vb⟩; unfold Sq.mid; first | exact if_pos (by assumption) | exact if_neg (by assumption)))
  all_goals
    obtain ⟨w, t⟩ := x
    have e := in_mid (s := s) (n := n) (q := q) (by omega) hi.1
    dsimp only at e
    clear hi hl hl1 mb vb
    first
    | (obtain rfl : w = 0 := by assumption
       refine alt_one (by (repeat' (first | with_reducible exact rfl | exact Nat.le_refl _ | with_reducible exact (fun _ _ => rfl) | ((conv => whnf); first | refine ⟨?_, ?_⟩ | exact trivial | fail))); first | ((all_goals ((try dsimp only [id] at *); (all_goals (try simp (disch := omega) only [w64', wu64', tdiv_pos, tmod_pos, Int.toNat_natCast, Nat.zero_add] at *)); (all_goals ((rw [e]; try rfl))))); done) | fail))
    | (obtain rfl : w = 1 := by assumption
       refine alt_one (by (repeat' (first | with_reducible exact rfl | exact Nat.le_refl _ | with_reducible exact (fun _ _ => rfl) | ((conv => whnf); first | refine ⟨?_, ?_⟩ | exact trivial | fail))); first | ((all_goals ((try dsimp only [id] at *); (all_goals (try simp (disch := omega) only [w64', wu64', tdiv_pos, tmod_pos, Int.toNat_natCast, Nat.zero_add] at *)); (all_goals ((rw [e]; try rfl))))); done) | fail))
    | (obtain rfl : w = 2 := by assumption
       refine alt_one (by (repeat' (first | with_reducible exact rfl | exact Nat.le_refl _ | with_reducible exact (fun _ _ => rfl) | ((conv => whnf); first | refine ⟨?_, ?_⟩ | exact trivial | fail))); first | ((all_goals ((try dsimp only [id] at *); (all_goals (try simp (disch := omega) only [w64', wu64', tdiv_pos, tmod_pos, Int.toNat_natCast, Nat.zero_add] at *)); (all_goals ((rw [e]; try rfl))))); done) | fail))
    | (obtain rfl : w = 3 := by assumption
       refine alt_one (by (repeat' (first | with_reducible exact rfl | exact Nat.le_refl _ | with_reducible exact (fun _ _ => rfl) | ((conv => whnf); first | refine ⟨?_, ?_⟩ | exact trivial | fail))); first | ((all_goals ((try dsimp only [id] at *); (all_goals (try simp (disch := omega) only [w64', wu64', tdiv_pos, tmod_pos, Int.toNat_natCast, Nat.zero_add] at *)); (all_goals ((rw [e]; try rfl))))); done) | fail))
    | fail
end

end Go.Proofs.Ytlhlegjndembdaa
