/-
  Contracts of functions, and plain facts about them, that a claim of this seat uses.
-/
import Derived.Test.YtaadejgoafdbcaaSx
import Derived.Test.YtaadejgoafdbcaaPLanC
import Derived.Test.YtaadejgoafdbcaaPLanD
import Derived.Test.YtaadejgoafdbcaaProg
namespace Go.Proofs.Ytaadejgoafdbcaa
open Go.Sx
set_option linter.unusedVariables false
set_option linter.unusedSimpArgs false
set_option maxRecDepth 100000

/-! lanes: Put of any class, Pick, Len, Lost. -/
abbrev laFalse : LA where
  ι := Unit
  inv := fun _ => False
  T := fun _ => ⟨0, [], []⟩
  μ := fun _ => 0
  ren := fun _ => []
noncomputable def cxPX : Cx Try.prog := { ps := [], es := [], is := [], n0 := 1, loops := fun _ => none, cuts := fun i => match i with | 5 => some laFalse | _ => none }
theorem enter_false {n0 : Nat} {S : St} {C : Unit → Prop} (h : False) : enter laFalse n0 S C := h.elim
section
attribute [local irreducible] anyO putE putL enter
set_option maxHeartbeats 8000000 in
theorem putX (l : Ln) (c : Int) (x : It) (h : LH) (hi : LnInv l h) (hx : c < 0 ∨ 7 < c) : Runs cxPX Try.f21 (.one (.a (.ptr 0 0)) :: [int_ .i64 c, .one (itC x)]) (lnMem l h) fun v m => ghosted (fun _ _ => []) v m fun v m => anyO lnK (lnRen m) v m [.one (int_ .i64 (putE l c x)) (lnP (putL l c x))] := by
  repeat' (first | with_reducible exact trivial | with_reducible exact rfl | with_reducible exact Nat.le_refl _ | with_reducible exact (fun _ _ => rfl) | ((conv => whnf); first | (exact fun h => absurd h (by decide)) | (intro h9; (have h8 := of_decide_eq_true (p := type_of% h9) (by decide)); clear h8 h9) | (refine fun _ => ?_) | refine ⟨?_, ?_⟩ | exact trivial | exact Nat.le_refl _ | exact lex_q (by kernel_rfl) | exact lex_t (by kernel_rfl) | exact lex_h (by kernel_rfl) | fail))
  all_goals (try decide)
  all_goals (try exact enter_false (by omega))
  all_goals (try exact (by assumption : False).elim)
  all_goals
    obtain ⟨e0, e1⟩ : putE l c x ≠ 0 ∧ putE l c x ≠ 30 := by
      unfold putE; split
      · exact ⟨by decide, by decide⟩
      · first | exact ⟨by decide, by decide⟩ | (rw [if_pos hx]; exact ⟨by decide, by decide⟩)
    (conv => whnf); refine o_one ⟨⟨_, _, _, _⟩, ⟨_, _, _, _⟩, ⟨_, _, _, _⟩, ⟨_, _, _, _⟩, ⟨_, _, _, _⟩, ⟨_, _, _, _⟩, ⟨_, _, _, _⟩, ⟨_, _, _, _⟩⟩ (by (repeat' (first | ((conv => whnf); first | refine ⟨?_, ?_⟩ | exact trivial | fail) | (dsimp only; done) | ((try dsimp only); first | with_reducible exact rfl | exact Nat.le_refl _ | with_reducible exact (fun _ _ => rfl)))); all_goals ((first | exact put_1 (by omega) | exact put_40 (by omega) hx | rfl | (rw [lnOf_P, put_room]) | (rw [lnOf_P, put_n' e0]) | (rw [lnOf_P, put_lost' e1])))) ?_; exact put_inv' hi e0
end
noncomputable def cxPutC (c : Int) : Cx Try.prog := if c < 0 ∨ 7 < c then cxPX else cxPut (c.toNat + 1)
theorem cxPutC_in {k : Nat} (hk : k < 8) : cxPutC (k : Int) = cxPut (k + 1) := by
  unfold cxPutC; rw [if_neg (by omega)]; rfl
theorem put_runs (l : Ln) (y : Int × It) (h : LH) (hi : LnInv l h) : Runs (cxPutC y.1) Try.f21 (.one (.a (.ptr 0 0)) :: [int_ .i64 y.1, .one (itC y.2)]) (lnMem l h) fun v m => ghosted (fun _ _ => []) v m fun v m => anyO lnK (lnRen m) v m [.one (int_ .i64 (putE l y.1 y.2)) (lnP (putL l y.1 y.2))] := by
  obtain ⟨c, x⟩ := y
  by_cases hx : c < 0 ∨ 7 < c
  · rw [show cxPutC c = cxPX from if_pos hx]; exact putX l c x h hi hx
  · rcases (by omega : c = ((0 : Nat) : Int) ∨ c = ((1 : Nat) : Int) ∨ c = ((2 : Nat) : Int) ∨ c = ((3 : Nat) : Int) ∨ c = ((4 : Nat) : Int) ∨ c = ((5 : Nat) : Int) ∨ c = ((6 : Nat) : Int) ∨ c = ((7 : Nat) : Int)) with rfl | rfl | rfl | rfl | rfl | rfl | rfl | rfl
    · rw [cxPutC_in (by decide)]; exact put0 l x h hi
    · rw [cxPutC_in (by decide)]; exact put1 l x h hi
    · rw [cxPutC_in (by decide)]; exact put2 l x h hi
    · rw [cxPutC_in (by decide)]; exact put3 l x h hi
    · rw [cxPutC_in (by decide)]; exact put4 l x h hi
    · rw [cxPutC_in (by decide)]; exact put5 l x h hi
    · rw [cxPutC_in (by decide)]; exact put6 l x h hi
    · rw [cxPutC_in (by decide)]; exact put7 l x h hi
theorem cxPutC_n0 (c : Int) : (cxPutC c).n0 = 1 := by unfold cxPutC; split <;> rfl
noncomputable def putS : ESpec Try.prog := obN fn21 15 lnK (.s2 (.int .i64) Lens.it) lnR lnP lnR_ok (fun _ => rfl) (fun _ y _ => cxPutC y.1) (fun _ _ => True) (fun l y => [.one (int_ .i64 (putE l y.1 y.2)) (lnP (putL l y.1 y.2))]) (fun _ _ => []) (fun _ m => lnRen m) (fun _ y _ => cxPutC_n0 y.1) (fun l y _ h hi => put_runs l y h hi)
noncomputable def pickS : ESpec Try.prog := obN fn24 15 lnK (.s1 Lens.a8) lnR lnP lnR_ok (fun _ => rfl) (fun l a h => cxPick l h a (pk l a)) (fun _ _ => True) (fun l a => [.one (pkV l (pk l a)) (lnP (popL l (pk l a)))]) (fun v _ => pkGs v) (fun _ m => lnRen m) (fun _ _ _ => rfl) (fun l a _ h hi => pick_runs l a h hi _ rfl)
noncomputable def cx00 : Cx Try.prog := { ps := [], es := [], is := [], n0 := 1, loops := fun _ => none, cuts := fun _ => none }
def lenV (l : Ln) (c : Int) : Int := if c < 0 ∨ 7 < c then 0 else l.n c.toNat
def lostV (l : Ln) (c : Int) : Int := if c < 0 ∨ 7 < c then 0 else l.lost c.toNat
section
attribute [local irreducible] anyO lenV lostV
set_option maxHeartbeats 8000000 in
theorem len_runs (l : Ln) (c : Int) (h : LH) (hi : LnInv l h) : Runs cx00 Try.f26 (.one (.a (.ptr 0 0)) :: [int_ .i64 c]) (lnMem l h) fun v m => ghosted (fun _ _ => []) v m fun v m => anyO lnK (lnRen m) v m [.one (int_ .i64 (lenV l c)) (lnP l)] := by
  repeat' (first | with_reducible exact trivial | with_reducible exact rfl | with_reducible exact Nat.le_refl _ | with_reducible exact (fun _ _ => rfl) | ((conv => whnf); first | (exact fun h => absurd h (by decide)) | (intro h9; (have h8 := of_decide_eq_true (p := type_of% h9) (by decide)); clear h8 h9) | (refine fun _ => ?_) | refine ⟨?_, ?_⟩ | exact trivial | exact Nat.le_refl _ | exact lex_q (by kernel_rfl) | exact lex_t (by kernel_rfl) | exact lex_h (by kernel_rfl) | fail))
  all_goals (try decide)
  all_goals (try omega)
  all_goals ((conv => whnf); refine o_one ⟨⟨_, _, _, _⟩, ⟨_, _, _, _⟩, ⟨_, _, _, _⟩, ⟨_, _, _, _⟩, ⟨_, _, _, _⟩, ⟨_, _, _, _⟩, ⟨_, _, _, _⟩, ⟨_, _, _, _⟩⟩ (by (repeat' (first | ((conv => whnf); first | refine ⟨?_, ?_⟩ | exact trivial | fail) | (dsimp only; done) | ((try dsimp only); first | with_reducible exact rfl | exact Nat.le_refl _ | with_reducible exact (fun _ _ => rfl)))); all_goals ((first | rfl | (unfold lenV; first | exact if_pos (by omega) | (subst c; rfl))))) ?_; exact hi)
set_option maxHeartbeats 8000000 in
theorem lost_runs (l : Ln) (c : Int) (h : LH) (hi : LnInv l h) : Runs cx00 Try.f27 (.one (.a (.ptr 0 0)) :: [int_ .i64 c]) (lnMem l h) fun v m => ghosted (fun _ _ => []) v m fun v m => anyO lnK (lnRen m) v m [.one (int_ .i64 (lostV l c)) (lnP l)] := by
  repeat' (first | with_reducible exact trivial | with_reducible exact rfl | with_reducible exact Nat.le_refl _ | with_reducible exact (fun _ _ => rfl) | ((conv => whnf); first | (exact fun h => absurd h (by decide)) | (intro h9; (have h8 := of_decide_eq_true (p := type_of% h9) (by decide)); clear h8 h9) | (refine fun _ => ?_) | refine ⟨?_, ?_⟩ | exact trivial | exact Nat.le_refl _ | exact lex_q (by kernel_rfl) | exact lex_t (by kernel_rfl) | exact lex_h (by kernel_rfl) | fail))
  all_goals (try decide)
  all_goals (try omega)
  all_goals ((conv => whnf); refine o_one ⟨⟨_, _, _, _⟩, ⟨_, _, _, _⟩, ⟨_, _, _, _⟩, ⟨_, _, _, _⟩, ⟨_, _, _, _⟩, ⟨_, _, _, _⟩, ⟨_, _, _, _⟩, ⟨_, _, _, _⟩⟩ (by (repeat' (first | ((conv => whnf); first | refine ⟨?_, ?_⟩ | exact trivial | fail) | (dsimp only; done) | ((try dsimp only); first | with_reducible exact rfl | exact Nat.le_refl _ | with_reducible exact (fun _ _ => rfl)))); all_goals ((first | rfl | (unfold lostV; first | exact if_pos (by omega) | (subst c; rfl))))) ?_; exact hi)
end
noncomputable def lenS : PSpec Try.prog := obP fn26 15 lnK (.s1 (.int .i64)) lnR lnP lnR_ok (fun _ => rfl) (fun _ _ _ => cx00) (fun _ _ => True) (fun l c => int_ .i64 (lenV l c)) (fun _ _ => []) (fun _ m => lnRen m) (fun _ _ _ => rfl) (fun l c _ h hi => len_runs l c h hi)
noncomputable def lostS : PSpec Try.prog := obP fn27 15 lnK (.s1 (.int .i64)) lnR lnP lnR_ok (fun _ => rfl) (fun _ _ _ => cx00) (fun _ _ => True) (fun l c => int_ .i64 (lostV l c)) (fun _ _ => []) (fun _ m => lnRen m) (fun _ _ _ => rfl) (fun l c _ h hi => lost_runs l c h hi)

end Go.Proofs.Ytaadejgoafdbcaa
