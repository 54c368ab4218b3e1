/-
  Contracts of functions, and plain facts about them, that a claim of this seat uses.
-/
import Derived.Test.YtnkmfkongmijfaaSx
import Derived.Test.YtnkmfkongmijfaaFdbI
import Derived.Test.YtnkmfkongmijfaaProg
namespace Go.Proofs.Ytnkmfkongmijfaa
open Go.Sx
set_option linter.unusedVariables false
set_option linter.unusedSimpArgs false
set_option maxRecDepth 100000

/-! fdb: SetPort, In. -/
inductive M9 where
  | m0 | m1 | m2 | m3 | m4 | m5 | m6 | m7 | m8
def M9.n : M9 → Nat
  | .m0 => 0 | .m1 => 1 | .m2 => 2 | .m3 => 3 | .m4 => 4 | .m5 => 5 | .m6 => 6 | .m7 => 7 | .m8 => 8
/-- priorities up to one are such -/
def prTo (p : Pt) (n : Nat) : Prop := ∀ k, k < n → 0 ≤ p.p k ∧ p.p k ≤ 7
theorem pr_0 (p : Pt) : prTo p 0 := fun k hk => absurd hk (Nat.not_lt_zero k)
theorem pr_next {p : Pt} {k : Nat} (h : prTo p k) (h1 : ¬ p.p k < 0) (h2 : ¬ 7 < p.p k) : prTo p (k + 1) := by
  intro j hj
  rcases (by omega : j < k ∨ j = k) with h3 | rfl
  · exact h j h3
  · exact ⟨by omega, by omega⟩
open Classical in
noncomputable def stE (t : Ft) (a : Int) (p : Pt) : Int := if a < 0 ∨ (t.n : Int) ≤ a then 40 else if ¬ prTo p 8 ∨ ¬ vidP p.v then 1 else 0
def putPt (t : Ft) (a : Int) (p : Pt) : Ft := { t with pv := fun r => if r = a.toNat then p.v else t.pv r, pp := fun k r => if r = a.toNat then p.p k else t.pp k r }
open Classical in
noncomputable def stT (t : Ft) (a : Int) (p : Pt) : Ft := if stE t a p = 0 then putPt t a p else t
theorem st_40 {t : Ft} {a : Int} {p : Pt} (h : a < 0 ∨ (t.n : Int) ≤ a) : stE t a p = 40 ∧ stT t a p = t := by
  have h1 : stE t a p = 40 := if_pos h
  exact ⟨h1, if_neg (by rw [h1]; decide)⟩
theorem st_1 {t : Ft} {a : Int} {p : Pt} (h : ¬ (a < 0 ∨ (t.n : Int) ≤ a)) (h2 : ¬ prTo p 8 ∨ ¬ vidP p.v) : stE t a p = 1 ∧ stT t a p = t := by
  have h1 : stE t a p = 1 := by unfold stE; rw [if_neg h, if_pos h2]
  exact ⟨h1, if_neg (by rw [h1]; decide)⟩
theorem st_0 {t : Ft} {a : Int} {p : Pt} (h : ¬ (a < 0 ∨ (t.n : Int) ≤ a)) (h2 : prTo p 8) (h3 : vidP p.v) : stE t a p = 0 ∧ stT t a p = putPt t a p := by
  have h1 : stE t a p = 0 := by
    unfold stE
    rw [if_neg h, if_neg]
    rintro (h4 | h4)
    · exact h4 h2
    · exact h4 h3
  exact ⟨h1, if_pos h1⟩
theorem st_bad {t : Ft} {a : Int} {p : Pt} {k : Nat} (h : ¬ (a < 0 ∨ (t.n : Int) ≤ a)) (hk : k < 8) (h2 : p.p k < 0 ∨ 7 < p.p k) : stE t a p = 1 ∧ stT t a p = t :=
  st_1 h (.inl fun h3 => by have := h3 k hk; omega)
def ptsC (p : Pt) : SV := .one (.agg [i_ p.p0, i_ p.p1, i_ p.p2, i_ p.p3, i_ p.p4, i_ p.p5, i_ p.p6, i_ p.p7])
def ptL (p : Pt) : List SA := [i_ p.v, i_ p.p0, i_ p.p1, i_ p.p2, i_ p.p3, i_ p.p4, i_ p.p5, i_ p.p6, i_ p.p7]
noncomputable abbrev laSt (t : Ft) (a : Int) (p : Pt) (h : FH) : LA where
  ι := M9
  inv := fun c => prTo p c.n
  T := fun c => ⟨44, [(0, .one (.a (.ptr 0 0))), (1, int_ .i64 a), (5, .one (.a (.ptr 4 0))), (6, int_ .i64 0), (22, ptsC p), (23, int_ .i64 c.n)], [some ⟨true, .flat (ftCells t h)⟩, vlR h.mv t.cv t.vl, poR h, alR h.ma t.ca t.al, some ⟨true, .flat (ptL p)⟩]⟩
  μ := fun c => 8 - c.n
  ren := fun S => [0, 1, 2, 3, S.ix 5]
noncomputable def cxSt (t : Ft) (a : Int) (p : Pt) (h : FH) : Cx Try.prog := { ps := [vidS, grpS], es := [], is := [], n0 := 1, loops := fun i => match i with | 6 => some (.inv (laSt t a p h)) | _ => none, cuts := fun _ => none, xr := xrs, xa := xas }
theorem put_inv {t : Ft} {h : FH} (hi : FtInv t h) {a : Int} {p : Pt} (hp : vidP p.v) {h2 : FH} (hc : h2.cap = h.cap)
    (hv : ∀ r, h2.v r = (if r = a.toNat then p.v else h.v r) ∧ h2.q0 r = (if r = a.toNat then p.p0 else h.q0 r) ∧ h2.q1 r = (if r = a.toNat then p.p1 else h.q1 r) ∧ h2.q2 r = (if r = a.toNat then p.p2 else h.q2 r) ∧ h2.q3 r = (if r = a.toNat then p.p3 else h.q3 r) ∧ h2.q4 r = (if r = a.toNat then p.p4 else h.q4 r) ∧ h2.q5 r = (if r = a.toNat then p.p5 else h.q5 r) ∧ h2.q6 r = (if r = a.toNat then p.p6 else h.q6 r) ∧ h2.q7 r = (if r = a.toNat then p.p7 else h.q7 r)) : FtInv (putPt t a p) h2 := by
  refine ⟨hi.n, hi.room, by rw [hc]; exact hi.cap, fun r hr => ?_, hi.al, hi.le, fun r hr => ?_⟩
  · obtain ⟨a0, a1, a2, a3, a4, a5, a6, a7, a8⟩ := hi.at_ r hr
    obtain ⟨b0, b1, b2, b3, b4, b5, b6, b7, b8⟩ := hv r
    rw [a0] at b0; rw [a1] at b1; rw [a2] at b2; rw [a3] at b3; rw [a4] at b4; rw [a5] at b5; rw [a6] at b6; rw [a7] at b7; rw [a8] at b8
    exact ⟨b0, b1, b2, b3, b4, b5, b6, b7, b8⟩
  · show 1 ≤ (if r = a.toNat then p.v else t.pv r) ∧ (if r = a.toNat then p.v else t.pv r) ≤ 4094
    split
    · exact hp
    · exact hi.pv r hr
section
attribute [local irreducible] anyO enter prTo
set_option maxHeartbeats 8000000 in
theorem st_runs (t : Ft) (y : Int × Pt) (h : FH) (hi : FtInv t h) : Runs (cxSt t y.1 y.2 h) Try.f18 (.one (.a (.ptr 0 0)) :: [int_ .i64 y.1, .one (ptC y.2)]) (ftMem t h) fun v m => ghosted (fun _ _ => []) v m fun v m => anyO ftK (ftRen m) v m [.one (int_ .i64 (stE t y.1 y.2)) (ftP (stT t y.1 y.2))] := by
  obtain ⟨a, p⟩ := y
  repeat' (first | with_reducible exact trivial | with_reducible exact rfl | with_reducible exact Nat.le_refl _ | with_reducible exact (fun _ _ => rfl) | ((conv => whnf); first | ((refine fun (x : M9) => ?_); rcases x with x | x | x | x | x | x | x | x | x) | (exact fun h => absurd h (by decide)) | (intro h9; (have h8 := of_decide_eq_true (p := type_of% h9) (by decide)); clear h8 h9) | (refine fun _ => ?_) | refine ⟨?_, ?_⟩ | exact trivial | exact Nat.le_refl _ | exact lex_q (by kernel_rfl) | exact lex_t (by kernel_rfl) | exact lex_h (by kernel_rfl) | fail))
  all_goals (try dsimp only at *)
  all_goals (try decide)
  · rw [(st_40 (.inl (by assumption))).1, (st_40 (p := p) (.inl (by assumption))).2]
    (conv => whnf); refine o_one ⟨_, _, _, _, _, _, _, _, _, _, _, _⟩ (by (repeat' (first | ((conv => whnf); first | refine ⟨?_, ?_⟩ | exact trivial | fail) | (dsimp only; done) | ((try dsimp only); first | with_reducible exact rfl | exact Nat.le_refl _ | with_reducible exact (fun _ _ => rfl)))); all_goals ((first | rfl))) ?_; exact hi
  · rw [(st_40 (.inr (by assumption))).1, (st_40 (p := p) (.inr (by assumption))).2]
    (conv => whnf); refine o_one ⟨_, _, _, _, _, _, _, _, _, _, _, _⟩ (by (repeat' (first | ((conv => whnf); first | refine ⟨?_, ?_⟩ | exact trivial | fail) | (dsimp only; done) | ((try dsimp only); first | with_reducible exact rfl | exact Nat.le_refl _ | with_reducible exact (fun _ _ => rfl)))); all_goals ((first | rfl))) ?_; exact hi
  all_goals (have hr : ¬ (a < 0 ∨ (t.n : Int) ≤ a) := by omega)
  · (conv => whnf); refine enter_mk (la := laSt t a p h) M9.m0 ?_ (by (repeat' (first | ((conv => whnf); first | refine ⟨?_, ?_⟩ | exact trivial | fail) | (dsimp only; done) | ((try dsimp only); first | with_reducible exact rfl | exact Nat.le_refl _ | with_reducible exact (fun _ _ => rfl)))); all_goals ((first | rfl | decide))); exact pr_0 p
  · obtain ⟨e1, e2⟩ := st_bad (p := p) (k := 0) hr (by decide) (.inl (by assumption))
    rw [e1, e2]
    (conv => whnf); refine o_one ⟨_, _, _, _, _, _, _, _, _, _, _, _⟩ (by (repeat' (first | ((conv => whnf); first | refine ⟨?_, ?_⟩ | exact trivial | fail) | (dsimp only; done) | ((try dsimp only); first | with_reducible exact rfl | exact Nat.le_refl _ | with_reducible exact (fun _ _ => rfl)))); all_goals ((first | rfl))) ?_; exact hi
  · obtain ⟨e1, e2⟩ := st_bad (p := p) (k := 0) hr (by decide) (.inr (by assumption))
    rw [e1, e2]
    (conv => whnf); refine o_one ⟨_, _, _, _, _, _, _, _, _, _, _, _⟩ (by (repeat' (first | ((conv => whnf); first | refine ⟨?_, ?_⟩ | exact trivial | fail) | (dsimp only; done) | ((try dsimp only); first | with_reducible exact rfl | exact Nat.le_refl _ | with_reducible exact (fun _ _ => rfl)))); all_goals ((first | rfl))) ?_; exact hi
  · (conv => whnf); refine enter_mk (la := laSt t a p h) M9.m1 ?_ (by (repeat' (first | ((conv => whnf); first | refine ⟨?_, ?_⟩ | exact trivial | fail) | (dsimp only; done) | ((try dsimp only); first | with_reducible exact rfl | exact Nat.le_refl _ | with_reducible exact (fun _ _ => rfl)))); all_goals ((first | rfl | decide))); exact pr_next (k := 0) (by assumption : (laSt t a p h).inv M9.m0) (by assumption) (by assumption)
  · obtain ⟨e1, e2⟩ := st_bad (p := p) (k := 1) hr (by decide) (.inl (by assumption))
    rw [e1, e2]
    (conv => whnf); refine o_one ⟨_, _, _, _, _, _, _, _, _, _, _, _⟩ (by (repeat' (first | ((conv => whnf); first | refine ⟨?_, ?_⟩ | exact trivial | fail) | (dsimp only; done) | ((try dsimp only); first | with_reducible exact rfl | exact Nat.le_refl _ | with_reducible exact (fun _ _ => rfl)))); all_goals ((first | rfl))) ?_; exact hi
  · obtain ⟨e1, e2⟩ := st_bad (p := p) (k := 1) hr (by decide) (.inr (by assumption))
    rw [e1, e2]
    (conv => whnf); refine o_one ⟨_, _, _, _, _, _, _, _, _, _, _, _⟩ (by (repeat' (first | ((conv => whnf); first | refine ⟨?_, ?_⟩ | exact trivial | fail) | (dsimp only; done) | ((try dsimp only); first | with_reducible exact rfl | exact Nat.le_refl _ | with_reducible exact (fun _ _ => rfl)))); all_goals ((first | rfl))) ?_; exact hi
  · (conv => whnf); refine enter_mk (la := laSt t a p h) M9.m2 ?_ (by (repeat' (first | ((conv => whnf); first | refine ⟨?_, ?_⟩ | exact trivial | fail) | (dsimp only; done) | ((try dsimp only); first | with_reducible exact rfl | exact Nat.le_refl _ | with_reducible exact (fun _ _ => rfl)))); all_goals ((first | rfl | decide))); exact pr_next (k := 1) (by assumption : (laSt t a p h).inv M9.m1) (by assumption) (by assumption)
  · obtain ⟨e1, e2⟩ := st_bad (p := p) (k := 2) hr (by decide) (.inl (by assumption))
    rw [e1, e2]
    (conv => whnf); refine o_one ⟨_, _, _, _, _, _, _, _, _, _, _, _⟩ (by (repeat' (first | ((conv => whnf); first | refine ⟨?_, ?_⟩ | exact trivial | fail) | (dsimp only; done) | ((try dsimp only); first | with_reducible exact rfl | exact Nat.le_refl _ | with_reducible exact (fun _ _ => rfl)))); all_goals ((first | rfl))) ?_; exact hi
  · obtain ⟨e1, e2⟩ := st_bad (p := p) (k := 2) hr (by decide) (.inr (by assumption))
    rw [e1, e2]
    (conv => whnf); refine o_one ⟨_, _, _, _, _, _, _, _, _, _, _, _⟩ (by (repeat' (first | ((conv => whnf); first | refine ⟨?_, ?_⟩ | exact trivial | fail) | (dsimp only; done) | ((try dsimp only); first | with_reducible exact rfl | exact Nat.le_refl _ | with_reducible exact (fun _ _ => rfl)))); all_goals ((first | rfl))) ?_; exact hi
  · (conv => whnf); refine enter_mk (la := laSt t a p h) M9.m3 ?_ (by (repeat' (first | ((conv => whnf); first | refine ⟨?_, ?_⟩ | exact trivial | fail) | (dsimp only; done) | ((try dsimp only); first | with_reducible exact rfl | exact Nat.le_refl _ | with_reducible exact (fun _ _ => rfl)))); all_goals ((first | rfl | decide))); exact pr_next (k := 2) (by assumption : (laSt t a p h).inv M9.m2) (by assumption) (by assumption)
  · obtain ⟨e1, e2⟩ := st_bad (p := p) (k := 3) hr (by decide) (.inl (by assumption))
    rw [e1, e2]
    (conv => whnf); refine o_one ⟨_, _, _, _, _, _, _, _, _, _, _, _⟩ (by (repeat' (first | ((conv => whnf); first | refine ⟨?_, ?_⟩ | exact trivial | fail) | (dsimp only; done) | ((try dsimp only); first | with_reducible exact rfl | exact Nat.le_refl _ | with_reducible exact (fun _ _ => rfl)))); all_goals ((first | rfl))) ?_; exact hi
  · obtain ⟨e1, e2⟩ := st_bad (p := p) (k := 3) hr (by decide) (.inr (by assumption))
    rw [e1, e2]
    (conv => whnf); refine o_one ⟨_, _, _, _, _, _, _, _, _, _, _, _⟩ (by (repeat' (first | ((conv => whnf); first | refine ⟨?_, ?_⟩ | exact trivial | fail) | (dsimp only; done) | ((try dsimp only); first | with_reducible exact rfl | exact Nat.le_refl _ | with_reducible exact (fun _ _ => rfl)))); all_goals ((first | rfl))) ?_; exact hi
  · (conv => whnf); refine enter_mk (la := laSt t a p h) M9.m4 ?_ (by (repeat' (first | ((conv => whnf); first | refine ⟨?_, ?_⟩ | exact trivial | fail) | (dsimp only; done) | ((try dsimp only); first | with_reducible exact rfl | exact Nat.le_refl _ | with_reducible exact (fun _ _ => rfl)))); all_goals ((first | rfl | decide))); exact pr_next (k := 3) (by assumption : (laSt t a p h).inv M9.m3) (by assumption) (by assumption)
  · obtain ⟨e1, e2⟩ := st_bad (p := p) (k := 4) hr (by decide) (.inl (by assumption))
    rw [e1, e2]
    (conv => whnf); refine o_one ⟨_, _, _, _, _, _, _, _, _, _, _, _⟩ (by (repeat' (first | ((conv => whnf); first | refine ⟨?_, ?_⟩ | exact trivial | fail) | (dsimp only; done) | ((try dsimp only); first | with_reducible exact rfl | exact Nat.le_refl _ | with_reducible exact (fun _ _ => rfl)))); all_goals ((first | rfl))) ?_; exact hi
  · obtain ⟨e1, e2⟩ := st_bad (p := p) (k := 4) hr (by decide) (.inr (by assumption))
    rw [e1, e2]
    (conv => whnf); refine o_one ⟨_, _, _, _, _, _, _, _, _, _, _, _⟩ (by (repeat' (first | ((conv => whnf); first | refine ⟨?_, ?_⟩ | exact trivial | fail) | (dsimp only; done) | ((try dsimp only); first | with_reducible exact rfl | exact Nat.le_refl _ | with_reducible exact (fun _ _ => rfl)))); all_goals ((first | rfl))) ?_; exact hi
  · (conv => whnf); refine enter_mk (la := laSt t a p h) M9.m5 ?_ (by (repeat' (first | ((conv => whnf); first | refine ⟨?_, ?_⟩ | exact trivial | fail) | (dsimp only; done) | ((try dsimp only); first | with_reducible exact rfl | exact Nat.le_refl _ | with_reducible exact (fun _ _ => rfl)))); all_goals ((first | rfl | decide))); exact pr_next (k := 4) (by assumption : (laSt t a p h).inv M9.m4) (by assumption) (by assumption)
  · obtain ⟨e1, e2⟩ := st_bad (p := p) (k := 5) hr (by decide) (.inl (by assumption))
    rw [e1, e2]
    (conv => whnf); refine o_one ⟨_, _, _, _, _, _, _, _, _, _, _, _⟩ (by (repeat' (first | ((conv => whnf); first | refine ⟨?_, ?_⟩ | exact trivial | fail) | (dsimp only; done) | ((try dsimp only); first | with_reducible exact rfl | exact Nat.le_refl _ | with_reducible exact (fun _ _ => rfl)))); all_goals ((first | rfl))) ?_; exact hi
  · obtain ⟨e1, e2⟩ := st_bad (p := p) (k := 5) hr (by decide) (.inr (by assumption))
    rw [e1, e2]
    (conv => whnf); refine o_one ⟨_, _, _, _, _, _, _, _, _, _, _, _⟩ (by (repeat' (first | ((conv => whnf); first | refine ⟨?_, ?_⟩ | exact trivial | fail) | (dsimp only; done) | ((try dsimp only); first | with_reducible exact rfl | exact Nat.le_refl _ | with_reducible exact (fun _ _ => rfl)))); all_goals ((first | rfl))) ?_; exact hi
  · (conv => whnf); refine enter_mk (la := laSt t a p h) M9.m6 ?_ (by (repeat' (first | ((conv => whnf); first | refine ⟨?_, ?_⟩ | exact trivial | fail) | (dsimp only; done) | ((try dsimp only); first | with_reducible exact rfl | exact Nat.le_refl _ | with_reducible exact (fun _ _ => rfl)))); all_goals ((first | rfl | decide))); exact pr_next (k := 5) (by assumption : (laSt t a p h).inv M9.m5) (by assumption) (by assumption)
  · obtain ⟨e1, e2⟩ := st_bad (p := p) (k := 6) hr (by decide) (.inl (by assumption))
    rw [e1, e2]
    (conv => whnf); refine o_one ⟨_, _, _, _, _, _, _, _, _, _, _, _⟩ (by (repeat' (first | ((conv => whnf); first | refine ⟨?_, ?_⟩ | exact trivial | fail) | (dsimp only; done) | ((try dsimp only); first | with_reducible exact rfl | exact Nat.le_refl _ | with_reducible exact (fun _ _ => rfl)))); all_goals ((first | rfl))) ?_; exact hi
  · obtain ⟨e1, e2⟩ := st_bad (p := p) (k := 6) hr (by decide) (.inr (by assumption))
    rw [e1, e2]
    (conv => whnf); refine o_one ⟨_, _, _, _, _, _, _, _, _, _, _, _⟩ (by (repeat' (first | ((conv => whnf); first | refine ⟨?_, ?_⟩ | exact trivial | fail) | (dsimp only; done) | ((try dsimp only); first | with_reducible exact rfl | exact Nat.le_refl _ | with_reducible exact (fun _ _ => rfl)))); all_goals ((first | rfl))) ?_; exact hi
  · (conv => whnf); refine enter_mk (la := laSt t a p h) M9.m7 ?_ (by (repeat' (first | ((conv => whnf); first | refine ⟨?_, ?_⟩ | exact trivial | fail) | (dsimp only; done) | ((try dsimp only); first | with_reducible exact rfl | exact Nat.le_refl _ | with_reducible exact (fun _ _ => rfl)))); all_goals ((first | rfl | decide))); exact pr_next (k := 6) (by assumption : (laSt t a p h).inv M9.m6) (by assumption) (by assumption)
  · obtain ⟨e1, e2⟩ := st_bad (p := p) (k := 7) hr (by decide) (.inl (by assumption))
    rw [e1, e2]
    (conv => whnf); refine o_one ⟨_, _, _, _, _, _, _, _, _, _, _, _⟩ (by (repeat' (first | ((conv => whnf); first | refine ⟨?_, ?_⟩ | exact trivial | fail) | (dsimp only; done) | ((try dsimp only); first | with_reducible exact rfl | exact Nat.le_refl _ | with_reducible exact (fun _ _ => rfl)))); all_goals ((first | rfl))) ?_; exact hi
  · obtain ⟨e1, e2⟩ := st_bad (p := p) (k := 7) hr (by decide) (.inr (by assumption))
    rw [e1, e2]
    (conv => whnf); refine o_one ⟨_, _, _, _, _, _, _, _, _, _, _, _⟩ (by (repeat' (first | ((conv => whnf); first | refine ⟨?_, ?_⟩ | exact trivial | fail) | (dsimp only; done) | ((try dsimp only); first | with_reducible exact rfl | exact Nat.le_refl _ | with_reducible exact (fun _ _ => rfl)))); all_goals ((first | rfl))) ?_; exact hi
  · (conv => whnf); refine enter_mk (la := laSt t a p h) M9.m8 ?_ (by (repeat' (first | ((conv => whnf); first | refine ⟨?_, ?_⟩ | exact trivial | fail) | (dsimp only; done) | ((try dsimp only); first | with_reducible exact rfl | exact Nat.le_refl _ | with_reducible exact (fun _ _ => rfl)))); all_goals ((first | rfl | decide))); exact pr_next (k := 7) (by assumption : (laSt t a p h).inv M9.m7) (by assumption) (by assumption)
  · obtain ⟨e1, e2⟩ := st_1 (p := p) hr (.inr (vid_f (not_t (by assumption : (!vidB p.v) = true))))
    rw [e1, e2]
    (conv => whnf); refine o_one ⟨_, _, _, _, _, _, _, _, _, _, _, _⟩ (by (repeat' (first | ((conv => whnf); first | refine ⟨?_, ?_⟩ | exact trivial | fail) | (dsimp only; done) | ((try dsimp only); first | with_reducible exact rfl | exact Nat.le_refl _ | with_reducible exact (fun _ _ => rfl)))); all_goals ((first | rfl))) ?_; exact hi
  all_goals (try (have := hi.cap; omega))
  · obtain ⟨e1, e2⟩ := st_0 (p := p) hr (by assumption : (laSt t a p h).inv M9.m8) (vid_t (not_f (by assumption : (!vidB p.v) = false)))
    rw [e1, e2]
    (conv => whnf); refine o_one ⟨h.mv, h.ma, h.cap, _, _, _, _, _, _, _, _, _⟩ (by (repeat' (first | ((conv => whnf); first | refine ⟨?_, ?_⟩ | exact trivial | fail) | (dsimp only; done) | ((try dsimp only); first | with_reducible exact rfl | exact Nat.le_refl _ | with_reducible exact (fun _ _ => rfl)))); all_goals ((first | rfl | exact fun _ _ => rfl))) ?_; exact put_inv hi (vid_t (not_f (by assumption : (!vidB p.v) = false))) rfl (fun r => by rw [Nat.zero_add]; exact ⟨rfl, rfl, rfl, rfl, rfl, rfl, rfl, rfl, rfl⟩)
end
noncomputable def stS : ESpec Try.prog := obN fn18 82 ftK (.s2 (.int .i64) Lens.pt) ftR ftP ftR_ok (fun _ => rfl) (fun t y h => cxSt t y.1 y.2 h) (fun _ _ => True) (fun t y => [.one (int_ .i64 (stE t y.1 y.2)) (ftP (stT t y.1 y.2))]) (fun _ _ => []) (fun _ m => ftRen m) (fun _ _ _ => rfl) (fun t y _ h hi => st_runs t y h hi)

end Go.Proofs.Ytnkmfkongmijfaa
