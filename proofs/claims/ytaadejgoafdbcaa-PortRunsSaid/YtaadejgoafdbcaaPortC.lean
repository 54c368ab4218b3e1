/-
  Contracts of functions, and plain facts about them, that a claim of this seat uses.
-/
import Derived.Test.YtaadejgoafdbcaaSx
import Derived.Test.YtaadejgoafdbcaaPortB
import Derived.Test.YtaadejgoafdbcaaProg
namespace Go.Proofs.Ytaadejgoafdbcaa
open Go.Sx
set_option linter.unusedVariables false
set_option linter.unusedSimpArgs false
set_option maxRecDepth 100000

/-! the port's left. -/
def lfV (l : GL) (fr : Int) (w : Bool) (now c : Int) : Int := if w = true then (if IntKind.i64.wrap (fr - now) < leftV l now c then IntKind.i64.wrap (fr - now) else leftV l now c) else leftV l now c
def lf8 (l : GL) (fr : Int) (w : Bool) (now : Int) : A8 := ⟨lfV l fr w now 0, lfV l fr w now 1, lfV l fr w now 2, lfV l fr w now 3, lfV l fr w now 4, lfV l fr w now 5, lfV l fr w now 6, lfV l fr w now 7⟩
def lfA (g : Gs) (now : Int) : A8 := lf8 (atG g now).l (atG g now).fr (atG g now).wait now
inductive ML where
  | m0 (y : CL)
  | m1 (y : CL)
  | m2 (y : CL)
  | m3 (y : CL)
  | m4 (y : CL)
  | m5 (y : CL)
  | m6 (y : CL)
  | m7 (y : CL)
  | m8 (y : CL)
def ML.y : ML → CL
  | .m0 y => y
  | .m1 y => y
  | .m2 y => y
  | .m3 y => y
  | .m4 y => y
  | .m5 y => y
  | .m6 y => y
  | .m7 y => y
  | .m8 y => y
def ML.k : ML → Nat
  | .m0 _ => 0
  | .m1 _ => 1
  | .m2 _ => 2
  | .m3 _ => 3
  | .m4 _ => 4
  | .m5 _ => 5
  | .m6 _ => 6
  | .m7 _ => 7
  | .m8 _ => 8
def lfC (l : GL) (fr : Int) (w : Bool) (now : Int) : ML → List SA
  | .m0 _ => [i_ 0, i_ 0, i_ 0, i_ 0, i_ 0, i_ 0, i_ 0, i_ 0]
  | .m1 _ => [i_ (lfV l fr w now 0), i_ 0, i_ 0, i_ 0, i_ 0, i_ 0, i_ 0, i_ 0]
  | .m2 _ => [i_ (lfV l fr w now 0), i_ (lfV l fr w now 1), i_ 0, i_ 0, i_ 0, i_ 0, i_ 0, i_ 0]
  | .m3 _ => [i_ (lfV l fr w now 0), i_ (lfV l fr w now 1), i_ (lfV l fr w now 2), i_ 0, i_ 0, i_ 0, i_ 0, i_ 0]
  | .m4 _ => [i_ (lfV l fr w now 0), i_ (lfV l fr w now 1), i_ (lfV l fr w now 2), i_ (lfV l fr w now 3), i_ 0, i_ 0, i_ 0, i_ 0]
  | .m5 _ => [i_ (lfV l fr w now 0), i_ (lfV l fr w now 1), i_ (lfV l fr w now 2), i_ (lfV l fr w now 3), i_ (lfV l fr w now 4), i_ 0, i_ 0, i_ 0]
  | .m6 _ => [i_ (lfV l fr w now 0), i_ (lfV l fr w now 1), i_ (lfV l fr w now 2), i_ (lfV l fr w now 3), i_ (lfV l fr w now 4), i_ (lfV l fr w now 5), i_ 0, i_ 0]
  | .m7 _ => [i_ (lfV l fr w now 0), i_ (lfV l fr w now 1), i_ (lfV l fr w now 2), i_ (lfV l fr w now 3), i_ (lfV l fr w now 4), i_ (lfV l fr w now 5), i_ (lfV l fr w now 6), i_ 0]
  | .m8 _ => [i_ (lfV l fr w now 0), i_ (lfV l fr w now 1), i_ (lfV l fr w now 2), i_ (lfV l fr w now 3), i_ (lfV l fr w now 4), i_ (lfV l fr w now 5), i_ (lfV l fr w now 6), i_ (lfV l fr w now 7)]
def z8 : List SA := [i_ 0, i_ 0, i_ 0, i_ 0, i_ 0, i_ 0, i_ 0, i_ 0]
def gcX (S : St) : Nat := match S.t.get 5 with | some (.one (.a (.gcl _ _ _ i _ _ _ _))) => i | _ => 0
def lfT (cs : List SA) (g : Gs) (l : GL) (now k : Int) (y : CL) (c : List SA) : St := ⟨43, [(0, .one (.a (.ptr 0 0))), (1, int_ .i64 now), (4, .one (.a (.ptr 4 0))), (5, .one (.a (.gcl 12 l.base l.cyc 5 2 0 l.len y.cap))), (6, .one (.a (.ptr 6 0))), (14, int_ .i64 k)], gsM cs g ++ [some ⟨true, .flat z8⟩, rwS y, some ⟨true, .flat c⟩]⟩
noncomputable abbrev laLf (cs : List SA) (g : Gs) (l : GL) (fr : Int) (w : Bool) (now : Int) : LA where
  ι := ML
  inv := fun x => CS l.len l x.y
  T := fun x => match x with
    | .m0 y => lfT cs g l now 0 y (lfC l fr w now (.m0 y))
    | .m1 y => lfT cs g l now 1 y (lfC l fr w now (.m1 y))
    | .m2 y => lfT cs g l now 2 y (lfC l fr w now (.m2 y))
    | .m3 y => lfT cs g l now 3 y (lfC l fr w now (.m3 y))
    | .m4 y => lfT cs g l now 4 y (lfC l fr w now (.m4 y))
    | .m5 y => lfT cs g l now 5 y (lfC l fr w now (.m5 y))
    | .m6 y => lfT cs g l now 6 y (lfC l fr w now (.m6 y))
    | .m7 y => lfT cs g l now 7 y (lfC l fr w now (.m7 y))
    | .m8 y => lfT cs g l now 8 y (lfC l fr w now (.m8 y))
  μ := fun x => 8 - x.k
  ren := fun S => [0, 1, 2, 3, S.ix 4, gcX S, S.ix 6]
noncomputable abbrev laAt (cs : List SA) (g : Gs) (l : GL) (now : Int) : LA where
  ι := CL
  inv := fun y => CS l.len l y
  T := fun y => ⟨43, [(0, .one (.a (.ptr 0 0))), (1, int_ .i64 now), (4, .one (.a (.ptr 4 0))), (5, .one (.a (.gcl 12 l.base l.cyc 5 2 0 l.len y.cap)))], gsM cs g ++ [some ⟨true, .flat z8⟩, rwS y]⟩
  μ := fun _ => 0
  ren := fun S => [0, 1, 2, 3, S.ix 4, gcX S]
noncomputable def cxLf (cs : List SA) (g : Gs) (l : GL) (fr : Int) (w : Bool) (now : Int) : Cx Try.prog := { ps := [leftS], es := [atS], is := [], n0 := 4, loops := fun i => match i with | 4 => some (.inv (laLf cs g l fr w now)) | _ => none, cuts := fun i => match i with | 2 => some (laAt cs g l now) | _ => none }
def lfAl (g : Gs) (now : Int) : List Alt := [.cond (¬ swB g now) (a8C (lf8 g.l g.fr g.wait now)) (gsM (gsCells g) g), .cond (swB g now) (a8C (lf8 g.a 0 false now)) (gsM (gsSw g) g)]
theorem lfV_t {l : GL} {fr now c x : Int} (h : x = leftV l now c) : (if IntKind.i64.wrap (fr - now) < x then IntKind.i64.wrap (fr - now) else x) = lfV l fr true now c := by rw [h]; exact (if_pos rfl).symm
theorem lfV_f {l : GL} {fr now c x : Int} (h : x = leftV l now c) : x = lfV l fr false now c := by rw [h]; exact (if_neg (by decide)).symm
theorem lfV_w {l : GL} {fr now c x : Int} {w : Bool} (hw : w = true) (h : x = leftV l now c) : (if IntKind.i64.wrap (fr - now) < x then IntKind.i64.wrap (fr - now) else x) = lfV l fr w now c := by subst hw; exact lfV_t h
theorem lfV_n {l : GL} {fr now c x : Int} {w : Bool} (hw : w = false) (h : x = leftV l now c) : x = lfV l fr w now c := by subst hw; exact lfV_f h
section
attribute [local irreducible] anyAlt leftV Gw enter lfV
set_option maxHeartbeats 8000000 in
theorem lf_runs0 (g : Gs) (now : Int) (hw : ¬ swB g now) (hi : GsOK g) : Runs (cxLf (gsCells g) g g.l g.fr g.wait now) Try.f29 (gsArgs (g, now)) (gsM (gsCells g) g) fun v m => ghosted (fun _ _ => []) v m fun v m => anyAlt (gsM (gsCells g) g) [0, 1, 2, 3] v m (lfAl g now) := by
  have l64 : g.l.len ≤ 64 := (chk_ok hi.lc).n2
  repeat' (first | with_reducible exact trivial | with_reducible exact rfl | with_reducible exact Nat.le_refl _ | with_reducible exact (fun _ _ => rfl) | ((conv => whnf); first | ((refine fun (x : ML) => ?_); rcases x with x | x | x | x | x | x | x | x | x) | (refine fun (y : CL) => ?_) | (refine fun (z : Nat) => ?_) | (exact fun h => absurd h (by decide)) | (intro h9; (have h8 := of_decide_eq_true (p := type_of% h9) (by decide)); clear h8 h9) | (refine fun _ => ?_) | refine ⟨?_, ?_⟩ | exact trivial | exact Nat.le_refl _ | exact lex_q (by kernel_rfl) | exact lex_t (by kernel_rfl) | exact lex_h (by kernel_rfl) | fail))
  all_goals (try exact ⟨hi, trivial⟩)
  all_goals (try decide)
  all_goals (try exact absurd (And.left (by assumption)) hw)
  all_goals (try omega)
  · (conv => whnf); refine enter_mk (la := laAt (gsCells g) g g.l now) _ ?_ (by (repeat' (first | ((conv => whnf); first | refine ⟨?_, ?_⟩ | exact trivial | fail) | (dsimp only; done) | ((try dsimp only); first | with_reducible exact rfl | exact Nat.le_refl _ | with_reducible exact (fun _ _ => rfl)))); all_goals (rfl))
    exact And.right (by assumption)
  · (conv => whnf); refine enter_mk (la := laLf (gsCells g) g g.l g.fr g.wait now) (.m0 y) ?_ (by (repeat' (first | ((conv => whnf); first | refine ⟨?_, ?_⟩ | exact trivial | fail) | (dsimp only; done) | ((try dsimp only); first | with_reducible exact rfl | exact Nat.le_refl _ | with_reducible exact (fun _ _ => rfl)))); all_goals (rfl))
    assumption
  · exact cp_gw (l := g.l) (y := x) (by assumption) hi.lg
  · (conv => whnf); refine enter_mk (la := laLf (gsCells g) g g.l g.fr g.wait now) (.m1 x) ?_ (by (repeat' (first | ((conv => whnf); first | refine ⟨?_, ?_⟩ | exact trivial | fail) | (dsimp only; done) | ((try dsimp only); first | with_reducible exact rfl | exact Nat.le_refl _ | with_reducible exact (fun _ _ => rfl)))); all_goals ((first | rfl | exact (lfV_w (by assumption) (cp_left (l := g.l) (y := x) (by assumption) _ _)).symm | decide)))
    assumption
  · (conv => whnf); refine enter_mk (la := laLf (gsCells g) g g.l g.fr g.wait now) (.m1 x) ?_ (by (repeat' (first | ((conv => whnf); first | refine ⟨?_, ?_⟩ | exact trivial | fail) | (dsimp only; done) | ((try dsimp only); first | with_reducible exact rfl | exact Nat.le_refl _ | with_reducible exact (fun _ _ => rfl)))); all_goals ((first | rfl | exact (lfV_n (by first | assumption | rfl) (cp_left (l := g.l) (y := x) (by assumption) _ _)).symm | decide)))
    assumption
  · exact cp_gw (l := g.l) (y := x) (by assumption) hi.lg
  · (conv => whnf); refine enter_mk (la := laLf (gsCells g) g g.l g.fr g.wait now) (.m2 x) ?_ (by (repeat' (first | ((conv => whnf); first | refine ⟨?_, ?_⟩ | exact trivial | fail) | (dsimp only; done) | ((try dsimp only); first | with_reducible exact rfl | exact Nat.le_refl _ | with_reducible exact (fun _ _ => rfl)))); all_goals ((first | rfl | exact (lfV_w (by assumption) (cp_left (l := g.l) (y := x) (by assumption) _ _)).symm | decide)))
    assumption
  · (conv => whnf); refine enter_mk (la := laLf (gsCells g) g g.l g.fr g.wait now) (.m2 x) ?_ (by (repeat' (first | ((conv => whnf); first | refine ⟨?_, ?_⟩ | exact trivial | fail) | (dsimp only; done) | ((try dsimp only); first | with_reducible exact rfl | exact Nat.le_refl _ | with_reducible exact (fun _ _ => rfl)))); all_goals ((first | rfl | exact (lfV_n (by first | assumption | rfl) (cp_left (l := g.l) (y := x) (by assumption) _ _)).symm | decide)))
    assumption
  · exact cp_gw (l := g.l) (y := x) (by assumption) hi.lg
  · (conv => whnf); refine enter_mk (la := laLf (gsCells g) g g.l g.fr g.wait now) (.m3 x) ?_ (by (repeat' (first | ((conv => whnf); first | refine ⟨?_, ?_⟩ | exact trivial | fail) | (dsimp only; done) | ((try dsimp only); first | with_reducible exact rfl | exact Nat.le_refl _ | with_reducible exact (fun _ _ => rfl)))); all_goals ((first | rfl | exact (lfV_w (by assumption) (cp_left (l := g.l) (y := x) (by assumption) _ _)).symm | decide)))
    assumption
  · (conv => whnf); refine enter_mk (la := laLf (gsCells g) g g.l g.fr g.wait now) (.m3 x) ?_ (by (repeat' (first | ((conv => whnf); first | refine ⟨?_, ?_⟩ | exact trivial | fail) | (dsimp only; done) | ((try dsimp only); first | with_reducible exact rfl | exact Nat.le_refl _ | with_reducible exact (fun _ _ => rfl)))); all_goals ((first | rfl | exact (lfV_n (by first | assumption | rfl) (cp_left (l := g.l) (y := x) (by assumption) _ _)).symm | decide)))
    assumption
  · exact cp_gw (l := g.l) (y := x) (by assumption) hi.lg
  · (conv => whnf); refine enter_mk (la := laLf (gsCells g) g g.l g.fr g.wait now) (.m4 x) ?_ (by (repeat' (first | ((conv => whnf); first | refine ⟨?_, ?_⟩ | exact trivial | fail) | (dsimp only; done) | ((try dsimp only); first | with_reducible exact rfl | exact Nat.le_refl _ | with_reducible exact (fun _ _ => rfl)))); all_goals ((first | rfl | exact (lfV_w (by assumption) (cp_left (l := g.l) (y := x) (by assumption) _ _)).symm | decide)))
    assumption
  · (conv => whnf); refine enter_mk (la := laLf (gsCells g) g g.l g.fr g.wait now) (.m4 x) ?_ (by (repeat' (first | ((conv => whnf); first | refine ⟨?_, ?_⟩ | exact trivial | fail) | (dsimp only; done) | ((try dsimp only); first | with_reducible exact rfl | exact Nat.le_refl _ | with_reducible exact (fun _ _ => rfl)))); all_goals ((first | rfl | exact (lfV_n (by first | assumption | rfl) (cp_left (l := g.l) (y := x) (by assumption) _ _)).symm | decide)))
    assumption
  · exact cp_gw (l := g.l) (y := x) (by assumption) hi.lg
  · (conv => whnf); refine enter_mk (la := laLf (gsCells g) g g.l g.fr g.wait now) (.m5 x) ?_ (by (repeat' (first | ((conv => whnf); first | refine ⟨?_, ?_⟩ | exact trivial | fail) | (dsimp only; done) | ((try dsimp only); first | with_reducible exact rfl | exact Nat.le_refl _ | with_reducible exact (fun _ _ => rfl)))); all_goals ((first | rfl | exact (lfV_w (by assumption) (cp_left (l := g.l) (y := x) (by assumption) _ _)).symm | decide)))
    assumption
  · (conv => whnf); refine enter_mk (la := laLf (gsCells g) g g.l g.fr g.wait now) (.m5 x) ?_ (by (repeat' (first | ((conv => whnf); first | refine ⟨?_, ?_⟩ | exact trivial | fail) | (dsimp only; done) | ((try dsimp only); first | with_reducible exact rfl | exact Nat.le_refl _ | with_reducible exact (fun _ _ => rfl)))); all_goals ((first | rfl | exact (lfV_n (by first | assumption | rfl) (cp_left (l := g.l) (y := x) (by assumption) _ _)).symm | decide)))
    assumption
  · exact cp_gw (l := g.l) (y := x) (by assumption) hi.lg
  · (conv => whnf); refine enter_mk (la := laLf (gsCells g) g g.l g.fr g.wait now) (.m6 x) ?_ (by (repeat' (first | ((conv => whnf); first | refine ⟨?_, ?_⟩ | exact trivial | fail) | (dsimp only; done) | ((try dsimp only); first | with_reducible exact rfl | exact Nat.le_refl _ | with_reducible exact (fun _ _ => rfl)))); all_goals ((first | rfl | exact (lfV_w (by assumption) (cp_left (l := g.l) (y := x) (by assumption) _ _)).symm | decide)))
    assumption
  · (conv => whnf); refine enter_mk (la := laLf (gsCells g) g g.l g.fr g.wait now) (.m6 x) ?_ (by (repeat' (first | ((conv => whnf); first | refine ⟨?_, ?_⟩ | exact trivial | fail) | (dsimp only; done) | ((try dsimp only); first | with_reducible exact rfl | exact Nat.le_refl _ | with_reducible exact (fun _ _ => rfl)))); all_goals ((first | rfl | exact (lfV_n (by first | assumption | rfl) (cp_left (l := g.l) (y := x) (by assumption) _ _)).symm | decide)))
    assumption
  · exact cp_gw (l := g.l) (y := x) (by assumption) hi.lg
  · (conv => whnf); refine enter_mk (la := laLf (gsCells g) g g.l g.fr g.wait now) (.m7 x) ?_ (by (repeat' (first | ((conv => whnf); first | refine ⟨?_, ?_⟩ | exact trivial | fail) | (dsimp only; done) | ((try dsimp only); first | with_reducible exact rfl | exact Nat.le_refl _ | with_reducible exact (fun _ _ => rfl)))); all_goals ((first | rfl | exact (lfV_w (by assumption) (cp_left (l := g.l) (y := x) (by assumption) _ _)).symm | decide)))
    assumption
  · (conv => whnf); refine enter_mk (la := laLf (gsCells g) g g.l g.fr g.wait now) (.m7 x) ?_ (by (repeat' (first | ((conv => whnf); first | refine ⟨?_, ?_⟩ | exact trivial | fail) | (dsimp only; done) | ((try dsimp only); first | with_reducible exact rfl | exact Nat.le_refl _ | with_reducible exact (fun _ _ => rfl)))); all_goals ((first | rfl | exact (lfV_n (by first | assumption | rfl) (cp_left (l := g.l) (y := x) (by assumption) _ _)).symm | decide)))
    assumption
  · exact cp_gw (l := g.l) (y := x) (by assumption) hi.lg
  · (conv => whnf); refine enter_mk (la := laLf (gsCells g) g g.l g.fr g.wait now) (.m8 x) ?_ (by (repeat' (first | ((conv => whnf); first | refine ⟨?_, ?_⟩ | exact trivial | fail) | (dsimp only; done) | ((try dsimp only); first | with_reducible exact rfl | exact Nat.le_refl _ | with_reducible exact (fun _ _ => rfl)))); all_goals ((first | rfl | exact (lfV_w (by assumption) (cp_left (l := g.l) (y := x) (by assumption) _ _)).symm | decide)))
    assumption
  · (conv => whnf); refine enter_mk (la := laLf (gsCells g) g g.l g.fr g.wait now) (.m8 x) ?_ (by (repeat' (first | ((conv => whnf); first | refine ⟨?_, ?_⟩ | exact trivial | fail) | (dsimp only; done) | ((try dsimp only); first | with_reducible exact rfl | exact Nat.le_refl _ | with_reducible exact (fun _ _ => rfl)))); all_goals ((first | rfl | exact (lfV_n (by first | assumption | rfl) (cp_left (l := g.l) (y := x) (by assumption) _ _)).symm | decide)))
    assumption
  · (conv => whnf)
    refine alt_c1  ?_ (by (repeat' (first | ((conv => whnf); first | refine ⟨?_, ?_⟩ | exact trivial | fail) | (dsimp only; done) | ((try dsimp only); first | with_reducible exact rfl | exact Nat.le_refl _ | with_reducible exact (fun _ _ => rfl)))); all_goals (rfl))
    exact hw
set_option maxHeartbeats 8000000 in
theorem lf_runs1 (g : Gs) (now : Int) (hw : swB g now) (hi : GsOK g) : Runs (cxLf (gsSw g) g g.a 0 false now) Try.f29 (gsArgs (g, now)) (gsM (gsCells g) g) fun v m => ghosted (fun _ _ => []) v m fun v m => anyAlt (gsM (gsCells g) g) [0, 1, 2, 3] v m (lfAl g now) := by
  have a64 : g.a.len ≤ 64 := (chk_ok (hi.ac hw.1)).n2
  repeat' (first | with_reducible exact trivial | with_reducible exact rfl | with_reducible exact Nat.le_refl _ | with_reducible exact (fun _ _ => rfl) | ((conv => whnf); first | ((refine fun (x : ML) => ?_); rcases x with x | x | x | x | x | x | x | x | x) | (refine fun (y : CL) => ?_) | (refine fun (z : Nat) => ?_) | (exact fun h => absurd h (by decide)) | (intro h9; (have h8 := of_decide_eq_true (p := type_of% h9) (by decide)); clear h8 h9) | (refine fun _ => ?_) | refine ⟨?_, ?_⟩ | exact trivial | exact Nat.le_refl _ | exact lex_q (by kernel_rfl) | exact lex_t (by kernel_rfl) | exact lex_h (by kernel_rfl) | fail))
  all_goals (try exact ⟨hi, trivial⟩)
  all_goals (try decide)
  all_goals (try exact absurd hw (And.left (by assumption)))
  all_goals (try omega)
  · (conv => whnf); refine enter_mk (la := laAt (gsSw g) g g.a now) _ ?_ (by (repeat' (first | ((conv => whnf); first | refine ⟨?_, ?_⟩ | exact trivial | fail) | (dsimp only; done) | ((try dsimp only); first | with_reducible exact rfl | exact Nat.le_refl _ | with_reducible exact (fun _ _ => rfl)))); all_goals (rfl))
    exact And.right (by assumption)
  · (conv => whnf); refine enter_mk (la := laLf (gsSw g) g g.a 0 false now) (.m0 y) ?_ (by (repeat' (first | ((conv => whnf); first | refine ⟨?_, ?_⟩ | exact trivial | fail) | (dsimp only; done) | ((try dsimp only); first | with_reducible exact rfl | exact Nat.le_refl _ | with_reducible exact (fun _ _ => rfl)))); all_goals (rfl))
    assumption
  · exact cp_gw (l := g.a) (y := x) (by assumption) hi.ag
  · (conv => whnf); refine enter_mk (la := laLf (gsSw g) g g.a 0 false now) (.m1 x) ?_ (by (repeat' (first | ((conv => whnf); first | refine ⟨?_, ?_⟩ | exact trivial | fail) | (dsimp only; done) | ((try dsimp only); first | with_reducible exact rfl | exact Nat.le_refl _ | with_reducible exact (fun _ _ => rfl)))); all_goals ((first | rfl | exact (lfV_n (by first | assumption | rfl) (cp_left (l := g.a) (y := x) (by assumption) _ _)).symm | decide)))
    assumption
  · exact cp_gw (l := g.a) (y := x) (by assumption) hi.ag
  · (conv => whnf); refine enter_mk (la := laLf (gsSw g) g g.a 0 false now) (.m2 x) ?_ (by (repeat' (first | ((conv => whnf); first | refine ⟨?_, ?_⟩ | exact trivial | fail) | (dsimp only; done) | ((try dsimp only); first | with_reducible exact rfl | exact Nat.le_refl _ | with_reducible exact (fun _ _ => rfl)))); all_goals ((first | rfl | exact (lfV_n (by first | assumption | rfl) (cp_left (l := g.a) (y := x) (by assumption) _ _)).symm | decide)))
    assumption
  · exact cp_gw (l := g.a) (y := x) (by assumption) hi.ag
  · (conv => whnf); refine enter_mk (la := laLf (gsSw g) g g.a 0 false now) (.m3 x) ?_ (by (repeat' (first | ((conv => whnf); first | refine ⟨?_, ?_⟩ | exact trivial | fail) | (dsimp only; done) | ((try dsimp only); first | with_reducible exact rfl | exact Nat.le_refl _ | with_reducible exact (fun _ _ => rfl)))); all_goals ((first | rfl | exact (lfV_n (by first | assumption | rfl) (cp_left (l := g.a) (y := x) (by assumption) _ _)).symm | decide)))
    assumption
  · exact cp_gw (l := g.a) (y := x) (by assumption) hi.ag
  · (conv => whnf); refine enter_mk (la := laLf (gsSw g) g g.a 0 false now) (.m4 x) ?_ (by (repeat' (first | ((conv => whnf); first | refine ⟨?_, ?_⟩ | exact trivial | fail) | (dsimp only; done) | ((try dsimp only); first | with_reducible exact rfl | exact Nat.le_refl _ | with_reducible exact (fun _ _ => rfl)))); all_goals ((first | rfl | exact (lfV_n (by first | assumption | rfl) (cp_left (l := g.a) (y := x) (by assumption) _ _)).symm | decide)))
    assumption
  · exact cp_gw (l := g.a) (y := x) (by assumption) hi.ag
  · (conv => whnf); refine enter_mk (la := laLf (gsSw g) g g.a 0 false now) (.m5 x) ?_ (by (repeat' (first | ((conv => whnf); first | refine ⟨?_, ?_⟩ | exact trivial | fail) | (dsimp only; done) | ((try dsimp only); first | with_reducible exact rfl | exact Nat.le_refl _ | with_reducible exact (fun _ _ => rfl)))); all_goals ((first | rfl | exact (lfV_n (by first | assumption | rfl) (cp_left (l := g.a) (y := x) (by assumption) _ _)).symm | decide)))
    assumption
  · exact cp_gw (l := g.a) (y := x) (by assumption) hi.ag
  · (conv => whnf); refine enter_mk (la := laLf (gsSw g) g g.a 0 false now) (.m6 x) ?_ (by (repeat' (first | ((conv => whnf); first | refine ⟨?_, ?_⟩ | exact trivial | fail) | (dsimp only; done) | ((try dsimp only); first | with_reducible exact rfl | exact Nat.le_refl _ | with_reducible exact (fun _ _ => rfl)))); all_goals ((first | rfl | exact (lfV_n (by first | assumption | rfl) (cp_left (l := g.a) (y := x) (by assumption) _ _)).symm | decide)))
    assumption
  · exact cp_gw (l := g.a) (y := x) (by assumption) hi.ag
  · (conv => whnf); refine enter_mk (la := laLf (gsSw g) g g.a 0 false now) (.m7 x) ?_ (by (repeat' (first | ((conv => whnf); first | refine ⟨?_, ?_⟩ | exact trivial | fail) | (dsimp only; done) | ((try dsimp only); first | with_reducible exact rfl | exact Nat.le_refl _ | with_reducible exact (fun _ _ => rfl)))); all_goals ((first | rfl | exact (lfV_n (by first | assumption | rfl) (cp_left (l := g.a) (y := x) (by assumption) _ _)).symm | decide)))
    assumption
  · exact cp_gw (l := g.a) (y := x) (by assumption) hi.ag
  · (conv => whnf); refine enter_mk (la := laLf (gsSw g) g g.a 0 false now) (.m8 x) ?_ (by (repeat' (first | ((conv => whnf); first | refine ⟨?_, ?_⟩ | exact trivial | fail) | (dsimp only; done) | ((try dsimp only); first | with_reducible exact rfl | exact Nat.le_refl _ | with_reducible exact (fun _ _ => rfl)))); all_goals ((first | rfl | exact (lfV_n (by first | assumption | rfl) (cp_left (l := g.a) (y := x) (by assumption) _ _)).symm | decide)))
    assumption
  · (conv => whnf)
    refine alt_c2  ?_ (by (repeat' (first | ((conv => whnf); first | refine ⟨?_, ?_⟩ | exact trivial | fail) | (dsimp only; done) | ((try dsimp only); first | with_reducible exact rfl | exact Nat.le_refl _ | with_reducible exact (fun _ _ => rfl)))); all_goals (rfl))
    exact hw
end
noncomputable def cxLfB (x : Gs × Int) : Cx Try.prog := if swB x.1 x.2 then cxLf (gsSw x.1) x.1 x.1.a 0 false x.2 else cxLf (gsCells x.1) x.1 x.1.l x.1.fr x.1.wait x.2
theorem lf_runs (x : Gs × Int) (hi : GsOK x.1 ∧ True) : Runs (cxLfB x) Try.f29 (gsArgs x) (gsM (gsCells x.1) x.1) fun v m => ghosted (fun _ _ => []) v m fun v m => anyAlt (gsM (gsCells x.1) x.1) [0, 1, 2, 3] v m (lfAl x.1 x.2) := by
  obtain ⟨g, now⟩ := x
  by_cases h : swB g now
  · rw [show cxLfB (g, now) = cxLf (gsSw g) g g.a 0 false now from if_pos h]; exact lf_runs1 g now h hi.1
  · rw [show cxLfB (g, now) = cxLf (gsCells g) g g.l g.fr g.wait now from if_neg h]; exact lf_runs0 g now h hi.1
noncomputable def lfS : ESpec Try.prog := effN fn29 (Gs × Int) cxLfB (fun x => gsM (gsCells x.1) x.1) gsArgs rdGs (fun x => GsOK x.1 ∧ True) (fun x => lfAl x.1 x.2) (fun _ _ => []) (fun _ _ _ => [0, 1, 2, 3]) (fun x => by unfold cxLfB; split <;> rfl) rdGs_ok (fun x a ha => by
  rcases List.mem_cons.1 ha with rfl | ha
  · exact rfl
  · rw [List.mem_singleton.1 ha]; exact rfl) lf_runs

end Go.Proofs.Ytaadejgoafdbcaa
