/-
  Contracts of functions, and plain facts about them, that a claim of this seat uses.
-/
import Derived.Test.YtaadejgoafdbcaaSx
import Derived.Test.YtaadejgoafdbcaaPortC
import Derived.Test.YtaadejgoafdbcaaProg
namespace Go.Proofs.Ytaadejgoafdbcaa
open Go.Sx
set_option linter.unusedVariables false
set_option linter.unusedSimpArgs false
set_option maxRecDepth 100000

/-! the port's Next. -/
def Pt.g (p : Pt) : Gs := ⟨p.l, p.a, p.fr, p.wait⟩
def Gs.p (g : Gs) (q : Ln) : Pt := ⟨g.l, g.a, g.fr, g.wait, q⟩
def nxOK (now : Int) : Prop := 0 ≤ now ∧ now ≤ 1099511627776
def nxO (p : Pt) (now : Int) : Option Nat := pk p.q (lfA p.g now)
def nxP (p : Pt) (now : Int) : Pt := (atG p.g now).p (popL p.q (nxO p now))
def nxV (p : Pt) (now : Int) : SV := .tup [itC (pkI p.q (nxO p now)), .a (i_ (pkC (nxO p now))), .a (b_ (pkB (nxO p now)))]
theorem PtInv.gs {p : Pt} (h : PtInv p) : GsOK p.g := ⟨h.lg, h.lc, h.ag, h.ac⟩
theorem glN_gw : Gw glN := Gw.mk ⟨⟨(by decide : (-9223372036854775808 : Int) ≤ 0), (by decide : (0 : Int) ≤ 9223372036854775807)⟩, ⟨(by decide : (-9223372036854775808 : Int) ≤ 0), (by decide : (0 : Int) ≤ 9223372036854775807)⟩, Nat.le_refl _, Nat.le_refl _, (by decide : 0 ≤ 9223372036854775807), fun i hi => absurd hi (Nat.not_lt_zero i)⟩
theorem at_inv {p : Pt} {now : Int} {q : Ln} (h : PtInv p) : PtInv ((atG p.g now).p q) := by
  by_cases hs : swB p.g now
  · rw [atG_sw hs]
    exact ⟨h.ag, h.ac hs.1, glN_gw, fun hh => absurd hh (by show ¬ (false = true); decide), ⟨Int.le_refl _, (by decide : (0 : Int) ≤ 4398046511104)⟩⟩
  · rw [atG_no hs]
    exact ⟨h.lg, h.lc, h.ag, h.ac, h.fr⟩
def nilG (o c : Nat) (m : Mem) : List GC := match (m[o]? : Option (Option Reg)) with
  | some (some ⟨_, .flat l⟩) => (match (l[c]? : Option SA) with | some (.v (.slice none _ _)) => [.nil o c 2 slCols] | _ => [])
  | _ => []
noncomputable abbrev laNx (t : Pt) (now : Int) (it : List SA) (c : Int) (b : Bool) : LA where
  ι := Unit
  inv := fun _ => True
  T := fun _ => ⟨36, [(0, .one (.a (.ptr 0 0))), (1, int_ .i64 now), (4, .one (.a (.ptr 4 0))), (7, int_ .i64 c), (8, .one (.a (.ptr 5 0))), (9, .one (.a (b_ b)))], ptMem t ++ [some ⟨true, .flat [i_ 0, i_ 0, b_ false]⟩, some ⟨true, .flat it⟩]⟩
  μ := fun _ => 0
  gs := fun S => nilG 0 5 S.m
  ren := fun S => [0, mixO S.m 0 2, mixO S.m 0 5, mixO S.m 0 8, S.ix 4, S.ix 8]
def itL (x : It) : List SA := [i_ x.id, i_ x.sz, b_ x.dr]
noncomputable def cxNx (p t : Pt) (now : Int) (o : Option Nat) : Cx Try.prog := { ps := [], es := [lfS, pickS], is := [], n0 := 1, loops := fun _ => none, cuts := fun i => match i with | 4 => some (laNx t now (itL (pkI p.q o)) (pkC o) (pkB o)) | _ => none, held := fun i => match i with | 3 => some (true, .take 0 (.take 1 (.take 2 (.take 4 (.take 5 (.three 3 (.two 6 (.two 7 (.take 8 (.take 9 (.take 10 (.take 11 (.one 12 (.take 13 (.one 14 (.take 15 .done)))))))) 12 (.one 7 (.take 8 (.take 9 (.take 10 (.take 11 (.take 13 (.one 14 (.take 15 .done))))))))) 12 (.one 6 (.one 7 (.take 8 (.take 9 (.take 10 (.take 11 (.take 13 (.one 14 (.take 15 .done)))))))))) 6 (.two 3 (.two 7 (.take 8 (.take 9 (.take 10 (.take 11 (.one 12 (.take 13 (.one 14 (.take 15 .done)))))))) 12 (.one 7 (.take 8 (.take 9 (.take 10 (.take 11 (.take 13 (.one 14 (.take 15 .done))))))))) 12 (.one 3 (.one 7 (.take 8 (.take 9 (.take 10 (.take 11 (.take 13 (.one 14 (.take 15 .done)))))))))) 12 (.two 3 (.one 6 (.one 7 (.take 8 (.take 9 (.take 10 (.take 11 (.take 13 (.one 14 (.take 15 .done))))))))) 6 (.one 3 (.one 7 (.take 8 (.take 9 (.take 10 (.take 11 (.take 13 (.one 14 (.take 15 .done)))))))))))))))) | _ => none, lose := fun i => match i with | 3 => [0, 3] | _ => [] }
section
attribute [local irreducible] anyO Gw enter lfV pk pkC pkI pkB popL HeldOK swB
set_option maxHeartbeats 8000000 in
theorem nx_runs0 (p : Pt) (now : Int) (hw : ¬ swB p.g now) (hn : nxOK now) (h : Unit) (hi : PtInv p) : Runs (cxNx p (p.g.p (popL p.q (pk p.q (lf8 p.l p.fr p.wait now)))) now (pk p.q (lf8 p.l p.fr p.wait now))) Try.f11 (.one (.a (.ptr 0 0)) :: [int_ .i64 now]) (ptMem p) fun v m => ghosted (fun _ m => nilG 0 5 m) v m fun v m => anyO ptK (ptRen 0 m) v m [.one (.tup [itC (pkI p.q (pk p.q (lf8 p.l p.fr p.wait now))), .a (i_ (pkC (pk p.q (lf8 p.l p.fr p.wait now)))), .a (b_ (pkB (pk p.q (lf8 p.l p.fr p.wait now))))]) (ptP (p.g.p (popL p.q (pk p.q (lf8 p.l p.fr p.wait now)))))] := by
  obtain ⟨n1, n2⟩ := hn
  have hg := hi.gs
  repeat' (first | with_reducible exact trivial | with_reducible exact rfl | with_reducible exact Nat.le_refl _ | with_reducible exact (fun _ _ => rfl) | ((conv => whnf); first | (refine fun (x : Unit) => ?_) | (exact fun h => absurd h (by decide)) | (intro h9; (have h8 := of_decide_eq_true (p := type_of% h9) (by decide)); clear h8 h9) | (refine fun _ => ?_) | refine ⟨?_, ?_⟩ | exact trivial | exact Nat.le_refl _ | exact lex_q (by kernel_rfl) | exact lex_t (by kernel_rfl) | exact lex_h (by kernel_rfl) | fail))
  all_goals (try exact hg)
  all_goals (try decide)
  all_goals (try omega)
  all_goals (try exact absurd (by assumption : _) hw)
  all_goals (try exact absurd hw (by assumption))
  all_goals first
    | ((conv => whnf); refine enter_mk (la := laNx (p.g.p (popL p.q (pk p.q (lf8 p.l p.fr p.wait now)))) now (itL (pkI p.q (pk p.q (lf8 p.l p.fr p.wait now)))) (pkC (pk p.q (lf8 p.l p.fr p.wait now))) (pkB (pk p.q (lf8 p.l p.fr p.wait now)))) () ?_ (by (repeat' (first | ((conv => whnf); first | refine ⟨?_, ?_⟩ | exact trivial | fail) | (dsimp only; done) | ((try dsimp only); first | with_reducible exact rfl | exact Nat.le_refl _ | with_reducible exact (fun _ _ => rfl)))); all_goals ((first | rfl | exact fun _ _ => rfl)))
       exact trivial)
    | ((conv => whnf); refine o_one () (by (repeat' (first | ((conv => whnf); first | refine ⟨?_, ?_⟩ | exact trivial | fail) | (dsimp only; done) | ((try dsimp only); first | with_reducible exact rfl | exact Nat.le_refl _ | with_reducible exact (fun _ _ => rfl)))); all_goals ((first | rfl | exact fun _ _ => rfl))) ?_; exact ⟨hi.lg, hi.lc, hi.ag, hi.ac, hi.fr⟩)
set_option maxHeartbeats 8000000 in
theorem nx_runs1 (p : Pt) (now : Int) (hw : swB p.g now) (hn : nxOK now) (h : Unit) (hi : PtInv p) : Runs (cxNx p (Gs.p ⟨p.a, glN, 0, false⟩ (popL p.q (pk p.q (lf8 p.a 0 false now)))) now (pk p.q (lf8 p.a 0 false now))) Try.f11 (.one (.a (.ptr 0 0)) :: [int_ .i64 now]) (ptMem p) fun v m => ghosted (fun _ m => nilG 0 5 m) v m fun v m => anyO ptK (ptRen 0 m) v m [.one (.tup [itC (pkI p.q (pk p.q (lf8 p.a 0 false now))), .a (i_ (pkC (pk p.q (lf8 p.a 0 false now)))), .a (b_ (pkB (pk p.q (lf8 p.a 0 false now))))]) (ptP (Gs.p ⟨p.a, glN, 0, false⟩ (popL p.q (pk p.q (lf8 p.a 0 false now)))))] := by
  obtain ⟨n1, n2⟩ := hn
  have hg := hi.gs
  repeat' (first | with_reducible exact trivial | with_reducible exact rfl | with_reducible exact Nat.le_refl _ | with_reducible exact (fun _ _ => rfl) | ((conv => whnf); first | (refine fun (x : Unit) => ?_) | (exact fun h => absurd h (by decide)) | (intro h9; (have h8 := of_decide_eq_true (p := type_of% h9) (by decide)); clear h8 h9) | (refine fun _ => ?_) | refine ⟨?_, ?_⟩ | exact trivial | exact Nat.le_refl _ | exact lex_q (by kernel_rfl) | exact lex_t (by kernel_rfl) | exact lex_h (by kernel_rfl) | fail))
  all_goals (try exact hg)
  all_goals (try decide)
  all_goals (try omega)
  all_goals (try exact absurd (by assumption : _) hw)
  all_goals (try exact absurd hw (by assumption))
  all_goals first
    | ((conv => whnf); refine enter_mk (la := laNx (Gs.p ⟨p.a, glN, 0, false⟩ (popL p.q (pk p.q (lf8 p.a 0 false now)))) now (itL (pkI p.q (pk p.q (lf8 p.a 0 false now)))) (pkC (pk p.q (lf8 p.a 0 false now))) (pkB (pk p.q (lf8 p.a 0 false now)))) () ?_ (by (repeat' (first | ((conv => whnf); first | refine ⟨?_, ?_⟩ | exact trivial | fail) | (dsimp only; done) | ((try dsimp only); first | with_reducible exact rfl | exact Nat.le_refl _ | with_reducible exact (fun _ _ => rfl)))); all_goals ((first | rfl | exact fun _ _ => rfl)))
       exact trivial)
    | ((conv => whnf); refine o_one () (by (repeat' (first | ((conv => whnf); first | refine ⟨?_, ?_⟩ | exact trivial | fail) | (dsimp only; done) | ((try dsimp only); first | with_reducible exact rfl | exact Nat.le_refl _ | with_reducible exact (fun _ _ => rfl)))); all_goals ((first | rfl | exact fun _ _ => rfl))) ?_; exact (by have h9 := at_inv (p := p) (now := now) (q := popL p.q (pk p.q (lf8 p.a 0 false now))) hi; rw [atG_sw hw] at h9; exact h9))
end
noncomputable def cxNxB (p : Pt) (now : Int) : Cx Try.prog := cxNx p (nxP p now) now (nxO p now)
theorem nx_runs (p : Pt) (now : Int) (hn : nxOK now) (h : Unit) (hi : PtInv p) : Runs (cxNxB p now) Try.f11 (.one (.a (.ptr 0 0)) :: [int_ .i64 now]) (ptMem p) fun v m => ghosted (fun _ m => nilG 0 5 m) v m fun v m => anyO ptK (ptRen 0 m) v m [.one (nxV p now) (ptP (nxP p now))] := by
  by_cases hs : swB p.g now
  · have e : nxO p now = pk p.q (lf8 p.a 0 false now) := by unfold nxO lfA; rw [atG_sw hs]; rfl
    have e2 : nxP p now = Gs.p ⟨p.a, glN, 0, false⟩ (popL p.q (pk p.q (lf8 p.a 0 false now))) := by unfold nxP; rw [atG_sw hs, e]; rfl
    unfold cxNxB nxV
    rw [e2, e]
    exact nx_runs1 p now hs hn h hi
  · have e : nxO p now = pk p.q (lf8 p.l p.fr p.wait now) := by unfold nxO lfA; rw [atG_no hs]; rfl
    have e2 : nxP p now = p.g.p (popL p.q (pk p.q (lf8 p.l p.fr p.wait now))) := by unfold nxP; rw [atG_no hs, e]
    unfold cxNxB nxV
    rw [e2, e]
    exact nx_runs0 p now hs hn h hi
noncomputable def nxS : ESpec Try.prog := obN fn11 69 ptK (.s1 (.int .i64)) ptR ptP ptR_ok (fun _ => rfl) (fun p now _ => cxNxB p now) (fun _ now => nxOK now) (fun p now => [.one (nxV p now) (ptP (nxP p now))]) (fun _ m => nilG 0 5 m) (fun _ m => ptRen 0 m) (fun _ _ _ => rfl) (fun p now hn h hi => nx_runs p now hn h hi)

end Go.Proofs.Ytaadejgoafdbcaa
