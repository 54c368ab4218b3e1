/-
  Contracts of functions, and plain facts about them, that a claim of this seat uses.
-/
import Derived.Test.YtaadejgoafdbcaaSx
import Derived.Test.YtaadejgoafdbcaaPLanH
import Derived.Test.YtaadejgoafdbcaaPLanW
import Derived.Test.YtaadejgoafdbcaaProg
namespace Go.Proofs.Ytaadejgoafdbcaa
open Go.Sx
set_option linter.unusedVariables false
set_option linter.unusedSimpArgs false
set_option maxRecDepth 100000

/-! port: the object; Put, Len, Lost, Clear. -/
theorem fn8 : FnOf Try.prog 8 Try.f8 := ⟨Try.func8, rfl, rfl, mixed⟩
theorem fn10 : FnOf Try.prog 10 Try.f10 := ⟨Try.func10, rfl, rfl, mixed⟩
theorem fn11 : FnOf Try.prog 11 Try.f11 := ⟨Try.func11, rfl, rfl, mixed⟩
theorem fn14 : FnOf Try.prog 14 Try.f14 := ⟨Try.func14, rfl, rfl, mixed⟩
theorem fn15 : FnOf Try.prog 15 Try.f15 := ⟨Try.func15, rfl, rfl, mixed⟩
theorem fn17 : FnOf Try.prog 17 Try.f17 := ⟨Try.func17, rfl, rfl, mixed⟩
theorem fn18 : FnOf Try.prog 18 Try.f18 := ⟨Try.func18, rfl, rfl, mixed⟩
theorem fn19 : FnOf Try.prog 19 Try.f19 := ⟨Try.func19, rfl, rfl, mixed⟩
theorem fn28 : FnOf Try.prog 28 Try.f28 := ⟨Try.func28, rfl, rfl, mixed⟩
theorem fn29 : FnOf Try.prog 29 Try.f29 := ⟨Try.func29, rfl, rfl, mixed⟩
theorem fn32 : FnOf Try.prog 32 Try.f32 := ⟨Try.func32, rfl, rfl, mixed⟩
theorem fn34 : FnOf Try.prog 34 Try.f34 := ⟨Try.func34, rfl, rfl, mixed⟩
/-- a port: the list that holds, the one to come, when, whether; who waits -/
structure Pt where
  l : GL
  a : GL
  fr : Int
  wait : Bool
  q : Ln
def ptP (p : Pt) : Pay := { is := [p.l.base, p.l.cyc, p.a.base, p.a.cyc, p.fr], ns := [p.l.len, p.l.cap, p.l.N, p.a.len, p.a.cap, p.a.N], bs := [p.wait], ng := [p.q.n], gs := [p.l.op, p.l.ln, p.a.op, p.a.ln, p.q.room, p.q.lost], g2 := [p.q.id, p.q.sz], h2 := [p.q.dr] }
def ptR (p : Pay) : Option Pt := match p with
  | ⟨[b, c, b2, c2, fr], [n, k, N, n2, k2, N2], [w], [qn], [op, ln, op2, ln2, room, lost], [], [id, sz], [dr], []⟩ => some ⟨⟨b, c, n, k, N, op, ln⟩, ⟨b2, c2, n2, k2, N2, op2, ln2⟩, fr, w, ⟨qn, room, lost, id, sz, dr⟩⟩
  | _ => none
theorem ptR_ok (p : Pay) (x : Pt) (h : ptR p = some x) : p = ptP x := by
  unfold ptR at h
  split at h
  · cases h; rfl
  · cases h
def pI (p : Pay) (k : Nat) : Int := p.is.getD k 0
def pN (p : Pay) (k : Nat) : Nat := p.ns.getD k 0
def pG (p : Pay) (k : Nat) : Nat → Int := p.gs.getD k fun _ => 0
def ptOf (p : Pay) : Pt := ⟨⟨pI p 0, pI p 1, pN p 0, pN p 1, pN p 2, pG p 0, pG p 1⟩, ⟨pI p 2, pI p 3, pN p 3, pN p 4, pN p 5, pG p 2, pG p 3⟩, pI p 4, p.bs.headD false, ⟨p.ng.headD fun _ => 0, pG p 4, pG p 5, p.g2.headD fun _ _ => 0, (p.g2.drop 1).headD fun _ _ => 0, p.h2.headD fun _ _ => false⟩⟩
theorem ptOf_P (p : Pt) : ptOf (ptP p) = p := rfl
def gtR (l : GL) : Option Reg := some ⟨true, .tab l.N [.int .i64 l.op, .int .i64 l.ln]⟩
def ptCells (p : Pt) : List SA := [i_ p.l.base, i_ p.l.cyc, .slc 1 2 0 p.l.len p.l.cap, i_ p.a.base, i_ p.a.cyc, .slc 2 2 0 p.a.len p.a.cap, i_ p.fr, b_ p.wait, .ptr 3 0]
def ptMem (p : Pt) : Mem := [some ⟨true, .flat (ptCells p)⟩, gtR p.l, gtR p.a, some ⟨true, .obj 15 (lnP p.q) (boxI lnK)⟩]
structure PtInv (p : Pt) : Prop where
  lg : Gw p.l
  lc : chk p.l = 0
  ag : Gw p.a
  ac : p.wait = true → chk p.a = 0
  fr : 0 ≤ p.fr ∧ p.fr ≤ 4398046511104
noncomputable def ptK : ObK where
  Hid := Unit
  mem := fun p _ => ptMem (ptOf p)
  inv := fun p _ => PtInv (ptOf p)
  rw := fun p h i r hi => by
    rcases (by have := (List.getElem?_eq_some_iff.1 hi).1; change i < 4 at this; omega : i = 0 ∨ i = 1 ∨ i = 2 ∨ i = 3) with rfl | rfl | rfl | rfl <;> cases hi <;> rfl
  head := fun p h => ⟨_, _, rfl⟩
def mixO (m : Mem) (o c : Nat) : Nat := match (m[o]? : Option (Option Reg)) with | some (some ⟨_, .flat l⟩) => (match (l[c]? : Option SA) with | some x => x.ix | none => 0) | _ => 0
def ptRen (o : Nat) (m : Mem) : List Nat := [o, mixO m o 2, mixO m o 5, mixO m o 8]
noncomputable def cxPq : Cx Try.prog := { ps := [lenS, lostS], es := [putS, clrS], is := [], n0 := 1, loops := fun _ => none, cuts := fun _ => none }
noncomputable def cxPp : Cx Try.prog := { ps := [], es := [putS], is := [], n0 := 1, loops := fun _ => none, cuts := fun _ => none, loud := fun i => Nat.beq i 3 }
def ptQ (p : Pt) (q : Ln) : Pt := { p with q := q }
theorem pq_inv {p : Pt} {q : Ln} (h : PtInv p) : PtInv (ptQ p q) := ⟨h.lg, h.lc, h.ag, h.ac, h.fr⟩
section
attribute [local irreducible] anyO putE putL lenV lostV clrL
set_option maxHeartbeats 8000000 in
theorem pput_runs (p : Pt) (y : Int × It) (h : Unit) (hi : PtInv p) : Runs cxPp Try.f10 (.one (.a (.ptr 0 0)) :: [int_ .i64 y.1, .one (itC y.2)]) (ptMem p) fun v m => ghosted (fun _ _ => []) v m fun v m => anyO ptK (ptRen 0 m) v m [.one (int_ .i64 (putE p.q y.1 y.2)) (ptP (ptQ p (putL p.q y.1 y.2)))] := by
  repeat' (first | with_reducible exact trivial | with_reducible exact rfl | with_reducible exact Nat.le_refl _ | with_reducible exact (fun _ _ => rfl) | ((conv => whnf); first | (exact fun h => absurd h (by decide)) | (intro h9; (have h8 := of_decide_eq_true (p := type_of% h9) (by decide)); clear h8 h9) | (refine fun _ => ?_) | refine ⟨?_, ?_⟩ | exact trivial | exact Nat.le_refl _ | exact lex_q (by kernel_rfl) | exact lex_t (by kernel_rfl) | exact lex_h (by kernel_rfl) | fail))
  all_goals ((conv => whnf); refine o_one () (by (repeat' (first | ((conv => whnf); first | refine ⟨?_, ?_⟩ | exact trivial | fail) | (dsimp only; done) | ((try dsimp only); first | with_reducible exact rfl | exact Nat.le_refl _ | with_reducible exact (fun _ _ => rfl)))); all_goals ((first | rfl | exact fun _ _ => rfl))) ?_; exact pq_inv (p := p) (q := putL p.q y.1 y.2) hi)
set_option maxHeartbeats 8000000 in
theorem plen_runs (p : Pt) (c : Int) (h : Unit) (hi : PtInv p) : Runs cxPq Try.f15 (.one (.a (.ptr 0 0)) :: [int_ .i64 c]) (ptMem p) fun v m => ghosted (fun _ _ => []) v m fun v m => anyO ptK (ptRen 0 m) v m [.one (int_ .i64 (lenV p.q c)) (ptP p)] := by
  repeat' (first | with_reducible exact trivial | with_reducible exact rfl | with_reducible exact Nat.le_refl _ | with_reducible exact (fun _ _ => rfl) | ((conv => whnf); first | (exact fun h => absurd h (by decide)) | (intro h9; (have h8 := of_decide_eq_true (p := type_of% h9) (by decide)); clear h8 h9) | (refine fun _ => ?_) | refine ⟨?_, ?_⟩ | exact trivial | exact Nat.le_refl _ | exact lex_q (by kernel_rfl) | exact lex_t (by kernel_rfl) | exact lex_h (by kernel_rfl) | fail))
  all_goals ((conv => whnf); refine o_one () (by (repeat' (first | ((conv => whnf); first | refine ⟨?_, ?_⟩ | exact trivial | fail) | (dsimp only; done) | ((try dsimp only); first | with_reducible exact rfl | exact Nat.le_refl _ | with_reducible exact (fun _ _ => rfl)))); all_goals ((first | rfl | exact fun _ _ => rfl))) ?_; exact hi)
set_option maxHeartbeats 8000000 in
theorem plost_runs (p : Pt) (c : Int) (h : Unit) (hi : PtInv p) : Runs cxPq Try.f19 (.one (.a (.ptr 0 0)) :: [int_ .i64 c]) (ptMem p) fun v m => ghosted (fun _ _ => []) v m fun v m => anyO ptK (ptRen 0 m) v m [.one (int_ .i64 (lostV p.q c)) (ptP p)] := by
  repeat' (first | with_reducible exact trivial | with_reducible exact rfl | with_reducible exact Nat.le_refl _ | with_reducible exact (fun _ _ => rfl) | ((conv => whnf); first | (exact fun h => absurd h (by decide)) | (intro h9; (have h8 := of_decide_eq_true (p := type_of% h9) (by decide)); clear h8 h9) | (refine fun _ => ?_) | refine ⟨?_, ?_⟩ | exact trivial | exact Nat.le_refl _ | exact lex_q (by kernel_rfl) | exact lex_t (by kernel_rfl) | exact lex_h (by kernel_rfl) | fail))
  all_goals ((conv => whnf); refine o_one () (by (repeat' (first | ((conv => whnf); first | refine ⟨?_, ?_⟩ | exact trivial | fail) | (dsimp only; done) | ((try dsimp only); first | with_reducible exact rfl | exact Nat.le_refl _ | with_reducible exact (fun _ _ => rfl)))); all_goals ((first | rfl | exact fun _ _ => rfl))) ?_; exact hi)
end
noncomputable def pputS : ESpec Try.prog := obN fn10 69 ptK (.s2 (.int .i64) Lens.it) ptR ptP ptR_ok (fun _ => rfl) (fun _ _ _ => cxPp) (fun _ _ => True) (fun p y => [.one (int_ .i64 (putE p.q y.1 y.2)) (ptP (ptQ p (putL p.q y.1 y.2)))]) (fun _ _ => []) (fun _ m => ptRen 0 m) (fun _ _ _ => rfl) (fun p y _ h hi => pput_runs p y h hi)
noncomputable def plenS : PSpec Try.prog := obP fn15 69 ptK (.s1 (.int .i64)) ptR ptP ptR_ok (fun _ => rfl) (fun _ _ _ => cxPq) (fun _ _ => True) (fun p c => int_ .i64 (lenV p.q c)) (fun _ _ => []) (fun _ m => ptRen 0 m) (fun _ _ _ => rfl) (fun p c _ h hi => plen_runs p c h hi)
noncomputable def plostS : PSpec Try.prog := obP fn19 69 ptK (.s1 (.int .i64)) ptR ptP ptR_ok (fun _ => rfl) (fun _ _ _ => cxPq) (fun _ _ => True) (fun p c => int_ .i64 (lostV p.q c)) (fun _ _ => []) (fun _ m => ptRen 0 m) (fun _ _ _ => rfl) (fun p c _ h hi => plost_runs p c h hi)

end Go.Proofs.Ytaadejgoafdbcaa
