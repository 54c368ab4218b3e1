/-
  Contracts of functions, and plain facts about them, that a claim of this seat uses.
-/
import Derived.Test.YtaadejgoafdbcaaSx
import Derived.Test.YtaadejgoafdbcaaPLanA
import Derived.Test.YtaadejgoafdbcaaProg
namespace Go.Proofs.Ytaadejgoafdbcaa
open Go.Sx
set_option linter.unusedVariables false
set_option linter.unusedSimpArgs false
set_option maxRecDepth 100000

/-! lanes: Pick. -/
inductive M9 where
  | m0 | m1 | m2 | m3 | m4 | m5 | m6 | m7 | m8
def M9.n : M9 → Nat
  | .m0 => 0 | .m1 => 1 | .m2 => 2 | .m3 => 3 | .m4 => 4 | .m5 => 5 | .m6 => 6 | .m7 => 7 | .m8 => 8
def M9.z : M9 → Int
  | .m0 => -1 | .m1 => 0 | .m2 => 1 | .m3 => 2 | .m4 => 3 | .m5 => 4 | .m6 => 5 | .m7 => 6 | .m8 => 7
/-- may the first of a class go? -/
def fits (l : Ln) (a : A8) (k : Nat) : Prop := 0 < l.n k ∧ 8 * l.sz k 0 ≤ a.f k
instance (l : Ln) (a : A8) (k : Nat) : Decidable (fits l a k) := by unfold fits; exact inferInstance
def pkFrom (l : Ln) (a : A8) : Nat → Option Nat
  | 0 => none
  | k + 1 => if fits l a k then some k else pkFrom l a k
def pk (l : Ln) (a : A8) : Option Nat := pkFrom l a 8
def pkC (o : Option Nat) : Int := match o with | none => 0 | some k => k
def pkI (l : Ln) (o : Option Nat) : It := match o with | none => ⟨0, 0, false⟩ | some k => ⟨l.id k 0, l.sz k 0, l.dr k 0⟩
def pkB (o : Option Nat) : Bool := o.isSome
def popL (l : Ln) (o : Option Nat) : Ln := match o with
  | none => l
  | some k => { n := up l.n k (l.n k - 1), room := l.room, lost := l.lost, id := up l.id k (fun r => l.id k (r + 1)), sz := up l.sz k (fun r => l.sz k (r + 1)), dr := up l.dr k (fun r => l.dr k (r + 1)) }
def pkV (l : Ln) (o : Option Nat) : SV := .tup [.a (i_ (pkC o)), itC (pkI l o), .a (b_ (pkB o))]
def pkGs (v : SV) : List GC := match v with | .tup [.a (.v (.int _ n)), _, .a .tt] => [.base 0 n.toNat] | _ => []
theorem pk_zero {l : Ln} {a : A8} {o : Option Nat} (h : pkFrom l a 0 = o) : none = o := h
theorem pk_hit {l : Ln} {a : A8} {k : Nat} {o : Option Nat} (h : pkFrom l a (k + 1) = o) (hf : fits l a k) : some k = o := by
  rw [← h]; exact (if_pos hf).symm
theorem pk_miss {l : Ln} {a : A8} {k : Nat} {o : Option Nat} (h : pkFrom l a (k + 1) = o) (hf : ¬ fits l a k) : pkFrom l a k = o := by
  rw [← h]; exact (if_neg hf).symm
theorem sz_fit {l : Ln} {k : Nat} {q : HQ} (hi : LnOK l) (hq : QOK l k q) (hk : k < 8) (hn : 0 < (l.n k : Int)) : IntKind.i64.wrap (8 * q.b (0 + Int.toNat 0)) = 8 * l.sz k 0 := by
  have h1 := (hq.at_ 0 (by omega)).2.1
  have h2 := hi.sz k hk 0 (by omega)
  rw [show 0 + Int.toNat 0 = 0 from rfl, h1, w64' (by omega) (by omega)]
theorem pop_ok {l : Ln} (h : LnOK l) (k : Nat) (hn : 0 < (l.n k : Int)) : LnOK (popL l (some k)) := by
  refine ⟨fun j hj => ?_, h.room, fun j hj r hr => ?_⟩
  · show up l.n k (l.n k - 1) j ≤ 4096
    unfold up
    have := h.n j hj
    split
    · rename_i e; subst e; omega
    · exact this
  · have hr : r < up l.n k (l.n k - 1) j := hr
    show 0 ≤ up l.sz k (fun r => l.sz k (r + 1)) j r ∧ up l.sz k (fun r => l.sz k (r + 1)) j r ≤ 1600
    unfold up at hr ⊢
    split
    · rename_i e; subst e
      rw [if_pos rfl] at hr
      exact h.sz j hj (r + 1) (by omega)
    · rename_i e
      rw [if_neg e] at hr
      exact h.sz j hj r hr
theorem qpop_ne {l : Ln} {k j : Nat} {q : HQ} (hk : j ≠ k) (hq : QOK l j q) : QOK (popL l (some k)) j q := by
  refine ⟨?_, hq.c, fun r hr => ?_⟩
  · show up l.n k (l.n k - 1) j ≤ q.c
    rw [up_ne _ _ hk]; exact hq.n
  · have hr : r < up l.n k (l.n k - 1) j := hr
    rw [up_ne _ _ hk] at hr
    show q.a r = up l.id k (fun r => l.id k (r + 1)) j r ∧ q.b r = up l.sz k (fun r => l.sz k (r + 1)) j r ∧ q.d r = up l.dr k (fun r => l.dr k (r + 1)) j r
    rw [up_ne _ _ hk, up_ne _ _ hk, up_ne _ _ hk]
    exact hq.at_ r hr
theorem qpop_at {l : Ln} {k : Nat} {q q' : HQ} (hn : 0 < (l.n k : Int)) (hq : QOK l k q) (hc : q'.c = q.c - 1) (ha : ∀ r, q'.a r = q.a (r + cutR (some 1) q.c (Int.toNat 1) 0) ∧ q'.b r = q.b (r + cutR (some 1) q.c (Int.toNat 1) 0) ∧ q'.d r = q.d (r + cutR (some 1) q.c (Int.toNat 1) 0)) : QOK (popL l (some k)) k q' := by
  have h1 := hq.n
  have h2 := hq.c
  refine ⟨?_, by omega, fun r hr => ?_⟩
  · show up l.n k (l.n k - 1) k ≤ q'.c
    rw [up_at]; omega
  · have hr : r < up l.n k (l.n k - 1) k := hr
    rw [up_at] at hr
    show q'.a r = up l.id k (fun r => l.id k (r + 1)) k r ∧ q'.b r = up l.sz k (fun r => l.sz k (r + 1)) k r ∧ q'.d r = up l.dr k (fun r => l.dr k (r + 1)) k r
    rw [up_at, up_at, up_at]
    obtain ⟨e1, e2, e3⟩ := ha r
    have hs : cutR (some 1) q.c (Int.toNat 1) 0 = 1 := by
      show (if q.c = 1 then 0 else 0 + 1) = 1
      rw [if_neg (by omega)]
    rw [hs] at e1 e2 e3
    rw [e1, e2, e3]
    exact hq.at_ (r + 1) (by omega)
theorem cut_le (c : Nat) : c - 1 ≤ c - cutR (some 1) c (Int.toNat 1) 0 := by
  show c - 1 ≤ c - (if c = 1 then 0 else 0 + 1)
  split <;> omega
abbrev laPk (l : Ln) (h : LH) (a : A8) (o : Option Nat) : LA where
  ι := M9
  inv := fun c => pkFrom l a c.n = o
  T := fun c => ⟨50, [(0, .one (.a (.ptr 0 0))), (3, .one (.a (.ptr 9 0))), (4, int_ .i64 0), (5, .one (.a (.ptr 10 0))), (6, .one (.a .ff)), (7, int_ .i64 c.z)], lnMem l h ++ [some ⟨true, .flat [i_ a.a0, i_ a.a1, i_ a.a2, i_ a.a3, i_ a.a4, i_ a.a5, i_ a.a6, i_ a.a7]⟩, some ⟨true, .flat [i_ 0, i_ 0, .ff]⟩]⟩
  μ := fun c => c.n
  ren := fun S => [0, 1, 2, 3, 4, 5, 6, 7, 8, S.ix 3, S.ix 5]
noncomputable def cxPick (l : Ln) (h : LH) (a : A8) (o : Option Nat) : Cx Try.prog := { ps := [], es := [], is := [], n0 := 1, loops := fun i => match i with | 4 => some (.inv (laPk l h a o)) | _ => none, cuts := fun _ => none }
section
attribute [local irreducible] anyO enter pkFrom
set_option maxHeartbeats 8000000 in
theorem pick_runs (l : Ln) (a : A8) (h : LH) (hi : LnInv l h) (o : Option Nat) (ho : pkFrom l a 8 = o) : Runs (cxPick l h a o) Try.f24 (.one (.a (.ptr 0 0)) :: [a8C a]) (lnMem l h) fun v m => ghosted (fun v _ => pkGs v) v m fun v m => anyO lnK (lnRen m) v m [.one (pkV l o) (lnP (popL l o))] := by
  have hn0 := hi.q0.n
  have hn1 := hi.q1.n
  have hn2 := hi.q2.n
  have hn3 := hi.q3.n
  have hn4 := hi.q4.n
  have hn5 := hi.q5.n
  have hn6 := hi.q6.n
  have hn7 := hi.q7.n
  repeat' (first | with_reducible exact trivial | with_reducible exact rfl | with_reducible exact Nat.le_refl _ | with_reducible exact (fun _ _ => rfl) | ((conv => whnf); first | ((refine fun (x : M9) => ?_); rcases x with x | x | x | x | x | x | x | x | x) | (exact fun h => absurd h (by decide)) | (intro h9; (have h8 := of_decide_eq_true (p := type_of% h9) (by decide)); clear h8 h9) | (refine fun _ => ?_) | refine ⟨?_, ?_⟩ | exact trivial | exact Nat.le_refl _ | exact lex_q (by kernel_rfl) | exact lex_t (by kernel_rfl) | exact lex_h (by kernel_rfl) | fail))
  all_goals (try decide)
  all_goals (try omega)
  · (conv => whnf); refine enter_mk (la := laPk l h a o) M9.m8 ?_ (by (repeat' (first | ((conv => whnf); first | refine ⟨?_, ?_⟩ | exact trivial | fail) | (dsimp only; done) | ((try dsimp only); first | with_reducible exact rfl | exact Nat.le_refl _ | with_reducible exact (fun _ _ => rfl)))); all_goals ((first | rfl | decide))); exact ho
  · obtain rfl : none = o := pk_zero (by assumption : (laPk l h a o).inv M9.m0)
    (conv => whnf); refine o_one ⟨⟨_, _, _, _⟩, ⟨_, _, _, _⟩, ⟨_, _, _, _⟩, ⟨_, _, _, _⟩, ⟨_, _, _, _⟩, ⟨_, _, _, _⟩, ⟨_, _, _, _⟩, ⟨_, _, _, _⟩⟩ (by (repeat' (first | ((conv => whnf); first | refine ⟨?_, ?_⟩ | exact trivial | fail) | (dsimp only; done) | ((try dsimp only); first | with_reducible exact rfl | exact Nat.le_refl _ | with_reducible exact (fun _ _ => rfl)))); all_goals ((first | rfl | decide))) ?_; exact hi
  · have hn : 0 < (l.n 0 : Int) := by assumption
    have hf : fits l a 0 := ⟨by omega, by rw [← sz_fit hi.ok hi.q0 (by decide) hn]; assumption⟩
    obtain rfl : some 0 = o := pk_hit (k := 0) (by assumption : (laPk l h a o).inv M9.m1) hf
    (conv => whnf); refine o_one ⟨⟨_, _, _, _⟩, ⟨_, _, _, _⟩, ⟨_, _, _, _⟩, ⟨_, _, _, _⟩, ⟨_, _, _, _⟩, ⟨_, _, _, _⟩, ⟨_, _, _, _⟩, ⟨_, _, _, _⟩⟩ (by (repeat' (first | ((conv => whnf); first | refine ⟨?_, ?_⟩ | exact trivial | fail) | (dsimp only; done) | ((try dsimp only); first | with_reducible exact rfl | exact Nat.le_refl _ | with_reducible exact (fun _ _ => rfl)))); all_goals ((first | rfl | decide | exact (hi.q0.at_ 0 (by omega)).1.symm | exact (hi.q0.at_ 0 (by omega)).2.1.symm | exact (hi.q0.at_ 0 (by omega)).2.2.symm | exact cut_le _))) ?_; refine ⟨pop_ok hi.ok 0 hn, qpop_at hn hi.q0 rfl (fun r => ⟨rfl, rfl, rfl⟩), qpop_ne (by decide) hi.q1, qpop_ne (by decide) hi.q2, qpop_ne (by decide) hi.q3, qpop_ne (by decide) hi.q4, qpop_ne (by decide) hi.q5, qpop_ne (by decide) hi.q6, qpop_ne (by decide) hi.q7⟩
  · have hn : 0 < (l.n 0 : Int) := by assumption
    have hf : ¬ fits l a 0 := fun hf => (by assumption : ¬ _ ≤ a.a0) (by rw [sz_fit hi.ok hi.q0 (by decide) hn]; exact hf.2)
    (conv => whnf); refine enter_mk (la := laPk l h a o) M9.m0 ?_ (by (repeat' (first | ((conv => whnf); first | refine ⟨?_, ?_⟩ | exact trivial | fail) | (dsimp only; done) | ((try dsimp only); first | with_reducible exact rfl | exact Nat.le_refl _ | with_reducible exact (fun _ _ => rfl)))); all_goals ((first | rfl | decide))); exact pk_miss (k := 0) (by assumption : (laPk l h a o).inv M9.m1) hf
  · have hn : ¬ 0 < (l.n 0 : Int) := by assumption
    have hf : ¬ fits l a 0 := fun hf => hn (by have := hf.1; omega)
    (conv => whnf); refine enter_mk (la := laPk l h a o) M9.m0 ?_ (by (repeat' (first | ((conv => whnf); first | refine ⟨?_, ?_⟩ | exact trivial | fail) | (dsimp only; done) | ((try dsimp only); first | with_reducible exact rfl | exact Nat.le_refl _ | with_reducible exact (fun _ _ => rfl)))); all_goals ((first | rfl | decide))); exact pk_miss (k := 0) (by assumption : (laPk l h a o).inv M9.m1) hf
  · have hn : 0 < (l.n 1 : Int) := by assumption
    have hf : fits l a 1 := ⟨by omega, by rw [← sz_fit hi.ok hi.q1 (by decide) hn]; assumption⟩
    obtain rfl : some 1 = o := pk_hit (k := 1) (by assumption : (laPk l h a o).inv M9.m2) hf
    (conv => whnf); refine o_one ⟨⟨_, _, _, _⟩, ⟨_, _, _, _⟩, ⟨_, _, _, _⟩, ⟨_, _, _, _⟩, ⟨_, _, _, _⟩, ⟨_, _, _, _⟩, ⟨_, _, _, _⟩, ⟨_, _, _, _⟩⟩ (by (repeat' (first | ((conv => whnf); first | refine ⟨?_, ?_⟩ | exact trivial | fail) | (dsimp only; done) | ((try dsimp only); first | with_reducible exact rfl | exact Nat.le_refl _ | with_reducible exact (fun _ _ => rfl)))); all_goals ((first | rfl | decide | exact (hi.q1.at_ 0 (by omega)).1.symm | exact (hi.q1.at_ 0 (by omega)).2.1.symm | exact (hi.q1.at_ 0 (by omega)).2.2.symm | exact cut_le _))) ?_; refine ⟨pop_ok hi.ok 1 hn, qpop_ne (by decide) hi.q0, qpop_at hn hi.q1 rfl (fun r => ⟨rfl, rfl, rfl⟩), qpop_ne (by decide) hi.q2, qpop_ne (by decide) hi.q3, qpop_ne (by decide) hi.q4, qpop_ne (by decide) hi.q5, qpop_ne (by decide) hi.q6, qpop_ne (by decide) hi.q7⟩
  · have hn : 0 < (l.n 1 : Int) := by assumption
    have hf : ¬ fits l a 1 := fun hf => (by assumption : ¬ _ ≤ a.a1) (by rw [sz_fit hi.ok hi.q1 (by decide) hn]; exact hf.2)
    (conv => whnf); refine enter_mk (la := laPk l h a o) M9.m1 ?_ (by (repeat' (first | ((conv => whnf); first | refine ⟨?_, ?_⟩ | exact trivial | fail) | (dsimp only; done) | ((try dsimp only); first | with_reducible exact rfl | exact Nat.le_refl _ | with_reducible exact (fun _ _ => rfl)))); all_goals ((first | rfl | decide))); exact pk_miss (k := 1) (by assumption : (laPk l h a o).inv M9.m2) hf
  · have hn : ¬ 0 < (l.n 1 : Int) := by assumption
    have hf : ¬ fits l a 1 := fun hf => hn (by have := hf.1; omega)
    (conv => whnf); refine enter_mk (la := laPk l h a o) M9.m1 ?_ (by (repeat' (first | ((conv => whnf); first | refine ⟨?_, ?_⟩ | exact trivial | fail) | (dsimp only; done) | ((try dsimp only); first | with_reducible exact rfl | exact Nat.le_refl _ | with_reducible exact (fun _ _ => rfl)))); all_goals ((first | rfl | decide))); exact pk_miss (k := 1) (by assumption : (laPk l h a o).inv M9.m2) hf
  · have hn : 0 < (l.n 2 : Int) := by assumption
    have hf : fits l a 2 := ⟨by omega, by rw [← sz_fit hi.ok hi.q2 (by decide) hn]; assumption⟩
    obtain rfl : some 2 = o := pk_hit (k := 2) (by assumption : (laPk l h a o).inv M9.m3) hf
    (conv => whnf); refine o_one ⟨⟨_, _, _, _⟩, ⟨_, _, _, _⟩, ⟨_, _, _, _⟩, ⟨_, _, _, _⟩, ⟨_, _, _, _⟩, ⟨_, _, _, _⟩, ⟨_, _, _, _⟩, ⟨_, _, _, _⟩⟩ (by (repeat' (first | ((conv => whnf); first | refine ⟨?_, ?_⟩ | exact trivial | fail) | (dsimp only; done) | ((try dsimp only); first | with_reducible exact rfl | exact Nat.le_refl _ | with_reducible exact (fun _ _ => rfl)))); all_goals ((first | rfl | decide | exact (hi.q2.at_ 0 (by omega)).1.symm | exact (hi.q2.at_ 0 (by omega)).2.1.symm | exact (hi.q2.at_ 0 (by omega)).2.2.symm | exact cut_le _))) ?_; refine ⟨pop_ok hi.ok 2 hn, qpop_ne (by decide) hi.q0, qpop_ne (by decide) hi.q1, qpop_at hn hi.q2 rfl (fun r => ⟨rfl, rfl, rfl⟩), qpop_ne (by decide) hi.q3, qpop_ne (by decide) hi.q4, qpop_ne (by decide) hi.q5, qpop_ne (by decide) hi.q6, qpop_ne (by decide) hi.q7⟩
  · have hn : 0 < (l.n 2 : Int) := by assumption
    have hf : ¬ fits l a 2 := fun hf => (by assumption : ¬ _ ≤ a.a2) (by rw [sz_fit hi.ok hi.q2 (by decide) hn]; exact hf.2)
    (conv => whnf); refine enter_mk (la := laPk l h a o) M9.m2 ?_ (by (repeat' (first | ((conv => whnf); first | refine ⟨?_, ?_⟩ | exact trivial | fail) | (dsimp only; done) | ((try dsimp only); first | with_reducible exact rfl | exact Nat.le_refl _ | with_reducible exact (fun _ _ => rfl)))); all_goals ((first | rfl | decide))); exact pk_miss (k := 2) (by assumption : (laPk l h a o).inv M9.m3) hf
  · have hn : ¬ 0 < (l.n 2 : Int) := by assumption
    have hf : ¬ fits l a 2 := fun hf => hn (by have := hf.1; omega)
    (conv => whnf); refine enter_mk (la := laPk l h a o) M9.m2 ?_ (by (repeat' (first | ((conv => whnf); first | refine ⟨?_, ?_⟩ | exact trivial | fail) | (dsimp only; done) | ((try dsimp only); first | with_reducible exact rfl | exact Nat.le_refl _ | with_reducible exact (fun _ _ => rfl)))); all_goals ((first | rfl | decide))); exact pk_miss (k := 2) (by assumption : (laPk l h a o).inv M9.m3) hf
  · have hn : 0 < (l.n 3 : Int) := by assumption
    have hf : fits l a 3 := ⟨by omega, by rw [← sz_fit hi.ok hi.q3 (by decide) hn]; assumption⟩
    obtain rfl : some 3 = o := pk_hit (k := 3) (by assumption : (laPk l h a o).inv M9.m4) hf
    (conv => whnf); refine o_one ⟨⟨_, _, _, _⟩, ⟨_, _, _, _⟩, ⟨_, _, _, _⟩, ⟨_, _, _, _⟩, ⟨_, _, _, _⟩, ⟨_, _, _, _⟩, ⟨_, _, _, _⟩, ⟨_, _, _, _⟩⟩ (by (repeat' (first | ((conv => whnf); first | refine ⟨?_, ?_⟩ | exact trivial | fail) | (dsimp only; done) | ((try dsimp only); first | with_reducible exact rfl | exact Nat.le_refl _ | with_reducible exact (fun _ _ => rfl)))); all_goals ((first | rfl | decide | exact (hi.q3.at_ 0 (by omega)).1.symm | exact (hi.q3.at_ 0 (by omega)).2.1.symm | exact (hi.q3.at_ 0 (by omega)).2.2.symm | exact cut_le _))) ?_; refine ⟨pop_ok hi.ok 3 hn, qpop_ne (by decide) hi.q0, qpop_ne (by decide) hi.q1, qpop_ne (by decide) hi.q2, qpop_at hn hi.q3 rfl (fun r => ⟨rfl, rfl, rfl⟩), qpop_ne (by decide) hi.q4, qpop_ne (by decide) hi.q5, qpop_ne (by decide) hi.q6, qpop_ne (by decide) hi.q7⟩
  · have hn : 0 < (l.n 3 : Int) := by assumption
    have hf : ¬ fits l a 3 := fun hf => (by assumption : ¬ _ ≤ a.a3) (by rw [sz_fit hi.ok hi.q3 (by decide) hn]; exact hf.2)
    (conv => whnf); refine enter_mk (la := laPk l h a o) M9.m3 ?_ (by (repeat' (first | ((conv => whnf); first | refine ⟨?_, ?_⟩ | exact trivial | fail) | (dsimp only; done) | ((try dsimp only); first | with_reducible exact rfl | exact Nat.le_refl _ | with_reducible exact (fun _ _ => rfl)))); all_goals ((first | rfl | decide))); exact pk_miss (k := 3) (by assumption : (laPk l h a o).inv M9.m4) hf
  · have hn : ¬ 0 < (l.n 3 : Int) := by assumption
    have hf : ¬ fits l a 3 := fun hf => hn (by have := hf.1; omega)
    (conv => whnf); refine enter_mk (la := laPk l h a o) M9.m3 ?_ (by (repeat' (first | ((conv => whnf); first | refine ⟨?_, ?_⟩ | exact trivial | fail) | (dsimp only; done) | ((try dsimp only); first | with_reducible exact rfl | exact Nat.le_refl _ | with_reducible exact (fun _ _ => rfl)))); all_goals ((first | rfl | decide))); exact pk_miss (k := 3) (by assumption : (laPk l h a o).inv M9.m4) hf
  · have hn : 0 < (l.n 4 : Int) := by assumption
    have hf : fits l a 4 := ⟨by omega, by rw [← sz_fit hi.ok hi.q4 (by decide) hn]; assumption⟩
    obtain rfl : some 4 = o := pk_hit (k := 4) (by assumption : (laPk l h a o).inv M9.m5) hf
    (conv => whnf); refine o_one ⟨⟨_, _, _, _⟩, ⟨_, _, _, _⟩, ⟨_, _, _, _⟩, ⟨_, _, _, _⟩, ⟨_, _, _, _⟩, ⟨_, _, _, _⟩, ⟨_, _, _, _⟩, ⟨_, _, _, _⟩⟩ (by (repeat' (first | ((conv => whnf); first | refine ⟨?_, ?_⟩ | exact trivial | fail) | (dsimp only; done) | ((try dsimp only); first | with_reducible exact rfl | exact Nat.le_refl _ | with_reducible exact (fun _ _ => rfl)))); all_goals ((first | rfl | decide | exact (hi.q4.at_ 0 (by omega)).1.symm | exact (hi.q4.at_ 0 (by omega)).2.1.symm | exact (hi.q4.at_ 0 (by omega)).2.2.symm | exact cut_le _))) ?_; refine ⟨pop_ok hi.ok 4 hn, qpop_ne (by decide) hi.q0, qpop_ne (by decide) hi.q1, qpop_ne (by decide) hi.q2, qpop_ne (by decide) hi.q3, qpop_at hn hi.q4 rfl (fun r => ⟨rfl, rfl, rfl⟩), qpop_ne (by decide) hi.q5, qpop_ne (by decide) hi.q6, qpop_ne (by decide) hi.q7⟩
  · have hn : 0 < (l.n 4 : Int) := by assumption
    have hf : ¬ fits l a 4 := fun hf => (by assumption : ¬ _ ≤ a.a4) (by rw [sz_fit hi.ok hi.q4 (by decide) hn]; exact hf.2)
    (conv => whnf); refine enter_mk (la := laPk l h a o) M9.m4 ?_ (by (repeat' (first | ((conv => whnf); first | refine ⟨?_, ?_⟩ | exact trivial | fail) | (dsimp only; done) | ((try dsimp only); first | with_reducible exact rfl | exact Nat.le_refl _ | with_reducible exact (fun _ _ => rfl)))); all_goals ((first | rfl | decide))); exact pk_miss (k := 4) (by assumption : (laPk l h a o).inv M9.m5) hf
  · have hn : ¬ 0 < (l.n 4 : Int) := by assumption
    have hf : ¬ fits l a 4 := fun hf => hn (by have := hf.1; omega)
    (conv => whnf); refine enter_mk (la := laPk l h a o) M9.m4 ?_ (by (repeat' (first | ((conv => whnf); first | refine ⟨?_, ?_⟩ | exact trivial | fail) | (dsimp only; done) | ((try dsimp only); first | with_reducible exact rfl | exact Nat.le_refl _ | with_reducible exact (fun _ _ => rfl)))); all_goals ((first | rfl | decide))); exact pk_miss (k := 4) (by assumption : (laPk l h a o).inv M9.m5) hf
  · have hn : 0 < (l.n 5 : Int) := by assumption
    have hf : fits l a 5 := ⟨by omega, by rw [← sz_fit hi.ok hi.q5 (by decide) hn]; assumption⟩
    obtain rfl : some 5 = o := pk_hit (k := 5) (by assumption : (laPk l h a o).inv M9.m6) hf
    (conv => whnf); refine o_one ⟨⟨_, _, _, _⟩, ⟨_, _, _, _⟩, ⟨_, _, _, _⟩, ⟨_, _, _, _⟩, ⟨_, _, _, _⟩, ⟨_, _, _, _⟩, ⟨_, _, _, _⟩, ⟨_, _, _, _⟩⟩ (by (repeat' (first | ((conv => whnf); first | refine ⟨?_, ?_⟩ | exact trivial | fail) | (dsimp only; done) | ((try dsimp only); first | with_reducible exact rfl | exact Nat.le_refl _ | with_reducible exact (fun _ _ => rfl)))); all_goals ((first | rfl | decide | exact (hi.q5.at_ 0 (by omega)).1.symm | exact (hi.q5.at_ 0 (by omega)).2.1.symm | exact (hi.q5.at_ 0 (by omega)).2.2.symm | exact cut_le _))) ?_; refine ⟨pop_ok hi.ok 5 hn, qpop_ne (by decide) hi.q0, qpop_ne (by decide) hi.q1, qpop_ne (by decide) hi.q2, qpop_ne (by decide) hi.q3, qpop_ne (by decide) hi.q4, qpop_at hn hi.q5 rfl (fun r => ⟨rfl, rfl, rfl⟩), qpop_ne (by decide) hi.q6, qpop_ne (by decide) hi.q7⟩
  · have hn : 0 < (l.n 5 : Int) := by assumption
    have hf : ¬ fits l a 5 := fun hf => (by assumption : ¬ _ ≤ a.a5) (by rw [sz_fit hi.ok hi.q5 (by decide) hn]; exact hf.2)
    (conv => whnf); refine enter_mk (la := laPk l h a o) M9.m5 ?_ (by (repeat' (first | ((conv => whnf); first | refine ⟨?_, ?_⟩ | exact trivial | fail) | (dsimp only; done) | ((try dsimp only); first | with_reducible exact rfl | exact Nat.le_refl _ | with_reducible exact (fun _ _ => rfl)))); all_goals ((first | rfl | decide))); exact pk_miss (k := 5) (by assumption : (laPk l h a o).inv M9.m6) hf
  · have hn : ¬ 0 < (l.n 5 : Int) := by assumption
    have hf : ¬ fits l a 5 := fun hf => hn (by have := hf.1; omega)
    (conv => whnf); refine enter_mk (la := laPk l h a o) M9.m5 ?_ (by (repeat' (first | ((conv => whnf); first | refine ⟨?_, ?_⟩ | exact trivial | fail) | (dsimp only; done) | ((try dsimp only); first | with_reducible exact rfl | exact Nat.le_refl _ | with_reducible exact (fun _ _ => rfl)))); all_goals ((first | rfl | decide))); exact pk_miss (k := 5) (by assumption : (laPk l h a o).inv M9.m6) hf
  · have hn : 0 < (l.n 6 : Int) := by assumption
    have hf : fits l a 6 := ⟨by omega, by rw [← sz_fit hi.ok hi.q6 (by decide) hn]; assumption⟩
    obtain rfl : some 6 = o := pk_hit (k := 6) (by assumption : (laPk l h a o).inv M9.m7) hf
    (conv => whnf); refine o_one ⟨⟨_, _, _, _⟩, ⟨_, _, _, _⟩, ⟨_, _, _, _⟩, ⟨_, _, _, _⟩, ⟨_, _, _, _⟩, ⟨_, _, _, _⟩, ⟨_, _, _, _⟩, ⟨_, _, _, _⟩⟩ (by (repeat' (first | ((conv => whnf); first | refine ⟨?_, ?_⟩ | exact trivial | fail) | (dsimp only; done) | ((try dsimp only); first | with_reducible exact rfl | exact Nat.le_refl _ | with_reducible exact (fun _ _ => rfl)))); all_goals ((first | rfl | decide | exact (hi.q6.at_ 0 (by omega)).1.symm | exact (hi.q6.at_ 0 (by omega)).2.1.symm | exact (hi.q6.at_ 0 (by omega)).2.2.symm | exact cut_le _))) ?_; refine ⟨pop_ok hi.ok 6 hn, qpop_ne (by decide) hi.q0, qpop_ne (by decide) hi.q1, qpop_ne (by decide) hi.q2, qpop_ne (by decide) hi.q3, qpop_ne (by decide) hi.q4, qpop_ne (by decide) hi.q5, qpop_at hn hi.q6 rfl (fun r => ⟨rfl, rfl, rfl⟩), qpop_ne (by decide) hi.q7⟩
  · have hn : 0 < (l.n 6 : Int) := by assumption
    have hf : ¬ fits l a 6 := fun hf => (by assumption : ¬ _ ≤ a.a6) (by rw [sz_fit hi.ok hi.q6 (by decide) hn]; exact hf.2)
    (conv => whnf); refine enter_mk (la := laPk l h a o) M9.m6 ?_ (by (repeat' (first | ((conv => whnf); first | refine ⟨?_, ?_⟩ | exact trivial | fail) | (dsimp only; done) | ((try dsimp only); first | with_reducible exact rfl | exact Nat.le_refl _ | with_reducible exact (fun _ _ => rfl)))); all_goals ((first | rfl | decide))); exact pk_miss (k := 6) (by assumption : (laPk l h a o).inv M9.m7) hf
  · have hn : ¬ 0 < (l.n 6 : Int) := by assumption
    have hf : ¬ fits l a 6 := fun hf => hn (by have := hf.1; omega)
    (conv => whnf); refine enter_mk (la := laPk l h a o) M9.m6 ?_ (by (repeat' (first | ((conv => whnf); first | refine ⟨?_, ?_⟩ | exact trivial | fail) | (dsimp only; done) | ((try dsimp only); first | with_reducible exact rfl | exact Nat.le_refl _ | with_reducible exact (fun _ _ => rfl)))); all_goals ((first | rfl | decide))); exact pk_miss (k := 6) (by assumption : (laPk l h a o).inv M9.m7) hf
  · have hn : 0 < (l.n 7 : Int) := by assumption
    have hf : fits l a 7 := ⟨by omega, by rw [← sz_fit hi.ok hi.q7 (by decide) hn]; assumption⟩
    obtain rfl : some 7 = o := pk_hit (k := 7) (by assumption : (laPk l h a o).inv M9.m8) hf
    (conv => whnf); refine o_one ⟨⟨_, _, _, _⟩, ⟨_, _, _, _⟩, ⟨_, _, _, _⟩, ⟨_, _, _, _⟩, ⟨_, _, _, _⟩, ⟨_, _, _, _⟩, ⟨_, _, _, _⟩, ⟨_, _, _, _⟩⟩ (by (repeat' (first | ((conv => whnf); first | refine ⟨?_, ?_⟩ | exact trivial | fail) | (dsimp only; done) | ((try dsimp only); first | with_reducible exact rfl | exact Nat.le_refl _ | with_reducible exact (fun _ _ => rfl)))); all_goals ((first | rfl | decide | exact (hi.q7.at_ 0 (by omega)).1.symm | exact (hi.q7.at_ 0 (by omega)).2.1.symm | exact (hi.q7.at_ 0 (by omega)).2.2.symm | exact cut_le _))) ?_; refine ⟨pop_ok hi.ok 7 hn, qpop_ne (by decide) hi.q0, qpop_ne (by decide) hi.q1, qpop_ne (by decide) hi.q2, qpop_ne (by decide) hi.q3, qpop_ne (by decide) hi.q4, qpop_ne (by decide) hi.q5, qpop_ne (by decide) hi.q6, qpop_at hn hi.q7 rfl (fun r => ⟨rfl, rfl, rfl⟩)⟩
  · have hn : 0 < (l.n 7 : Int) := by assumption
    have hf : ¬ fits l a 7 := fun hf => (by assumption : ¬ _ ≤ a.a7) (by rw [sz_fit hi.ok hi.q7 (by decide) hn]; exact hf.2)
    (conv => whnf); refine enter_mk (la := laPk l h a o) M9.m7 ?_ (by (repeat' (first | ((conv => whnf); first | refine ⟨?_, ?_⟩ | exact trivial | fail) | (dsimp only; done) | ((try dsimp only); first | with_reducible exact rfl | exact Nat.le_refl _ | with_reducible exact (fun _ _ => rfl)))); all_goals ((first | rfl | decide))); exact pk_miss (k := 7) (by assumption : (laPk l h a o).inv M9.m8) hf
  · have hn : ¬ 0 < (l.n 7 : Int) := by assumption
    have hf : ¬ fits l a 7 := fun hf => hn (by have := hf.1; omega)
    (conv => whnf); refine enter_mk (la := laPk l h a o) M9.m7 ?_ (by (repeat' (first | ((conv => whnf); first | refine ⟨?_, ?_⟩ | exact trivial | fail) | (dsimp only; done) | ((try dsimp only); first | with_reducible exact rfl | exact Nat.le_refl _ | with_reducible exact (fun _ _ => rfl)))); all_goals ((first | rfl | decide))); exact pk_miss (k := 7) (by assumption : (laPk l h a o).inv M9.m8) hf
end

end Go.Proofs.Ytaadejgoafdbcaa
