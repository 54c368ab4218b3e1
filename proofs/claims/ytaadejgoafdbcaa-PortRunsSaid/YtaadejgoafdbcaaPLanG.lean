/-
  Contracts of functions, and plain facts about them, that a claim of this seat uses.
-/
import Derived.Test.YtaadejgoafdbcaaSx
import Derived.Test.YtaadejgoafdbcaaPLanF
import Derived.Test.YtaadejgoafdbcaaProg
namespace Go.Proofs.Ytaadejgoafdbcaa
open Go.Sx
set_option linter.unusedVariables false
set_option linter.unusedSimpArgs false
set_option maxRecDepth 100000

/-! lanes: Clear. -/
def clC (c : M9) (k i n cap : Nat) : SA := match Nat.blt k c.n with | true => .v (.slice none 0 0) | false => .slc i 3 0 n cap
def sumN (l : Ln) : Nat → Int
  | 0 => 0
  | k + 1 => sumN l k + l.n k
theorem sum_bd {l : Ln} (h : LnOK l) : ∀ k, k ≤ 8 → 0 ≤ sumN l k ∧ sumN l k ≤ 4096 * (k : Int)
  | 0, _ => ⟨Int.le_refl _, Int.le_refl _⟩
  | k + 1, hk => by
    have h1 := sum_bd h k (by omega)
    have h2 := h.n k (by omega)
    show 0 ≤ sumN l k + l.n k ∧ sumN l k + l.n k ≤ 4096 * ((k + 1 : Nat) : Int)
    omega
theorem sum_next {l : Ln} (h : LnOK l) {k : Nat} (hk : k < 8) : IntKind.i64.wrap (sumN l k + l.n k) = sumN l (k + 1) := by
  have h1 := sum_bd h k (by omega)
  have h2 := h.n k hk
  rw [w64' (by omega) (by omega)]; rfl
def clrL (l : Ln) : Ln := { l with n := fun _ => 0 }
theorem clr_inv {l : Ln} (h : LnOK l) : LnInv (clrL l) lh0 := by
  have key : ∀ k, QOK (clrL l) k hq0 := fun k => ⟨Nat.le_refl _, by decide, fun r hr => absurd hr (Nat.not_lt_zero _)⟩
  exact ⟨⟨fun k _ => Nat.zero_le _, h.room, fun k _ r hr => absurd hr (Nat.not_lt_zero _)⟩, key 0, key 1, key 2, key 3, key 4, key 5, key 6, key 7⟩
def clrGs (m : Mem) : List GC := match (m[0]? : Option (Option Reg)) with
  | some (some ⟨_, .flat (.v _ :: _)⟩) => [.nil 0 0 3 itCols, .nil 0 1 3 itCols, .nil 0 2 3 itCols, .nil 0 3 3 itCols, .nil 0 4 3 itCols, .nil 0 5 3 itCols, .nil 0 6 3 itCols, .nil 0 7 3 itCols]
  | _ => []
abbrev laClr (l : Ln) (h : LH) : LA where
  ι := M9
  inv := fun _ => True
  T := fun c => ⟨26, [(0, .one (.a (.ptr 0 0))), (3, int_ .i64 (sumN l c.n)), (7, int_ .i64 c.n)], [some ⟨true, .flat [clC c 0 1 (l.n 0) h.q0.c, clC c 1 2 (l.n 1) h.q1.c, clC c 2 3 (l.n 2) h.q2.c, clC c 3 4 (l.n 3) h.q3.c, clC c 4 5 (l.n 4) h.q4.c, clC c 5 6 (l.n 5) h.q5.c, clC c 6 7 (l.n 6) h.q6.c, clC c 7 8 (l.n 7) h.q7.c, i_ (l.room 0), i_ (l.room 1), i_ (l.room 2), i_ (l.room 3), i_ (l.room 4), i_ (l.room 5), i_ (l.room 6), i_ (l.room 7), i_ (l.lost 0), i_ (l.lost 1), i_ (l.lost 2), i_ (l.lost 3), i_ (l.lost 4), i_ (l.lost 5), i_ (l.lost 6), i_ (l.lost 7)]⟩, qReg h.q0, qReg h.q1, qReg h.q2, qReg h.q3, qReg h.q4, qReg h.q5, qReg h.q6, qReg h.q7]⟩
  μ := fun c => 8 - c.n
  ren := fun _ => [0, 1, 2, 3, 4, 5, 6, 7, 8]
noncomputable def cxClr (l : Ln) (h : LH) : Cx Try.prog := { ps := [], es := [], is := [], n0 := 1, loops := fun i => match i with | 4 => some (.inv (laClr l h)) | _ => none, cuts := fun _ => none }
theorem sum_zero (l : Ln) : sumN l 0 = 0 := rfl
section
attribute [local irreducible] anyO enter sumN
set_option maxHeartbeats 4000000 in
theorem clr_runs (l : Ln) (h : LH) (hi : LnInv l h) : Runs (cxClr l h) Try.f35 [.one (.a (.ptr 0 0))] (lnMem l h) fun v m => ghosted (fun _ m => clrGs m) v m fun v m => anyO lnK (lnRen m) v m [.one (int_ .i64 (sumN l 8)) (lnP (clrL l))] := by
  repeat' (first | with_reducible exact trivial | with_reducible exact rfl | with_reducible exact Nat.le_refl _ | with_reducible exact (fun _ _ => rfl) | ((conv => whnf); first | ((refine fun (x : M9) => ?_); rcases x with x | x | x | x | x | x | x | x | x) | (exact fun h => absurd h (by decide)) | (intro h9; (have h8 := of_decide_eq_true (p := type_of% h9) (by decide)); clear h8 h9) | (refine fun _ => ?_) | refine ⟨?_, ?_⟩ | exact trivial | exact Nat.le_refl _ | exact lex_q (by kernel_rfl) | exact lex_t (by kernel_rfl) | exact lex_h (by kernel_rfl) | fail))
  all_goals (try decide)
  · (conv => whnf); refine enter_mk (la := laClr l h) M9.m0 ?_ (by (repeat' (first | ((conv => whnf); first | refine ⟨?_, ?_⟩ | exact trivial | fail) | (dsimp only; done) | ((try dsimp only); first | with_reducible exact rfl | exact Nat.le_refl _ | with_reducible exact (fun _ _ => rfl)))); all_goals ((first | rfl | decide | exact sum_zero l))); exact trivial
  · (conv => whnf); refine enter_mk (la := laClr l h) M9.m1 ?_ (by (repeat' (first | ((conv => whnf); first | refine ⟨?_, ?_⟩ | exact trivial | fail) | (dsimp only; done) | ((try dsimp only); first | with_reducible exact rfl | exact Nat.le_refl _ | with_reducible exact (fun _ _ => rfl)))); all_goals ((first | rfl | decide | exact (sum_next hi.ok (k := 0) (by decide)).symm))); exact trivial
  · (conv => whnf); refine enter_mk (la := laClr l h) M9.m2 ?_ (by (repeat' (first | ((conv => whnf); first | refine ⟨?_, ?_⟩ | exact trivial | fail) | (dsimp only; done) | ((try dsimp only); first | with_reducible exact rfl | exact Nat.le_refl _ | with_reducible exact (fun _ _ => rfl)))); all_goals ((first | rfl | decide | exact (sum_next hi.ok (k := 1) (by decide)).symm))); exact trivial
  · (conv => whnf); refine enter_mk (la := laClr l h) M9.m3 ?_ (by (repeat' (first | ((conv => whnf); first | refine ⟨?_, ?_⟩ | exact trivial | fail) | (dsimp only; done) | ((try dsimp only); first | with_reducible exact rfl | exact Nat.le_refl _ | with_reducible exact (fun _ _ => rfl)))); all_goals ((first | rfl | decide | exact (sum_next hi.ok (k := 2) (by decide)).symm))); exact trivial
  · (conv => whnf); refine enter_mk (la := laClr l h) M9.m4 ?_ (by (repeat' (first | ((conv => whnf); first | refine ⟨?_, ?_⟩ | exact trivial | fail) | (dsimp only; done) | ((try dsimp only); first | with_reducible exact rfl | exact Nat.le_refl _ | with_reducible exact (fun _ _ => rfl)))); all_goals ((first | rfl | decide | exact (sum_next hi.ok (k := 3) (by decide)).symm))); exact trivial
  · (conv => whnf); refine enter_mk (la := laClr l h) M9.m5 ?_ (by (repeat' (first | ((conv => whnf); first | refine ⟨?_, ?_⟩ | exact trivial | fail) | (dsimp only; done) | ((try dsimp only); first | with_reducible exact rfl | exact Nat.le_refl _ | with_reducible exact (fun _ _ => rfl)))); all_goals ((first | rfl | decide | exact (sum_next hi.ok (k := 4) (by decide)).symm))); exact trivial
  · (conv => whnf); refine enter_mk (la := laClr l h) M9.m6 ?_ (by (repeat' (first | ((conv => whnf); first | refine ⟨?_, ?_⟩ | exact trivial | fail) | (dsimp only; done) | ((try dsimp only); first | with_reducible exact rfl | exact Nat.le_refl _ | with_reducible exact (fun _ _ => rfl)))); all_goals ((first | rfl | decide | exact (sum_next hi.ok (k := 5) (by decide)).symm))); exact trivial
  · (conv => whnf); refine enter_mk (la := laClr l h) M9.m7 ?_ (by (repeat' (first | ((conv => whnf); first | refine ⟨?_, ?_⟩ | exact trivial | fail) | (dsimp only; done) | ((try dsimp only); first | with_reducible exact rfl | exact Nat.le_refl _ | with_reducible exact (fun _ _ => rfl)))); all_goals ((first | rfl | decide | exact (sum_next hi.ok (k := 6) (by decide)).symm))); exact trivial
  · (conv => whnf); refine enter_mk (la := laClr l h) M9.m8 ?_ (by (repeat' (first | ((conv => whnf); first | refine ⟨?_, ?_⟩ | exact trivial | fail) | (dsimp only; done) | ((try dsimp only); first | with_reducible exact rfl | exact Nat.le_refl _ | with_reducible exact (fun _ _ => rfl)))); all_goals ((first | rfl | decide | exact (sum_next hi.ok (k := 7) (by decide)).symm))); exact trivial
  · (conv => whnf); refine o_one lh0 (by (repeat' (first | ((conv => whnf); first | refine ⟨?_, ?_⟩ | exact trivial | fail) | (dsimp only; done) | ((try dsimp only); first | with_reducible exact rfl | exact Nat.le_refl _ | with_reducible exact (fun _ _ => rfl)))); all_goals ((first | rfl | decide))) ?_; exact clr_inv (l := l) hi.ok
end
def Sig.s0 : Sig Unit where
  sh := []
  pat := fun a => match a with | [] => some () | _ => none
  arg := fun _ => []
  ok := fun a x h => by
    split at h
    · rfl
    · cases h
noncomputable def clrS : ESpec Try.prog := obN fn35 15 lnK Sig.s0 lnR lnP lnR_ok (fun _ => rfl) (fun l _ h => cxClr l h) (fun _ _ => True) (fun l _ => [.one (int_ .i64 (sumN l 8)) (lnP (clrL l))]) (fun _ m => clrGs m) (fun _ m => lnRen m) (fun _ _ _ => rfl) (fun l _ _ h hi => clr_runs l h hi)

end Go.Proofs.Ytaadejgoafdbcaa
