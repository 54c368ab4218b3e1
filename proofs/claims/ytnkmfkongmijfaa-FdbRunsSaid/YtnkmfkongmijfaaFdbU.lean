/-
  Contracts of functions, and plain facts about them, that a claim of this seat uses.
-/
import Derived.Test.YtnkmfkongmijfaaSx
import Derived.Test.YtnkmfkongmijfaaFdbS
import Derived.Test.YtnkmfkongmijfaaFdbJ
import Derived.Test.YtnkmfkongmijfaaProg
namespace Go.Proofs.Ytnkmfkongmijfaa
open Go.Sx
set_option linter.unusedVariables false
set_option linter.unusedSimpArgs false
set_option maxRecDepth 100000

/-! fdb: the reference's SetPort. -/
theorem fn22 : FnOf Try.prog 22 Try.f22 := ⟨Try.func22, rfl, rfl, mixed⟩
open Classical in
noncomputable def rspE (n a : Int) (p : Pt) : Int := if a < 0 ∨ n ≤ a then 40 else if ¬ prTo p 8 ∨ ¬ vidP p.v then 1 else 0
theorem rsp_40 {n a : Int} {p : Pt} (h : a < 0 ∨ n ≤ a) : rspE n a p = 40 := if_pos h
theorem rsp_1 {n a : Int} {p : Pt} (h : ¬ (a < 0 ∨ n ≤ a)) (h2 : ¬ prTo p 8 ∨ ¬ vidP p.v) : rspE n a p = 1 := by unfold rspE; rw [if_neg h, if_pos h2]
theorem rsp_b {n a : Int} {p : Pt} {k : Nat} (h : ¬ (a < 0 ∨ n ≤ a)) (hk : k < 8) (h2 : p.p k < 0 ∨ 7 < p.p k) : rspE n a p = 1 := rsp_1 h (.inl fun h3 => by have := h3 k hk; omega)
theorem rsp_0 {n a : Int} {p : Pt} (h : ¬ (a < 0 ∨ n ≤ a)) (h2 : prTo p 8) (h3 : vidP p.v) : rspE n a p = 0 := by
  unfold rspE
  rw [if_neg h, if_neg]
  rintro (h4 | h4)
  · exact h4 h2
  · exact h4 h3
structure POK (x : PC) (a : Int) (p : Pt) (y : PC) : Prop where
  l : y.len = x.len
  s : SlR y.len y.cap y.cap
  e : ∀ r, r < x.len → pcR y r = if r = a.toNat then p else pcR x r
def rtNP (x : RT) (y : PC) : List SA := rtL x (slV 0 x.v) (slP 3 y) (slA 2 x.a)
noncomputable def spA (x : RT × Int × Pt) : List Alt := [.cond (¬ rspE x.1.n x.2.1 x.2.2 = 0) (.tup [.agg (rt0 x.1), .a (i_ (rspE x.1.n x.2.1 x.2.2))]) (rtM x.1),
  .fam PC (fun y => rspE x.1.n x.2.1 x.2.2 = 0 ∧ POK x.1.p x.2.1 x.2.2 y) (fun y => .tup [.agg (rtNP x.1 y), .a (i_ 0)]) (fun y => rtM x.1 ++ [rwP y])]
def spRen (v : SV) : List Nat := match v with | .tup [.agg l, _] => nRen 3 l | _ => [0, 1, 2]
abbrev laRp (x : RT) (a : Int) (p : Pt) : LA where
  ι := M9
  inv := fun c => prTo p c.n
  T := fun c => ⟨53, [(1, int_ .i64 a), (3, .one (.a (.ptr 3 0))), (5, .one (.a (.ptr 4 0))), (6, .one (.a (.ptr 5 0))), (8, int_ .i64 (1 + c.n))],
    rtM x ++ [some ⟨true, .flat (rt0 x)⟩, some ⟨true, .flat (ptL p)⟩, some ⟨true, .flat zT⟩]⟩
  μ := fun c => 8 - c.n
  ren := fun S => [0, 1, 2, S.ix 3, S.ix 5, S.ix 6]
noncomputable def cxRp (x : RT × Int × Pt) : Cx Try.prog := { ps := [], es := [], is := [], n0 := 3, loops := fun i => match i with | 4 => some (.inv (laRp x.1 x.2.1 x.2.2)) | _ => none, cuts := fun _ => none }
section
attribute [local irreducible] enter anyAlt Lex HeldOK prTo
set_option maxHeartbeats 8000000 in
theorem rsp_runs (x : RT × Int × Pt) (hp : obp (some (RTw x.1))) : Runs (cxRp x) Try.f22 [.one (.agg (rt0 x.1)), int_ .i64 x.2.1, .one (ptC x.2.2)] (rtM x.1) fun v m => anyAlt (rtM x.1) (spRen v) v m (spA x) := by
  obtain ⟨t, a, p⟩ := x
  have hw : RTw t := hp
  obtain ⟨h1, h2, h3⟩ := hw.p
  have h4 := hw.pl
  have h5 := hw.n
  dsimp only at *
  repeat' (first | with_reducible exact trivial | with_reducible exact rfl | with_reducible exact Nat.le_refl _ | with_reducible exact (fun _ _ => rfl) | ((conv => whnf); first | ((refine fun (x : M9) => ?_); rcases x with x | x | x | x | x | x | x | x | x) | (exact fun h => absurd h (by decide)) | (intro h9; (have h8 := of_decide_eq_true (p := type_of% h9) (by decide)); clear h8 h9) | (refine fun _ => ?_) | refine ⟨?_, ?_⟩ | exact trivial | exact Nat.le_refl _ | exact lex_q (by kernel_rfl) | exact lex_t (by kernel_rfl) | exact lex_h (by kernel_rfl) | fail))
  all_goals (try dsimp only at *)
  all_goals (try decide)
  all_goals (try omega)
  · have e : rspE t.n a p = 40 := rsp_40 (.inl (by assumption))
    refine alt_l ?_ (by (repeat' (first | with_reducible exact rfl | exact Nat.le_refl _ | with_reducible exact (fun _ _ => rfl) | ((conv => whnf); first | refine ⟨?_, ?_⟩ | exact trivial | fail))); first | ((all_goals ((try dsimp only [id] at *); (all_goals (try simp (disch := omega) only [w64', wu64', tdiv_pos, tmod_pos, Int.toNat_natCast, Nat.zero_add] at *)); (all_goals ((first | exact e | exact e.symm))))); done) | fail); show ¬ rspE t.n a p = 0; rw [e]; decide
  · have e : rspE t.n a p = 40 := rsp_40 (.inr (by assumption))
    refine alt_l ?_ (by (repeat' (first | with_reducible exact rfl | exact Nat.le_refl _ | with_reducible exact (fun _ _ => rfl) | ((conv => whnf); first | refine ⟨?_, ?_⟩ | exact trivial | fail))); first | ((all_goals ((try dsimp only [id] at *); (all_goals (try simp (disch := omega) only [w64', wu64', tdiv_pos, tmod_pos, Int.toNat_natCast, Nat.zero_add] at *)); (all_goals ((first | exact e | exact e.symm))))); done) | fail); show ¬ rspE t.n a p = 0; rw [e]; decide
  all_goals (have hr : ¬ (a < 0 ∨ t.n ≤ a) := by omega)
  · (conv => whnf); refine enter_mk (la := laRp t a p) M9.m0 ?_ (by (repeat' (first | ((conv => whnf); first | refine ⟨?_, ?_⟩ | exact trivial | fail) | (dsimp only; done) | ((try dsimp only); first | with_reducible exact rfl | exact Nat.le_refl _ | with_reducible exact (fun _ _ => rfl)))); all_goals ((first | rfl | decide))); exact pr_0 p
  · have e : rspE t.n a p = 1 := rsp_b (k := 0) hr (by decide) (.inl (by assumption))
    refine alt_l ?_ (by (repeat' (first | with_reducible exact rfl | exact Nat.le_refl _ | with_reducible exact (fun _ _ => rfl) | ((conv => whnf); first | refine ⟨?_, ?_⟩ | exact trivial | fail))); first | ((all_goals ((try dsimp only [id] at *); (all_goals (try simp (disch := omega) only [w64', wu64', tdiv_pos, tmod_pos, Int.toNat_natCast, Nat.zero_add] at *)); (all_goals ((first | exact e | exact e.symm))))); done) | fail); show ¬ rspE t.n a p = 0; rw [e]; decide
  · have e : rspE t.n a p = 1 := rsp_b (k := 0) hr (by decide) (.inr (by assumption))
    refine alt_l ?_ (by (repeat' (first | with_reducible exact rfl | exact Nat.le_refl _ | with_reducible exact (fun _ _ => rfl) | ((conv => whnf); first | refine ⟨?_, ?_⟩ | exact trivial | fail))); first | ((all_goals ((try dsimp only [id] at *); (all_goals (try simp (disch := omega) only [w64', wu64', tdiv_pos, tmod_pos, Int.toNat_natCast, Nat.zero_add] at *)); (all_goals ((first | exact e | exact e.symm))))); done) | fail); show ¬ rspE t.n a p = 0; rw [e]; decide
  · (conv => whnf); refine enter_mk (la := laRp t a p) M9.m1 ?_ (by (repeat' (first | ((conv => whnf); first | refine ⟨?_, ?_⟩ | exact trivial | fail) | (dsimp only; done) | ((try dsimp only); first | with_reducible exact rfl | exact Nat.le_refl _ | with_reducible exact (fun _ _ => rfl)))); all_goals ((first | rfl | decide))); exact pr_next (k := 0) (by assumption : (laRp t a p).inv M9.m0) (by assumption) (by assumption)
  · have e : rspE t.n a p = 1 := rsp_b (k := 1) hr (by decide) (.inl (by assumption))
    refine alt_l ?_ (by (repeat' (first | with_reducible exact rfl | exact Nat.le_refl _ | with_reducible exact (fun _ _ => rfl) | ((conv => whnf); first | refine ⟨?_, ?_⟩ | exact trivial | fail))); first | ((all_goals ((try dsimp only [id] at *); (all_goals (try simp (disch := omega) only [w64', wu64', tdiv_pos, tmod_pos, Int.toNat_natCast, Nat.zero_add] at *)); (all_goals ((first | exact e | exact e.symm))))); done) | fail); show ¬ rspE t.n a p = 0; rw [e]; decide
  · have e : rspE t.n a p = 1 := rsp_b (k := 1) hr (by decide) (.inr (by assumption))
    refine alt_l ?_ (by (repeat' (first | with_reducible exact rfl | exact Nat.le_refl _ | with_reducible exact (fun _ _ => rfl) | ((conv => whnf); first | refine ⟨?_, ?_⟩ | exact trivial | fail))); first | ((all_goals ((try dsimp only [id] at *); (all_goals (try simp (disch := omega) only [w64', wu64', tdiv_pos, tmod_pos, Int.toNat_natCast, Nat.zero_add] at *)); (all_goals ((first | exact e | exact e.symm))))); done) | fail); show ¬ rspE t.n a p = 0; rw [e]; decide
  · (conv => whnf); refine enter_mk (la := laRp t a p) M9.m2 ?_ (by (repeat' (first | ((conv => whnf); first | refine ⟨?_, ?_⟩ | exact trivial | fail) | (dsimp only; done) | ((try dsimp only); first | with_reducible exact rfl | exact Nat.le_refl _ | with_reducible exact (fun _ _ => rfl)))); all_goals ((first | rfl | decide))); exact pr_next (k := 1) (by assumption : (laRp t a p).inv M9.m1) (by assumption) (by assumption)
  · have e : rspE t.n a p = 1 := rsp_b (k := 2) hr (by decide) (.inl (by assumption))
    refine alt_l ?_ (by (repeat' (first | with_reducible exact rfl | exact Nat.le_refl _ | with_reducible exact (fun _ _ => rfl) | ((conv => whnf); first | refine ⟨?_, ?_⟩ | exact trivial | fail))); first | ((all_goals ((try dsimp only [id] at *); (all_goals (try simp (disch := omega) only [w64', wu64', tdiv_pos, tmod_pos, Int.toNat_natCast, Nat.zero_add] at *)); (all_goals ((first | exact e | exact e.symm))))); done) | fail); show ¬ rspE t.n a p = 0; rw [e]; decide
  · have e : rspE t.n a p = 1 := rsp_b (k := 2) hr (by decide) (.inr (by assumption))
    refine alt_l ?_ (by (repeat' (first | with_reducible exact rfl | exact Nat.le_refl _ | with_reducible exact (fun _ _ => rfl) | ((conv => whnf); first | refine ⟨?_, ?_⟩ | exact trivial | fail))); first | ((all_goals ((try dsimp only [id] at *); (all_goals (try simp (disch := omega) only [w64', wu64', tdiv_pos, tmod_pos, Int.toNat_natCast, Nat.zero_add] at *)); (all_goals ((first | exact e | exact e.symm))))); done) | fail); show ¬ rspE t.n a p = 0; rw [e]; decide
  · (conv => whnf); refine enter_mk (la := laRp t a p) M9.m3 ?_ (by (repeat' (first | ((conv => whnf); first | refine ⟨?_, ?_⟩ | exact trivial | fail) | (dsimp only; done) | ((try dsimp only); first | with_reducible exact rfl | exact Nat.le_refl _ | with_reducible exact (fun _ _ => rfl)))); all_goals ((first | rfl | decide))); exact pr_next (k := 2) (by assumption : (laRp t a p).inv M9.m2) (by assumption) (by assumption)
  · have e : rspE t.n a p = 1 := rsp_b (k := 3) hr (by decide) (.inl (by assumption))
    refine alt_l ?_ (by (repeat' (first | with_reducible exact rfl | exact Nat.le_refl _ | with_reducible exact (fun _ _ => rfl) | ((conv => whnf); first | refine ⟨?_, ?_⟩ | exact trivial | fail))); first | ((all_goals ((try dsimp only [id] at *); (all_goals (try simp (disch := omega) only [w64', wu64', tdiv_pos, tmod_pos, Int.toNat_natCast, Nat.zero_add] at *)); (all_goals ((first | exact e | exact e.symm))))); done) | fail); show ¬ rspE t.n a p = 0; rw [e]; decide
  · have e : rspE t.n a p = 1 := rsp_b (k := 3) hr (by decide) (.inr (by assumption))
    refine alt_l ?_ (by (repeat' (first | with_reducible exact rfl | exact Nat.le_refl _ | with_reducible exact (fun _ _ => rfl) | ((conv => whnf); first | refine ⟨?_, ?_⟩ | exact trivial | fail))); first | ((all_goals ((try dsimp only [id] at *); (all_goals (try simp (disch := omega) only [w64', wu64', tdiv_pos, tmod_pos, Int.toNat_natCast, Nat.zero_add] at *)); (all_goals ((first | exact e | exact e.symm))))); done) | fail); show ¬ rspE t.n a p = 0; rw [e]; decide
  · (conv => whnf); refine enter_mk (la := laRp t a p) M9.m4 ?_ (by (repeat' (first | ((conv => whnf); first | refine ⟨?_, ?_⟩ | exact trivial | fail) | (dsimp only; done) | ((try dsimp only); first | with_reducible exact rfl | exact Nat.le_refl _ | with_reducible exact (fun _ _ => rfl)))); all_goals ((first | rfl | decide))); exact pr_next (k := 3) (by assumption : (laRp t a p).inv M9.m3) (by assumption) (by assumption)
  · have e : rspE t.n a p = 1 := rsp_b (k := 4) hr (by decide) (.inl (by assumption))
    refine alt_l ?_ (by (repeat' (first | with_reducible exact rfl | exact Nat.le_refl _ | with_reducible exact (fun _ _ => rfl) | ((conv => whnf); first | refine ⟨?_, ?_⟩ | exact trivial | fail))); first | ((all_goals ((try dsimp only [id] at *); (all_goals (try simp (disch := omega) only [w64', wu64', tdiv_pos, tmod_pos, Int.toNat_natCast, Nat.zero_add] at *)); (all_goals ((first | exact e | exact e.symm))))); done) | fail); show ¬ rspE t.n a p = 0; rw [e]; decide
  · have e : rspE t.n a p = 1 := rsp_b (k := 4) hr (by decide) (.inr (by assumption))
    refine alt_l ?_ (by (repeat' (first | with_reducible exact rfl | exact Nat.le_refl _ | with_reducible exact (fun _ _ => rfl) | ((conv => whnf); first | refine ⟨?_, ?_⟩ | exact trivial | fail))); first | ((all_goals ((try dsimp only [id] at *); (all_goals (try simp (disch := omega) only [w64', wu64', tdiv_pos, tmod_pos, Int.toNat_natCast, Nat.zero_add] at *)); (all_goals ((first | exact e | exact e.symm))))); done) | fail); show ¬ rspE t.n a p = 0; rw [e]; decide
  · (conv => whnf); refine enter_mk (la := laRp t a p) M9.m5 ?_ (by (repeat' (first | ((conv => whnf); first | refine ⟨?_, ?_⟩ | exact trivial | fail) | (dsimp only; done) | ((try dsimp only); first | with_reducible exact rfl | exact Nat.le_refl _ | with_reducible exact (fun _ _ => rfl)))); all_goals ((first | rfl | decide))); exact pr_next (k := 4) (by assumption : (laRp t a p).inv M9.m4) (by assumption) (by assumption)
  · have e : rspE t.n a p = 1 := rsp_b (k := 5) hr (by decide) (.inl (by assumption))
    refine alt_l ?_ (by (repeat' (first | with_reducible exact rfl | exact Nat.le_refl _ | with_reducible exact (fun _ _ => rfl) | ((conv => whnf); first | refine ⟨?_, ?_⟩ | exact trivial | fail))); first | ((all_goals ((try dsimp only [id] at *); (all_goals (try simp (disch := omega) only [w64', wu64', tdiv_pos, tmod_pos, Int.toNat_natCast, Nat.zero_add] at *)); (all_goals ((first | exact e | exact e.symm))))); done) | fail); show ¬ rspE t.n a p = 0; rw [e]; decide
  · have e : rspE t.n a p = 1 := rsp_b (k := 5) hr (by decide) (.inr (by assumption))
    refine alt_l ?_ (by (repeat' (first | with_reducible exact rfl | exact Nat.le_refl _ | with_reducible exact (fun _ _ => rfl) | ((conv => whnf); first | refine ⟨?_, ?_⟩ | exact trivial | fail))); first | ((all_goals ((try dsimp only [id] at *); (all_goals (try simp (disch := omega) only [w64', wu64', tdiv_pos, tmod_pos, Int.toNat_natCast, Nat.zero_add] at *)); (all_goals ((first | exact e | exact e.symm))))); done) | fail); show ¬ rspE t.n a p = 0; rw [e]; decide
  · (conv => whnf); refine enter_mk (la := laRp t a p) M9.m6 ?_ (by (repeat' (first | ((conv => whnf); first | refine ⟨?_, ?_⟩ | exact trivial | fail) | (dsimp only; done) | ((try dsimp only); first | with_reducible exact rfl | exact Nat.le_refl _ | with_reducible exact (fun _ _ => rfl)))); all_goals ((first | rfl | decide))); exact pr_next (k := 5) (by assumption : (laRp t a p).inv M9.m5) (by assumption) (by assumption)
  · have e : rspE t.n a p = 1 := rsp_b (k := 6) hr (by decide) (.inl (by assumption))
    refine alt_l ?_ (by (repeat' (first | with_reducible exact rfl | exact Nat.le_refl _ | with_reducible exact (fun _ _ => rfl) | ((conv => whnf); first | refine ⟨?_, ?_⟩ | exact trivial | fail))); first | ((all_goals ((try dsimp only [id] at *); (all_goals (try simp (disch := omega) only [w64', wu64', tdiv_pos, tmod_pos, Int.toNat_natCast, Nat.zero_add] at *)); (all_goals ((first | exact e | exact e.symm))))); done) | fail); show ¬ rspE t.n a p = 0; rw [e]; decide
  · have e : rspE t.n a p = 1 := rsp_b (k := 6) hr (by decide) (.inr (by assumption))
    refine alt_l ?_ (by (repeat' (first | with_reducible exact rfl | exact Nat.le_refl _ | with_reducible exact (fun _ _ => rfl) | ((conv => whnf); first | refine ⟨?_, ?_⟩ | exact trivial | fail))); first | ((all_goals ((try dsimp only [id] at *); (all_goals (try simp (disch := omega) only [w64', wu64', tdiv_pos, tmod_pos, Int.toNat_natCast, Nat.zero_add] at *)); (all_goals ((first | exact e | exact e.symm))))); done) | fail); show ¬ rspE t.n a p = 0; rw [e]; decide
  · (conv => whnf); refine enter_mk (la := laRp t a p) M9.m7 ?_ (by (repeat' (first | ((conv => whnf); first | refine ⟨?_, ?_⟩ | exact trivial | fail) | (dsimp only; done) | ((try dsimp only); first | with_reducible exact rfl | exact Nat.le_refl _ | with_reducible exact (fun _ _ => rfl)))); all_goals ((first | rfl | decide))); exact pr_next (k := 6) (by assumption : (laRp t a p).inv M9.m6) (by assumption) (by assumption)
  · have e : rspE t.n a p = 1 := rsp_b (k := 7) hr (by decide) (.inl (by assumption))
    refine alt_l ?_ (by (repeat' (first | with_reducible exact rfl | exact Nat.le_refl _ | with_reducible exact (fun _ _ => rfl) | ((conv => whnf); first | refine ⟨?_, ?_⟩ | exact trivial | fail))); first | ((all_goals ((try dsimp only [id] at *); (all_goals (try simp (disch := omega) only [w64', wu64', tdiv_pos, tmod_pos, Int.toNat_natCast, Nat.zero_add] at *)); (all_goals ((first | exact e | exact e.symm))))); done) | fail); show ¬ rspE t.n a p = 0; rw [e]; decide
  · have e : rspE t.n a p = 1 := rsp_b (k := 7) hr (by decide) (.inr (by assumption))
    refine alt_l ?_ (by (repeat' (first | with_reducible exact rfl | exact Nat.le_refl _ | with_reducible exact (fun _ _ => rfl) | ((conv => whnf); first | refine ⟨?_, ?_⟩ | exact trivial | fail))); first | ((all_goals ((try dsimp only [id] at *); (all_goals (try simp (disch := omega) only [w64', wu64', tdiv_pos, tmod_pos, Int.toNat_natCast, Nat.zero_add] at *)); (all_goals ((first | exact e | exact e.symm))))); done) | fail); show ¬ rspE t.n a p = 0; rw [e]; decide
  · (conv => whnf); refine enter_mk (la := laRp t a p) M9.m8 ?_ (by (repeat' (first | ((conv => whnf); first | refine ⟨?_, ?_⟩ | exact trivial | fail) | (dsimp only; done) | ((try dsimp only); first | with_reducible exact rfl | exact Nat.le_refl _ | with_reducible exact (fun _ _ => rfl)))); all_goals ((first | rfl | decide))); exact pr_next (k := 7) (by assumption : (laRp t a p).inv M9.m7) (by assumption) (by assumption)
  · have e : rspE t.n a p = 1 := rsp_1 hr (.inr fun h9 => by unfold vidP at h9; omega)
    refine alt_l ?_ (by (repeat' (first | with_reducible exact rfl | exact Nat.le_refl _ | with_reducible exact (fun _ _ => rfl) | ((conv => whnf); first | refine ⟨?_, ?_⟩ | exact trivial | fail))); first | ((all_goals ((try dsimp only [id] at *); (all_goals (try simp (disch := omega) only [w64', wu64', tdiv_pos, tmod_pos, Int.toNat_natCast, Nat.zero_add] at *)); (all_goals ((first | exact e | exact e.symm))))); done) | fail); show ¬ rspE t.n a p = 0; rw [e]; decide
  · have e : rspE t.n a p = 1 := rsp_1 hr (.inr fun h9 => by unfold vidP at h9; omega)
    refine alt_l ?_ (by (repeat' (first | with_reducible exact rfl | exact Nat.le_refl _ | with_reducible exact (fun _ _ => rfl) | ((conv => whnf); first | refine ⟨?_, ?_⟩ | exact trivial | fail))); first | ((all_goals ((try dsimp only [id] at *); (all_goals (try simp (disch := omega) only [w64', wu64', tdiv_pos, tmod_pos, Int.toNat_natCast, Nat.zero_add] at *)); (all_goals ((first | exact e | exact e.symm))))); done) | fail); show ¬ rspE t.n a p = 0; rw [e]; decide
  · have e : rspE t.n a p = 0 := rsp_0 hr (by assumption : (laRp t a p).inv M9.m8) (by unfold vidP; omega)
    refine alt_s (alt_fam (α := PC) ⟨_, _, 0, _, _, _, _, _, _, _, _, _⟩ ?_ (by (repeat' (first | with_reducible exact rfl | exact Nat.le_refl _ | with_reducible exact (fun _ _ => rfl) | ((conv => whnf); first | refine ⟨?_, ?_⟩ | exact trivial | fail))); first | ((all_goals ((try dsimp only [id] at *); (all_goals (try simp (disch := omega) only [w64', wu64', tdiv_pos, tmod_pos, Int.toNat_natCast, Nat.zero_add] at *)); (all_goals ((first | rfl | assumption | omega))))); done) | fail))
    refine ⟨e, ?_, ⟨?_, ?_, ?_⟩, fun r hr => ?_⟩
    · exact Nat.zero_add _
    · dsimp only; omega
    · dsimp only; omega
    · dsimp only; omega
    · dsimp only at hr ⊢
      have h7 : r < 0 + t.p.len := by omega
      by_cases h8 : r = a.toNat
      · rw [if_pos h8]; unfold pcR; simp only [Nat.zero_add, if_pos h8]
      · rw [if_neg h8]; unfold pcR; simp only [Nat.zero_add, if_neg h8, Nat.not_lt_zero, if_false, if_pos hr, Nat.sub_zero]
noncomputable def rspS : ESpec Try.prog := newN fn22 (.s3 Lens.rt (.int .i64) Lens.pt) cxRp (fun x => some (RTw x.1)) spA (fun _ v _ => spRen v) (fun _ => rfl) (fun x a ha => by
  rcases List.mem_cons.1 ha with rfl | ha
  · exact rfl
  · rw [List.mem_singleton.1 ha]; exact fun _ => rfl) rsp_runs
end

end Go.Proofs.Ytnkmfkongmijfaa
