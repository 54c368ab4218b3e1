/-
  Contracts of functions, and plain facts about them, that a claim of this seat uses.
-/
import Derived.Test.YtnkmfkongmijfaaSx
import Derived.Test.YtnkmfkongmijfaaFdbJ
import Derived.Test.YtnkmfkongmijfaaProg
namespace Go.Proofs.Ytnkmfkongmijfaa
open Go.Sx
set_option linter.unusedVariables false
set_option linter.unusedSimpArgs false
set_option maxRecDepth 100000

/-! In -/
def inX (t : Ft) (a : Int) (g : Bool) (x : Int) : Int := if g = false ∨ x = 0 then t.pv a.toNat else x
def inQ (g : Bool) (q : Int) : Int := if g = false then 0 else q
def inE (t : Ft) (a : Int) (g : Bool) (x q : Int) : Int := if x < 0 ∨ 4094 < x ∨ q < 0 ∨ 7 < q then 1 else if a < 0 ∨ (t.n : Int) ≤ a then 40 else if bits .and .i64 ((vPo t (inX t a g x)).fdiv (2 ^ min a.toNat IntKind.i64.bits)) 1 = 0 then 41 else 0
def inV (t : Ft) (a : Int) (g : Bool) (x q : Int) : Int := if inE t a g x q = 0 then inX t a g x else 0
def inP (t : Ft) (a : Int) (g : Bool) (x q : Int) : Int := if inE t a g x q = 0 then t.pp (inQ g q).toNat a.toNat else 0
def inR (t : Ft) (a : Int) (g : Bool) (x q : Int) : SV := .tup [.a (i_ (inV t a g x q)), .a (i_ (inP t a g x q)), .a (i_ (inE t a g x q))]
theorem in_no {t : Ft} {a : Int} {g : Bool} {x q e : Int} (h : inE t a g x q = e) (he : e ≠ 0) : inR t a g x q = .tup [.a (i_ 0), .a (i_ 0), .a (i_ e)] := by
  have h1 : inE t a g x q ≠ 0 := by rw [h]; exact he
  unfold inR inV inP
  rw [if_neg h1, if_neg h1, h]
theorem in_1e {t : Ft} {a : Int} {g : Bool} {x q : Int} (h : x < 0 ∨ 4094 < x ∨ q < 0 ∨ 7 < q) : inE t a g x q = 1 := if_pos h
theorem in_40 {t : Ft} {a : Int} {g : Bool} {x q : Int} (h : ¬ (x < 0 ∨ 4094 < x ∨ q < 0 ∨ 7 < q)) (h2 : a < 0 ∨ (t.n : Int) ≤ a) : inE t a g x q = 40 := by unfold inE; rw [if_neg h, if_pos h2]
theorem in_41 {t : Ft} {a : Int} {g : Bool} {x q z : Int} (h : ¬ (x < 0 ∨ 4094 < x ∨ q < 0 ∨ 7 < q)) (h2 : ¬ (a < 0 ∨ (t.n : Int) ≤ a)) (hz : inX t a g x = z) (h3 : bits .and .i64 ((vPo t z).fdiv (2 ^ min a.toNat IntKind.i64.bits)) 1 = 0) : inE t a g x q = 41 := by unfold inE; rw [if_neg h, if_neg h2, hz, if_pos h3]
theorem in_yes {t : Ft} {a : Int} {g : Bool} {x q z y : Int} (h : ¬ (x < 0 ∨ 4094 < x ∨ q < 0 ∨ 7 < q)) (h2 : ¬ (a < 0 ∨ (t.n : Int) ≤ a)) (hz : inX t a g x = z) (h3 : ¬ bits .and .i64 ((vPo t z).fdiv (2 ^ min a.toNat IntKind.i64.bits)) 1 = 0) (hy : t.pp (inQ g q).toNat a.toNat = y) : inR t a g x q = .tup [.a (i_ z), .a (i_ y), .a (i_ 0)] := by
  have he : inE t a g x q = 0 := by unfold inE; rw [if_neg h, if_neg h2, hz, if_neg h3]
  unfold inR inV inP
  rw [if_pos he, if_pos he, he, hz, hy]
noncomputable def cxIn : Cx Try.prog := { ps := [vidS, grpS], es := [], is := [], n0 := 1, loops := fun _ => none, cuts := fun _ => none, xr := xrs, xa := xas }
section
attribute [local irreducible] anyO
set_option maxHeartbeats 8000000 in
theorem in_runs (t : Ft) (y : Int × Bool × Int × Int) (h : FH) (hi : FtInv t h) : Runs cxIn Try.f19 (.one (.a (.ptr 0 0)) :: [int_ .i64 y.1, .one (.a (b_ y.2.1)), int_ .i64 y.2.2.1, int_ .i64 y.2.2.2]) (ftMem t h) fun v m => ghosted (fun _ _ => []) v m fun v m => anyO ftK (ftRen m) v m [.one (inR t y.1 y.2.1 y.2.2.1 y.2.2.2) (ftP t)] := by
  obtain ⟨a, g, x0, q⟩ := y
  rcases g with _ | _
  all_goals dsimp only
  all_goals (repeat' (first | with_reducible exact trivial | with_reducible exact rfl | with_reducible exact Nat.le_refl _ | with_reducible exact (fun _ _ => rfl) | ((conv => whnf); first | (exact fun h => absurd h (by decide)) | (intro h9; (have h8 := of_decide_eq_true (p := type_of% h9) (by decide)); clear h8 h9) | (refine fun _ => ?_) | refine ⟨?_, ?_⟩ | exact trivial | exact Nat.le_refl _ | exact lex_q (by kernel_rfl) | exact lex_t (by kernel_rfl) | exact lex_h (by kernel_rfl) | fail)))
  all_goals (try dsimp only at *)
  all_goals (try omega)
  all_goals (try (have hh := (by assumption : ¬ 7 < q); have hx : ¬ (x0 < 0 ∨ 4094 < x0 ∨ q < 0 ∨ 7 < q) := (by omega); have hr : ¬ (a < 0 ∨ (t.n : Int) ≤ a) := (by omega); have hat := hi.at_ a.toNat (by omega); have hb := hi.pv a.toNat (by omega); have hv : h.v (0 + a.toNat) = t.pv a.toNat := (by rw [Nat.zero_add]; exact hat.1)))
  all_goals (try (have b1 : IntKind.i64.min ≤ h.v (0 + a.toNat) := (by rw [hv]; show (-9223372036854775808 : Int) ≤ t.pv a.toNat; omega); have b2 : h.v (0 + a.toNat) ≤ IntKind.i64.max := (by rw [hv]; show t.pv a.toNat ≤ (9223372036854775807 : Int); omega)))
  all_goals (try (have b3 : IntKind.i64.min ≤ x0 := (by show (-9223372036854775808 : Int) ≤ x0; omega); have b4 : x0 ≤ IntKind.i64.max := (by show x0 ≤ (9223372036854775807 : Int); omega); have b5 : 0 + a.toNat < h.cap := (by have := hi.cap; omega)))
  all_goals (try with_reducible assumption)
  · rw [in_no (in_1e (t := t) (a := a) (x := x0) (q := q) (g := false) (.inl (by assumption))) (by decide)]
    (conv => whnf); refine o_one ⟨_, _, _, _, _, _, _, _, _, _, _, _⟩ (by (repeat' (first | ((conv => whnf); first | refine ⟨?_, ?_⟩ | exact trivial | fail) | (dsimp only; done) | ((try dsimp only); first | with_reducible exact rfl | exact Nat.le_refl _ | with_reducible exact (fun _ _ => rfl)))); all_goals ((first | rfl))) ?_; exact hi
  · rw [in_no (in_1e (t := t) (a := a) (x := x0) (q := q) (g := false) (.inr (.inl (by assumption)))) (by decide)]
    (conv => whnf); refine o_one ⟨_, _, _, _, _, _, _, _, _, _, _, _⟩ (by (repeat' (first | ((conv => whnf); first | refine ⟨?_, ?_⟩ | exact trivial | fail) | (dsimp only; done) | ((try dsimp only); first | with_reducible exact rfl | exact Nat.le_refl _ | with_reducible exact (fun _ _ => rfl)))); all_goals ((first | rfl))) ?_; exact hi
  · rw [in_no (in_1e (t := t) (a := a) (x := x0) (q := q) (g := false) (.inr (.inr (.inl (by assumption))))) (by decide)]
    (conv => whnf); refine o_one ⟨_, _, _, _, _, _, _, _, _, _, _, _⟩ (by (repeat' (first | ((conv => whnf); first | refine ⟨?_, ?_⟩ | exact trivial | fail) | (dsimp only; done) | ((try dsimp only); first | with_reducible exact rfl | exact Nat.le_refl _ | with_reducible exact (fun _ _ => rfl)))); all_goals ((first | rfl))) ?_; exact hi
  · rw [in_no (in_1e (t := t) (a := a) (x := x0) (q := q) (g := false) (.inr (.inr (.inr (by assumption))))) (by decide)]
    (conv => whnf); refine o_one ⟨_, _, _, _, _, _, _, _, _, _, _, _⟩ (by (repeat' (first | ((conv => whnf); first | refine ⟨?_, ?_⟩ | exact trivial | fail) | (dsimp only; done) | ((try dsimp only); first | with_reducible exact rfl | exact Nat.le_refl _ | with_reducible exact (fun _ _ => rfl)))); all_goals ((first | rfl))) ?_; exact hi
  · rw [in_no (in_40 (t := t) (a := a) (x := x0) (q := q) (g := false) (by omega) (.inl (by assumption))) (by decide)]
    (conv => whnf); refine o_one ⟨_, _, _, _, _, _, _, _, _, _, _, _⟩ (by (repeat' (first | ((conv => whnf); first | refine ⟨?_, ?_⟩ | exact trivial | fail) | (dsimp only; done) | ((try dsimp only); first | with_reducible exact rfl | exact Nat.le_refl _ | with_reducible exact (fun _ _ => rfl)))); all_goals ((first | rfl))) ?_; exact hi
  · rw [in_no (in_40 (t := t) (a := a) (x := x0) (q := q) (g := false) (by omega) (.inr (by assumption))) (by decide)]
    (conv => whnf); refine o_one ⟨_, _, _, _, _, _, _, _, _, _, _, _⟩ (by (repeat' (first | ((conv => whnf); first | refine ⟨?_, ?_⟩ | exact trivial | fail) | (dsimp only; done) | ((try dsimp only); first | with_reducible exact rfl | exact Nat.le_refl _ | with_reducible exact (fun _ _ => rfl)))); all_goals ((first | rfl))) ?_; exact hi
  · rw [in_no (in_41 (g := false) hx hr (z := h.v (0 + a.toNat)) ((if_pos (.inl rfl)).trans hv.symm) (by assumption)) (by decide)]
    (conv => whnf); refine o_one ⟨_, _, _, _, _, _, _, _, _, _, _, _⟩ (by (repeat' (first | ((conv => whnf); first | refine ⟨?_, ?_⟩ | exact trivial | fail) | (dsimp only; done) | ((try dsimp only); first | with_reducible exact rfl | exact Nat.le_refl _ | with_reducible exact (fun _ _ => rfl)))); all_goals ((first | rfl))) ?_; exact hi
  · rw [in_yes (g := false) hx hr (z := h.v (0 + a.toNat)) ((if_pos (.inl rfl)).trans hv.symm) (by assumption) (y := h.q0 (0 + a.toNat)) (by rw [Nat.zero_add]; exact hat.2.1.symm)]
    (conv => whnf); refine o_one ⟨_, _, _, _, _, _, _, _, _, _, _, _⟩ (by (repeat' (first | ((conv => whnf); first | refine ⟨?_, ?_⟩ | exact trivial | fail) | (dsimp only; done) | ((try dsimp only); first | with_reducible exact rfl | exact Nat.le_refl _ | with_reducible exact (fun _ _ => rfl)))); all_goals ((first | rfl))) ?_; exact hi
  · rw [in_no (in_1e (t := t) (a := a) (x := x0) (q := q) (g := true) (.inl (by assumption))) (by decide)]
    (conv => whnf); refine o_one ⟨_, _, _, _, _, _, _, _, _, _, _, _⟩ (by (repeat' (first | ((conv => whnf); first | refine ⟨?_, ?_⟩ | exact trivial | fail) | (dsimp only; done) | ((try dsimp only); first | with_reducible exact rfl | exact Nat.le_refl _ | with_reducible exact (fun _ _ => rfl)))); all_goals ((first | rfl))) ?_; exact hi
  · rw [in_no (in_1e (t := t) (a := a) (x := x0) (q := q) (g := true) (.inr (.inl (by assumption)))) (by decide)]
    (conv => whnf); refine o_one ⟨_, _, _, _, _, _, _, _, _, _, _, _⟩ (by (repeat' (first | ((conv => whnf); first | refine ⟨?_, ?_⟩ | exact trivial | fail) | (dsimp only; done) | ((try dsimp only); first | with_reducible exact rfl | exact Nat.le_refl _ | with_reducible exact (fun _ _ => rfl)))); all_goals ((first | rfl))) ?_; exact hi
  · rw [in_no (in_1e (t := t) (a := a) (x := x0) (q := q) (g := true) (.inr (.inr (.inl (by assumption))))) (by decide)]
    (conv => whnf); refine o_one ⟨_, _, _, _, _, _, _, _, _, _, _, _⟩ (by (repeat' (first | ((conv => whnf); first | refine ⟨?_, ?_⟩ | exact trivial | fail) | (dsimp only; done) | ((try dsimp only); first | with_reducible exact rfl | exact Nat.le_refl _ | with_reducible exact (fun _ _ => rfl)))); all_goals ((first | rfl))) ?_; exact hi
  · rw [in_no (in_1e (t := t) (a := a) (x := x0) (q := q) (g := true) (.inr (.inr (.inr (by assumption))))) (by decide)]
    (conv => whnf); refine o_one ⟨_, _, _, _, _, _, _, _, _, _, _, _⟩ (by (repeat' (first | ((conv => whnf); first | refine ⟨?_, ?_⟩ | exact trivial | fail) | (dsimp only; done) | ((try dsimp only); first | with_reducible exact rfl | exact Nat.le_refl _ | with_reducible exact (fun _ _ => rfl)))); all_goals ((first | rfl))) ?_; exact hi
  · rw [in_no (in_40 (t := t) (a := a) (x := x0) (q := q) (g := true) (by omega) (.inl (by assumption))) (by decide)]
    (conv => whnf); refine o_one ⟨_, _, _, _, _, _, _, _, _, _, _, _⟩ (by (repeat' (first | ((conv => whnf); first | refine ⟨?_, ?_⟩ | exact trivial | fail) | (dsimp only; done) | ((try dsimp only); first | with_reducible exact rfl | exact Nat.le_refl _ | with_reducible exact (fun _ _ => rfl)))); all_goals ((first | rfl))) ?_; exact hi
  · rw [in_no (in_40 (t := t) (a := a) (x := x0) (q := q) (g := true) (by omega) (.inr (by assumption))) (by decide)]
    (conv => whnf); refine o_one ⟨_, _, _, _, _, _, _, _, _, _, _, _⟩ (by (repeat' (first | ((conv => whnf); first | refine ⟨?_, ?_⟩ | exact trivial | fail) | (dsimp only; done) | ((try dsimp only); first | with_reducible exact rfl | exact Nat.le_refl _ | with_reducible exact (fun _ _ => rfl)))); all_goals ((first | rfl))) ?_; exact hi
  · rw [in_no (in_41 (g := true) hx hr (z := h.v (0 + a.toNat)) ((if_pos (.inr (by assumption : x0 = 0))).trans hv.symm) (by assumption)) (by decide)]
    (conv => whnf); refine o_one ⟨_, _, _, _, _, _, _, _, _, _, _, _⟩ (by (repeat' (first | ((conv => whnf); first | refine ⟨?_, ?_⟩ | exact trivial | fail) | (dsimp only; done) | ((try dsimp only); first | with_reducible exact rfl | exact Nat.le_refl _ | with_reducible exact (fun _ _ => rfl)))); all_goals ((first | rfl))) ?_; exact hi
  · rw [in_yes (g := true) hx hr (z := h.v (0 + a.toNat)) ((if_pos (.inr (by assumption : x0 = 0))).trans hv.symm) (by assumption) (y := h.q0 (0 + a.toNat)) (by rw [(by assumption : q = ((0 : Nat) : Int))]; rw [Nat.zero_add]; exact hat.2.1.symm)]
    (conv => whnf); refine o_one ⟨_, _, _, _, _, _, _, _, _, _, _, _⟩ (by (repeat' (first | ((conv => whnf); first | refine ⟨?_, ?_⟩ | exact trivial | fail) | (dsimp only; done) | ((try dsimp only); first | with_reducible exact rfl | exact Nat.le_refl _ | with_reducible exact (fun _ _ => rfl)))); all_goals ((first | rfl))) ?_; exact hi
  · rw [in_yes (g := true) hx hr (z := h.v (0 + a.toNat)) ((if_pos (.inr (by assumption : x0 = 0))).trans hv.symm) (by assumption) (y := h.q1 (0 + a.toNat)) (by rw [(by assumption : q = ((1 : Nat) : Int))]; rw [Nat.zero_add]; exact hat.2.2.1.symm)]
    (conv => whnf); refine o_one ⟨_, _, _, _, _, _, _, _, _, _, _, _⟩ (by (repeat' (first | ((conv => whnf); first | refine ⟨?_, ?_⟩ | exact trivial | fail) | (dsimp only; done) | ((try dsimp only); first | with_reducible exact rfl | exact Nat.le_refl _ | with_reducible exact (fun _ _ => rfl)))); all_goals ((first | rfl))) ?_; exact hi
  · rw [in_yes (g := true) hx hr (z := h.v (0 + a.toNat)) ((if_pos (.inr (by assumption : x0 = 0))).trans hv.symm) (by assumption) (y := h.q2 (0 + a.toNat)) (by rw [(by assumption : q = ((2 : Nat) : Int))]; rw [Nat.zero_add]; exact hat.2.2.2.1.symm)]
    (conv => whnf); refine o_one ⟨_, _, _, _, _, _, _, _, _, _, _, _⟩ (by (repeat' (first | ((conv => whnf); first | refine ⟨?_, ?_⟩ | exact trivial | fail) | (dsimp only; done) | ((try dsimp only); first | with_reducible exact rfl | exact Nat.le_refl _ | with_reducible exact (fun _ _ => rfl)))); all_goals ((first | rfl))) ?_; exact hi
  · rw [in_yes (g := true) hx hr (z := h.v (0 + a.toNat)) ((if_pos (.inr (by assumption : x0 = 0))).trans hv.symm) (by assumption) (y := h.q3 (0 + a.toNat)) (by rw [(by assumption : q = ((3 : Nat) : Int))]; rw [Nat.zero_add]; exact hat.2.2.2.2.1.symm)]
    (conv => whnf); refine o_one ⟨_, _, _, _, _, _, _, _, _, _, _, _⟩ (by (repeat' (first | ((conv => whnf); first | refine ⟨?_, ?_⟩ | exact trivial | fail) | (dsimp only; done) | ((try dsimp only); first | with_reducible exact rfl | exact Nat.le_refl _ | with_reducible exact (fun _ _ => rfl)))); all_goals ((first | rfl))) ?_; exact hi
  · rw [in_yes (g := true) hx hr (z := h.v (0 + a.toNat)) ((if_pos (.inr (by assumption : x0 = 0))).trans hv.symm) (by assumption) (y := h.q4 (0 + a.toNat)) (by rw [(by assumption : q = ((4 : Nat) : Int))]; rw [Nat.zero_add]; exact hat.2.2.2.2.2.1.symm)]
    (conv => whnf); refine o_one ⟨_, _, _, _, _, _, _, _, _, _, _, _⟩ (by (repeat' (first | ((conv => whnf); first | refine ⟨?_, ?_⟩ | exact trivial | fail) | (dsimp only; done) | ((try dsimp only); first | with_reducible exact rfl | exact Nat.le_refl _ | with_reducible exact (fun _ _ => rfl)))); all_goals ((first | rfl))) ?_; exact hi
  · rw [in_yes (g := true) hx hr (z := h.v (0 + a.toNat)) ((if_pos (.inr (by assumption : x0 = 0))).trans hv.symm) (by assumption) (y := h.q5 (0 + a.toNat)) (by rw [(by assumption : q = ((5 : Nat) : Int))]; rw [Nat.zero_add]; exact hat.2.2.2.2.2.2.1.symm)]
    (conv => whnf); refine o_one ⟨_, _, _, _, _, _, _, _, _, _, _, _⟩ (by (repeat' (first | ((conv => whnf); first | refine ⟨?_, ?_⟩ | exact trivial | fail) | (dsimp only; done) | ((try dsimp only); first | with_reducible exact rfl | exact Nat.le_refl _ | with_reducible exact (fun _ _ => rfl)))); all_goals ((first | rfl))) ?_; exact hi
  · rw [in_yes (g := true) hx hr (z := h.v (0 + a.toNat)) ((if_pos (.inr (by assumption : x0 = 0))).trans hv.symm) (by assumption) (y := h.q6 (0 + a.toNat)) (by rw [(by assumption : q = ((6 : Nat) : Int))]; rw [Nat.zero_add]; exact hat.2.2.2.2.2.2.2.1.symm)]
    (conv => whnf); refine o_one ⟨_, _, _, _, _, _, _, _, _, _, _, _⟩ (by (repeat' (first | ((conv => whnf); first | refine ⟨?_, ?_⟩ | exact trivial | fail) | (dsimp only; done) | ((try dsimp only); first | with_reducible exact rfl | exact Nat.le_refl _ | with_reducible exact (fun _ _ => rfl)))); all_goals ((first | rfl))) ?_; exact hi
  · rw [in_yes (g := true) hx hr (z := h.v (0 + a.toNat)) ((if_pos (.inr (by assumption : x0 = 0))).trans hv.symm) (by assumption) (y := h.q7 (0 + a.toNat)) (by rw [(by assumption : q = ((7 : Nat) : Int))]; rw [Nat.zero_add]; exact hat.2.2.2.2.2.2.2.2.symm)]
    (conv => whnf); refine o_one ⟨_, _, _, _, _, _, _, _, _, _, _, _⟩ (by (repeat' (first | ((conv => whnf); first | refine ⟨?_, ?_⟩ | exact trivial | fail) | (dsimp only; done) | ((try dsimp only); first | with_reducible exact rfl | exact Nat.le_refl _ | with_reducible exact (fun _ _ => rfl)))); all_goals ((first | rfl))) ?_; exact hi
  · rw [in_no (in_41 (g := true) hx hr (z := x0) (if_neg (by rintro (h8 | h8); (· cases h8); exact (by assumption : ¬ x0 = 0) h8)) (by assumption)) (by decide)]
    (conv => whnf); refine o_one ⟨_, _, _, _, _, _, _, _, _, _, _, _⟩ (by (repeat' (first | ((conv => whnf); first | refine ⟨?_, ?_⟩ | exact trivial | fail) | (dsimp only; done) | ((try dsimp only); first | with_reducible exact rfl | exact Nat.le_refl _ | with_reducible exact (fun _ _ => rfl)))); all_goals ((first | rfl))) ?_; exact hi
  · rw [in_yes (g := true) hx hr (z := x0) (if_neg (by rintro (h8 | h8); (· cases h8); exact (by assumption : ¬ x0 = 0) h8)) (by assumption) (y := h.q0 (0 + a.toNat)) (by rw [(by assumption : q = ((0 : Nat) : Int))]; rw [Nat.zero_add]; exact hat.2.1.symm)]
    (conv => whnf); refine o_one ⟨_, _, _, _, _, _, _, _, _, _, _, _⟩ (by (repeat' (first | ((conv => whnf); first | refine ⟨?_, ?_⟩ | exact trivial | fail) | (dsimp only; done) | ((try dsimp only); first | with_reducible exact rfl | exact Nat.le_refl _ | with_reducible exact (fun _ _ => rfl)))); all_goals ((first | rfl))) ?_; exact hi
  · rw [in_yes (g := true) hx hr (z := x0) (if_neg (by rintro (h8 | h8); (· cases h8); exact (by assumption : ¬ x0 = 0) h8)) (by assumption) (y := h.q1 (0 + a.toNat)) (by rw [(by assumption : q = ((1 : Nat) : Int))]; rw [Nat.zero_add]; exact hat.2.2.1.symm)]
    (conv => whnf); refine o_one ⟨_, _, _, _, _, _, _, _, _, _, _, _⟩ (by (repeat' (first | ((conv => whnf); first | refine ⟨?_, ?_⟩ | exact trivial | fail) | (dsimp only; done) | ((try dsimp only); first | with_reducible exact rfl | exact Nat.le_refl _ | with_reducible exact (fun _ _ => rfl)))); all_goals ((first | rfl))) ?_; exact hi
  · rw [in_yes (g := true) hx hr (z := x0) (if_neg (by rintro (h8 | h8); (· cases h8); exact (by assumption : ¬ x0 = 0) h8)) (by assumption) (y := h.q2 (0 + a.toNat)) (by rw [(by assumption : q = ((2 : Nat) : Int))]; rw [Nat.zero_add]; exact hat.2.2.2.1.symm)]
    (conv => whnf); refine o_one ⟨_, _, _, _, _, _, _, _, _, _, _, _⟩ (by (repeat' (first | ((conv => whnf); first | refine ⟨?_, ?_⟩ | exact trivial | fail) | (dsimp only; done) | ((try dsimp only); first | with_reducible exact rfl | exact Nat.le_refl _ | with_reducible exact (fun _ _ => rfl)))); all_goals ((first | rfl))) ?_; exact hi
  · rw [in_yes (g := true) hx hr (z := x0) (if_neg (by rintro (h8 | h8); (· cases h8); exact (by assumption : ¬ x0 = 0) h8)) (by assumption) (y := h.q3 (0 + a.toNat)) (by rw [(by assumption : q = ((3 : Nat) : Int))]; rw [Nat.zero_add]; exact hat.2.2.2.2.1.symm)]
    (conv => whnf); refine o_one ⟨_, _, _, _, _, _, _, _, _, _, _, _⟩ (by (repeat' (first | ((conv => whnf); first | refine ⟨?_, ?_⟩ | exact trivial | fail) | (dsimp only; done) | ((try dsimp only); first | with_reducible exact rfl | exact Nat.le_refl _ | with_reducible exact (fun _ _ => rfl)))); all_goals ((first | rfl))) ?_; exact hi
  · rw [in_yes (g := true) hx hr (z := x0) (if_neg (by rintro (h8 | h8); (· cases h8); exact (by assumption : ¬ x0 = 0) h8)) (by assumption) (y := h.q4 (0 + a.toNat)) (by rw [(by assumption : q = ((4 : Nat) : Int))]; rw [Nat.zero_add]; exact hat.2.2.2.2.2.1.symm)]
    (conv => whnf); refine o_one ⟨_, _, _, _, _, _, _, _, _, _, _, _⟩ (by (repeat' (first | ((conv => whnf); first | refine ⟨?_, ?_⟩ | exact trivial | fail) | (dsimp only; done) | ((try dsimp only); first | with_reducible exact rfl | exact Nat.le_refl _ | with_reducible exact (fun _ _ => rfl)))); all_goals ((first | rfl))) ?_; exact hi
  · rw [in_yes (g := true) hx hr (z := x0) (if_neg (by rintro (h8 | h8); (· cases h8); exact (by assumption : ¬ x0 = 0) h8)) (by assumption) (y := h.q5 (0 + a.toNat)) (by rw [(by assumption : q = ((5 : Nat) : Int))]; rw [Nat.zero_add]; exact hat.2.2.2.2.2.2.1.symm)]
    (conv => whnf); refine o_one ⟨_, _, _, _, _, _, _, _, _, _, _, _⟩ (by (repeat' (first | ((conv => whnf); first | refine ⟨?_, ?_⟩ | exact trivial | fail) | (dsimp only; done) | ((try dsimp only); first | with_reducible exact rfl | exact Nat.le_refl _ | with_reducible exact (fun _ _ => rfl)))); all_goals ((first | rfl))) ?_; exact hi
  · rw [in_yes (g := true) hx hr (z := x0) (if_neg (by rintro (h8 | h8); (· cases h8); exact (by assumption : ¬ x0 = 0) h8)) (by assumption) (y := h.q6 (0 + a.toNat)) (by rw [(by assumption : q = ((6 : Nat) : Int))]; rw [Nat.zero_add]; exact hat.2.2.2.2.2.2.2.1.symm)]
    (conv => whnf); refine o_one ⟨_, _, _, _, _, _, _, _, _, _, _, _⟩ (by (repeat' (first | ((conv => whnf); first | refine ⟨?_, ?_⟩ | exact trivial | fail) | (dsimp only; done) | ((try dsimp only); first | with_reducible exact rfl | exact Nat.le_refl _ | with_reducible exact (fun _ _ => rfl)))); all_goals ((first | rfl))) ?_; exact hi
  · rw [in_yes (g := true) hx hr (z := x0) (if_neg (by rintro (h8 | h8); (· cases h8); exact (by assumption : ¬ x0 = 0) h8)) (by assumption) (y := h.q7 (0 + a.toNat)) (by rw [(by assumption : q = ((7 : Nat) : Int))]; rw [Nat.zero_add]; exact hat.2.2.2.2.2.2.2.2.symm)]
    (conv => whnf); refine o_one ⟨_, _, _, _, _, _, _, _, _, _, _, _⟩ (by (repeat' (first | ((conv => whnf); first | refine ⟨?_, ?_⟩ | exact trivial | fail) | (dsimp only; done) | ((try dsimp only); first | with_reducible exact rfl | exact Nat.le_refl _ | with_reducible exact (fun _ _ => rfl)))); all_goals ((first | rfl))) ?_; exact hi
end
noncomputable def inS : PSpec Try.prog := obP fn19 82 ftK (.s4 (.int .i64) .bool (.int .i64) (.int .i64)) ftR ftP ftR_ok (fun _ => rfl) (fun _ _ _ => cxIn) (fun _ _ => True) (fun t y => inR t y.1 y.2.1 y.2.2.1 y.2.2.2) (fun _ _ => []) (fun _ m => ftRen m) (fun _ _ _ => rfl) (fun t y _ h hi => in_runs t y h hi)

end Go.Proofs.Ytnkmfkongmijfaa
