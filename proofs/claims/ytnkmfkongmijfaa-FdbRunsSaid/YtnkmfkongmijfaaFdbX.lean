/-
  Contracts of functions, and plain facts about them, that a claim of this seat uses.
-/
import Derived.Test.YtnkmfkongmijfaaSx
import Derived.Test.YtnkmfkongmijfaaFdbW
import Derived.Test.YtnkmfkongmijfaaFdbK
import Derived.Test.YtnkmfkongmijfaaProg
namespace Go.Proofs.Ytnkmfkongmijfaa
open Go.Sx
set_option linter.unusedVariables false
set_option linter.unusedSimpArgs false
set_option maxRecDepth 100000

/-! fdb: the reference's In. -/
theorem fn27 : FnOf Try.prog 27 Try.f27 := ⟨Try.func27, rfl, rfl, mixed⟩
def riX (t : RT) (a : Int) (g : Bool) (v : Int) : Int := if g = false ∨ v = 0 then t.p.c0 a.toNat else v
def riE (t : RT) (a : Int) (g : Bool) (v q : Int) : Int :=
  if v < 0 ∨ 4094 < v ∨ q < 0 ∨ 7 < q then 1 else if a < 0 ∨ t.n ≤ a then 40 else if hasB (vlP t.v (riX t a g v)) a = false then 41 else 0
def riV (t : RT) (a : Int) (g : Bool) (v q : Int) : Int := if riE t a g v q = 0 then riX t a g v else 0
def riP (t : RT) (a : Int) (g : Bool) (v q : Int) : Int := if riE t a g v q = 0 then (pcR t.p a.toNat).p (inQ g q).toNat else 0
def riR (t : RT) (a : Int) (g : Bool) (v q : Int) : SV := .tup [.a (i_ (riV t a g v q)), .a (i_ (riP t a g v q)), .a (i_ (riE t a g v q))]
theorem riX_f {t : RT} {a v : Int} : riX t a false v = t.p.c0 a.toNat := if_pos (.inl rfl)
theorem riX_0 {t : RT} {a v : Int} (h : v = 0) : riX t a true v = t.p.c0 a.toNat := if_pos (.inr h)
theorem riX_n {t : RT} {a v : Int} (h : ¬ v = 0) : riX t a true v = v := if_neg fun h9 => h9.elim (fun h8 => Bool.noConfusion h8) h
theorem re_1 {t : RT} {a : Int} {g : Bool} {v q : Int} (h : v < 0 ∨ 4094 < v ∨ q < 0 ∨ 7 < q) : riE t a g v q = 1 := if_pos h
theorem re_40 {t : RT} {a : Int} {g : Bool} {v q : Int} (h : ¬ (v < 0 ∨ 4094 < v ∨ q < 0 ∨ 7 < q)) (h2 : a < 0 ∨ t.n ≤ a) : riE t a g v q = 40 := by unfold riE; rw [if_neg h, if_pos h2]
theorem re_41 {t : RT} {a : Int} {g : Bool} {v q y : Int} (h : ¬ (v < 0 ∨ 4094 < v ∨ q < 0 ∨ 7 < q)) (h2 : ¬ (a < 0 ∨ t.n ≤ a)) (hy : riX t a g v = y) (h3 : hasB (vlP t.v y) a = false) : riE t a g v q = 41 := by subst hy; unfold riE; rw [if_neg h, if_neg h2, if_pos h3]
theorem re_0 {t : RT} {a : Int} {g : Bool} {v q y : Int} (h : ¬ (v < 0 ∨ 4094 < v ∨ q < 0 ∨ 7 < q)) (h2 : ¬ (a < 0 ∨ t.n ≤ a)) (hy : riX t a g v = y) (h3 : hasB (vlP t.v y) a = true) : riE t a g v q = 0 := by subst hy; unfold riE; rw [if_neg h, if_neg h2, if_neg (by rw [h3]; decide)]
theorem rv_n {t : RT} {a : Int} {g : Bool} {v q e : Int} (h : riE t a g v q = e) (he : e ≠ 0) : riV t a g v q = 0 ∧ riP t a g v q = 0 := by
  unfold riV riP; rw [h]; exact ⟨if_neg he, if_neg he⟩
theorem rv_0 {t : RT} {a : Int} {g : Bool} {v q : Int} (h : riE t a g v q = 0) : riV t a g v q = riX t a g v ∧ riP t a g v q = (pcR t.p a.toNat).p (inQ g q).toNat := by
  unfold riV riP; rw [h]; exact ⟨if_pos rfl, if_pos rfl⟩
noncomputable def cxRi : Cx Try.prog := { ps := [vlanS, hasS], es := [], is := [], n0 := 3, loops := fun _ => none, cuts := fun _ => none }
section
attribute [local irreducible] enter anyAlt Lex HeldOK
set_option maxHeartbeats 8000000 in
theorem ri_runs (x : RT × Int × Bool × Int × Int) (hp : obp (some (RTw x.1))) : Runs cxRi Try.f27 [.one (.agg (rt0 x.1)), int_ .i64 x.2.1, .one (.a (b_ x.2.2.1)), int_ .i64 x.2.2.2.1, int_ .i64 x.2.2.2.2] (rtM x.1) fun v _ => isRes (riR x.1 x.2.1 x.2.2.1 x.2.2.2.1 x.2.2.2.2) v := by
  obtain ⟨t, a, g, v, q⟩ := x
  have hw : RTw t := hp
  obtain ⟨h1, h2, h3⟩ := hw.p
  have h4 := hw.pl
  have h5 := hw.n
  dsimp only at *
  rcases g with _ | _ <;> repeat' (first | with_reducible exact trivial | with_reducible exact rfl | with_reducible exact Nat.le_refl _ | with_reducible exact (fun _ _ => rfl) | ((conv => whnf); first | (refine fun (x : Nat) => ?_) | (exact fun h => absurd h (by decide)) | (intro h9; (have h8 := of_decide_eq_true (p := type_of% h9) (by decide)); clear h8 h9) | (refine fun _ => ?_) | refine ⟨?_, ?_⟩ | exact trivial | exact Nat.le_refl _ | exact lex_q (by kernel_rfl) | exact lex_t (by kernel_rfl) | exact lex_h (by kernel_rfl) | fail))
  all_goals (try exact hw)
  all_goals (try dsimp only at *)
  all_goals (try omega)
  all_goals (try simp only [Nat.zero_add] at *)
  all_goals (try decide)
  all_goals (try (have w1 : IntKind.i64.wrap (1 + q) = 1 + q := w64' (by omega) (by omega)))
  all_goals (try omega)
  all_goals (try (have e : riE t a false v q = 1 := re_1 (by omega); have e2 := rv_n e (by decide); first | exact e | exact e2.1 | exact e2.2))
  all_goals (try (have e : riE t a false v q = 40 := re_40 (by omega) (by omega); have e2 := rv_n e (by decide); first | exact e | exact e2.1 | exact e2.2))
  all_goals (try (have e : riE t a true v q = 1 := re_1 (by omega); have e2 := rv_n e (by decide); first | exact e | exact e2.1 | exact e2.2))
  all_goals (try (have e : riE t a true v q = 40 := re_40 (by omega) (by omega); have e2 := rv_n e (by decide); first | exact e | exact e2.1 | exact e2.2))
  all_goals (try (have e : riE t a false v q = 41 := re_41 (by omega) (by omega) riX_f (not_t (by assumption : (!hasB (vlP t.v (t.p.c0 a.toNat)) a) = true)); have e2 := rv_n e (by decide); first | exact e | exact e2.1 | exact e2.2))
  all_goals (try (have e : riE t a false v q = 0 := re_0 (by omega) (by omega) riX_f (not_f (by assumption : (!hasB (vlP t.v (t.p.c0 a.toNat)) a) = false)); have e2 := rv_0 e; rw [riX_f] at e2; first | exact e | exact e2.1 | exact e2.2 | (rw [e2.2]; first | (exfalso; omega) | (obtain rfl : q = 0 := (by omega); rfl) | (obtain rfl : q = 1 := (by omega); rfl) | (obtain rfl : q = 2 := (by omega); rfl) | (obtain rfl : q = 3 := (by omega); rfl) | (obtain rfl : q = 4 := (by omega); rfl) | (obtain rfl : q = 5 := (by omega); rfl) | (obtain rfl : q = 6 := (by omega); rfl) | (obtain rfl : q = 7 := (by omega); rfl))))
  all_goals (try (have e : riE t a true v q = 41 := re_41 (by omega) (by omega) (riX_0 (by assumption)) (not_t (by assumption : (!hasB (vlP t.v (t.p.c0 a.toNat)) a) = true)); have e2 := rv_n e (by decide); first | exact e | exact e2.1 | exact e2.2))
  all_goals (try (have e : riE t a true v q = 0 := re_0 (by omega) (by omega) (riX_0 (by assumption)) (not_f (by assumption : (!hasB (vlP t.v (t.p.c0 a.toNat)) a) = false)); have e2 := rv_0 e; rw [riX_0 (by assumption)] at e2; first | exact e | exact e2.1 | exact e2.2 | (rw [e2.2]; first | (exfalso; omega) | (obtain rfl : q = 0 := (by omega); rfl) | (obtain rfl : q = 1 := (by omega); rfl) | (obtain rfl : q = 2 := (by omega); rfl) | (obtain rfl : q = 3 := (by omega); rfl) | (obtain rfl : q = 4 := (by omega); rfl) | (obtain rfl : q = 5 := (by omega); rfl) | (obtain rfl : q = 6 := (by omega); rfl) | (obtain rfl : q = 7 := (by omega); rfl))))
  all_goals (try (have e : riE t a true v q = 41 := re_41 (by omega) (by omega) (riX_n (by assumption)) (not_t (by assumption : (!hasB (vlP t.v v) a) = true)); have e2 := rv_n e (by decide); first | exact e | exact e2.1 | exact e2.2))
  all_goals (try (have e : riE t a true v q = 0 := re_0 (by omega) (by omega) (riX_n (by assumption)) (not_f (by assumption : (!hasB (vlP t.v v) a) = false)); have e2 := rv_0 e; rw [riX_n (by assumption)] at e2; first | exact e | exact e2.1 | exact e2.2 | (rw [e2.2]; first | (exfalso; omega) | (obtain rfl : q = 0 := (by omega); rfl) | (obtain rfl : q = 1 := (by omega); rfl) | (obtain rfl : q = 2 := (by omega); rfl) | (obtain rfl : q = 3 := (by omega); rfl) | (obtain rfl : q = 4 := (by omega); rfl) | (obtain rfl : q = 5 := (by omega); rfl) | (obtain rfl : q = 6 := (by omega); rfl) | (obtain rfl : q = 7 := (by omega); rfl))))
noncomputable def riS : PSpec Try.prog := readN fn27 (Sig.s5 Lens.rt (.int .i64) .bool (.int .i64) (.int .i64)) (fun _ => cxRi) (fun x => some (RTw x.1)) (fun x => riR x.1 x.2.1 x.2.2.1 x.2.2.2.1 x.2.2.2.2) (fun _ => rfl) (fun _ => rfl) (fun _ => rfl) ri_runs
end

end Go.Proofs.Ytnkmfkongmijfaa
