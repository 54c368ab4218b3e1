/-
  Contracts of functions, and plain facts about them, that a claim of this seat uses.
-/
import Derived.Test.YtnkmfkongmijfaaSx
import Derived.Test.YtnkmfkongmijfaaFdbS
import Derived.Test.YtnkmfkongmijfaaProg
namespace Go.Proofs.Ytnkmfkongmijfaa
open Go.Sx
set_option linter.unusedVariables false
set_option linter.unusedSimpArgs false
set_option maxRecDepth 100000

/-! fdb: the reference's SetPlace. -/
theorem fn23 : FnOf Try.prog 23 Try.f23 := ⟨Try.func23, rfl, rfl, mixed⟩
def mkPl (v : Int) (m : Mc) : Pl := ⟨v, m.m0, m.m1, m.m2, m.m3, m.m4, m.m5⟩
def rplE (x : RT × Int × Mc × Int) : Int :=
  if x.2.1 < 1 ∨ 4094 < x.2.1 ∨ x.2.2.2 < 0 ∨ allN x.1.n < x.2.2.2 then 1
  else if 0 < x.2.2.2 ∧ fdV (x.1, x.2.1, x.2.2.1) < 0 ∧ x.1.room ≤ (x.1.a.len : Int) then 30 else 0
def rplA (x : RT × Int × Mc × Int) : List Alt := [.cond (¬ rplE x = 0) (.tup [.agg (rt0 x.1), .a (i_ (rplE x))]) (rtM x.1),
  .fam AC (fun y => rplE x = 0 ∧ AOK y (x.1.a.len + 1) ∧ acL y = putL ⟨mkPl x.2.1 x.2.2.1, x.2.2.2, true, 0⟩ (acL x.1.a)) (fun y => .tup [.agg (rtNA x.1 y), .a (i_ 0)]) (fun y => rtM x.1 ++ [rwA y])]
def plRen (v : SV) : List Nat := match v with | .tup [.agg l, _] => nRen 4 l | _ => [0, 1, 2]
theorem rpl_1 {x : RT × Int × Mc × Int} (h : x.2.1 < 1 ∨ 4094 < x.2.1 ∨ x.2.2.2 < 0 ∨ allN x.1.n < x.2.2.2) : rplE x = 1 := if_pos h
theorem rpl_30 {x : RT × Int × Mc × Int} (h : ¬ (x.2.1 < 1 ∨ 4094 < x.2.1 ∨ x.2.2.2 < 0 ∨ allN x.1.n < x.2.2.2)) (h2 : 0 < x.2.2.2 ∧ fdV (x.1, x.2.1, x.2.2.1) < 0 ∧ x.1.room ≤ (x.1.a.len : Int)) : rplE x = 30 := by unfold rplE; rw [if_neg h, if_pos h2]
theorem rpl_0 {x : RT × Int × Mc × Int} (h : ¬ (x.2.1 < 1 ∨ 4094 < x.2.1 ∨ x.2.2.2 < 0 ∨ allN x.1.n < x.2.2.2)) (h2 : ¬ (0 < x.2.2.2 ∧ fdV (x.1, x.2.1, x.2.2.1) < 0 ∧ x.1.room ≤ (x.1.a.len : Int))) : rplE x = 0 := by unfold rplE; rw [if_neg h, if_neg h2]
noncomputable def cxPl : Cx Try.prog := { ps := [allS, findS], es := [putS], is := [], n0 := 3, loops := fun _ => none, cuts := fun _ => none }
section
attribute [local irreducible] enter anyAlt Lex HeldOK
set_option maxHeartbeats 8000000 in
theorem rpl_runs (x : RT × Int × Mc × Int) (hp : obp (some (RTw x.1))) : Runs cxPl Try.f23 [.one (.agg (rt0 x.1)), int_ .i64 x.2.1, .one (mcC x.2.2.1), int_ .i64 x.2.2.2] (rtM x.1) fun v m => anyAlt (rtM x.1) (plRen v) v m (rplA x) := by
  obtain ⟨t, k, mc, po⟩ := x
  have hw : RTw t := hp
  obtain ⟨h1, h2, h3⟩ := hw.a
  have h4 := hw.am
  have h5 := hw.n
  dsimp only at *
  repeat' (first | with_reducible exact trivial | with_reducible exact rfl | with_reducible exact Nat.le_refl _ | with_reducible exact (fun _ _ => rfl) | ((conv => whnf); first | (refine fun (x : AC) => ?_) | (exact fun h => absurd h (by decide)) | (intro h9; (have h8 := of_decide_eq_true (p := type_of% h9) (by decide)); clear h8 h9) | (refine fun _ => ?_) | refine ⟨?_, ?_⟩ | exact trivial | exact Nat.le_refl _ | exact lex_q (by kernel_rfl) | exact lex_t (by kernel_rfl) | exact lex_h (by kernel_rfl) | fail))
  all_goals (try exact (⟨by omega, by omega⟩ : 0 ≤ t.n ∧ t.n ≤ 8).1)
  all_goals (try exact (⟨by omega, by omega⟩ : 0 ≤ t.n ∧ t.n ≤ 8).2)
  all_goals (try exact hw)
  all_goals (try (have hf : fdV (t, k, mc) < 0 := (by assumption)))
  all_goals (try (have hf : ¬ fdV (t, k, mc) < 0 := (by assumption)))
  all_goals (try (have e : rplE (t, k, mc, po) = 1 := rpl_1 (by dsimp only; omega)))
  all_goals (try (have e : rplE (t, k, mc, po) = 30 := rpl_30 (by dsimp only; omega) (by dsimp only; omega)))
  all_goals (try (have e : rplE (t, k, mc, po) = 0 := rpl_0 (by dsimp only; omega) (by dsimp only; omega)))
  any_goals first
    | (refine alt_l ?_ (by (repeat' (first | with_reducible exact rfl | exact Nat.le_refl _ | with_reducible exact (fun _ _ => rfl) | ((conv => whnf); first | refine ⟨?_, ?_⟩ | exact trivial | fail))); first | ((all_goals ((try dsimp only [id] at *); (all_goals (try simp (disch := omega) only [w64', wu64', tdiv_pos, tmod_pos, Int.toNat_natCast, Nat.zero_add] at *)); (all_goals ((first | exact e | exact e.symm))))); done) | fail))
    | (refine alt_s (alt_fam (α := AC) x ?_ (by (repeat' (first | with_reducible exact rfl | exact Nat.le_refl _ | with_reducible exact (fun _ _ => rfl) | ((conv => whnf); first | refine ⟨?_, ?_⟩ | exact trivial | fail))); first | ((all_goals ((try dsimp only [id] at *); (all_goals (try simp (disch := omega) only [w64', wu64', tdiv_pos, tmod_pos, Int.toNat_natCast, Nat.zero_add] at *)); (all_goals ((first | rfl | omega))))); done) | fail)))
    | skip
  all_goals (try exact ⟨e, (by assumption : _ ∧ _)⟩)
  all_goals (try (show ¬ rplE (t, k, mc, po) = 0; rw [e]; decide))
noncomputable def rplS : ESpec Try.prog := newN fn23 (.s4 Lens.rt (.int .i64) Lens.mc (.int .i64)) (fun _ => cxPl) (fun x => some (RTw x.1)) rplA (fun _ v _ => plRen v) (fun _ => rfl) (fun x a ha => by
  rcases List.mem_cons.1 ha with rfl | ha
  · exact rfl
  · rw [List.mem_singleton.1 ha]; exact fun _ => rfl) rpl_runs
end

end Go.Proofs.Ytnkmfkongmijfaa
