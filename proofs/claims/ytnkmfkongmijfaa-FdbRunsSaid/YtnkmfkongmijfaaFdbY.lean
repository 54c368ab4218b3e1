/-
  Contracts of functions, and plain facts about them, that a claim of this seat uses.
-/
import Derived.Test.YtnkmfkongmijfaaSx
import Derived.Test.YtnkmfkongmijfaaFdbX
import Derived.Test.YtnkmfkongmijfaaProg
namespace Go.Proofs.Ytnkmfkongmijfaa
open Go.Sx
set_option linter.unusedVariables false
set_option linter.unusedSimpArgs false
set_option maxRecDepth 100000

/-! fdb: the reference's Out. -/
theorem fn28 : FnOf Try.prog 28 Try.f28 := ⟨Try.func28, rfl, rfl, mixed⟩
abbrev OX := RT × Int × Int × Mc
def okB (x : OX) (k : Nat) : Bool := !decide ((k : Int) = x.2.1) && (hasB (vlP x.1.v x.2.2.1) k && (decide (fdV (x.1, x.2.2.1, x.2.2.2) < 0) || hasB (x.1.a.po (fdV (x.1, x.2.2.1, x.2.2.2)).toNat) k))
def roX (x : OX) : Nat → Int
  | 0 => 0
  | k + 1 => if okB x k = true then roX x k + 2 ^ k else roX x k
theorem roX_bd (x : OX) : ∀ k, 0 ≤ roX x k ∧ roX x k < 2 ^ k
  | 0 => ⟨Int.le_refl _, (by decide : (0 : Int) < 1)⟩
  | k + 1 => by
    have := roX_bd x k
    unfold roX
    rw [Int.pow_succ]
    split <;> omega
theorem roX_t {x : OX} {k : Nat} (h : okB x k = true) : roX x (k + 1) = roX x k + 2 ^ k := if_pos h
theorem roX_f {x : OX} {k : Nat} (h : okB x k = false) : roX x (k + 1) = roX x k := if_neg (by rw [h]; decide)
theorem ro_w {x : OX} {k : Nat} (h : (k : Int) < 8) : IntKind.i64.wrap (roX x k + 2 ^ k) = roX x k + 2 ^ k ∧ IntKind.i64.wrap (2 * 2 ^ k) = 2 ^ (k + 1) ∧ IntKind.i64.wrap ((k : Int) + 1) = ((k + 1 : Nat) : Int) := by
  have h9 := pow_8 (k := k) (by omega)
  have h8 := roX_bd x k
  refine ⟨w64' (by omega) (by omega), ?_, ?_⟩
  · rw [w64' (by omega) (by omega), Int.pow_succ]; omega
  · rw [w64' (by omega) (by omega)]; omega
theorem ok_1 {x : OX} {k : Nat} (h : ¬ (k : Int) = x.2.1) (h2 : hasB (vlP x.1.v x.2.2.1) k = true) (h3 : fdV (x.1, x.2.2.1, x.2.2.2) < 0) : okB x k = true := by unfold okB; rw [decide_eq_false h, h2, decide_eq_true h3]; rfl
theorem ok_2 {x : OX} {k : Nat} (h : ¬ (k : Int) = x.2.1) (h2 : hasB (vlP x.1.v x.2.2.1) k = true) (h3 : hasB (x.1.a.po (0 + (fdV (x.1, x.2.2.1, x.2.2.2)).toNat)) k = true) : okB x k = true := by rw [Nat.zero_add] at h3; unfold okB; rw [decide_eq_false h, h2, h3]; simp
theorem ok_3 {x : OX} {k : Nat} (h : ¬ ¬ (k : Int) = x.2.1) : okB x k = false := by unfold okB; rw [decide_eq_true (Classical.not_not.1 h)]; rfl
theorem ok_4 {x : OX} {k : Nat} (h2 : hasB (vlP x.1.v x.2.2.1) k = false) : okB x k = false := by unfold okB; rw [h2]; simp
theorem ok_5 {x : OX} {k : Nat} (h3 : ¬ fdV (x.1, x.2.2.1, x.2.2.2) < 0) (h2 : hasB (x.1.a.po (0 + (fdV (x.1, x.2.2.1, x.2.2.2)).toNat)) k = false) : okB x k = false := by rw [Nat.zero_add] at h2; unfold okB; rw [h2, decide_eq_false h3]; simp
def rouP (x : OX) : Int := if x.2.1 < 0 ∨ x.1.n ≤ x.2.1 then 0 else roX x x.1.n.toNat
def rouB (x : OX) : Int := if x.2.1 < 0 ∨ x.1.n ≤ x.2.1 then 0 else boX (roX x x.1.n.toNat) (vlB x.1.v x.2.2.1) 8
abbrev laRo (x : OX) : LA where
  ι := Nat
  inv := fun y => y ≤ x.1.n.toNat ∧ ¬ (x.2.1 < 0 ∨ x.1.n ≤ x.2.1)
  T := fun y => ⟨71, [(1, int_ .i64 x.2.1), (4, .one (.a (.ptr 3 0))), (10, int_ .i64 (vlP x.1.v x.2.2.1)), (11, int_ .i64 (vlB x.1.v x.2.2.1)), (12, int_ .i64 (fdV (x.1, x.2.2.1, x.2.2.2))), (13, int_ .i64 (roX x y)), (14, int_ .i64 (2 ^ y)), (15, int_ .i64 y)],
    rtM x.1 ++ [some ⟨true, .flat (rt0 x.1)⟩]⟩
  μ := fun y => x.1.n.toNat - y
  ren := fun S => [0, 1, 2, S.ix 4]
noncomputable def cxRo (x : OX) : Cx Try.prog := { ps := [vlanS, hasS, findS, boS], es := [], is := [], n0 := 3, loops := fun i => match i with | 8 => some (.inv (laRo x)) | _ => none, cuts := fun _ => none }
section
attribute [local irreducible] enter anyAlt Lex HeldOK
set_option maxHeartbeats 8000000 in
theorem ro_runs (x : OX) (hp : obp (some (RTw x.1))) : Runs (cxRo x) Try.f28 [.one (.agg (rt0 x.1)), int_ .i64 x.2.1, int_ .i64 x.2.2.1, .one (mcC x.2.2.2)] (rtM x.1) fun v _ => isRes (.tup [.a (i_ (rouP x)), .a (i_ (rouB x))]) v := by
  obtain ⟨t, a, v, mc⟩ := x
  have hw : RTw t := hp
  obtain ⟨h1, h2, h3⟩ := hw.a
  have h5 := hw.n
  have h6 := fdV_bd (t, v, mc)
  dsimp only at *
  repeat' (first | with_reducible exact trivial | with_reducible exact rfl | with_reducible exact Nat.le_refl _ | with_reducible exact (fun _ _ => rfl) | ((conv => whnf); first | (refine fun (x : Nat) => ?_) | (exact fun h => absurd h (by decide)) | (intro h9; (have h8 := of_decide_eq_true (p := type_of% h9) (by decide)); clear h8 h9) | (refine fun _ => ?_) | refine ⟨?_, ?_⟩ | exact trivial | exact Nat.le_refl _ | exact lex_q (by kernel_rfl) | exact lex_t (by kernel_rfl) | exact lex_h (by kernel_rfl) | fail))
  all_goals (try exact hw)
  all_goals (try (have hi := (by assumption : (laRo (t, a, v, mc)).inv x); have i1 : x ≤ t.n.toNat := hi.1; have i2 : ¬ (a < 0 ∨ t.n ≤ a) := hi.2))
  all_goals (try (show 0 ≤ fdV (t, v, mc); have g1 : ¬ fdV (t, v, mc) < 0 := (by assumption); omega))
  all_goals (try (show fdV (t, v, mc) < (t.a.len : Int); omega))
  all_goals (try (show 0 + (fdV (t, v, mc)).toNat < t.a.N; have g1 : ¬ fdV (t, v, mc) < 0 := (by assumption); omega))
  all_goals (try (have hk : (x : Int) < t.n := (by assumption)))
  all_goals (try (show (x : Int) ≤ 4096; omega))
  all_goals (try (have o := ok_1 (x := (t, a, v, mc)) (k := x) (by assumption) (by assumption) (by assumption)))
  all_goals (try (have o := ok_2 (x := (t, a, v, mc)) (k := x) (by assumption) (by assumption) (by assumption)))
  all_goals (try (have o := ok_3 (x := (t, a, v, mc)) (k := x) (by assumption)))
  all_goals (try (have o := ok_4 (x := (t, a, v, mc)) (k := x) (by assumption)))
  all_goals (try (have o := ok_5 (x := (t, a, v, mc)) (k := x) (by assumption) (by assumption)))
  any_goals first
    | (refine enter_mk (la := laRo (t, a, v, mc)) (0) ?_ (by (repeat' (first | ((conv => whnf); first | refine ⟨?_, ?_⟩ | exact trivial | fail) | (dsimp only; done) | ((try dsimp only); first | with_reducible exact rfl | exact Nat.le_refl _ | with_reducible exact (fun _ _ => rfl)))); first | ((all_goals ((try dsimp only [laRo] at *); (all_goals (try simp (disch := omega) only [w64', wu64', tdiv_pos, tmod_pos, Int.toNat_natCast, Nat.zero_add] at *)); (all_goals ((first | rfl | omega))))); done) | fail))
    | (refine enter_mk (la := laRo (t, a, v, mc)) (x + 1) ?_ (by (repeat' (first | ((conv => whnf); first | refine ⟨?_, ?_⟩ | exact trivial | fail) | (dsimp only; done) | ((try dsimp only); first | with_reducible exact rfl | exact Nat.le_refl _ | with_reducible exact (fun _ _ => rfl)))); first | ((all_goals ((try dsimp only [laRo] at *); (all_goals (try simp (disch := omega) only [w64', wu64', tdiv_pos, tmod_pos, Int.toNat_natCast, Nat.zero_add] at *)); (all_goals ((first | rfl | omega | exact (ro_w (x := (t, a, v, mc)) (by omega)).2.1 | exact (ro_w (x := (t, a, v, mc)) (by omega)).2.1.symm | exact (ro_w (x := (t, a, v, mc)) (by omega)).2.2 | exact (ro_w (x := (t, a, v, mc)) (by omega)).2.2.symm | exact roX_f o | exact (roX_f o).symm | exact (roX_t o).trans (ro_w (x := (t, a, v, mc)) (by omega)).1.symm | exact (ro_w (x := (t, a, v, mc)) (by omega)).1.trans (roX_t o).symm))))); done) | fail))
    | skip
  all_goals (try exact ⟨Nat.zero_le _, show ¬ (a < 0 ∨ t.n ≤ a) by omega⟩)
  all_goals (try exact ⟨show x + 1 ≤ t.n.toNat by omega, i2⟩)
  all_goals (try exact if_pos (.inl (by assumption)))
  all_goals (try exact if_pos (.inr (by assumption)))
  all_goals (try (have hk : ¬ (x : Int) < t.n := (by assumption); have ex : t.n.toNat = x := (by omega)))
  all_goals (try (first | unfold rouP | unfold rouB))
  all_goals (try (rw [if_neg i2]; dsimp only; rw [ex]; done))
  all_goals (try (rw [if_neg i2]; dsimp only; rw [ex]; rfl))
noncomputable def roS : PSpec Try.prog := readN fn28 (.s4 Lens.rt (.int .i64) (.int .i64) Lens.mc) cxRo (fun x => some (RTw x.1)) (fun x => .tup [.a (i_ (rouP x)), .a (i_ (rouB x))]) (fun _ => rfl) (fun _ => rfl) (fun _ => rfl) ro_runs
end

end Go.Proofs.Ytnkmfkongmijfaa
