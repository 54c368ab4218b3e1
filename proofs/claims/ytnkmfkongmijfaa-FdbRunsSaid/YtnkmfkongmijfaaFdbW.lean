/-
  Contracts of functions, and plain facts about them, that a claim of this seat uses.
-/
import Derived.Test.YtnkmfkongmijfaaSx
import Derived.Test.YtnkmfkongmijfaaFdbV
import Derived.Test.YtnkmfkongmijfaaProg
namespace Go.Proofs.Ytnkmfkongmijfaa
open Go.Sx
set_option linter.unusedVariables false
set_option linter.unusedSimpArgs false
set_option maxRecDepth 100000

/-! fdb: the reference's Learn. -/
theorem fn24 : FnOf Try.prog 24 Try.f24 := ⟨Try.func24, rfl, rfl, mixed⟩
def Sig.s5 {α β γ δ ε : Type} (l : Lens α) (r : Lens β) (s : Lens γ) (t : Lens δ) (q : Lens ε) : Sig (α × β × γ × δ × ε) where
  sh := [l.sp, r.sp, s.sp, t.sp, q.sp]
  pat := fun a => match a with | [a, b, c, d, e] => (match l.pat a, r.pat b, s.pat c, t.pat d, q.pat e with | some x, some y, some z, some u, some w => some (x, y, z, u, w) | _, _, _, _, _ => none) | _ => none
  arg := fun x => [l.arg x.1, r.arg x.2.1, s.arg x.2.2.1, t.arg x.2.2.2.1, q.arg x.2.2.2.2]
  ok := fun a x h => by
    split at h
    · split at h
      · rename_i h1 h2 h3 h4 h5
        cases h
        rw [l.ok _ _ h1, r.ok _ _ h2, s.ok _ _ h3, t.ok _ _ h4, q.ok _ _ h5]
      · cases h
    · cases h
theorem fd_bd (k : List Int) : ∀ (l : List KV) (i : Nat), fd_ k l i < 0 ∨ ((i : Int) ≤ fd_ k l i ∧ fd_ k l i < (i : Int) + l.length)
  | [], _ => .inl (by decide : (-1 : Int) < 0)
  | r :: l, i => by
    unfold fd_
    split
    · exact .inr ⟨Int.le_refl _, by simp; omega⟩
    · rcases fd_bd k l (i + 1) with h | h
      · exact .inl h
      · refine .inr ⟨by omega, ?_⟩
        simp only [List.length_cons]; omega
theorem fdV_bd (x : RT × Int × Mc) : fdV x < 0 ∨ (0 ≤ fdV x ∧ fdV x < (x.1.a.len : Int)) := by
  have h := fd_bd (mcK x.2.1 x.2.2) (acL x.1.a) 0
  unfold acL at h
  rw [rows_len] at h
  unfold fdV acL
  omega
def rlrNo (x : RT × Int × Mc × Int × Int) : Option Int :=
  if x.2.1 < 1 ∨ 4094 < x.2.1 then some 1 else if x.2.2.2.1 < 0 ∨ x.1.n ≤ x.2.2.2.1 then some 40
  else if Int.tmod x.2.2.1.m0 2 = 1 then some 23
  else if 0 ≤ fdV (x.1, x.2.1, x.2.2.1) ∧ x.1.a.st (fdV (x.1, x.2.1, x.2.2.1)).toNat = true then some 0
  else if fdV (x.1, x.2.1, x.2.2.1) < 0 ∧ x.1.room ≤ (x.1.a.len : Int) then some 30 else none
def rlrA (x : RT × Int × Mc × Int × Int) : List Alt := [.cond (rlrNo x ≠ none) (.tup [.agg (rt0 x.1), .a (i_ ((rlrNo x).getD 0))]) (rtM x.1),
  .fam AC (fun y => rlrNo x = none ∧ AOK y (x.1.a.len + 1) ∧ acL y = putL ⟨mkPl x.2.1 x.2.2.1, 2 ^ x.2.2.2.1.toNat, false, x.2.2.2.2⟩ (acL x.1.a)) (fun y => .tup [.agg (rtNA x.1 y), .a (i_ 0)]) (fun y => rtM x.1 ++ [rwA y])]
theorem rlr_1 {x : RT × Int × Mc × Int × Int} (h : x.2.1 < 1 ∨ 4094 < x.2.1) : rlrNo x = some 1 := if_pos h
theorem rlr_40 {x : RT × Int × Mc × Int × Int} (h : ¬ (x.2.1 < 1 ∨ 4094 < x.2.1)) (h2 : x.2.2.2.1 < 0 ∨ x.1.n ≤ x.2.2.2.1) : rlrNo x = some 40 := by unfold rlrNo; rw [if_neg h, if_pos h2]
theorem rlr_23 {x : RT × Int × Mc × Int × Int} (h : ¬ (x.2.1 < 1 ∨ 4094 < x.2.1)) (h2 : ¬ (x.2.2.2.1 < 0 ∨ x.1.n ≤ x.2.2.2.1)) (h3 : Int.tmod x.2.2.1.m0 2 = 1) : rlrNo x = some 23 := by unfold rlrNo; rw [if_neg h, if_neg h2, if_pos h3]
theorem rlr_0 {x : RT × Int × Mc × Int × Int} (h : ¬ (x.2.1 < 1 ∨ 4094 < x.2.1)) (h2 : ¬ (x.2.2.2.1 < 0 ∨ x.1.n ≤ x.2.2.2.1)) (h3 : ¬ Int.tmod x.2.2.1.m0 2 = 1) (h4 : 0 ≤ fdV (x.1, x.2.1, x.2.2.1)) (h5 : x.1.a.st (fdV (x.1, x.2.1, x.2.2.1)).toNat = true) : rlrNo x = some 0 := by unfold rlrNo; rw [if_neg h, if_neg h2, if_neg h3, if_pos ⟨h4, h5⟩]
theorem rlr_30 {x : RT × Int × Mc × Int × Int} (h : ¬ (x.2.1 < 1 ∨ 4094 < x.2.1)) (h2 : ¬ (x.2.2.2.1 < 0 ∨ x.1.n ≤ x.2.2.2.1)) (h3 : ¬ Int.tmod x.2.2.1.m0 2 = 1) (h4 : fdV (x.1, x.2.1, x.2.2.1) < 0) (h5 : x.1.room ≤ (x.1.a.len : Int)) : rlrNo x = some 30 := by unfold rlrNo; rw [if_neg h, if_neg h2, if_neg h3, if_neg (fun h9 => by omega), if_pos ⟨h4, h5⟩]
theorem rlr_n {x : RT × Int × Mc × Int × Int} (h : ¬ (x.2.1 < 1 ∨ 4094 < x.2.1)) (h2 : ¬ (x.2.2.2.1 < 0 ∨ x.1.n ≤ x.2.2.2.1)) (h3 : ¬ Int.tmod x.2.2.1.m0 2 = 1) (h4 : fdV (x.1, x.2.1, x.2.2.1) < 0 ∨ x.1.a.st (fdV (x.1, x.2.1, x.2.2.1)).toNat = false) (h5 : ¬ (fdV (x.1, x.2.1, x.2.2.1) < 0 ∧ x.1.room ≤ (x.1.a.len : Int))) : rlrNo x = none := by
  unfold rlrNo; rw [if_neg h, if_neg h2, if_neg h3, if_neg, if_neg h5]
  rintro ⟨h8, h9⟩
  rcases h4 with h4 | h4
  · omega
  · exact absurd (h9.symm.trans h4) (by decide)
abbrev laLr (x : RT) (k : Int) (mc : Mc) (a w : Int) : LA where
  ι := Nat
  inv := fun y => y ≤ a.toNat ∧ rlrNo (x, k, mc, a, w) = none ∧ (0 ≤ a ∧ a < x.n)
  T := fun y => ⟨76, [(1, int_ .i64 k), (3, int_ .i64 a), (4, int_ .i64 w), (5, .one (.a (.ptr 3 0))), (7, .one (.a (.ptr 4 0))), (10, .one (.a (.ptr 5 0))), (13, int_ .i64 (2 ^ y)), (14, int_ .i64 y)],
    rtM x ++ [some ⟨true, .flat (rt0 x)⟩, some ⟨true, .flat [u_ mc.m0, u_ mc.m1, u_ mc.m2, u_ mc.m3, u_ mc.m4, u_ mc.m5]⟩, some ⟨true, .flat zT⟩]⟩
  μ := fun y => a.toNat - y
  ren := fun S => [0, 1, 2, S.ix 5, S.ix 7, S.ix 10]
noncomputable def cxRl (x : RT × Int × Mc × Int × Int) : Cx Try.prog := { ps := [allS, findS], es := [putS], is := [], n0 := 3, loops := fun i => match i with | 14 => some (.inv (laLr x.1 x.2.1 x.2.2.1 x.2.2.2.1 x.2.2.2.2)) | _ => none, cuts := fun _ => none }
section
attribute [local irreducible] enter anyAlt Lex HeldOK
set_option maxHeartbeats 8000000 in
theorem rlr_runs (x : RT × Int × Mc × Int × Int) (hp : obp (some (RTw x.1))) : Runs (cxRl x) Try.f24 [.one (.agg (rt0 x.1)), int_ .i64 x.2.1, .one (mcC x.2.2.1), int_ .i64 x.2.2.2.1, int_ .i64 x.2.2.2.2] (rtM x.1) fun v m => anyAlt (rtM x.1) (plRen v) v m (rlrA x) := by
  obtain ⟨t, k, mc, a, w⟩ := x
  have hw : RTw t := hp
  obtain ⟨h1, h2, h3⟩ := hw.a
  have h4 := hw.am
  have h5 := hw.n
  have h6 := fdV_bd (t, k, mc)
  dsimp only at *
  repeat' (first | with_reducible exact trivial | with_reducible exact rfl | with_reducible exact Nat.le_refl _ | with_reducible exact (fun _ _ => rfl) | ((conv => whnf); first | (refine fun (x : Nat) => ?_) | (refine fun (y : AC) => ?_) | (exact fun h => absurd h (by decide)) | (intro h9; (have h8 := of_decide_eq_true (p := type_of% h9) (by decide)); clear h8 h9) | (refine fun _ => ?_) | refine ⟨?_, ?_⟩ | exact trivial | exact Nat.le_refl _ | exact lex_q (by kernel_rfl) | exact lex_t (by kernel_rfl) | exact lex_h (by kernel_rfl) | fail))
  all_goals (try exact hw)
  all_goals (try (have f1 : fdV (t, k, mc) < 0 := (by assumption)))
  all_goals (try (have f2 : ¬ fdV (t, k, mc) < 0 := (by assumption)))
  all_goals (try (have f3 : 0 ≤ fdV (t, k, mc) := (by assumption)))
  all_goals (try (have f4 : ¬ 0 ≤ fdV (t, k, mc) := (by assumption)))
  all_goals (try (have g1 : t.a.st (0 + (fdV (t, k, mc)).toNat) = true := (by assumption); rw [Nat.zero_add] at g1))
  all_goals (try (have g2 : t.a.st (0 + (fdV (t, k, mc)).toNat) = false := (by assumption); rw [Nat.zero_add] at g2))
  all_goals (try (show 0 ≤ fdV (t, k, mc); exact f3))
  all_goals (try (show fdV (t, k, mc) < (t.a.len : Int); omega))
  all_goals (try (show 0 + (fdV (t, k, mc)).toNat < t.a.N; omega))
  all_goals (try (exfalso; omega))
  all_goals (try (have e : rlrNo (t, k, mc, a, w) = some 1 := rlr_1 (by dsimp only; omega)))
  all_goals (try (have e : rlrNo (t, k, mc, a, w) = some 40 := rlr_40 (by dsimp only; omega) (by dsimp only; omega)))
  all_goals (try (have e : rlrNo (t, k, mc, a, w) = some 23 := rlr_23 (by dsimp only; omega) (by dsimp only; omega) (by assumption)))
  all_goals (try (have e : rlrNo (t, k, mc, a, w) = some 0 := rlr_0 (by dsimp only; omega) (by dsimp only; omega) (by assumption) f3 g1))
  all_goals (try (have e : rlrNo (t, k, mc, a, w) = some 30 := rlr_30 (by dsimp only; omega) (by dsimp only; omega) (by assumption) f1 (by assumption)))
  all_goals (try (have e : rlrNo (t, k, mc, a, w) = none := rlr_n (by dsimp only; omega) (by dsimp only; omega) (by assumption) (by first | exact .inl f1 | exact .inr g2 | exact .inl (by omega)) (by dsimp only; omega)))
  any_goals first
    | (refine alt_l ?_ (by (repeat' (first | with_reducible exact rfl | exact Nat.le_refl _ | with_reducible exact (fun _ _ => rfl) | ((conv => whnf); first | refine ⟨?_, ?_⟩ | exact trivial | fail))); first | ((all_goals ((try dsimp only [id] at *); (all_goals (try simp (disch := omega) only [w64', wu64', tdiv_pos, tmod_pos, Int.toNat_natCast, Nat.zero_add] at *)); (all_goals ((first | exact congrArg (fun z => z.getD 0) e | exact (congrArg (fun z => z.getD 0) e).symm))))); done) | fail))
    | (refine enter_mk (la := laLr t k mc a w) (0) ?_ (by (repeat' (first | ((conv => whnf); first | refine ⟨?_, ?_⟩ | exact trivial | fail) | (dsimp only; done) | ((try dsimp only); first | with_reducible exact rfl | exact Nat.le_refl _ | with_reducible exact (fun _ _ => rfl)))); first | ((all_goals ((try dsimp only [laLr] at *); (all_goals (try simp (disch := omega) only [w64', wu64', tdiv_pos, tmod_pos, Int.toNat_natCast, Nat.zero_add] at *)); (all_goals ((first | rfl | omega))))); done) | fail))
    | (refine enter_mk (la := laLr t k mc a w) (x + 1) ?_ (by (repeat' (first | ((conv => whnf); first | refine ⟨?_, ?_⟩ | exact trivial | fail) | (dsimp only; done) | ((try dsimp only); first | with_reducible exact rfl | exact Nat.le_refl _ | with_reducible exact (fun _ _ => rfl)))); first | ((all_goals ((try dsimp only [laLr] at *); (all_goals (try simp (disch := omega) only [w64', wu64', tdiv_pos, tmod_pos, Int.toNat_natCast, Nat.zero_add] at *)); (all_goals ((first | rfl | omega | exact (bo_w (a := 0) (b := 0) (by omega)).2.1 | exact (bo_w (a := 0) (b := 0) (by omega)).2.1.symm | exact (bo_w (a := 0) (b := 0) (by omega)).2.2 | exact (bo_w (a := 0) (b := 0) (by omega)).2.2.symm))))); done) | fail))
    | (refine alt_s (alt_fam (α := AC) y ?_ (by (repeat' (first | with_reducible exact rfl | exact Nat.le_refl _ | with_reducible exact (fun _ _ => rfl) | ((conv => whnf); first | refine ⟨?_, ?_⟩ | exact trivial | fail))); first | ((all_goals ((try dsimp only [id] at *); (all_goals (try simp (disch := omega) only [w64', wu64', tdiv_pos, tmod_pos, Int.toNat_natCast, Nat.zero_add] at *)); (all_goals ((first | rfl | omega))))); done) | fail)))
    | skip
  all_goals (try (rw [e]; exact fun h9 => by cases h9))
  all_goals (try exact ⟨Nat.zero_le _, e, ⟨by omega, by omega⟩⟩)
  all_goals (have hi := (by assumption : (laLr t k mc a w).inv x); obtain ⟨i1, i2, i3⟩ := hi; dsimp only at *)
  all_goals (try exact ⟨by omega, i2, i3⟩)
  all_goals (rw [show a.toNat = x by omega]; exact ⟨i2, (by assumption : AOK y _ ∧ _)⟩)
noncomputable def rlrS : ESpec Try.prog := newN fn24 (Sig.s5 Lens.rt (.int .i64) Lens.mc (.int .i64) (.int .i64)) cxRl (fun x => some (RTw x.1)) rlrA (fun _ v _ => plRen v) (fun _ => rfl) (fun x a ha => by
  rcases List.mem_cons.1 ha with rfl | ha
  · exact rfl
  · rw [List.mem_singleton.1 ha]; exact fun _ => rfl) rlr_runs
end

end Go.Proofs.Ytnkmfkongmijfaa
