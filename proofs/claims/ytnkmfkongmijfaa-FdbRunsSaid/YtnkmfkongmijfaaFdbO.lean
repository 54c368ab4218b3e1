/-
  Contracts of functions, and plain facts about them, that a claim of this seat uses.
-/
import Derived.Test.YtnkmfkongmijfaaSx
import Derived.Test.YtnkmfkongmijfaaFdbN
import Derived.Test.YtnkmfkongmijfaaFdbI
import Derived.Test.YtnkmfkongmijfaaProg
namespace Go.Proofs.Ytnkmfkongmijfaa
open Go.Sx
set_option linter.unusedVariables false
set_option linter.unusedSimpArgs false
set_option maxRecDepth 100000

/-! fdb: the reference's Age and Flush. -/
theorem fn25 : FnOf Try.prog 25 Try.f25 := ⟨Try.func25, rfl, rfl, mixed⟩
theorem fn26 : FnOf Try.prog 26 Try.f26 := ⟨Try.func26, rfl, rfl, mixed⟩
def agK (s : Int) (r : KV) : Bool := decide (cellI (some r.2) 1 = 1) || decide (s ≤ cellI (some r.2) 2)
def flK (n a : Int) (r : KV) : Bool := decide (cellI (some r.2) 1 = 1) || (decide (a < 0) || (decide (n ≤ a) || !hasB (cellI (some r.2) 0) a))
theorem ac_st (a : AC) (i : Nat) (h : a.st i = true) : cellI (some (acR a i).2) 1 = 1 := by show bI (a.st i) = 1; rw [h]; rfl
theorem ac_sf (a : AC) (i : Nat) (h : a.st i = false) : ¬ cellI (some (acR a i).2) 1 = 1 := by show ¬ bI (a.st i) = 1; rw [h]; decide
theorem ag_1 {a : AC} {i : Nat} {s : Int} (h : a.st i = true) : agK s (acR a i) = true := by unfold agK; rw [decide_eq_true (ac_st a i h)]; rfl
theorem ag_2 {a : AC} {i : Nat} {s : Int} (h : s ≤ a.se i) : agK s (acR a i) = true := by unfold agK; rw [decide_eq_true (show s ≤ cellI (some (acR a i).2) 2 from h), Bool.or_true]
theorem ag_3 {a : AC} {i : Nat} {s : Int} (h : a.st i = false) (h2 : ¬ s ≤ a.se i) : agK s (acR a i) = false := by unfold agK; rw [decide_eq_false (ac_sf a i h), decide_eq_false (show ¬ s ≤ cellI (some (acR a i).2) 2 from h2)]; rfl
theorem fl_1 {a : AC} {i : Nat} {n k : Int} (h : a.st i = true) : flK n k (acR a i) = true := by unfold flK; rw [decide_eq_true (ac_st a i h)]; rfl
theorem fl_2 {a : AC} {i : Nat} {n k : Int} (h : k < 0) : flK n k (acR a i) = true := by unfold flK; rw [decide_eq_true h]; simp
theorem fl_3 {a : AC} {i : Nat} {n k : Int} (h : n ≤ k) : flK n k (acR a i) = true := by unfold flK; rw [decide_eq_true h]; simp
theorem fl_4 {a : AC} {i : Nat} {n k : Int} (h : hasB (a.po i) k = false) : flK n k (acR a i) = true := by unfold flK; rw [show hasB (cellI (some (acR a i).2) 0) k = false from h]; simp
theorem fl_5 {a : AC} {i : Nat} {n k : Int} (h : a.st i = false) (h1 : ¬ k < 0) (h2 : ¬ n ≤ k) (h3 : hasB (a.po i) k = true) : flK n k (acR a i) = false := by
  unfold flK; rw [decide_eq_false (ac_sf a i h), decide_eq_false h1, decide_eq_false h2, show hasB (cellI (some (acR a i).2) 0) k = true from h3]; rfl
theorem push_col {y z : AC} {n : Nat} (hl : z.len = y.len + 1) : z.len = y.len + 1 := hl
def agA (x : RT × Int) : List Alt := [.fam AC (fun y => acL y = (acL x.1.a).filter (agK x.2) ∧ AOK y x.1.a.len) (fun y => .tup [.agg (rtNA x.1 y), .a (i_ ((x.1.a.len : Int) - y.len))]) (fun y => rtM x.1 ++ [rwA y])]
def agRen (v : SV) : List Nat := match v with | .tup [.agg l, _] => [0, 1, 2, ixA l] | _ => [0, 1, 2]
abbrev laAr (x : RT) (s : Int) : LA where
  ι := Nat × AC
  inv := fun y => FI (agK s) x.a y.1 y.2
  T := fun y => ⟨41, [(1, int_ .i64 s), (2, .one (.a (.ptr 3 0))), (4, .one (.a (.ptr 4 0))), (6, .one (.a (slA 5 y.2))), (12, .one (.a (slA 2 x.a))), (13, int_ .i64 x.a.len), (14, int_ .i64 y.1)],
    rtM x ++ [some ⟨true, .flat (rt0 x)⟩, some ⟨true, .flat zT⟩, rwA y.2]⟩
  μ := fun y => x.a.len - y.1
  ren := fun S => [0, 1, 2, S.ix 2, S.ix 4, S.ix 6]
noncomputable def cxAr (x : RT × Int) : Cx Try.prog := { ps := [], es := [], is := [], n0 := 3, loops := fun i => match i with | 3 => some (.inv (laAr x.1 x.2)) | _ => none, cuts := fun _ => none }
section
attribute [local irreducible] enter anyAlt Lex HeldOK
set_option maxHeartbeats 8000000 in
theorem ar_runs (x : RT × Int) (hp : obp (some (RTw x.1))) : Runs (cxAr x) Try.f25 [.one (.agg (rt0 x.1)), int_ .i64 x.2] (rtM x.1) fun v m => anyAlt (rtM x.1) (agRen v) v m (agA x) := by
  obtain ⟨t, e⟩ := x
  have hw : RTw t := hp
  obtain ⟨h1, h2, h3⟩ := hw.a
  have h4 := hw.am
  dsimp only at *
  repeat' (first | with_reducible exact trivial | with_reducible exact rfl | with_reducible exact Nat.le_refl _ | with_reducible exact (fun _ _ => rfl) | ((conv => whnf); first | (refine fun (x : Nat × AC) => ?_) | (exact fun h => absurd h (by decide)) | (intro h9; (have h8 := of_decide_eq_true (p := type_of% h9) (by decide)); clear h8 h9) | (refine fun _ => ?_) | refine ⟨?_, ?_⟩ | exact trivial | exact Nat.le_refl _ | exact lex_q (by kernel_rfl) | exact lex_t (by kernel_rfl) | exact lex_h (by kernel_rfl) | fail))
  all_goals (try (have hi := (by assumption : (laAr t e).inv x); dsimp only [laAr] at hi; have i2 := hi.fl; have i3 := hi.fc.1; have i4 := hi.fc.2; have i6 := hi.fi))
  any_goals first
    | (refine enter_mk (la := laAr t e) (0, ⟨_, _, 0, _, _, _, _, _, _, _, _, _, _⟩) ?_ (by (repeat' (first | ((conv => whnf); first | refine ⟨?_, ?_⟩ | exact trivial | fail) | (dsimp only; done) | ((try dsimp only); first | with_reducible exact rfl | exact Nat.le_refl _ | with_reducible exact (fun _ _ => rfl)))); first | ((all_goals ((try dsimp only [laAr] at *); (all_goals (try simp (disch := omega) only [w64', wu64', tdiv_pos, tmod_pos, Int.toNat_natCast, Nat.zero_add] at *)); (all_goals ((first | rfl | omega))))); done) | fail))
    | (refine enter_mk (la := laAr t e) (x.1 + 1, x.2) ?_ (by (repeat' (first | ((conv => whnf); first | refine ⟨?_, ?_⟩ | exact trivial | fail) | (dsimp only; done) | ((try dsimp only); first | with_reducible exact rfl | exact Nat.le_refl _ | with_reducible exact (fun _ _ => rfl)))); first | ((all_goals ((try dsimp only [laAr] at *); (all_goals (try simp (disch := omega) only [w64', wu64', tdiv_pos, tmod_pos, Int.toNat_natCast, Nat.zero_add] at *)); (all_goals ((first | rfl | omega | (rw [w64' (by omega) (by omega)]; omega)))))); done) | fail))
    | (refine enter_mk (la := laAr t e) (x.1 + 1, ⟨_, _, 0, _, _, _, _, _, _, _, _, _, _⟩) ?_ (by (repeat' (first | ((conv => whnf); first | refine ⟨?_, ?_⟩ | exact trivial | fail) | (dsimp only; done) | ((try dsimp only); first | with_reducible exact rfl | exact Nat.le_refl _ | with_reducible exact (fun _ _ => rfl)))); first | ((all_goals ((try dsimp only [laAr] at *); (all_goals (try simp (disch := omega) only [w64', wu64', tdiv_pos, tmod_pos, Int.toNat_natCast, Nat.zero_add] at *)); (all_goals ((first | rfl | omega | (rw [w64' (by omega) (by omega)]; omega)))))); done) | fail))
    | (refine alt_fam (α := AC) x.2 ?_ (by (repeat' (first | with_reducible exact rfl | exact Nat.le_refl _ | with_reducible exact (fun _ _ => rfl) | ((conv => whnf); first | refine ⟨?_, ?_⟩ | exact trivial | fail))); first | ((all_goals ((try dsimp only [id] at *); (all_goals (try simp (disch := omega) only [w64', wu64', tdiv_pos, tmod_pos, Int.toNat_natCast, Nat.zero_add] at *)); (all_goals ((first | rfl | omega | exact w64' (by omega) (by omega) | exact (w64' (by omega) (by omega)).symm))))); done) | fail))
    | skip
  all_goals (try dsimp only [laAr] at *)
  all_goals (try simp only [Int.toNat_natCast, Nat.zero_add] at *)
  all_goals (try omega)
  all_goals (try exact fi_0 rfl (by decide))
  all_goals (try exact fi_end (by assumption) (by assumption))
  all_goals (have hi := (by assumption : FI (agK e) t.a x.1 x.2))
  all_goals first
    | exact fi_skip hi (by omega) (ag_3 (by assumption) (by assumption))
    | exact fi_push hi (by omega) (ag_1 (by assumption)) rfl ⟨by assumption, by assumption⟩ (fun r hr => by simp [acR, hr]) (by simp [acR])
    | exact fi_push hi (by omega) (ag_2 (by assumption)) rfl ⟨by assumption, by assumption⟩ (fun r hr => by simp [acR, hr]) (by simp [acR])
    | fail
noncomputable def arS : ESpec Try.prog := newN fn25 (.s2 Lens.rt (.int .i64)) cxAr (fun x => some (RTw x.1)) agA (fun _ v _ => agRen v) (fun _ => rfl) (fun x a ha => by rw [List.mem_singleton.1 ha]; exact fun _ => rfl) ar_runs
end
def frA (x : RT × Int) : List Alt := [.fam AC (fun y => acL y = (acL x.1.a).filter (flK x.1.n x.2) ∧ AOK y x.1.a.len) (fun y => .one (.agg (rtNA x.1 y))) (fun y => rtM x.1 ++ [rwA y])]
abbrev laFr (x : RT) (s : Int) : LA where
  ι := Nat × AC
  inv := fun y => FI (flK x.n s) x.a y.1 y.2
  T := fun y => ⟨43, [(1, int_ .i64 s), (2, .one (.a (.ptr 3 0))), (4, .one (.a (.ptr 4 0))), (5, .one (.a (slA 5 y.2))), (10, .one (.a (slA 2 x.a))), (11, int_ .i64 x.a.len), (12, int_ .i64 y.1)],
    rtM x ++ [some ⟨true, .flat (rt0 x)⟩, some ⟨true, .flat zT⟩, rwA y.2]⟩
  μ := fun y => x.a.len - y.1
  ren := fun S => [0, 1, 2, S.ix 2, S.ix 4, S.ix 5]
noncomputable def cxFr (x : RT × Int) : Cx Try.prog := { ps := [hasS], es := [], is := [], n0 := 3, loops := fun i => match i with | 3 => some (.inv (laFr x.1 x.2)) | _ => none, cuts := fun _ => none }
section
attribute [local irreducible] enter anyAlt Lex HeldOK
set_option maxHeartbeats 8000000 in
theorem fr_runs (x : RT × Int) (hp : obp (some (RTw x.1))) : Runs (cxFr x) Try.f26 [.one (.agg (rt0 x.1)), int_ .i64 x.2] (rtM x.1) fun v m => anyAlt (rtM x.1) (naRen v) v m (frA x) := by
  obtain ⟨t, e⟩ := x
  have hw : RTw t := hp
  obtain ⟨h1, h2, h3⟩ := hw.a
  have h4 := hw.am
  have h5 := hw.n
  dsimp only at *
  repeat' (first | with_reducible exact trivial | with_reducible exact rfl | with_reducible exact Nat.le_refl _ | with_reducible exact (fun _ _ => rfl) | ((conv => whnf); first | (refine fun (x : Nat × AC) => ?_) | (exact fun h => absurd h (by decide)) | (intro h9; (have h8 := of_decide_eq_true (p := type_of% h9) (by decide)); clear h8 h9) | (refine fun _ => ?_) | refine ⟨?_, ?_⟩ | exact trivial | exact Nat.le_refl _ | exact lex_q (by kernel_rfl) | exact lex_t (by kernel_rfl) | exact lex_h (by kernel_rfl) | fail))
  all_goals (try (have hi := (by assumption : (laFr t e).inv x); dsimp only [laFr] at hi; have i2 := hi.fl; have i3 := hi.fc.1; have i4 := hi.fc.2; have i6 := hi.fi))
  any_goals first
    | (refine enter_mk (la := laFr t e) (0, ⟨_, _, 0, _, _, _, _, _, _, _, _, _, _⟩) ?_ (by (repeat' (first | ((conv => whnf); first | refine ⟨?_, ?_⟩ | exact trivial | fail) | (dsimp only; done) | ((try dsimp only); first | with_reducible exact rfl | exact Nat.le_refl _ | with_reducible exact (fun _ _ => rfl)))); first | ((all_goals ((try dsimp only [laFr] at *); (all_goals (try simp (disch := omega) only [w64', wu64', tdiv_pos, tmod_pos, Int.toNat_natCast, Nat.zero_add] at *)); (all_goals ((first | rfl | omega))))); done) | fail))
    | (refine enter_mk (la := laFr t e) (x.1 + 1, x.2) ?_ (by (repeat' (first | ((conv => whnf); first | refine ⟨?_, ?_⟩ | exact trivial | fail) | (dsimp only; done) | ((try dsimp only); first | with_reducible exact rfl | exact Nat.le_refl _ | with_reducible exact (fun _ _ => rfl)))); first | ((all_goals ((try dsimp only [laFr] at *); (all_goals (try simp (disch := omega) only [w64', wu64', tdiv_pos, tmod_pos, Int.toNat_natCast, Nat.zero_add] at *)); (all_goals ((first | rfl | omega | (rw [w64' (by omega) (by omega)]; omega)))))); done) | fail))
    | (refine enter_mk (la := laFr t e) (x.1 + 1, ⟨_, _, 0, _, _, _, _, _, _, _, _, _, _⟩) ?_ (by (repeat' (first | ((conv => whnf); first | refine ⟨?_, ?_⟩ | exact trivial | fail) | (dsimp only; done) | ((try dsimp only); first | with_reducible exact rfl | exact Nat.le_refl _ | with_reducible exact (fun _ _ => rfl)))); first | ((all_goals ((try dsimp only [laFr] at *); (all_goals (try simp (disch := omega) only [w64', wu64', tdiv_pos, tmod_pos, Int.toNat_natCast, Nat.zero_add] at *)); (all_goals ((first | rfl | omega | (rw [w64' (by omega) (by omega)]; omega)))))); done) | fail))
    | (refine alt_fam (α := AC) x.2 ?_ (by (repeat' (first | with_reducible exact rfl | exact Nat.le_refl _ | with_reducible exact (fun _ _ => rfl) | ((conv => whnf); first | refine ⟨?_, ?_⟩ | exact trivial | fail))); first | ((all_goals ((try dsimp only [id] at *); (all_goals (try simp (disch := omega) only [w64', wu64', tdiv_pos, tmod_pos, Int.toNat_natCast, Nat.zero_add] at *)); (all_goals ((first | rfl | omega | exact w64' (by omega) (by omega) | exact (w64' (by omega) (by omega)).symm))))); done) | fail))
    | skip
  all_goals (try dsimp only [laFr] at *)
  all_goals (try simp only [Int.toNat_natCast, Nat.zero_add] at *)
  all_goals (try omega)
  all_goals (try exact fi_0 rfl (by decide))
  all_goals (try exact fi_end (by assumption) (by assumption))
  all_goals (have hi := (by assumption : FI (flK t.n e) t.a x.1 x.2))
  all_goals first
    | exact fi_skip hi (by omega) (fl_5 (by assumption) (by assumption) (by assumption) (not_f (by assumption)))
    | exact fi_push hi (by omega) (fl_1 (by assumption)) rfl ⟨by assumption, by assumption⟩ (fun r hr => by simp [acR, hr]) (by simp [acR])
    | exact fi_push hi (by omega) (fl_2 (by assumption)) rfl ⟨by assumption, by assumption⟩ (fun r hr => by simp [acR, hr]) (by simp [acR])
    | exact fi_push hi (by omega) (fl_3 (by assumption)) rfl ⟨by assumption, by assumption⟩ (fun r hr => by simp [acR, hr]) (by simp [acR])
    | exact fi_push hi (by omega) (fl_4 (not_t (by assumption))) rfl ⟨by assumption, by assumption⟩ (fun r hr => by simp [acR, hr]) (by simp [acR])
    | fail
noncomputable def frS : ESpec Try.prog := newN fn26 (.s2 Lens.rt (.int .i64)) cxFr (fun x => some (RTw x.1)) frA (fun _ v _ => naRen v) (fun _ => rfl) (fun x a ha => by rw [List.mem_singleton.1 ha]; exact fun _ => rfl) fr_runs
end

end Go.Proofs.Ytnkmfkongmijfaa
