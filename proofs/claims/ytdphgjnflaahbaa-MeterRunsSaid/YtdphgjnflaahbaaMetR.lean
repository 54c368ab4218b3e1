/-
  Contracts of functions, and plain facts about them, that a claim of this seat uses.
-/
import Derived.Test.YtdphgjnflaahbaaSx
import Derived.Test.YtdphgjnflaahbaaMWideNum
import Derived.Test.YtdphgjnflaahbaaMRefA
import Derived.Test.YtdphgjnflaahbaaMRefB
import Derived.Test.YtdphgjnflaahbaaMWideU
import Derived.Test.YtdphgjnflaahbaaMLen
import Derived.Test.YtdphgjnflaahbaaMDiv64
import Derived.Test.YtdphgjnflaahbaaMDivU
import Derived.Test.YtdphgjnflaahbaaMMulDiv
import Derived.Test.YtdphgjnflaahbaaMHeld
import Derived.Test.YtdphgjnflaahbaaMRefM
import Derived.Test.YtdphgjnflaahbaaMRefD
import Derived.Test.YtdphgjnflaahbaaMRefE
import Derived.Test.YtdphgjnflaahbaaMetA
import Derived.Test.YtdphgjnflaahbaaMetB
import Derived.Test.YtdphgjnflaahbaaMetC
import Derived.Test.YtdphgjnflaahbaaMetD
import Derived.Test.YtdphgjnflaahbaaProg
namespace Go.Proofs.Ytdphgjnflaahbaa
open Go.Sx
set_option linter.unusedVariables false
set_option linter.unusedSimpArgs false
set_option maxRecDepth 100000

/-! the reference's pails: Right, bits, fill, New, Whole. -/
theorem fn15 : FnOf Try.prog 15 Try.f15 := ⟨Try.func15, rfl, rfl, mixed⟩
theorem fn16 : FnOf Try.prog 16 Try.f16 := ⟨Try.func16, rfl, rfl, mixed⟩
theorem fn17 : FnOf Try.prog 17 Try.f17 := ⟨Try.func17, rfl, rfl, mixed⟩
theorem fn18 : FnOf Try.prog 18 Try.f18 := ⟨Try.func18, rfl, rfl, mixed⟩
theorem fn20 : FnOf Try.prog 20 Try.f20 := ⟨Try.func20, rfl, rfl, mixed⟩
theorem fn22 : FnOf Try.prog 22 Try.f22 := ⟨Try.func22, rfl, rfl, mixed⟩
abbrev laRt (x : Cf) : LA where
  ι := Nat
  inv := fun i => i ≤ 4 ∧ ∀ j, j < i → 0 ≤ x.g j ∧ x.g j ≤ 8589934592
  T := fun i => ⟨26, [(13, .one (.a (.slc 0 1 0 4 4))), (14, int_ .i64 4), (15, int_ .i64 i)], [some ⟨true, .tab 4 [.int .i64 x.g]⟩]⟩
  μ := fun i => 4 - i
  ren := fun S => [S.ix 13]
noncomputable def cxRt (x : Cf) : Cx Try.prog := { ps := [], es := [], is := [], n0 := 0, loops := fun i => match i with | 2 => some (.inv (laRt x)) | _ => none, cuts := fun _ => none }
section
attribute [local irreducible] enter anyAlt
set_option maxHeartbeats 8000000 in
theorem right_runs (w : Cf) (_ : obp (some True)) : Runs (cxRt w) Try.f15 [.one (.agg w.cells)] [] fun v _ => isRes (.one (.a (.v (.bool (decide (CfM w)))))) v := by
  repeat' (first | with_reducible exact trivial | with_reducible exact rfl | with_reducible exact Nat.le_refl _ | with_reducible exact (fun _ _ => rfl) | ((conv => whnf); first | (refine fun (x : Nat) => ?_) | (refine fun _ => ?_) | refine ⟨?_, ?_⟩ | exact trivial | exact Nat.le_refl _ | exact lex_q (by kernel_rfl) | exact lex_t (by kernel_rfl) | exact lex_h (by kernel_rfl) | fail))
  any_goals first
    | (refine enter_mk (la := laRt w) 0 ?_ (by (repeat' (first | ((conv => whnf); first | refine ⟨?_, ?_⟩ | exact trivial | fail) | (dsimp only; done) | ((try dsimp only); first | with_reducible exact rfl | exact Nat.le_refl _ | with_reducible exact (fun _ _ => rfl)))); first | ((all_goals ((try dsimp only [laRt] at *); (all_goals (try simp (disch := omega) only [w64', wu64', tdiv_pos, tmod_pos, Int.toNat_natCast, Nat.zero_add] at *)); (all_goals ((first | rfl | omega | exact fun _ _ => rfl))))); done) | fail))
    | (refine enter_mk (la := laRt w) (x + 1) ?_ (by (repeat' (first | ((conv => whnf); first | refine ⟨?_, ?_⟩ | exact trivial | fail) | (dsimp only; done) | ((try dsimp only); first | with_reducible exact rfl | exact Nat.le_refl _ | with_reducible exact (fun _ _ => rfl)))); first | ((all_goals ((try dsimp only [laRt] at *); (all_goals (try simp (disch := omega) only [w64', wu64', tdiv_pos, tmod_pos, Int.toNat_natCast, Nat.zero_add] at *)); (all_goals ((first | rfl | omega | (rw [w64' (by omega) (by omega)]; omega)))))); done) | fail))
    | fail
  all_goals (try dsimp only [laRt] at *)
  all_goals (try simp only [Int.toNat_natCast, Nat.zero_add] at *)
  all_goals (try omega)
  all_goals first
    | exact ⟨by omega, fun j hj => absurd hj (Nat.not_lt_zero j)⟩
    | exact decide_eq_false (cfm_not (j := x) (by omega) (by omega))
    | (have hi := (by assumption : x ≤ 4 ∧ _)
       refine ⟨by omega, fun j hj => ?_⟩
       rcases Nat.lt_or_ge j x with h9 | h9
       · exact hi.2 j h9
       · obtain rfl : j = x := by omega
         omega)
    | (have hi := (by assumption : x ≤ 4 ∧ _)
       exact decide_eq_true (cfm_all fun j hj => hi.2 j (by omega)))
    | exact (decide_eq_false (cfm_not (j := x) (by omega) (by omega))).symm
    | (have hi := (by assumption : x ≤ 4 ∧ _)
       exact (decide_eq_true (cfm_all fun j hj => hi.2 j (by omega))).symm)
end
noncomputable def rightS : PSpec Try.prog := readN fn15 (.s1 Lens.mconf) cxRt (fun _ => some True) (fun x => .one (.a (.v (.bool (decide (CfM x)))))) (fun _ => rfl) (fun _ => rfl) (fun _ => rfl) right_runs
noncomputable def cxBits : Cx Try.prog := { ps := [], es := [absRefS, mulRefS], is := [], n0 := 0, loops := fun _ => none, cuts := fun _ => none }
theorem dv8 {n : Int} {y : DS} (h : DV n y) (hn : n < 340282366920938463463374607431768211456) : y.len ≤ 8 := by
  have := h.2.2.2.2.1; omega
section
attribute [local irreducible] enter anyAlt
set_option maxHeartbeats 8000000 in
theorem rbits_runs (n : Int) (hp : obp (some (I64 n))) : Runs cxBits Try.f20 [int_ .i64 n] [] fun v m => anyAlt [] [v.ix] v m (newD 0 [] (absI n * 1000000000)) := by
  have hn : I64 n := hp
  have hb := absI_bd hn
  have e9 : absI 1000000000 = 1000000000 := by decide
  repeat' (first | with_reducible exact trivial | with_reducible exact rfl | with_reducible exact Nat.le_refl _ | with_reducible exact (fun _ _ => rfl) | ((conv => whnf); first | (refine fun (x : DS) => ?_) | (refine fun _ => ?_) | refine ⟨?_, ?_⟩ | exact trivial | exact Nat.le_refl _ | exact lex_q (by kernel_rfl) | exact lex_t (by kernel_rfl) | exact lex_h (by kernel_rfl) | fail))
  any_goals (refine alt_fam (α := DS) ⟨_, _, _⟩ ?_ (by (repeat' (first | with_reducible exact rfl | exact Nat.le_refl _ | with_reducible exact (fun _ _ => rfl) | ((conv => whnf); first | refine ⟨?_, ?_⟩ | exact trivial | fail))); first | ((all_goals ((try dsimp only [id] at *); (all_goals (try simp (disch := omega) only [w64', wu64', tdiv_pos, tmod_pos, Int.toNat_natCast, Nat.zero_add] at *)); (all_goals ((try omega))))); done) | fail))
  all_goals (try rw [e9] at *)
  all_goals (try exact hn.1)
  all_goals (try exact hn.2)
  all_goals (try exact (by decide : (-9223372036854775808 : Int) ≤ 1000000000))
  all_goals (try exact (by decide : (1000000000 : Int) ≤ 9223372036854775807))
  all_goals
    have h1 := ‹DV (absI n) _›
    have h2 := ‹DV 1000000000 _›
    have l1 := dv8 h1 (by omega)
    have l2 := dv8 h2 (by omega)
    have w1 := h1.2.2.1
    have w2 := h2.2.2.1
    first
    | exact h1.2.1
    | exact h2.2.1
    | exact Nat.le_trans l1 (by decide)
    | exact Nat.le_trans l2 (by decide)
    | (have h3 := (by assumption : DV (_ * _) x)
       rw [w1, w2] at h3
       exact h3)
end
noncomputable def rbitsS : ESpec Try.prog := newN fn20 (.s1 (.int .i64)) (fun _ => cxBits) (fun n => some (I64 n)) (fun n => newD 0 [] (absI n * 1000000000)) (fun _ v _ => [v.ix]) (fun _ => rfl) (fun x a ha => by rw [List.mem_singleton.1 ha]; exact fun _ => rfl) rbits_runs
/-! fill -/
theorem alt_hd {m0 : Mem} {ρ : List Nat} {v : SV} {m : Mem} {a b : Alt} {l : List Alt} (h : anyAlt m0 ρ v m [a]) : anyAlt m0 ρ v m (a :: b :: l) := .inl h
theorem alt_r {m0 : Mem} {ρ : List Nat} {v : SV} {m : Mem} {a b : Alt} {l : List Alt} (h : anyAlt m0 ρ v m (b :: l)) : anyAlt m0 ρ v m (a :: b :: l) := .inr h
def fillA (x : IS × IS × IS) : List Alt := [
  .fam DS (fun y => nv x.1 + nv x.2.1 ≤ nv x.2.2 ∧ DV (nv x.1 + nv x.2.1) y) (fun y => .tup [.a (.slc 3 1 0 y.len y.cap), .a (.slc 4 1 0 0 0)]) (fun y => [roI x.1, roI x.2.1, roI x.2.2, rwI y.cap y.g, rwI 0 fun _ => 0]),
  .fam DS (fun y => nv x.2.2 < nv x.1 + nv x.2.1 ∧ DV (nv x.1 + nv x.2.1 - nv x.2.2) y) (fun y => .tup [.a (.slc 2 1 0 x.2.2.len x.2.2.cap), .a (.slc 3 1 0 y.len y.cap)]) (fun y => [roI x.1, roI x.2.1, roI x.2.2, rwI y.cap y.g])]
def fillRen (v : SV) : List Nat := bif Nat.beq (ix2 0 v) 2 then [0, 1, 2, ix2 1 v] else [0, 1, 2, ix2 0 v, ix2 1 v]
noncomputable def cxRFill : Cx Try.prog := { ps := [cmpRefS], es := [addRefS, subRefS], is := [], n0 := 3, loops := fun _ => none, cuts := fun _ => none }
section
attribute [local irreducible] enter anyAlt
set_option maxHeartbeats 8000000 in
theorem rfill_runs (x : IS × IS × IS) (hp : obp (some ((Wf x.1 ∧ Wf x.2.1 ∧ Wf x.2.2) ∧ (x.1.len ≤ 900 ∧ x.2.1.len ≤ 900)))) : Runs cxRFill Try.f22 [D1 0 x.1, D1 1 x.2.1, D1 2 x.2.2] [roI x.1, roI x.2.1, roI x.2.2] fun v m => anyAlt [roI x.1, roI x.2.1, roI x.2.2] (fillRen v) v m (fillA x) := by
  obtain ⟨⟨ha, hb, hc⟩, la, lb⟩ : (Wf x.1 ∧ Wf x.2.1 ∧ Wf x.2.2) ∧ (x.1.len ≤ 900 ∧ x.2.1.len ≤ 900) := hp
  obtain ⟨a, b, c⟩ := x
  dsimp only at *
  repeat' (first | with_reducible exact trivial | with_reducible exact rfl | with_reducible exact Nat.le_refl _ | with_reducible exact (fun _ _ => rfl) | ((conv => whnf); first | (refine fun (x : DS) => ?_) | (refine fun _ => ?_) | refine ⟨?_, ?_⟩ | exact trivial | exact Nat.le_refl _ | exact lex_q (by kernel_rfl) | exact lex_t (by kernel_rfl) | exact lex_h (by kernel_rfl) | fail))
  any_goals first
    | (refine alt_hd (alt_fam (α := DS) ⟨_, _, _⟩ ?_ (by (repeat' (first | with_reducible exact rfl | exact Nat.le_refl _ | with_reducible exact (fun _ _ => rfl) | ((conv => whnf); first | refine ⟨?_, ?_⟩ | exact trivial | fail))); first | ((all_goals ((try dsimp only [id] at *); (all_goals (try simp (disch := omega) only [w64', wu64', tdiv_pos, tmod_pos, Int.toNat_natCast, Nat.zero_add] at *)); (all_goals ((try omega))))); done) | fail)))
    | (refine alt_r (alt_fam (α := DS) ⟨_, _, _⟩ ?_ (by (repeat' (first | with_reducible exact rfl | exact Nat.le_refl _ | with_reducible exact (fun _ _ => rfl) | ((conv => whnf); first | refine ⟨?_, ?_⟩ | exact trivial | fail))); first | ((all_goals ((try dsimp only [id] at *); (all_goals (try simp (disch := omega) only [w64', wu64', tdiv_pos, tmod_pos, Int.toNat_natCast, Nat.zero_add] at *)); (all_goals ((try omega))))); done) | fail)))
    | fail
  all_goals first
    | exact ha
    | exact hb
    | exact la
    | exact lb
    | exact hc
    | skip
  all_goals (try dsimp only [cutR, cutL, id] at *)
  all_goals
    have ea : nv { len := a.len, cap := a.cap, N := a.N - 0, g := fun q => a.g (q + 0) } = nv a := rfl
    have eb : nv { len := b.len, cap := b.cap, N := b.N - 0, g := fun q => b.g (q + 0) } = nv b := rfl
    have ec : nv { len := c.len, cap := c.cap, N := c.N - 0, g := fun q => c.g (q + 0) } = nv c := rfl
    simp only [ea, eb, ec] at *
    have h1 := ‹DV (nv a + nv b) _›
    have w1 := h1.2.2.1
    simp only [w1] at *
    have c1 : ∀ u v : Int, cmpI3 u v ≤ 0 → u ≤ v := fun u v h => by unfold cmpI3 at h; split at h <;> (try split at h) <;> omega
    have c2 : ∀ u v : Int, ¬ cmpI3 u v ≤ 0 → v < u := fun u v h => by unfold cmpI3 at h; split at h <;> (try split at h) <;> omega
    first
    | exact h1.2.1
    | exact ⟨c1 _ _ (by assumption), h1⟩
    | (have := c2 _ _ (by assumption : ¬ cmpI3 (nv a + nv b) (nv c) ≤ 0); omega)
    | exact ⟨c2 _ _ (by assumption), (by assumption : DV (nv a + nv b - nv c) x)⟩
end
noncomputable def rfillS : ESpec Try.prog := newN fn22 (.s3 dS dS dS) (fun _ => cxRFill) (fun x => some ((Wf x.1 ∧ Wf x.2.1 ∧ Wf x.2.2) ∧ (x.1.len ≤ 900 ∧ x.2.1.len ≤ 900))) fillA (fun _ v _ => fillRen v) (fun _ => rfl) (fun x a ha => by
  rcases List.mem_cons.1 ha with rfl | ha
  · exact fun _ => rfl
  · rw [List.mem_singleton.1 ha]; exact fun _ => rfl) rfill_runs
/-! New -/
def rmCells (j k : Nat) (m : Mt) (a b : DS) : List SA := [i_ m.rate, i_ m.burst, i_ m.more, i_ m.beyond, b_' m.couple, b_' m.aware, b_' m.shut, i_ m.last, .slc j 1 0 a.len a.cap, .slc k 1 0 b.len b.cap, b_' m.off]
def rnewA (x : Cf × Int) : List Alt := [.fam (DS × DS) (fun y => DV (x.1.burst * 1000000000) y.1 ∧ DV (x.1.beyond * 1000000000) y.2) (fun y => .one (.agg [i_ x.1.rate, i_ x.1.burst, i_ x.1.more, i_ x.1.beyond, b_' x.1.couple, b_' x.1.aware, b_' x.1.shut, i_ x.2, .slc 0 1 0 y.1.len y.1.cap, .slc 1 1 0 y.2.len y.2.cap, .ff])) (fun y => [rwI y.1.cap y.1.g, rwI y.2.cap y.2.g])]
def aggIx (j : Nat) : SV → Nat
  | .one (.agg l) => (match l[j]? with | some x => x.ix | none => 0)
  | _ => 0
noncomputable def cxRNew : Cx Try.prog := { ps := [], es := [rbitsS], is := [], n0 := 0, loops := fun _ => none, cuts := fun _ => none, held := fun i => match i with | 1 => some (true, .take 0 (.take 1 (.take 2 (.take 3 (.take 5 (.take 6 (.one 4 (.one 7 (.take 8 (.one 9 .done)))))))))) | _ => none, lose := fun _ => [1] }
section
attribute [local irreducible] enter anyAlt
set_option maxHeartbeats 8000000 in
theorem rnew_runs (x : Cf × Int) (hp : obp (some (CfM x.1))) : Runs cxRNew Try.f16 [.one (.agg x.1.cells), int_ .i64 x.2] [] fun v m => anyAlt [] [aggIx 8 v, aggIx 9 v] v m (rnewA x) := by
  obtain ⟨c, n⟩ := x
  obtain ⟨h1, h2, h3, h4⟩ : CfM c := hp
  dsimp only at *
  repeat' (first | with_reducible exact trivial | with_reducible exact rfl | with_reducible exact Nat.le_refl _ | with_reducible exact (fun _ _ => rfl) | ((conv => whnf); first | (refine fun (x : DS) => ?_) | (refine fun _ => ?_) | refine ⟨?_, ?_⟩ | exact trivial | exact Nat.le_refl _ | exact lex_q (by kernel_rfl) | exact lex_t (by kernel_rfl) | exact lex_h (by kernel_rfl) | fail))
  any_goals first
    | (refine alt_fam (α := DS × DS) ⟨⟨_, _, _⟩, ⟨_, _, _⟩⟩ ?_ (by (repeat' (first | with_reducible exact rfl | exact Nat.le_refl _ | with_reducible exact (fun _ _ => rfl) | ((conv => whnf); first | refine ⟨?_, ?_⟩ | exact trivial | fail))); first | ((all_goals ((try dsimp only [id] at *); (all_goals (try simp (disch := omega) only [w64', wu64', tdiv_pos, tmod_pos, Int.toNat_natCast, Nat.zero_add] at *)); (all_goals ((try omega))))); done) | fail))
    | fail
  all_goals (try dsimp only [cutR, cutL, id] at *)
  all_goals (try omega)
  all_goals
    have e1 : absI c.burst = c.burst := by unfold absI; rw [if_neg (by omega)]
    have e2 : absI c.beyond = c.beyond := by unfold absI; rw [if_neg (by omega)]
    simp only [e1, e2] at *
    exact ⟨‹DV (c.burst * 1000000000) _›, by assumption⟩
end
noncomputable def rnewS : ESpec Try.prog := newN fn16 (.s2 Lens.mconf (.int .i64)) (fun _ => cxRNew) (fun x => some (CfM x.1)) rnewA (fun _ v _ => [aggIx 8 v, aggIx 9 v]) (fun _ => rfl) (fun x a ha => by rw [List.mem_singleton.1 ha]; exact fun _ => rfl) rnew_runs
/-! Whole -/
noncomputable def cxWhole : Cx Try.prog := { ps := [intRefS], es := [absRefS, divRefS], is := [], n0 := 1, loops := fun _ => none, cuts := fun _ => none }
section
attribute [local irreducible] enter anyAlt
set_option maxHeartbeats 8000000 in
theorem whole_runs (a : IS) (hp : obp (some (Wf a ∧ a.len ≤ 800))) : Runs cxWhole Try.f18 [D1 0 a] [roI a] fun v _ => isRes (int_ .i64 (intX (nv a / 1000000000) false)) v := by
  obtain ⟨ha, la⟩ : Wf a ∧ a.len ≤ 800 := hp
  have e9 : absI 1000000000 = 1000000000 := by decide
  repeat' (first | with_reducible exact trivial | with_reducible exact rfl | with_reducible exact Nat.le_refl _ | with_reducible exact (fun _ _ => rfl) | ((conv => whnf); first | (refine fun (x : DS) => ?_) | (refine fun (y : DS × DS) => ?_) | (refine fun _ => ?_) | refine ⟨?_, ?_⟩ | exact trivial | exact Nat.le_refl _ | exact lex_q (by kernel_rfl) | exact lex_t (by kernel_rfl) | exact lex_h (by kernel_rfl) | fail))
  all_goals (try dsimp only [cutR, cutL, id] at *)
  all_goals (try omega)
  all_goals
    have h1 := ‹DV (absI 1000000000) _›
    rw [e9] at h1
    have l1 := dv8 h1 (by omega)
    have w1 := h1.2.2.1
    have ea : nv { len := a.len, cap := a.cap, N := a.N - 0, g := fun q => a.g (q + 0) } = nv a := rfl
    first
    | exact ha
    | exact h1.2.1
    | exact Nat.le_trans l1 (by decide)
    | (rw [w1]; decide)
    | (have h2 := (by assumption : DV (_ / _) y.1 ∧ _).1
       first
       | exact h2.2.1
       | (have w2 := h2.2.2.1
          rw [w1, ea] at w2
          rw [w2]))
end
noncomputable def wholeS : PSpec Try.prog := readN fn18 (.s1 dS) (fun _ => cxWhole) (fun a => some (Wf a ∧ a.len ≤ 800)) (fun a => int_ .i64 (intX (nv a / 1000000000) false)) (fun _ => rfl) (fun _ => rfl) (fun _ => rfl) whole_runs

end Go.Proofs.Ytdphgjnflaahbaa
