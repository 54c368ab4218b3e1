/-
  Contracts of functions, and plain facts about them, that a claim of this seat uses.
-/
import Derived.Test.YtaadejgoafdbcaaSx
import Derived.Test.YtaadejgoafdbcaaPortB
import Derived.Test.YtaadejgoafdbcaaProg
namespace Go.Proofs.Ytaadejgoafdbcaa
open Go.Sx
set_option linter.unusedVariables false
set_option linter.unusedSimpArgs false
set_option maxRecDepth 100000

/-! port's law: the reference's phase, bit, and the copy that it looks at. -/
theorem fn23 : FnOf Try.prog 23 Try.f23 := ⟨Try.func23, rfl, rfl, mixed⟩
theorem fn36 : FnOf Try.prog 36 Try.f36 := ⟨Try.func36, rfl, rfl, mixed⟩
theorem fn38 : FnOf Try.prog 38 Try.f38 := ⟨Try.func38, rfl, rfl, mixed⟩
section
attribute [local irreducible] enter Gw
noncomputable def cxRPh : Cx Try.prog := { ps := [], es := [], is := [], n0 := 1, loops := fun i => match i with | 4 => some (.rounds 2) | _ => none, cuts := fun _ => none }
set_option maxHeartbeats 8000000 in
theorem rph_runs (x : GL × Int) (hp : obp (some (Gw x.1 ∧ chk x.1 = 0 ∧ Tm x.2))) : Runs cxRPh Try.f36 [G1 0 x.1, int_ .i64 x.2] [roG x.1] fun v _ => isRes (int_ .i64 (phV x.1 x.2)) v := by
  obtain ⟨l, a⟩ := x
  obtain ⟨hw, ho, ht⟩ : Gw l ∧ chk l = 0 ∧ Tm a := hp
  have ok := chk_ok ho
  obtain ⟨o1, o2, o3, o4, o5, o6⟩ : _ ∧ _ ∧ _ ∧ _ ∧ _ ∧ _ := ⟨ok.n1, ok.n2, ok.c1, ok.c2, ok.b1, ok.b2⟩
  unfold Tm at ht
  have tt := tm_at (s := a - l.base) (g := l.cyc) (by omega)
  have e1 := Int.emod_nonneg (a - l.base) (show l.cyc ≠ 0 by omega)
  have e2 := Int.emod_lt_of_pos (a - l.base) (show 0 < l.cyc by omega)
  have e3 := Int.tmod_lt_of_pos (a - l.base) (show 0 < l.cyc by omega)
  have e4 := Int.lt_tmod_of_pos (a - l.base) (show 0 < l.cyc by omega)
  have e5 : phV l a = (a - l.base) % l.cyc := rfl
  have em := Int.tmod_add_mul_tdiv (a - l.base) l.cyc
  have w1 : IntKind.i64.wrap (a - l.base) = a - l.base := w64' (by omega) (by omega)
  have eq : Int.tdiv (a - l.base) l.cyc * l.cyc = (a - l.base) - Int.tmod (a - l.base) l.cyc := by rw [Int.mul_comm]; omega
  have w2 : IntKind.i64.wrap (Int.tdiv (a - l.base) l.cyc * l.cyc) = (a - l.base) - Int.tmod (a - l.base) l.cyc := by rw [eq]; exact w64' (by omega) (by omega)
  repeat' (first | with_reducible exact trivial | with_reducible exact rfl | with_reducible exact Nat.le_refl _ | with_reducible exact (fun _ _ => rfl) | ((conv => whnf); first | (refine fun _ => ?_) | refine ⟨?_, ?_⟩ | exact trivial | exact Nat.le_refl _ | exact lex_q (by kernel_rfl) | exact lex_t (by kernel_rfl) | exact lex_h (by kernel_rfl) | fail))
  all_goals (try dsimp only at *)
  all_goals (try simp only [w1, w2] at *)
  all_goals
    have q1 : -9223372036854775808 ≤ Int.tdiv (a - l.base) l.cyc ∧ Int.tdiv (a - l.base) l.cyc ≤ 9223372036854775807 := by
      generalize Int.tdiv (a - l.base) l.cyc = t at *
      generalize Int.tmod (a - l.base) l.cyc = m at *
      rcases Int.le_total 0 t with h9 | h9
      · have := Int.mul_le_mul_of_nonneg_left o3 h9
        omega
      · have := Int.mul_le_mul_of_nonneg_left o3 (show 0 ≤ -t by omega)
        rw [Int.neg_mul, Int.neg_mul] at this
        omega
    have w3 : IntKind.i64.wrap (Int.tdiv (a - l.base) l.cyc) = Int.tdiv (a - l.base) l.cyc := w64' q1.1 q1.2
    have w4 : IntKind.i64.wrap (Int.tdiv (a - l.base) l.cyc * l.cyc) = (a - l.base) - Int.tmod (a - l.base) l.cyc := by rw [eq]; exact w64' (by omega) (by omega)
    have w5 : (a - l.base) - ((a - l.base) - Int.tmod (a - l.base) l.cyc) = Int.tmod (a - l.base) l.cyc := by omega
    have w6 : IntKind.i64.wrap (Int.tmod (a - l.base) l.cyc) = Int.tmod (a - l.base) l.cyc := w64' (by omega) (by omega)
    have w7 : IntKind.i64.wrap (Int.tmod (a - l.base) l.cyc + l.cyc) = Int.tmod (a - l.base) l.cyc + l.cyc := w64' (by omega) (by omega)
    simp only [w3, w4, w5, w6, w7] at *
    omega
noncomputable def rphS : PSpec Try.prog := readN fn36 (.s2 Lens.gl (.int .i64)) (fun _ => cxRPh) (fun x => some (Gw x.1 ∧ chk x.1 = 0 ∧ Tm x.2)) (fun x => int_ .i64 (phV x.1 x.2)) (fun _ => rfl) (fun _ => rfl) (fun _ => rfl) rph_runs
abbrev laBit (s k : Int) : LA where
  ι := Int × Int
  inv := fun y => (0 ≤ y.1 ∧ y.1 ≤ k) ∧ y.2 = s / 2 ^ y.1.toNat ∧ (0 ≤ y.2 ∧ y.2 ≤ 255)
  T := fun y => ⟨16, [(0, int_ .i64 y.2), (1, int_ .i64 k), (5, int_ .i64 y.1)], []⟩
  μ := fun y => (k - y.1).toNat
  ren := fun _ => []
noncomputable def cxBit (x : Int × Int) : Cx Try.prog := { ps := [], es := [], is := [], n0 := 0, loops := fun i => match i with | 2 => some (.inv (laBit x.1 x.2)) | _ => none, cuts := fun _ => none }
set_option maxHeartbeats 8000000 in
theorem bit_runs (x : Int × Int) (hp : obp (some ((0 ≤ x.1 ∧ x.1 ≤ 255) ∧ gateR x.2))) : Runs (cxBit x) Try.f38 [int_ .i64 x.1, int_ .i64 x.2] [] fun v _ => isRes (.one (.a (.v (.bool (decide (x.1 / 2 ^ x.2.toNat % 2 = 1)))))) v := by
  obtain ⟨s, k⟩ := x
  obtain ⟨hs, hk⟩ : (0 ≤ s ∧ s ≤ 255) ∧ gateR k := hp
  unfold gateR at hk
  repeat' (first | with_reducible exact trivial | with_reducible exact rfl | with_reducible exact Nat.le_refl _ | with_reducible exact (fun _ _ => rfl) | ((conv => whnf); first | (refine fun (x : Int × Int) => ?_) | (refine fun _ => ?_) | refine ⟨?_, ?_⟩ | exact trivial | exact Nat.le_refl _ | exact lex_q (by kernel_rfl) | exact lex_t (by kernel_rfl) | exact lex_h (by kernel_rfl) | fail))
  any_goals (refine enter_mk (la := laBit s k) (_, _) ?_ (by (repeat' (first | ((conv => whnf); first | refine ⟨?_, ?_⟩ | exact trivial | fail) | (dsimp only; done) | ((try dsimp only); first | with_reducible exact rfl | exact Nat.le_refl _ | with_reducible exact (fun _ _ => rfl)))); first | ((all_goals ((try dsimp only [laBit] at *); (all_goals (try simp (disch := omega) only [w64', wu64', tdiv_pos, tmod_pos, Int.toNat_natCast, Nat.zero_add] at *)); (all_goals ((try omega))))); done) | fail))
  all_goals (try dsimp only [laBit] at *)
  all_goals (try simp (disch := omega) only [fdiv_nn, Int.reduceToNat, IntKind.bits, Nat.min_def, Nat.reduceLeDiff, if_true, if_false, Int.reducePow, wu8, wu32, w64', wu64', tdiv_pos, tmod_pos, Int.toNat_natCast, Nat.zero_add] at *)
  all_goals first
    | exact ⟨by omega, by simp, by omega⟩
    | (have hx := (by assumption : (0 ≤ x.1 ∧ _) ∧ _)
       obtain ⟨i1, i2, i3⟩ := hx
       refine ⟨by omega, ?_, by omega⟩
       rw [show (x.1 + 1).toNat = x.1.toNat + 1 by omega, Int.pow_succ, ← Int.ediv_ediv_of_nonneg (by exact Int.le_of_lt (Int.pow_pos (by decide))), ← i2])
    | (have hx := (by assumption : (0 ≤ x.1 ∧ _) ∧ _)
       obtain ⟨i1, i2, i3⟩ := hx
       rw [i2, show x.1 = k by omega])
noncomputable def bitS : PSpec Try.prog := readN fn38 (.s2 (.int .i64) (.int .i64)) cxBit (fun x => some ((0 ≤ x.1 ∧ x.1 ≤ 255) ∧ gateR x.2)) (fun x => .one (.a (.v (.bool (decide (x.1 / 2 ^ x.2.toNat % 2 = 1)))))) (fun _ => rfl) (fun _ => rfl) (fun _ => rfl) bit_runs
def rNilC (l : GL) : List SA := [.v (.int .i64 l.base), .v (.int .i64 l.cyc), .v (.slice none 0 0)]
def rCpC (j : Nat) (n : Nat) (l : GL) (y : CL) : List SA := [.v (.int .i64 l.base), .v (.int .i64 l.cyc), .slc j 2 0 n y.cap]
def rplA (l : GL) : List Alt := [.fam CL (fun y => CS l.len l y) (fun y => .one (.agg (rCpC 1 l.len l y))) (fun y => [roG l, rwS y])]
def rplRen (v : SV) : List Nat := match v with | .one (.agg [_, _, .slc i _ _ _ _]) => [0, i] | _ => [0]
theorem rapp_at {n : Nat} {f g p q s t : Nat → Int} {a b : Int} (h : ∀ r, r < n → f r = p r ∧ g r = q r) {r : Nat} (hr : r < n + 1) (ha : a = p n := by rfl) (hb : b = q n := by rfl) :
    (if r < n then f r else if r < n + 1 then [a].getD (r - n) 0 else s r) = p r ∧ (if r < n then g r else if r < n + 1 then [b].getD (r - n) 0 else t r) = q r := by
  rcases Nat.lt_or_ge r n with h9 | h9
  · rw [if_pos h9, if_pos h9]; exact h r h9
  · obtain rfl : r = n := by omega
    rw [if_neg (Nat.lt_irrefl r), if_pos hr, if_neg (Nat.lt_irrefl r), if_pos hr, Nat.sub_self]; exact ⟨ha, hb⟩
structure RPY where
  i : Nat
  y : CL
abbrev laRPl (l : GL) : LA where
  ι := Option RPY
  inv := fun o => match o with | none => True | some x => 1 ≤ x.i ∧ x.i ≤ l.len ∧ CS x.i l x.y
  T := fun o => match o with
    | none => ⟨26, [(1, .one (.a (.ptr 1 0))), (2, .one (.a (.ptr 2 0))), (3, .one (.a (.ptr 3 0))), (12, .one (.a (.slc 0 2 0 l.len l.cap))), (13, int_ .i64 l.len), (14, int_ .i64 0)], [roG l, some ⟨true, .flat (glCells 0 l)⟩, some ⟨true, .flat [.v (.int .i64 0), .v (.int .i64 0), .v (.slice none 0 0)]⟩, some ⟨true, .flat (rNilC l)⟩]⟩
    | some x => ⟨26, [(1, .one (.a (.ptr 1 0))), (2, .one (.a (.ptr 2 0))), (3, .one (.a (.ptr 3 0))), (12, .one (.a (.slc 0 2 0 l.len l.cap))), (13, int_ .i64 l.len), (14, int_ .i64 x.i)], [roG l, some ⟨true, .flat (glCells 0 l)⟩, some ⟨true, .flat [.v (.int .i64 0), .v (.int .i64 0), .v (.slice none 0 0)]⟩, some ⟨true, .flat (rCpC 4 x.i l x.y)⟩, rwS x.y]⟩
  μ := fun o => match o with | none => l.len + 1 | some x => l.len - x.i
  ren := fun S => match S.t.get 22 with | some v => [0, S.ix 1, S.ix 2, S.ix 3, v.ix] | none => [0, S.ix 1, S.ix 2, S.ix 3]
attribute [local irreducible] anyAlt
noncomputable def cxRPl (l : GL) : Cx Try.prog := { ps := [], es := [], is := [], n0 := 1, loops := fun i => match i with | 3 => some (.inv (laRPl l)) | _ => none, cuts := fun _ => none }
set_option maxHeartbeats 8000000 in
theorem rpl_runs (l : GL) (hp : obp (some (Gw l ∧ chk l = 0))) : Runs (cxRPl l) Try.f23 [G1 0 l] [roG l] fun v m => anyAlt [roG l] (rplRen v) v m (rplA l) := by
  obtain ⟨hw, hk⟩ : Gw l ∧ chk l = 0 := hp
  have ok := chk_ok hk
  obtain ⟨hl0, hl⟩ : 1 ≤ l.len ∧ l.len ≤ 64 := ⟨ok.n1, ok.n2⟩
  obtain ⟨hb, hc, h1, h2, h3, h4⟩ := hw.out
  unfold I64 at *
  repeat' (first | with_reducible exact trivial | with_reducible exact rfl | with_reducible exact Nat.le_refl _ | with_reducible exact (fun _ _ => rfl) | ((conv => whnf); first | ((refine fun (x : Option RPY) => ?_); rcases x with _ | x) | (refine fun _ => ?_) | refine ⟨?_, ?_⟩ | exact trivial | exact Nat.le_refl _ | exact lex_q (by kernel_rfl) | exact lex_t (by kernel_rfl) | exact lex_h (by kernel_rfl) | fail))
  any_goals first
    | (refine enter_mk (la := laRPl l) none ?_ (by (repeat' (first | ((conv => whnf); first | refine ⟨?_, ?_⟩ | exact trivial | fail) | (dsimp only; done) | ((try dsimp only); first | with_reducible exact rfl | exact Nat.le_refl _ | with_reducible exact (fun _ _ => rfl)))); first | ((all_goals ((try dsimp only [laRPl] at *); (all_goals (try simp (disch := omega) only [w64', wu64', tdiv_pos, tmod_pos, Int.toNat_natCast, Nat.zero_add] at *)); (all_goals (omega)))); done) | fail))
    | (refine enter_mk (la := laRPl l) (some ⟨x.i + 1, ⟨_, _, _⟩⟩) ?_ (by (repeat' (first | ((conv => whnf); first | refine ⟨?_, ?_⟩ | exact trivial | fail) | (dsimp only; done) | ((try dsimp only); first | with_reducible exact rfl | exact Nat.le_refl _ | with_reducible exact (fun _ _ => rfl)))); first | ((all_goals ((try dsimp only [laRPl] at *); (all_goals (try simp (disch := omega) only [w64', wu64', tdiv_pos, tmod_pos, Int.toNat_natCast, Nat.zero_add] at *)); (all_goals ((first | omega | (rw [w64' (by omega) (by omega)]; omega)))))); done) | fail))
    | (refine enter_mk (la := laRPl l) (some ⟨1, ⟨_, _, _⟩⟩) ?_ (by (repeat' (first | ((conv => whnf); first | refine ⟨?_, ?_⟩ | exact trivial | fail) | (dsimp only; done) | ((try dsimp only); first | with_reducible exact rfl | exact Nat.le_refl _ | with_reducible exact (fun _ _ => rfl)))); first | ((all_goals ((try dsimp only [laRPl] at *); (all_goals (try simp (disch := omega) only [w64', wu64', tdiv_pos, tmod_pos, Int.toNat_natCast, Nat.zero_add] at *)); (all_goals ((first | omega | rfl))))); done) | fail))
    | (refine id (alt_fam (α := CL) ⟨_, _, _⟩ ?_ (by (repeat' (first | with_reducible exact rfl | exact Nat.le_refl _ | with_reducible exact (fun _ _ => rfl) | ((conv => whnf); first | refine ⟨?_, ?_⟩ | exact trivial | fail))); first | ((all_goals ((try dsimp only [id] at *); (all_goals (try simp (disch := omega) only [w64', wu64', tdiv_pos, tmod_pos, Int.toNat_natCast, Nat.zero_add] at *)); (all_goals (omega)))); done) | fail)))
    | fail
  all_goals (try dsimp only [laRPl] at *)
  all_goals (try simp (disch := omega) only [fdiv_nn, Int.reduceToNat, IntKind.bits, Nat.min_def, Nat.reduceLeDiff, if_true, if_false, Int.reducePow, wu8, wu32, w64', wu64', tdiv_pos, tmod_pos, Int.toNat_natCast, Nat.zero_add] at *)
  all_goals (try omega)
  all_goals (try (have hx := (by assumption : 1 ≤ x.i ∧ _); obtain ⟨g1, g2, g3, g4, g5⟩ := hx))
  all_goals first
    | exact g3
    | exact g4
    | (refine ⟨trivial, by omega, by assumption, by assumption, fun r hr => ?_⟩
       obtain rfl : r = 0 := by omega
       exact ⟨rfl, rfl⟩)
    | (refine ⟨trivial, by omega, by assumption, by assumption, fun r hr => ?_⟩
       exact rapp_at g5 hr)
    | (rw [show l.len = x.i by omega]
       exact ⟨g3, g4, g5⟩)
noncomputable def rplS : ESpec Try.prog := newN fn23 (.s1 Lens.gl) cxRPl (fun l => some (Gw l ∧ chk l = 0)) rplA (fun _ v _ => rplRen v) (fun _ => rfl) (fun x a ha => by rw [List.mem_singleton.1 ha]; exact fun _ => rfl) rpl_runs
end

end Go.Proofs.Ytaadejgoafdbcaa
