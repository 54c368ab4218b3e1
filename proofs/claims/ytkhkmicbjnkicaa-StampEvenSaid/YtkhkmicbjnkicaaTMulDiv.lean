/-
  Contracts of functions, and plain facts about them, that a claim of this seat uses.
-/
import Derived.Test.YtkhkmicbjnkicaaSx
import Derived.Test.YtkhkmicbjnkicaaTWideNum
import Derived.Test.YtkhkmicbjnkicaaTRef
import Derived.Test.YtkhkmicbjnkicaaTWideU
import Derived.Test.YtkhkmicbjnkicaaTLen
import Derived.Test.YtkhkmicbjnkicaaTDiv64
import Derived.Test.YtkhkmicbjnkicaaTDivU
import Derived.Test.YtkhkmicbjnkicaaProg
namespace Go.Proofs.Ytkhkmicbjnkicaa
open Go.Sx
set_option linter.unusedVariables false
set_option linter.unusedSimpArgs false
set_option maxRecDepth 100000

/-! a times b by c, rounded. -/
theorem fn19 : FnOf Try.prog 19 Try.f19 := ⟨Try.func19, rfl, rfl, mixed⟩
theorem fn14 : FnOf Try.prog 14 Try.f14 := ⟨Try.func14, rfl, rfl, mixed⟩
def I64 (n : Int) : Prop := -9223372036854775808 ≤ n ∧ n ≤ 9223372036854775807
def absI (x : Int) : Int := if x < 0 then 0 - x else x
theorem abs_runs (x : Int) (hp : obp (some (I64 x))) : Runs C0 Try.f19 [int_ .i64 x] [] fun v _ => isRes (int_ .u64 (absI x)) v := by
  have hx : I64 x := hp
  unfold I64 at hx
  repeat' (first | with_reducible exact trivial | with_reducible exact rfl | with_reducible exact Nat.le_refl _ | with_reducible exact (fun _ _ => rfl) | ((conv => whnf); first | (refine fun _ => ?_) | refine ⟨?_, ?_⟩ | exact trivial | exact Nat.le_refl _ | exact lex_q (by kernel_rfl) | exact lex_t (by kernel_rfl) | exact lex_h (by kernel_rfl) | fail))
  all_goals (try dsimp only at *)
  all_goals unfold absI
  all_goals simp only [*, if_true, if_false, wu64]
  all_goals omega
noncomputable def absS : PSpec Try.prog := readN fn19 (.s1 (.int .i64)) (fun _ => C0) (fun x => some (I64 x)) (fun x => int_ .u64 (absI x)) (fun _ => rfl) (fun _ => rfl) (fun _ => rfl) abs_runs
theorem absI_bd {x : Int} (h : I64 x) : 0 ≤ absI x ∧ absI x ≤ 9223372036854775808 ∧ (absI x = 0 ↔ x = 0) := by
  unfold I64 absI at *; split <;> omega
/-- is the answer below nought? -/
def mdM (a b c : Int) : Bool := !((!(decide (a < 0) == decide (b < 0))) == decide (c < 0))
def mdQ0 (a b c : Int) : Int := absI a * absI b / absI c
def mdR (a b c : Int) : Int := absI a * absI b % absI c
def mdMore (a b c r : Int) : Bool :=
  if mdR a b c = 0 then false else if r = 0 then mdM a b c else if r = 1 then !mdM a b c else decide (absI c - mdR a b c < mdR a b c ∨ mdR a b c = absI c - mdR a b c ∧ mdQ0 a b c % 2 = 1)
def mdQ (a b c r : Int) : Int := if mdMore a b c r = true then mdQ0 a b c + 1 else mdQ0 a b c
def mdMost (a b c : Int) : Int := if mdM a b c = true then 9223372036854775808 else 9223372036854775807
def mdX (a b c r : Int) : Int := if r < 0 ∨ 2 < r ∨ c = 0 ∨ mdMost a b c < mdQ a b c r then 0 else if mdM a b c = true then 0 - mdQ a b c r else mdQ a b c r
def mdE (a b c r : Int) : Int := if r < 0 ∨ 2 < r then 1 else if c = 0 then 11 else if mdMost a b c < mdQ a b c r then 10 else 0
def b_ (b : Bool) : SV := .one (.a (.v (.bool b)))
abbrev laM1 (a b c r : Int) : LA where
  ι := Bool × Int × Int
  inv := fun x => x.1 = mdMore a b c r ∧ (0 ≤ x.2.1 ∧ x.2.1 < 18446744073709551616) ∧ (0 ≤ x.2.2 ∧ x.2.2 < 18446744073709551616) ∧ x.2.1 * 18446744073709551616 + x.2.2 = mdQ0 a b c
  T := fun x => ⟨106, [(14, b_ x.1), (13, b_ (mdM a b c)), (10, .one (.a (.ptr 0 0)))], [some ⟨true, .flat [.v (.int .u64 x.2.1), .v (.int .u64 x.2.2)]⟩]⟩
  μ := fun _ => 0
  ren := fun S => [S.ix 10]
abbrev laM2 (a b c r : Int) : LA where
  ι := Int × Int
  inv := fun x => (0 ≤ x.1 ∧ x.1 < 18446744073709551616) ∧ (0 ≤ x.2 ∧ x.2 < 18446744073709551616) ∧ x.1 * 18446744073709551616 + x.2 = mdQ a b c r
  T := fun x => ⟨106, [(13, b_ (mdM a b c)), (10, .one (.a (.ptr 0 0)))], [some ⟨true, .flat [.v (.int .u64 x.1), .v (.int .u64 x.2)]⟩]⟩
  μ := fun _ => 0
  ren := fun S => [S.ix 10]
noncomputable def cxMD (a b c r : Int) : Cx Try.prog := { ps := [absS, mulS, divuS, ofS, addS], es := [], is := [], n0 := 0, loops := fun _ => none, cuts := fun i => match i with | 15 => some (laM1 a b c r) | 19 => some (laM2 a b c r) | _ => none, held := fun i => match i with | 16 => some (false, .two 0 (.one 1 (.one 2 (.take 3 (.take 4 (.take 5 (.one 6 (.take 7 .done))))))) 1 (.one 0 (.one 2 (.take 3 (.take 4 (.take 5 (.one 6 (.take 7 .done)))))))) | _ => none }
attribute [local irreducible] enter
theorem add_one {h l : Int} (hh : 0 ≤ h) (hl : 0 ≤ l ∧ l < 18446744073709551616) (hv : h * 18446744073709551616 + l ≤ 170141183460469231731687303715884105728) : addC h l 0 1 = 0 ∧ addH h l 0 1 * 18446744073709551616 + low64 (l + 1 + 0) = h * 18446744073709551616 + l + 1 ∧ (0 ≤ addH h l 0 1 ∧ addH h l 0 1 < 18446744073709551616) ∧ 0 ≤ low64 (l + 1 + 0) ∧ low64 (l + 1 + 0) < 18446744073709551616 := by
  unfold addC addH carry low64; omega
theorem and_one_u64 (a : Int) (ha : 0 ≤ a ∧ a < 18446744073709551616) : bits .and .u64 a 1 = a % 2 := by
  have h1 : (BitVec.ofInt 64 a).toNat = a.toNat := by rw [BitVec.toNat_ofInt]; omega
  have h3 : (BitVec.ofInt 64 a &&& BitVec.ofInt 64 1).toNat = a.toNat % 2 := by
    rw [BitVec.toNat_and, h1, show (BitVec.ofInt 64 1).toNat = 1 from rfl, Nat.and_one_is_mod]
  show IntKind.u64.wrap ((BitVec.ofInt 64 a &&& BitVec.ofInt 64 1).toNat : Int) = _
  rw [h3, wu64' (by omega) (by omega)]; omega
theorem wi64 (n : Int) : IntKind.i64.wrap n = if 9223372036854775808 ≤ n % 18446744073709551616 then n % 18446744073709551616 - 18446744073709551616 else n % 18446744073709551616 := by simp [IntKind.wrap, IntKind.signed, IntKind.bits]
theorem back_neg {q : Int} (h : 0 ≤ q ∧ q ≤ 9223372036854775808) : 0 - q = IntKind.i64.wrap (IntKind.u64.wrap (0 - q)) := by
  rw [wu64, wi64]; split <;> omega
set_option maxHeartbeats 16000000 in
theorem muldiv_runs (x : Int × Int × Int × Int) (hp : obp (some (I64 x.1 ∧ I64 x.2.1 ∧ I64 x.2.2.1 ∧ I64 x.2.2.2))) : Runs (cxMD x.1 x.2.1 x.2.2.1 x.2.2.2) Try.f14 [int_ .i64 x.1, int_ .i64 x.2.1, int_ .i64 x.2.2.1, int_ .i64 x.2.2.2] [] fun v _ => isRes (.tup [.a (.v (.int .i64 (mdX x.1 x.2.1 x.2.2.1 x.2.2.2))), .a (.v (.int .i64 (mdE x.1 x.2.1 x.2.2.1 x.2.2.2)))]) v := by
  obtain ⟨a, b, c, r⟩ := x
  obtain ⟨ha, hb, hc, hr⟩ := hp
  dsimp only at *
  have aa := absI_bd ha
  have ab := absI_bd hb
  have ac := absI_bd hc
  have pb : 0 ≤ absI a * absI b := Int.mul_nonneg aa.1 ab.1
  have pb2 : absI a * absI b ≤ 9223372036854775808 * 9223372036854775808 := Int.mul_le_mul aa.2.1 ab.2.1 ab.1 (by decide)
  have du := du_facts ((absI a * absI b / 18446744073709551616, absI a * absI b % 18446744073709551616), absI c) ⟨⟨by show 0 ≤ _ / _; omega, by show _ / _ < _; omega⟩, ⟨by show 0 ≤ _ % _; omega, by show _ % _ < _; omega⟩, ⟨ac.1, by show absI c < _; omega⟩⟩
  have hv : val2 (absI a * absI b / 18446744073709551616, absI a * absI b % 18446744073709551616) = absI a * absI b := by unfold val2; dsimp only; omega
  rw [hv] at du
  unfold I64 U64 at *
  have hmM : mdM a b c = !((!(decide (a < 0) == decide (b < 0))) == decide (c < 0)) := rfl
  have mR : mdR a b c = absI a * absI b % absI c := rfl
  have mQ0 : mdQ0 a b c = absI a * absI b / absI c := rfl
  have hc0 : ((if absI c = 0 then (11 : Int) else 0) = 0) = (c ≠ 0) := by
    apply propext; split <;> omega
  have wk : IntKind.u64.wrap (9223372036854775807 + 1) = 9223372036854775808 := by decide
  have qle : mdQ0 a b c ≤ absI a * absI b := Int.ediv_le_self _ pb
  have q0 : 0 ≤ mdQ0 a b c := Int.ediv_nonneg pb ac.1
  repeat' (first | with_reducible exact trivial | with_reducible exact rfl | with_reducible exact Nat.le_refl _ | with_reducible exact (fun _ _ => rfl) | ((conv => whnf); first | (refine fun (x : Bool × Int × Int) => ?_) | (refine fun (y : Int × Int) => ?_) | (refine fun _ => ?_) | refine ⟨?_, ?_⟩ | exact trivial | exact Nat.le_refl _ | exact lex_q (by kernel_rfl) | exact lex_t (by kernel_rfl) | exact lex_h (by kernel_rfl) | fail))
  all_goals (try dsimp only at *)
  any_goals (refine enter_mk (la := laM1 a b c r) ⟨_, _, _⟩ ?_ (by (repeat' (first | with_reducible exact rfl | exact Nat.le_refl _ | with_reducible exact (fun _ _ => rfl) | ((conv => whnf); first | refine ⟨?_, ?_⟩ | exact trivial | fail))); first | ((all_goals ((try dsimp only [laM1] at *); (all_goals (try simp (disch := omega) only [w64', wu64', tdiv_pos, tmod_pos, Int.toNat_natCast, Nat.zero_add] at *)); (all_goals ((first | with_reducible rfl | omega))))); done) | fail))
  any_goals (refine enter_mk (la := laM2 a b c r) ⟨_, _⟩ ?_ (by (repeat' (first | with_reducible exact rfl | exact Nat.le_refl _ | with_reducible exact (fun _ _ => rfl) | ((conv => whnf); first | refine ⟨?_, ?_⟩ | exact trivial | fail))); first | ((all_goals ((try dsimp only [laM2] at *); (all_goals (try simp (disch := omega) only [w64', wu64', tdiv_pos, tmod_pos, Int.toNat_natCast, Nat.zero_add] at *)); (all_goals ((first | with_reducible rfl | omega))))); done) | fail))
  all_goals (try dsimp only [laM1, laM2] at *)
  all_goals
    generalize duH ((absI a * absI b / 18446744073709551616, absI a * absI b % 18446744073709551616), absI c) = hq at *
    generalize duL ((absI a * absI b / 18446744073709551616, absI a * absI b % 18446744073709551616), absI c) = lq at *
    generalize duR ((absI a * absI b / 18446744073709551616, absI a * absI b % 18446744073709551616), absI c) = rq at *
    rw [← mR, ← mQ0] at du
  all_goals (try simp only [hc0, wk, Decidable.not_not] at *)
  any_goals omega
  any_goals first
    | (unfold mdX; rw [if_pos (by omega)]; done)
    | (unfold mdE; rw [if_pos (by omega)]; done)
    | (unfold mdE; rw [if_neg (by omega), if_pos (by omega), if_pos (by omega)]; done)
    | (refine ⟨?_, du.1, du.2.1, (du.2.2.2 (by omega)).1⟩
       obtain ⟨u1, u2, u3⟩ := du.2.2.2 (by omega)
       unfold mdMore
       first
       | (rw [if_pos (by omega)]; done)
       | (rw [if_neg (by omega), if_pos (by omega)]; rfl)
       | (rw [if_neg (by omega), if_neg (by omega), if_pos (by omega)]; rfl)
       | (rw [wu64' (by omega) (by omega)] at *
          rw [if_neg (by omega), if_neg (by omega), if_neg (by omega)]
          first
          | (symm; apply decide_eq_true; omega)
          | (symm; apply decide_eq_false; omega)
          | (rw [and_one_u64 _ du.2.1, decide_eq_decide]; omega)))
  all_goals first
    | (have h1 := (‹x.1 = mdMore a b c r ∧ _›)
       obtain ⟨o1, o2, o3, o4⟩ := add_one (h := x.2.1) (l := x.2.2) (by omega) (by omega) (by omega)
       first
       | (simp only [if_pos o1] at *; done)
       | (simp only [if_pos o1] at *; omega)
       | (simp only [if_pos o1]
          have hm : mdMore a b c r = true := by rw [← h1.1]; assumption
          have hq : mdQ a b c r = mdQ0 a b c + 1 := by unfold mdQ; rw [if_pos hm]
          omega)
       | (have hm : mdMore a b c r = true := by rw [← h1.1]; assumption
          have hq : mdQ a b c r = mdQ0 a b c + 1 := by unfold mdQ; rw [if_pos hm]
          omega)
       | (have hm : mdMore a b c r = false := by rw [← h1.1]; assumption
          have hq : mdQ a b c r = mdQ0 a b c := by unfold mdQ; rw [hm]; rfl
          exact ⟨h1.2.1, h1.2.2.1, h1.2.2.2.trans hq.symm⟩))
    | (exfalso; have h1 : mdM a b c = true := by assumption
       have h2 : mdM a b c = false := by assumption
       rw [h1] at h2; cases h2)
    | (have hm : mdM a b c = true := by assumption
       simp only [mdE, mdX, mdMost, hm, if_true]
       first
       | (rw [if_pos (by omega)]; done)
       | (rw [if_neg (by omega), if_neg (by omega), if_pos (by omega)]; done)
       | (rw [if_neg (by omega), if_neg (by omega), if_neg (by omega)]; done)
       | (rw [if_neg (by omega), show mdQ a b c r = y.2 by omega]; exact back_neg (by omega)))
    | (have hm : mdM a b c = false := by assumption
       simp only [mdE, mdX, mdMost, hm, if_false, Bool.false_eq_true]
       first
       | (rw [if_pos (by omega)]; done)
       | (rw [if_neg (by omega), if_neg (by omega), if_pos (by omega)]; done)
       | (rw [if_neg (by omega), if_neg (by omega), if_neg (by omega)]; done)
       | (rw [if_neg (by omega), show mdQ a b c r = y.2 by omega, w64' (by omega) (by omega)]))
noncomputable def muldivS : PSpec Try.prog := readN fn14 (.s4 (.int .i64) (.int .i64) (.int .i64) (.int .i64)) (fun x => cxMD x.1 x.2.1 x.2.2.1 x.2.2.2) (fun x => some (I64 x.1 ∧ I64 x.2.1 ∧ I64 x.2.2.1 ∧ I64 x.2.2.2)) (fun x => .tup [.a (.v (.int .i64 (mdX x.1 x.2.1 x.2.2.1 x.2.2.2))), .a (.v (.int .i64 (mdE x.1 x.2.1 x.2.2.1 x.2.2.2)))]) (fun _ => rfl) (fun _ => rfl) (fun _ => rfl) muldiv_runs

end Go.Proofs.Ytkhkmicbjnkicaa
