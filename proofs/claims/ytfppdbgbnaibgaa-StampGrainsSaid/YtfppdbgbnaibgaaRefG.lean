/-
  Contracts of functions, and plain facts about them, that a claim of this seat uses.
-/
import Derived.Test.YtfppdbgbnaibgaaSx
import Derived.Test.YtfppdbgbnaibgaaWideNum
import Derived.Test.YtfppdbgbnaibgaaRefA
import Derived.Test.YtfppdbgbnaibgaaRefB
import Derived.Test.YtfppdbgbnaibgaaRefM
import Derived.Test.YtfppdbgbnaibgaaRefD
import Derived.Test.YtfppdbgbnaibgaaMulDiv
import Derived.Test.YtfppdbgbnaibgaaRefE
import Derived.Test.YtfppdbgbnaibgaaRefF
import Derived.Test.YtfppdbgbnaibgaaProg
namespace Go.Proofs.Ytfppdbgbnaibgaa
open Go.Sx
set_option linter.unusedVariables false
set_option linter.unusedSimpArgs false
set_option maxRecDepth 100000

/-! the reference's MulDiv. -/
theorem fn41' : FnOf Try.prog 41 Try.f41 := ⟨Try.func41, rfl, rfl, mixed⟩
attribute [local irreducible] enter anyAlt
noncomputable def cxRMD : Cx Try.prog := { ps := [intRefS], es := [absRefS, mulRefS, roundRefS], is := [], n0 := 0, loops := fun _ => none, cuts := fun _ => none }
/-- the digits' way gives what the program's way gives -/
theorem rd_same {a b c r : Int} (hr : 0 ≤ r ∧ r ≤ 2) (hc : 0 < absI c) : rdMore (absI a * absI b) (absI c) (mdM a b c) r = mdMore a b c r := by
  unfold rdMore mdMore mdR mdQ0
  by_cases h0 : absI a * absI b % absI c = 0
  · rw [if_pos h0, if_pos h0]
  · rw [if_neg h0, if_neg h0]
    by_cases h1 : r = 0
    · rw [if_pos h1, if_pos h1]
    · rw [if_neg h1, if_neg h1]
      by_cases h2 : r = 1
      · rw [if_pos h2, if_pos h2]
      · rw [if_neg h2, if_neg h2, decide_eq_decide]; omega
theorem rd_q {a b c r : Int} (hr : 0 ≤ r ∧ r ≤ 2) (hc : 0 < absI c) : rdQ (absI a * absI b) (absI c) (mdM a b c) r = mdQ a b c r := by
  unfold rdQ mdQ mdQ0; rw [rd_same hr hc]
theorem dv_small {n : Int} {y : DS} (h : DV n y) (hn : n < 340282366920938463463374607431768211456) : y.len ≤ 8 := by
  obtain ⟨_, _, _, _, h5, _⟩ := h
  rcases Nat.lt_or_ge 8 y.len with h8 | h8
  · have := h5 h8; omega
  · exact h8
theorem rmd_fin {a b c r : Int} {xa xb xc xp : DS} {y : DS × Bool} {m : Bool} (ha : DV (absI a) xa) (hb : DV (absI b) xb) (hc : DV (absI c) xc)
    (hp : DV (nv ⟨xa.len, xa.cap, xa.cap - 0, fun q => xa.g (q + 0)⟩ * nv ⟨xb.len, xb.cap, xb.cap - 0, fun q => xb.g (q + 0)⟩) xp)
    (hy : DV (rdQ (nv ⟨xp.len, xp.cap, xp.cap - 0, fun q => xp.g (q + 0)⟩) (nv ⟨xc.len, xc.cap, xc.cap - 0, fun q => xc.g (q + 0)⟩) m r) y.1 ∧ y.2 = rdM (nv ⟨xp.len, xp.cap, xp.cap - 0, fun q => xp.g (q + 0)⟩) (nv ⟨xc.len, xc.cap, xc.cap - 0, fun q => xc.g (q + 0)⟩) m r)
    (hr : 0 ≤ r ∧ r ≤ 2) (h0 : 0 < absI c) (hc0 : ¬ c = 0) (hm : m = mdM a b c) :
    ((!intB (nv ⟨y.1.len, y.1.cap, y.1.cap - 0, fun q => y.1.g (q + 0)⟩) y.2) = false → mdE a b c r = 0 ∧ mdX a b c r = intX (nv ⟨y.1.len, y.1.cap, y.1.cap - 0, fun q => y.1.g (q + 0)⟩) y.2) ∧
    ((!intB (nv ⟨y.1.len, y.1.cap, y.1.cap - 0, fun q => y.1.g (q + 0)⟩) y.2) = true → mdE a b c r = 10 ∧ mdX a b c r = 0) := by
  obtain ⟨hy1, hy2⟩ := hy
  have hy3 := hy1.2.2.1
  have hy4 := hy1.2.2.2.1
  rw [hp.2.2.1, ha.2.2.1, hb.2.2.1, hc.2.2.1, hm] at hy2
  rw [hp.2.2.1, ha.2.2.1, hb.2.2.1, hc.2.2.1, hm] at hy3
  rw [hp.2.2.1, ha.2.2.1, hb.2.2.1, hc.2.2.1, hm] at hy4
  rw [hy3]
  unfold rdM at hy2
  rw [rd_q hr h0] at hy2
  rw [rd_q hr h0] at hy4 ⊢
  unfold mdE mdX mdMost
  have r1 : ¬ (r < 0 ∨ 2 < r) := by omega
  rw [if_neg r1, if_neg hc0, hy2]
  generalize mdQ a b c r = q at *
  cases mdM a b c
  · simp only [Bool.false_and, Bool.false_eq_true, if_false, intB, intX, Bool.not_not, Bool.not_eq_false', Bool.not_eq_true', decide_eq_true_eq, decide_eq_false_iff_not]
    constructor <;> intro h
    · rw [if_neg h, if_neg (by omega), if_neg h]; exact ⟨rfl, rfl⟩
    · rw [if_pos h, if_pos (by omega)]; exact ⟨rfl, rfl⟩
  · simp only [Bool.true_and, if_true]
    by_cases hq : 0 < q
    · simp only [hq, decide_true, intB, intX, if_true, Bool.not_not, Bool.not_eq_false', Bool.not_eq_true', decide_eq_true_eq, decide_eq_false_iff_not]
      constructor <;> intro h
      · rw [if_neg h, if_neg (by omega), if_neg h]; exact ⟨rfl, rfl⟩
      · rw [if_pos h, if_pos (by omega)]; exact ⟨rfl, rfl⟩
    · simp only [hq, decide_false, intB, intX, Bool.false_eq_true, if_false, Bool.not_not, Bool.not_eq_false', Bool.not_eq_true', decide_eq_true_eq, decide_eq_false_iff_not]
      constructor <;> intro h
      · rw [if_neg (by omega), if_neg (by omega), if_neg h]; exact ⟨rfl, by omega⟩
      · omega
theorem rmd_small {a b : Int} {xa xb xp : DS} (ha : DV (absI a) xa) (hb : DV (absI b) xb)
    (hp : DV (nv ⟨xa.len, xa.cap, xa.cap - 0, fun q => xa.g (q + 0)⟩ * nv ⟨xb.len, xb.cap, xb.cap - 0, fun q => xb.g (q + 0)⟩) xp)
    (h : absI a * absI b ≤ 9223372036854775808 * 9223372036854775808) : xp.len ≤ 800 := by
  have := dv_small hp (by rw [ha.2.2.1, hb.2.2.1]; omega)
  omega
set_option maxHeartbeats 16000000 in
theorem rmd_runs (x : Int × Int × Int × Int) (hp : obp (some (I64 x.1 ∧ I64 x.2.1 ∧ I64 x.2.2.1 ∧ I64 x.2.2.2))) : Runs cxRMD Try.f41 [int_ .i64 x.1, int_ .i64 x.2.1, int_ .i64 x.2.2.1, int_ .i64 x.2.2.2] [] fun v _ => isRes (.tup [.a (.v (.int .i64 (mdX x.1 x.2.1 x.2.2.1 x.2.2.2))), .a (.v (.int .i64 (mdE x.1 x.2.1 x.2.2.1 x.2.2.2)))]) v := by
  obtain ⟨a, b, c, r⟩ := x
  obtain ⟨ha, hb, hc, hr⟩ := hp
  dsimp only at *
  have aa := absI_bd ha
  have ab := absI_bd hb
  have ac := absI_bd hc
  have pb2 : absI a * absI b ≤ 9223372036854775808 * 9223372036854775808 := Int.mul_le_mul aa.2.1 ab.2.1 ab.1 (by decide)
  unfold I64 at *
  have hdec : decide (0 ≤ a) = !decide (a < 0) := by by_cases h : a < 0 <;> simp [h] <;> omega
  repeat' (first | exact trivial | with_reducible exact rfl | exact Nat.le_refl _ | with_reducible exact (fun _ _ => rfl) | ((conv => whnf); first | (refine fun (x : DS) => ?_) | (refine fun (y : DS × Bool) => ?_) | (refine fun _ => ?_) | refine ⟨?_, ?_⟩ | exact trivial | exact lex_q (by kernel_rfl) | exact lex_t (by kernel_rfl) | exact lex_h (by kernel_rfl) | fail))
  all_goals (try dsimp only at *)
  all_goals (try omega)
  all_goals (try first
    | exact (by assumption : DV (absI a) _).2.1
    | exact (by assumption : DV (absI b) _).2.1
    | exact (by assumption : DV (absI c) _).2.1
    | exact (by assumption : DV (_ * _) _).2.1
    | exact (by assumption : DV _ y.1 ∧ _).1.2.1
    | (have := dv_small (by assumption : DV (absI a) _) (by omega)
       omega)
    | (have := dv_small (by assumption : DV (absI b) _) (by omega)
       omega)
    | (have := dv_small (by assumption : DV (absI c) _) (by omega)
       omega)
    | (have w := (by assumption : DV (absI c) _).2.2.1
       rw [w]; omega)
    | (unfold mdX; rw [if_pos (by omega)]; done)
    | (unfold mdE; rw [if_pos (by omega)]; done)
    | (unfold mdE; rw [if_neg (by omega), if_pos (by omega)]; done))
  all_goals first
    | exact rmd_small (a := a) (b := b) (by assumption) (by assumption) (by assumption) pb2
    | (have fin := rmd_fin (y := y) (a := a) (b := b) (c := c) (r := r) (by assumption) (by assumption) (by assumption) (by assumption) (by assumption) (by omega) (by omega) (by omega) (by unfold mdM; simp [*])
       first
       | (have hh := fin.1 (by assumption); exact hh.1)
       | (have hh := fin.1 (by assumption); exact hh.2)
       | exact (fin.2 (by assumption)).1
       | exact (fin.2 (by assumption)).2)
noncomputable def rmdS : PSpec Try.prog := readN fn41' (.s4 (.int .i64) (.int .i64) (.int .i64) (.int .i64)) (fun _ => cxRMD) (fun x => some (I64 x.1 ∧ I64 x.2.1 ∧ I64 x.2.2.1 ∧ I64 x.2.2.2)) (fun x => .tup [.a (.v (.int .i64 (mdX x.1 x.2.1 x.2.2.1 x.2.2.2))), .a (.v (.int .i64 (mdE x.1 x.2.1 x.2.2.1 x.2.2.2)))]) (fun _ => rfl) (fun _ => rfl) (fun _ => rfl) rmd_runs

end Go.Proofs.Ytfppdbgbnaibgaa
