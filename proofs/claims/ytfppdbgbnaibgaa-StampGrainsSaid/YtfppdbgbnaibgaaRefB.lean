/-
  Contracts of functions, and plain facts about them, that a claim of this seat uses.
-/
import Derived.Test.YtfppdbgbnaibgaaSx
import Derived.Test.YtfppdbgbnaibgaaWideNum
import Derived.Test.YtfppdbgbnaibgaaRefA
import Derived.Test.YtfppdbgbnaibgaaProg
namespace Go.Proofs.Ytfppdbgbnaibgaa
open Go.Sx
set_option linter.unusedVariables false
set_option linter.unusedSimpArgs false
set_option maxRecDepth 100000

theorem fn24 : FnOf Try.prog 24 Try.f24 := ⟨Try.func24, rfl, rfl, mixed⟩
theorem fn20 : FnOf Try.prog 20 Try.f20 := ⟨Try.func20, rfl, rfl, mixed⟩
def U64 (n : Int) : Prop := 0 ≤ n ∧ n < 18446744073709551616
theorem pv_join {g g' h : Nat → Int} {i : Nat} (h1 : ∀ r, r < i → h r = g r) : ∀ {k : Nat}, (∀ r, r < k → h (i + r) = g' r) → pv h (i + k) = pv g i + B i * pv g' k
  | 0, _ => by simp only [Nat.add_zero, pv, Int.mul_zero, Int.add_zero]; exact pv_congr h1
  | k + 1, h2 => by
    rw [← Nat.add_assoc]
    simp only [pv]
    rw [pv_join h1 fun r hr => h2 r (by omega), h2 k (by omega), Int.mul_add, show B (i + k) = B i * B k from Int.pow_add .., Int.mul_left_comm]
    omega
theorem pv_joinF {g g' : Nat → Int} {i k : Nat} {t : Tail} : pv (fun r => if r < i then g r else if r < i + k then g' (r - i) else t.i 0 r) (i + k) = pv g i + B i * pv g' k :=
  pv_join (fun r hr => if_pos hr) fun r hr => by
    show (if i + r < i then g (i + r) else if i + r < i + k then g' (i + r - i) else t.i 0 (i + r)) = g' r
    rw [if_neg (by omega), if_pos (by omega), Nat.add_sub_cancel_left]
theorem dig_joinF {g g' : Nat → Int} {i k : Nat} {t : Tail} (h1 : Dig g i) (h2 : Dig g' k) : Dig (fun r => if r < i then g r else if r < i + k then g' (r - i) else t.i 0 r) (i + k) := fun r hr => by
  by_cases h : r < i
  · simp only [if_pos h]; exact h1 r h
  · simp only [if_neg h, if_pos hr]; exact h2 _ (by omega)
abbrev laPair (h n : Int) : LA where
  ι := Nat × Nat × (Nat → Int) × Int
  inv := fun x => 0 ≤ x.2.2.2 ∧ x.2.2.2 < 18446744073709551616 ∧ pv x.2.2.1 x.1 + x.2.2.2 * B x.1 = n ∧ Dig x.2.2.1 x.1 ∧ x.1 ≤ x.2.1 ∧ x.2.1 ≤ 9223372036854775807 ∧ x.1 ≤ 4
  T := fun x => ⟨25, [(5, .one (.a (.slc 0 1 0 x.1 x.2.1))), (6, int_ .i64 x.1), (1, int_ .u64 x.2.2.2), (0, int_ .u64 h)], [rwI x.2.1 x.2.2.1]⟩
  μ := fun x => 4 - x.1
  ren := fun S => [S.ix 5]
noncomputable def cxPair (h n : Int) : Cx Try.prog := { ps := [trimS], es := [ofRefS], is := [], n0 := 0, loops := fun i => match i with | 3 => some (.inv (laPair h n)) | _ => none, cuts := fun _ => none }
attribute [local irreducible] enter anyAlt
theorem pair_ref_runs (h n : Int) (hp : obp (some (U64 h ∧ U64 n))) : Runs (cxPair h n) Try.f24 [int_ .u64 h, int_ .u64 n] [] fun v m => anyAlt [] [v.ix] v m (newD 0 [] (h * 18446744073709551616 + n)) := by
  obtain ⟨⟨h1, h2⟩, h3, h4⟩ := hp
  repeat' (first | exact trivial | with_reducible exact rfl | exact Nat.le_refl _ | with_reducible exact (fun _ _ => rfl) | ((conv => whnf); first | (refine fun (x : Nat × Nat × (Nat → Int) × Int) => ?_) | (refine fun (y : DS) => ?_) | (refine fun _ => ?_) | refine ⟨?_, ?_⟩ | exact trivial | exact lex_q (by kernel_rfl) | exact lex_t (by kernel_rfl) | exact lex_h (by kernel_rfl) | fail))
  any_goals (refine enter_mk (la := laPair h n) ⟨_, _, _, _⟩ ?_ (by (repeat' (first | with_reducible exact rfl | exact Nat.le_refl _ | with_reducible exact (fun _ _ => rfl) | ((conv => whnf); first | refine ⟨?_, ?_⟩ | exact trivial | fail))); all_goals ((try dsimp only [laPair] at *); (try simp (disch := omega) only [w64', wu64', tdiv_pos, tmod_pos, Int.toNat_natCast, Nat.zero_add] at *); omega)))
  any_goals (refine alt_fam (α := DS) ⟨_, _, _⟩ ?_ (by (repeat' (first | with_reducible exact rfl | exact Nat.le_refl _ | with_reducible exact (fun _ _ => rfl) | ((conv => whnf); first | refine ⟨?_, ?_⟩ | exact trivial | fail))); all_goals ((try dsimp only [laPair] at *); (try simp (disch := omega) only [w64', wu64', tdiv_pos, tmod_pos, Int.toNat_natCast, Nat.zero_add] at *); omega)))
  all_goals (try dsimp only [laPair, cutR, cutL, id, DV, DVal] at *)
  all_goals (try simp (disch := omega) only [w64', wu64', tdiv_pos, tmod_pos, Int.toNat_natCast, Nat.zero_add] at *)
  all_goals (try omega)
  · exact ⟨by omega, by omega, by simp [pv, B_zero], fun r hr => by omega, by omega, by omega, by omega⟩
  · obtain ⟨i1, i2, i3, i4, i5, i6, i7⟩ := ‹(laPair h n).inv x›
    refine ⟨by omega, by omega, ?_, dig_push i4 (by omega), by omega, by omega, by omega⟩
    rw [pv_push, B_succ, Int.add_assoc, carry_step]; exact i3
  · obtain ⟨i1, i2, i3, i4, i5, i6, i7⟩ := ‹(laPair h n).inv x›
    have hy : DVal h y := (‹DV h y›).1
    have hb : B 4 = 18446744073709551616 := by decide
    have hl := hy.len_le (k := 4) (by omega)
    obtain ⟨j1, j2, j3, j4, j5, j6⟩ := hy
    have h0 : x.1 = 4 := by omega
    have hlo : x.2.2.2 = 0 := by
      rcases Int.lt_or_le 0 x.2.2.2 with hc | hc
      · have := small_len i4 hc i3 (k := 4) (by have : B 4 = 18446744073709551616 := by decide
                                                omega)
        omega
      · omega
    refine (trim_val (dig_joinF i4 j4) (by omega) (by omega) (by omega) ?_).full
    refine (pv_joinF (g := x.2.2.1) (g' := y.g)).trans ?_
    rw [j6, h0, hb]
    rw [h0, hlo] at i3
    omega
noncomputable def pairRefS : ESpec Try.prog := newN fn24 (.s2 (.int .u64) (.int .u64)) (fun x => cxPair x.1 x.2) (fun x => some (U64 x.1 ∧ U64 x.2)) (fun x => newD 0 [] (x.1 * 18446744073709551616 + x.2)) (fun _ v _ => [v.ix]) (fun _ => rfl) (fun x a ha => by rw [List.mem_singleton.1 ha]; exact fun _ => rfl) (fun x => pair_ref_runs x.1 x.2)

/-! ### a program's number and a reference's -/
noncomputable def cxSame : Cx Try.prog := { ps := [cmpRefS], es := [pairRefS], is := [], n0 := 1, loops := fun _ => none, cuts := fun _ => none }
def val2 (x : Int × Int) : Int := x.1 * 18446744073709551616 + x.2
theorem cmpI3_eq (x y : Int) : cmpI3 x y = 0 ↔ x = y := by
  unfold cmpI3; repeat' split
  all_goals omega
theorem same_runs (x : (Int × Int) × IS) (hp : obp (some (U64 x.1.1 ∧ U64 x.1.2 ∧ Wf x.2))) : Runs cxSame Try.f20 [.one (.agg [.v (.int .u64 x.1.1), .v (.int .u64 x.1.2)]), D1 0 x.2] [roI x.2] fun v _ => isRes (.one (.a (.v (.bool (decide (val2 x.1 = nv x.2)))))) v := by
  obtain ⟨⟨h, l⟩, s⟩ := x
  obtain ⟨hh, hl, hs⟩ := hp
  repeat' (first | exact trivial | with_reducible exact rfl | exact Nat.le_refl _ | with_reducible exact (fun _ _ => rfl) | ((conv => whnf); first | (refine fun (x : DS) => ?_) | (refine fun _ => ?_) | refine ⟨?_, ?_⟩ | exact trivial | exact lex_q (by kernel_rfl) | exact lex_t (by kernel_rfl) | exact lex_h (by kernel_rfl) | fail))
  · exact hh.1
  · exact hh.2
  · exact hl.1
  · exact hl.2
  · rename_i hx
    exact hx.2.1
  · exact hs
  · rename_i hx
    show decide (val2 (h, l) = nv s) = decide (cmpI3 (nv ⟨x.len, x.cap, x.cap, x.g⟩) (nv s) = 0)
    rw [decide_eq_decide, cmpI3_eq, show nv ⟨x.len, x.cap, x.cap, x.g⟩ = _ from hx.2.2.1]
    exact Iff.rfl
noncomputable def sameS : PSpec Try.prog := readN fn20 (.s2 (.two .u64 .u64) dS) (fun _ => cxSame) (fun x => some (U64 x.1.1 ∧ U64 x.1.2 ∧ Wf x.2)) (fun x => .one (.a (.v (.bool (decide (val2 x.1 = nv x.2)))))) (fun _ => rfl) (fun _ => rfl) (fun _ => rfl) same_runs

end Go.Proofs.Ytfppdbgbnaibgaa
