/-
  Contracts of functions, and plain facts about them, that a claim of this seat uses.
-/
import Derived.Test.YtdphgjnflaahbaaSx
import Derived.Test.YtdphgjnflaahbaaMWideNum
import Derived.Test.YtdphgjnflaahbaaMRefA
import Derived.Test.YtdphgjnflaahbaaMRefB
import Derived.Test.YtdphgjnflaahbaaMRefM
import Derived.Test.YtdphgjnflaahbaaMRefD
import Derived.Test.YtdphgjnflaahbaaMMulDiv
import Derived.Test.YtdphgjnflaahbaaProg
namespace Go.Proofs.Ytdphgjnflaahbaa
open Go.Sx
set_option linter.unusedVariables false
set_option linter.unusedSimpArgs false
set_option maxRecDepth 100000

/-! the reference's Abs, Int, Round, MulDiv. -/
theorem fn21 : FnOf Try.prog 21 Try.f21 := ⟨Try.func21, rfl, rfl, mixed⟩
theorem fn27 : FnOf Try.prog 27 Try.f27 := ⟨Try.func27, rfl, rfl, mixed⟩
attribute [local irreducible] enter anyAlt
noncomputable def cxAbs : Cx Try.prog := { ps := [], es := [ofRefS, addRefS], is := [], n0 := 0, loops := fun _ => none, cuts := fun _ => none }
set_option maxHeartbeats 8000000 in
theorem abs_ref_runs (n : Int) (hp : obp (some (I64 n))) : Runs cxAbs Try.f21 [int_ .i64 n] [] fun v m => anyAlt [] [v.ix] v m (newD 0 [] (absI n)) := by
  have hn : I64 n := hp
  unfold I64 at hn
  have hneg : n < 0 → absI n = 0 - (n + 1) + 1 := fun h => by unfold absI; rw [if_pos h]; omega
  have hpos : ¬ n < 0 → absI n = n := fun h => if_neg h
  repeat' (first | with_reducible exact trivial | with_reducible exact rfl | with_reducible exact Nat.le_refl _ | with_reducible exact (fun _ _ => rfl) | ((conv => whnf); first | (refine fun (x : DS) => ?_) | (refine fun _ => ?_) | refine ⟨?_, ?_⟩ | exact trivial | exact Nat.le_refl _ | exact lex_q (by kernel_rfl) | exact lex_t (by kernel_rfl) | exact lex_h (by kernel_rfl) | fail))
  any_goals (refine alt_fam (α := DS) ⟨_, _, _⟩ ?_ (by (repeat' (first | with_reducible exact rfl | exact Nat.le_refl _ | with_reducible exact (fun _ _ => rfl) | ((conv => whnf); first | refine ⟨?_, ?_⟩ | exact trivial | fail))); first | ((all_goals ((try dsimp only [id] at *); (all_goals (try simp (disch := omega) only [w64', wu64', tdiv_pos, tmod_pos, Int.toNat_natCast, Nat.zero_add] at *)); (all_goals ((try omega))))); done) | fail))
  all_goals (try dsimp only [cutR, cutL, id] at *)
  all_goals (try simp (disch := omega) only [w64', wu64', tdiv_pos, tmod_pos, Int.toNat_natCast, Nat.zero_add] at *)
  all_goals (try omega)
  · exact (by assumption : DV _ _).2.1
  · exact one_wf
  · exact dv_len (k := 8) (by assumption : DV _ _) (by omega) (by have : B 8 = 340282366920938463463374607431768211456 := by decide
                                                                  omega)
  · rename_i y h1 h2
    rw [h1.2.2.1, one_nv] at h2
    rw [hneg (by omega)]; exact h2
  · rename_i h1
    rw [hpos (by omega)]; exact h1
noncomputable def absRefS : ESpec Try.prog := newN fn21 (.s1 (.int .i64)) (fun _ => cxAbs) (fun x => some (I64 x)) (fun x => newD 0 [] (absI x)) (fun _ v _ => [v.ix]) (fun _ => rfl) (fun x a ha => by rw [List.mem_singleton.1 ha]; exact fun _ => rfl) abs_ref_runs
theorem cmpI3_gt (x y : Int) : (0 < cmpI3 x y) = (y < x) := by
  apply propext; unfold cmpI3; repeat' split
  all_goals omega
def intX (s : Int) (m : Bool) : Int := if m = true then (if 9223372036854775808 < s then 0 else 0 - s) else (if 9223372036854775807 < s then 0 else s)
def intB (s : Int) (m : Bool) : Bool := if m = true then !decide (9223372036854775808 < s) else !decide (9223372036854775807 < s)
abbrev laInt (a : IS) (m : Bool) : LA where
  ι := Int × Int
  inv := fun x => (-1 ≤ x.1 ∧ x.1 < a.len) ∧ (0 ≤ x.2 ∧ x.2 ≤ nv a) ∧ nv a ≤ 9223372036854775808 ∧ (m = false → nv a ≤ 9223372036854775807) ∧ nv a = x.2 * B (x.1 + 1).toNat + pv a.g (x.1 + 1).toNat
  T := fun x => ⟨38, [(0, D1 0 a), (1, b_ m), (6, int_ .u64 x.2), (7, int_ .i64 x.1)], [roI a]⟩
  μ := fun x => (x.1 + 1).toNat
  ren := fun _ => [0]
noncomputable def cxInt (a : IS) (m : Bool) : Cx Try.prog := { ps := [cmpRefS], es := [absRefS], is := [], n0 := 1, loops := fun i => match i with | 8 => some (.inv (laInt a m)) | _ => none, cuts := fun _ => none }
theorem int_step {a : IS} {i x : Int} (hw : Wf a) (hi : 0 ≤ i ∧ i < a.len) (hx : 0 ≤ x) (e : nv a = x * B (i + 1).toNat + pv a.g (i + 1).toNat) :
    nv a = (x * 65536 + a.g i.toNat) * B i.toNat + pv a.g i.toNat ∧ x * 65536 + a.g i.toNat ≤ nv a := by
  have ai := hw.dig i.toNat (by omega)
  have e2 : nv a = (x * 65536 + a.g i.toNat) * B i.toNat + pv a.g i.toNat := by
    rw [e, show (i + 1).toNat = i.toNat + 1 by omega, B_succ, Int.add_mul, Int.mul_assoc]
    simp only [pv]; omega
  have h1 := (pv_bd (g := a.g) (n := i.toNat) fun r hr => hw.dig r (by omega)).1
  have h2 := B_pos i.toNat
  have h3 : (x * 65536 + a.g i.toNat) * 1 ≤ (x * 65536 + a.g i.toNat) * B i.toNat := Int.mul_le_mul_of_nonneg_left (by omega) (by omega)
  exact ⟨e2, by omega⟩
set_option maxHeartbeats 8000000 in
theorem int_ref_runs (a : IS) (m : Bool) (hp : obp (some (Wf a))) : Runs (cxInt a m) Try.f27 [D1 0 a, b_ m] [roI a] fun v _ => isRes (.tup [.a (.v (.int .i64 (intX (nv a) m))), .a (.v (.bool (intB (nv a) m)))]) v := by
  have ha : Wf a := hp
  have a1 := ha.n
  have a2 := ha.small
  have a0 := ha.nonneg
  have k1 : absI (-9223372036854775808) = 9223372036854775808 := by decide
  have k2 : absI 9223372036854775807 = 9223372036854775807 := by decide
  have hX : ∀ s m, intX s m = if m = true then (if 9223372036854775808 < s then 0 else 0 - s) else (if 9223372036854775807 < s then 0 else s) := fun _ _ => rfl
  repeat' (first | with_reducible exact trivial | with_reducible exact rfl | with_reducible exact Nat.le_refl _ | with_reducible exact (fun _ _ => rfl) | ((conv => whnf); first | (refine fun (x : Int × Int) => ?_) | (refine fun (y : DS) => ?_) | (refine fun _ => ?_) | refine ⟨?_, ?_⟩ | exact trivial | exact Nat.le_refl _ | exact lex_q (by kernel_rfl) | exact lex_t (by kernel_rfl) | exact lex_h (by kernel_rfl) | fail))
  any_goals (refine enter_mk (la := laInt a m) ⟨_, _⟩ ?_ (by (repeat' (first | with_reducible exact rfl | exact Nat.le_refl _ | with_reducible exact (fun _ _ => rfl) | ((conv => whnf); first | refine ⟨?_, ?_⟩ | exact trivial | fail))); first | ((all_goals ((try dsimp only [laInt] at *); (all_goals (try simp (disch := omega) only [w64', wu64', tdiv_pos, tmod_pos, Int.toNat_natCast, Nat.zero_add] at *)); (all_goals ((try omega))))); done) | fail))
  all_goals (try dsimp only [laInt, cutR, cutL, id] at *)
  all_goals (try omega)
  all_goals
    have na : nv ⟨a.len, a.cap, a.N - 0, fun q => a.g (q + 0)⟩ = nv a := rfl
    have w := (by assumption : DV (absI _) y).2.2.1
    have wf := (by assumption : DV (absI _) y).2.1
    try simp only [cmpI3_gt, w, na, k1, k2] at *
    try subst_vars
    first
    | contradiction
    | exact wf
    | (show (if (9223372036854775808 : Int) < nv a then (0 : Int) else 0 - nv a) = _
       rw [if_pos (by assumption)])
    | (show (if (9223372036854775807 : Int) < nv a then (0 : Int) else nv a) = _
       rw [if_pos (by assumption)])
    | (show (!decide ((9223372036854775808 : Int) < nv a)) = _
       first | (rw [decide_eq_true (by omega)]; rfl) | (rw [decide_eq_false (by omega)]; rfl))
    | (show (!decide ((9223372036854775807 : Int) < nv a)) = _
       first | (rw [decide_eq_true (by omega)]; rfl) | (rw [decide_eq_false (by omega)]; rfl))
    | (rw [w64' (by omega) (by omega), show ((a.len : Int) - 1 + 1).toNat = a.len by omega]
       refine ⟨⟨by omega, by omega⟩, ⟨by omega, by omega⟩, by omega, fun h => by first | contradiction | omega, ?_⟩
       show nv a = 0 * _ + nv a
       omega)
    | (obtain ⟨⟨i1, i2⟩, ⟨i3, i4⟩, i5, i6, i7⟩ := ‹(laInt a _).inv x›
       try dsimp only at *
       have hx := ‹0 ≤ x.1›
       obtain ⟨s1, s2⟩ := int_step ha ⟨hx, i2⟩ i3 i7
       have ai := ha.dig x.1.toNat (by omega)
       rw [Nat.zero_add, w64' (by omega) (by omega), wu64' (n := a.g x.1.toNat) (by omega) (by omega), wu64' (n := x.2 * 65536) (by omega) (by omega), wu64' (by omega) (by omega), show (x.1 - 1 + 1).toNat = x.1.toNat by omega]
       exact ⟨⟨by omega, by omega⟩, ⟨by omega, by omega⟩, i5, i6, s1⟩)
    | (obtain ⟨⟨i1, i2⟩, ⟨i3, i4⟩, i5, i6, i7⟩ := ‹(laInt a _).inv x›
       try dsimp only at *
       rw [show (x.1 + 1).toNat = 0 by omega] at i7
       have e : nv a = x.2 := by rw [i7]; simp [B_zero, pv]
       first
       | (show (if (9223372036854775808 : Int) < nv a then (0 : Int) else 0 - nv a) = _
          rw [if_neg (by omega), e]; exact back_neg (by omega))
       | (show (if (9223372036854775807 : Int) < nv a then (0 : Int) else nv a) = _
          rw [if_neg (by omega), e, w64' (by omega) (by omega)]))
noncomputable def intRefS : PSpec Try.prog := readN fn27 (.s2 dS .bool) (fun x => cxInt x.1 x.2) (fun x => some (Wf x.1)) (fun x => .tup [.a (.v (.int .i64 (intX (nv x.1) x.2))), .a (.v (.bool (intB (nv x.1) x.2)))]) (fun _ => rfl) (fun _ => rfl) (fun _ => rfl) (fun x => int_ref_runs x.1 x.2)

end Go.Proofs.Ytdphgjnflaahbaa
