/-
  Contracts of functions, and plain facts about them, that a claim of this seat uses.
-/
import Derived.Test.YtiaadplhpkggeaaSx
import Derived.Test.YtiaadplhpkggeaaFcsNum
import Derived.Test.YtiaadplhpkggeaaFcsBits
import Derived.Test.YtiaadplhpkggeaaProg
namespace Go.Proofs.Ytiaadplhpkggeaa
open Go.Sx
set_option linter.unusedVariables false
set_option linter.unusedSimpArgs false
set_option maxRecDepth 100000

/-! the check: step, Sum, and the reference's Sum. -/
theorem mixed : Try.prog.follows .mixedOrders = true := by kernel_rfl
theorem fn37 : FnOf Try.prog 37 Try.f37 := ⟨Try.func37, rfl, rfl, mixed⟩
theorem fn20 : FnOf Try.prog 20 Try.f20 := ⟨Try.func20, rfl, rfl, mixed⟩
theorem fn21 : FnOf Try.prog 21 Try.f21 := ⟨Try.func21, rfl, rfl, mixed⟩
def C0 : Cx Try.prog := { ps := [], es := [], is := [], n0 := 0, loops := fun _ => none, cuts := fun _ => none }
theorem nat_ofInt {w : Nat} {a : Int} (ha : 0 ≤ a) (hb : a < 2 ^ w) : (BitVec.ofInt w a).toNat = a.toNat := by
  rw [BitVec.toNat_ofInt]
  have : ((2 ^ w : Nat) : Int) = 2 ^ w := by simp
  rw [this, Int.emod_eq_of_lt ha hb]
theorem xor32 {a b : Int} (ha : 0 ≤ a ∧ a < 4294967296) (hb : 0 ≤ b ∧ b < 4294967296) : bits .xor .u32 a b = ((a.toNat ^^^ b.toNat : Nat) : Int) := by
  have h3 : (BitVec.ofInt 32 a ^^^ BitVec.ofInt 32 b).toNat = a.toNat ^^^ b.toNat := by rw [BitVec.toNat_xor, nat_ofInt ha.1 ha.2, nat_ofInt hb.1 hb.2]
  have h4 : a.toNat ^^^ b.toNat < 2 ^ 32 := Nat.xor_lt_two_pow (by show _ < 4294967296; omega) (by show _ < 4294967296; omega)
  show IntKind.u32.wrap ((BitVec.ofInt 32 a ^^^ BitVec.ofInt 32 b).toNat : Int) = _
  rw [h3, wu32]; omega
theorem xor64 {a b : Int} (ha : 0 ≤ a ∧ a < 18446744073709551616) (hb : 0 ≤ b ∧ b < 18446744073709551616) : bits .xor .u64 a b = ((a.toNat ^^^ b.toNat : Nat) : Int) := by
  have h3 : (BitVec.ofInt 64 a ^^^ BitVec.ofInt 64 b).toNat = a.toNat ^^^ b.toNat := by rw [BitVec.toNat_xor, nat_ofInt ha.1 ha.2, nat_ofInt hb.1 hb.2]
  have h4 : a.toNat ^^^ b.toNat < 2 ^ 64 := Nat.xor_lt_two_pow (by show _ < 18446744073709551616; omega) (by show _ < 18446744073709551616; omega)
  show IntKind.u64.wrap ((BitVec.ofInt 64 a ^^^ BitVec.ofInt 64 b).toNat : Int) = _
  rw [h3, wu64]; omega
theorem and32_1 {a : Int} (ha : 0 ≤ a ∧ a < 4294967296) : bits .and .u32 a 1 = a % 2 := by
  have h3 : (BitVec.ofInt 32 a &&& BitVec.ofInt 32 1).toNat = a.toNat % 2 := by
    rw [BitVec.toNat_and, nat_ofInt ha.1 ha.2, show (BitVec.ofInt 32 1).toNat = 1 from rfl, Nat.and_one_is_mod]
  show IntKind.u32.wrap ((BitVec.ofInt 32 a &&& BitVec.ofInt 32 1).toNat : Int) = _
  rw [h3, wu32]; omega
theorem crT_odd {x : Nat} (h : x % 2 = 1) : crT x = x / 2 ^^^ 3988292384 := by unfold crT; rw [h]
theorem crT_even {x : Nat} (h : x % 2 = 0) : crT x = x / 2 := by unfold crT; rw [h, Nat.zero_mul, Nat.xor_zero]
abbrev laStep (x : Int) : LA where
  ι := Int × Int
  inv := fun y => (0 ≤ y.2 ∧ y.2 ≤ 8) ∧ (0 ≤ y.1 ∧ y.1 < 4294967296) ∧ y.1.toNat = crTn y.2.toNat x.toNat
  T := fun y => ⟨15, [(0, int_ .u32 y.1), (3, int_ .i64 y.2)], []⟩
  μ := fun y => (8 - y.2).toNat
  ren := fun _ => []
noncomputable def cxStep (x : Int) : Cx Try.prog := { ps := [], es := [], is := [], n0 := 0, loops := fun i => match i with | 2 => some (.inv (laStep x)) | _ => none, cuts := fun _ => none }
attribute [local irreducible] enter anyAlt
def U32 (n : Int) : Prop := 0 ≤ n ∧ n < 4294967296
theorem step_runs (n : Int) (hp : obp (some (U32 n))) : Runs (cxStep n) Try.f37 [int_ .u32 n] [] fun v _ => isRes (int_ .u32 (crTn 8 n.toNat : Nat)) v := by
  have hx : 0 ≤ n ∧ n < 4294967296 := hp
  repeat' (first | with_reducible exact trivial | with_reducible exact rfl | with_reducible exact Nat.le_refl _ | with_reducible exact (fun _ _ => rfl) | ((conv => whnf); first | (refine fun (x : Int × Int) => ?_) | (refine fun _ => ?_) | refine ⟨?_, ?_⟩ | exact trivial | exact Nat.le_refl _ | exact lex_q (by kernel_rfl) | exact lex_t (by kernel_rfl) | exact lex_h (by kernel_rfl) | fail))
  any_goals (refine enter_mk (la := laStep n) (_, _) ?_ (by (repeat' (first | with_reducible exact rfl | exact Nat.le_refl _ | with_reducible exact (fun _ _ => rfl) | ((conv => whnf); first | refine ⟨?_, ?_⟩ | exact trivial | fail))); first | ((all_goals ((try dsimp only [laStep] at *); (all_goals (try simp (disch := omega) only [w64', wu64', tdiv_pos, tmod_pos, Int.toNat_natCast, Nat.zero_add] at *)); (all_goals ((try omega))))); done) | fail))
  all_goals (try dsimp only [laStep] at *)
  all_goals (try simp (disch := omega) only [fdiv_nn, Int.reduceToNat, IntKind.bits, Nat.min_def, Nat.reduceLeDiff, if_true, if_false, Int.reducePow, wu8, wu32, w64', wu64', tdiv_pos, tmod_pos, Int.toNat_natCast, Nat.zero_add] at *)
  · exact ⟨by omega, hx, rfl⟩
  · rename_i h1 h2 h3
    obtain ⟨h4, h5, h6⟩ := h1
    rw [and32_1 h5] at h3
    rw [xor32 (by omega) (by omega)]
    have h7 : (x.1 / 2).toNat ^^^ (3988292384 : Int).toNat = crT x.1.toNat := by
      rw [crT_odd (by omega), show (x.1 / 2).toNat = x.1.toNat / 2 by omega]; rfl
    have h8 := crT_lt (x := x.1.toNat) (by omega)
    rw [h7, show (x.2 + 1).toNat = x.2.toNat + 1 by omega]
    refine ⟨by omega, by omega, ?_⟩
    rw [Int.toNat_natCast, h6]; rfl
  · rename_i h1 h2 h3
    obtain ⟨h4, h5, h6⟩ := h1
    rw [and32_1 h5] at h3
    have h7 : (x.1 / 2).toNat = crT x.1.toNat := by
      rw [crT_even (by omega)]; omega
    rw [show (x.2 + 1).toNat = x.2.toNat + 1 by omega]
    refine ⟨by omega, by omega, ?_⟩
    rw [h7, h6]; rfl
  · rename_i h1 h2
    obtain ⟨h4, h5, h6⟩ := h1
    rw [show x.2.toNat = 8 by omega] at h6
    rw [← h6]; omega
noncomputable def stepS : PSpec Try.prog := readN fn37 (.s1 (.int .u32)) cxStep (fun n => some (U32 n)) (fun n => int_ .u32 (crTn 8 n.toNat : Nat)) (fun _ => rfl) (fun _ => rfl) (fun _ => rfl) step_runs
def D1 (j : Nat) (s : IS) : SV := .one (.a (.slc j 1 0 s.len s.cap))
def roB (s : IS) : Option Reg := some ⟨false, .tab s.N [.int .u8 s.g]⟩
def Bw (a : IS) : Prop := Bytes a.g a.len ∧ a.len ≤ a.cap ∧ a.len ≤ a.N ∧ a.cap ≤ 9223372036854775807
abbrev dB : Lens IS := Lens.ints .u8
abbrev laSum (a : IS) : LA where
  ι := Int × Int
  inv := fun y => (0 ≤ y.2 ∧ y.2 ≤ a.len) ∧ (0 ≤ y.1 ∧ y.1 < 4294967296) ∧ y.1.toNat = fcR a.g y.2.toNat
  T := fun y => ⟨20, [(3, int_ .u32 y.1), (6, D1 0 a), (7, int_ .i64 a.len), (8, int_ .i64 y.2)], [roB a]⟩
  μ := fun y => (a.len - y.2).toNat
  ren := fun _ => [0]
noncomputable def cxSum (a : IS) : Cx Try.prog := { ps := [stepS], es := [], is := [], n0 := 1, loops := fun i => match i with | 3 => some (.inv (laSum a)) | _ => none, cuts := fun _ => none }
theorem not32 {n : Int} (h : 0 ≤ n ∧ n < 4294967296) : bits .xor .u32 4294967295 n = 4294967295 - n := by
  rw [xor32 (by omega) h]
  have e := ones_xor (x := n.toNat) (by omega)
  have e2 : (n.toNat ^^^ (4294967295 - n.toNat)) ^^^ n.toNat = 4294967295 - n.toNat := by
    rw [Nat.xor_comm n.toNat, Nat.xor_assoc, Nat.xor_self, Nat.xor_zero]
  rw [e] at e2
  show ((4294967295 ^^^ n.toNat : Nat) : Int) = _
  rw [e2]; omega
theorem sum_runs (a : IS) (hp : obp (some (Bw a))) : Runs (cxSum a) Try.f20 [D1 0 a] [roB a] fun v _ => isRes (int_ .u32 (crcI a.g a.len)) v := by
  obtain ⟨hb, hc, hN, hm⟩ : Bw a := hp
  repeat' (first | with_reducible exact trivial | with_reducible exact rfl | with_reducible exact Nat.le_refl _ | with_reducible exact (fun _ _ => rfl) | ((conv => whnf); first | (refine fun (x : Int × Int) => ?_) | (refine fun _ => ?_) | refine ⟨?_, ?_⟩ | exact trivial | exact Nat.le_refl _ | exact lex_q (by kernel_rfl) | exact lex_t (by kernel_rfl) | exact lex_h (by kernel_rfl) | fail))
  any_goals (refine enter_mk (la := laSum a) (_, _) ?_ (by (repeat' (first | with_reducible exact rfl | exact Nat.le_refl _ | with_reducible exact (fun _ _ => rfl) | ((conv => whnf); first | refine ⟨?_, ?_⟩ | exact trivial | fail))); first | ((all_goals ((try dsimp only [laSum] at *); (all_goals (try simp (disch := omega) only [w64', wu64', tdiv_pos, tmod_pos, Int.toNat_natCast, Nat.zero_add] at *)); (all_goals ((try omega))))); done) | fail))
  all_goals (try dsimp only [laSum] at *)
  all_goals (try simp (disch := omega) only [fdiv_nn, Int.reduceToNat, IntKind.bits, Nat.min_def, Nat.reduceLeDiff, if_true, if_false, Int.reducePow, wu8, wu32, w64', wu64', tdiv_pos, tmod_pos, Int.toNat_natCast, Nat.zero_add] at *)
  all_goals (try omega)
  all_goals (try have hb := hb x.2.toNat (by omega))
  · exact ⟨by omega, by omega, rfl⟩
  · rename_i h1 h2
    rw [xor32 (by omega) (by omega)]; omega
  · rename_i h1 h2
    rw [xor32 (by omega) (by omega)]
    have := Nat.xor_lt_two_pow (x := x.1.toNat) (y := (a.g x.2.toNat % 4294967296).toNat) (n := 32) (by show _ < 4294967296; omega) (by show _ < 4294967296; omega)
    omega
  · rename_i h1 h2
    rw [xor32 (by omega) (by omega), Int.toNat_natCast, show a.g x.2.toNat % 4294967296 = a.g x.2.toNat by omega]
    have h3 := Nat.xor_lt_two_pow (x := x.1.toNat) (y := (a.g x.2.toNat).toNat) (n := 32) (by show _ < 4294967296; omega) (by show _ < 4294967296; omega)
    have h4 := crTn_lt (n := 8) h3
    refine ⟨by omega, ⟨Int.natCast_nonneg _, Int.ofNat_lt.2 h4⟩, ?_⟩
    rw [show (x.2 + 1).toNat = x.2.toNat + 1 by omega, h1.2.2]; rfl
  · rename_i h1 h2
    have h3 := not32 h1.2.1
    show _ = bits .xor .u32 4294967295 x.1
    rw [h3]
    unfold crcI
    rw [show a.len = x.2.toNat by omega, ← h1.2.2]; omega
noncomputable def sumS : PSpec Try.prog := readN fn20 (.s1 dB) cxSum (fun a => some (Bw a)) (fun a => int_ .u32 (crcI a.g a.len)) (fun _ => rfl) (fun _ => rfl) (fun _ => rfl) sum_runs
/-- one bit the reference's way -/
theorem ref_odd {x c : Nat} (h : (x % 2 + c % 2) % 2 = 1) : (x / 2 ^^^ 3988292384) ^^^ (c / 2) = crT (x ^^^ c) := by
  have hp : (x ^^^ c) % 2 = 1 := by
    rw [xor_par]
    rcases Nat.mod_two_eq_zero_or_one x with h1 | h1 <;> rcases Nat.mod_two_eq_zero_or_one c with h2 | h2 <;> rw [h1, h2] at h ⊢ <;> first | rfl | (simp at h)
  rw [crT_odd hp, xor_half, Nat.xor_assoc, Nat.xor_comm 3988292384, ← Nat.xor_assoc]
theorem ref_even {x c : Nat} (h : ¬ (x % 2 + c % 2) % 2 = 1) : (x / 2) ^^^ (c / 2) = crT (x ^^^ c) := by
  have hp : (x ^^^ c) % 2 = 0 := by
    rw [xor_par]
    rcases Nat.mod_two_eq_zero_or_one x with h1 | h1 <;> rcases Nat.mod_two_eq_zero_or_one c with h2 | h2 <;> rw [h1, h2] at h ⊢ <;> first | rfl | (simp at h)
  rw [crT_even hp, xor_half]
abbrev laRO (a : IS) : LA where
  ι := Int × Int
  inv := fun y => (0 ≤ y.2 ∧ y.2 ≤ a.len) ∧ (0 ≤ y.1 ∧ y.1 < 4294967296) ∧ y.1.toNat = fcR a.g y.2.toNat
  T := fun y => ⟨40, [(3, int_ .u64 y.1), (8, D1 0 a), (9, int_ .i64 a.len), (10, int_ .i64 y.2), (0, D1 0 a)], [roB a]⟩
  μ := fun y => (a.len - y.2).toNat
  ren := fun _ => [0]
abbrev laRI (a : IS) (i : Int) : LA where
  ι := Int × Int × Int
  inv := fun y => (0 ≤ i ∧ i < a.len) ∧ (0 ≤ y.2.2 ∧ y.2.2 ≤ 8) ∧ (0 ≤ y.1 ∧ y.1 < 4294967296) ∧ (0 ≤ y.2.1 ∧ y.2.1 < 256) ∧ y.2.1.toNat = (a.g i.toNat).toNat / 2 ^ y.2.2.toNat ∧ y.1.toNat ^^^ y.2.1.toNat = crTn y.2.2.toNat (fcR a.g i.toNat ^^^ (a.g i.toNat).toNat)
  T := fun y => ⟨40, [(3, int_ .u64 y.1), (5, int_ .u64 y.2.1), (6, int_ .i64 y.2.2), (8, D1 0 a), (9, int_ .i64 a.len), (10, int_ .i64 i), (0, D1 0 a)], [roB a]⟩
  μ := fun y => (8 - y.2.2).toNat
  ren := fun _ => [0]
noncomputable def cxRSum (a : IS) : Cx Try.prog := { ps := [], es := [], is := [], n0 := 1, loops := fun i => match i with | 3 => some (.inv (laRO a)) | 7 => some (.here 10 (laRI a)) | _ => none, cuts := fun _ => none }
theorem rsum_runs (a : IS) (hp : obp (some (Bw a))) : Runs (cxRSum a) Try.f21 [D1 0 a] [roB a] fun v _ => isRes (int_ .u32 (crcI a.g a.len)) v := by
  obtain ⟨hb, hc, hN, hm⟩ : Bw a := hp
  repeat' (first | with_reducible exact trivial | with_reducible exact rfl | with_reducible exact Nat.le_refl _ | with_reducible exact (fun _ _ => rfl) | ((conv => whnf); first | (refine fun (x : Int × Int) => ?_) | (refine fun (y : Int × Int × Int) => ?_) | (refine fun _ => ?_) | refine ⟨?_, ?_⟩ | exact trivial | exact Nat.le_refl _ | exact lex_q (by kernel_rfl) | exact lex_t (by kernel_rfl) | exact lex_h (by kernel_rfl) | fail))
  any_goals (refine enter_mk (la := laRO a) (_, _) ?_ (by (repeat' (first | with_reducible exact rfl | exact Nat.le_refl _ | with_reducible exact (fun _ _ => rfl) | ((conv => whnf); first | refine ⟨?_, ?_⟩ | exact trivial | fail))); first | ((all_goals ((try dsimp only [laRO] at *); (all_goals (try simp (disch := omega) only [w64', wu64', tdiv_pos, tmod_pos, Int.toNat_natCast, Nat.zero_add] at *)); (all_goals ((try omega))))); done) | fail))
  any_goals (refine enter_mk (la := laRI a _) (_, _, _) ?_ (by (repeat' (first | with_reducible exact rfl | exact Nat.le_refl _ | with_reducible exact (fun _ _ => rfl) | ((conv => whnf); first | refine ⟨?_, ?_⟩ | exact trivial | fail))); first | ((all_goals ((try dsimp only [laRI] at *); (all_goals (try simp (disch := omega) only [w64', wu64', tdiv_pos, tmod_pos, Int.toNat_natCast, Nat.zero_add] at *)); (all_goals ((try omega))))); done) | fail))
  all_goals (try dsimp only [laRO, laRI] at *)
  all_goals (try simp (disch := omega) only [fdiv_nn, Int.reduceToNat, IntKind.bits, Nat.min_def, Nat.reduceLeDiff, if_true, if_false, Int.reducePow, wu8, wu32, w64', wu64', tdiv_pos, tmod_pos, Int.toNat_natCast, Nat.zero_add] at *)
  all_goals (try omega)
  · exact ⟨by omega, by omega, rfl⟩
  · rename_i h1 h2
    have hg := hb x.2.toNat (by omega)
    rw [wu64' (n := a.g x.2.toNat) (by omega) (by omega)]
    refine ⟨by omega, by omega, h1.2.1, hg, by rw [Nat.pow_zero, Nat.div_one], ?_⟩
    show x.1.toNat ^^^ _ = _
    rw [h1.2.2]; rfl
  · rename_i h1 h2 h3 h4 h5
    obtain ⟨i1, i2, i3, i4, i5, i6⟩ := h3
    have hx := xor64 (a := y.1 / 2) (b := 3988292384) (by omega) (by omega)
    have hl := Nat.xor_lt_two_pow (x := (y.1 / 2).toNat) (y := 3988292384) (n := 32) (by show _ < 4294967296; omega) (by decide)
    have ho := ref_odd (x := y.1.toNat) (c := y.2.1.toNat) (by omega)
    have e1 : (y.1 / 2).toNat = y.1.toNat / 2 := by omega
    have e2 : (y.2.1 / 2).toNat = y.2.1.toNat / 2 := by omega
    rw [hx, show (y.2.2 + 1).toNat = y.2.2.toNat + 1 by omega, e2, Int.toNat_natCast]
    refine ⟨i1, by omega, ⟨Int.natCast_nonneg _, Int.ofNat_lt.2 hl⟩, by omega, ?_, ?_⟩
    · rw [i5, Nat.div_div_eq_div_mul, ← Nat.pow_succ]
    · rw [e1]
      exact ho.trans (by rw [i6]; rfl)
  · rename_i h1 h2 h3 h4 h5
    obtain ⟨i1, i2, i3, i4, i5, i6⟩ := h3
    have ho := ref_even (x := y.1.toNat) (c := y.2.1.toNat) (by omega)
    have e1 : (y.1 / 2).toNat = y.1.toNat / 2 := by omega
    have e2 : (y.2.1 / 2).toNat = y.2.1.toNat / 2 := by omega
    rw [show (y.2.2 + 1).toNat = y.2.2.toNat + 1 by omega, e2, e1]
    refine ⟨i1, by omega, by omega, by omega, ?_, ?_⟩
    · rw [i5, Nat.div_div_eq_div_mul, ← Nat.pow_succ]
    · exact ho.trans (by rw [i6]; rfl)
  · rename_i h1 h2 h3 h4
    obtain ⟨i1, i2, i3, i4, i5, i6⟩ := h3
    have hg := hb x.2.toNat (by omega)
    have h8 : y.2.2.toNat = 8 := by omega
    rw [h8] at i5 i6
    have h9 : y.2.1.toNat = 0 := by rw [i5]; exact Nat.div_eq_of_lt (by show _ < 256; omega)
    rw [h9, Nat.xor_zero] at i6
    refine ⟨by omega, i3, ?_⟩
    rw [show (x.2 + 1).toNat = x.2.toNat + 1 by omega]
    exact i6
  · rename_i h1 h2
    rw [show (a.len : Nat) = x.2.toNat by omega]
    unfold crcI
    rw [← h1.2.2]; omega
noncomputable def rsumS : PSpec Try.prog := readN fn21 (.s1 dB) cxRSum (fun a => some (Bw a)) (fun a => int_ .u32 (crcI a.g a.len)) (fun _ => rfl) (fun _ => rfl) (fun _ => rfl) rsum_runs

end Go.Proofs.Ytiaadplhpkggeaa
