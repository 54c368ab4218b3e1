/-
  Contracts of functions, and plain facts about them, that a claim of this seat uses.
-/
import Derived.Test.YtnkmfkongmijfaaSx
import Derived.Test.YtnkmfkongmijfaaFdbH
import Derived.Test.YtnkmfkongmijfaaProg
namespace Go.Proofs.Ytnkmfkongmijfaa
open Go.Sx
set_option linter.unusedVariables false
set_option linter.unusedSimpArgs false
set_option maxRecDepth 100000

/-! fdb: sets of ports. -/
def bv (a : Int) : BitVec 64 := BitVec.ofInt 64 a
theorem b_toNat (x : BitVec 64) : bv (IntKind.i64.wrap (x.toNat : Int)) = x := by
  apply BitVec.eq_of_toNat_eq
  unfold bv
  rw [BitVec.toNat_ofInt, IntKind.wrap_i64]
  have h2 := x.isLt
  omega
theorem b_and (a b : Int) : bv (bits .and .i64 a b) = bv a &&& bv b := b_toNat _
theorem b_andNot (a b : Int) : bv (bits .andNot .i64 a b) = bv a &&& ~~~ bv b := b_toNat _
theorem bv_nat {a : Int} (h : 0 ≤ a ∧ a < 256) : (bv a).toNat = a.toNat := by
  unfold bv
  rw [BitVec.toNat_ofInt]
  omega
theorem and_lt {x y : BitVec 64} (h : x.toNat < 256) : (x &&& y).toNat < 256 := by
  rw [BitVec.toNat_and]
  exact Nat.lt_of_le_of_lt Nat.and_le_left h
/-- a small set of ports -/
def Sm (a : Int) : Prop := (bv a).toNat < 256
theorem sm_of {a : Int} (h : 0 ≤ a ∧ a < 256) : Sm a := by unfold Sm; rw [bv_nat h]; omega
theorem sm_and {a b : Int} (h : Sm a) : Sm (bits .and .i64 a b) := by unfold Sm; rw [b_and]; exact and_lt h
theorem sm_not {a b : Int} (h : Sm a) : Sm (bits .andNot .i64 a b) := by unfold Sm; rw [b_andNot]; exact and_lt h
theorem not_val {a b : Int} (h : Sm a) : bits .andNot .i64 a b = ((bv a &&& ~~~ bv b).toNat : Int) := by
  show IntKind.i64.wrap ((bv a &&& ~~~ bv b).toNat : Int) = _
  have := and_lt (y := ~~~ bv b) h
  exact w64' (by omega) (by omega)
theorem not_zero {a b : Int} (h : bv a &&& ~~~ bv b = 0) : bits .andNot .i64 a b = 0 := by
  show IntKind.i64.wrap ((bv a &&& ~~~ bv b).toNat : Int) = 0
  rw [h]; rfl
theorem in_1 (x b : Int) : bits .andNot .i64 (bits .andNot .i64 x b) x = 0 := by
  refine not_zero ?_
  rw [b_andNot]
  ext i hi
  simp
  intro h1 _; exact h1
theorem in_2 (x g b : Int) : bits .andNot .i64 (bits .andNot .i64 (bits .and .i64 x g) b) x = 0 := by
  refine not_zero ?_
  rw [b_andNot, b_and]
  ext i hi
  simp
  intro h1 _ _; exact h1
theorem bit_gen {y B : BitVec 64} (j : Nat) (hj : j < 64) (hB : B.getLsbD j = true) : Int.fdiv ((y &&& ~~~ B).toNat : Int) (2 ^ j) % 2 = 0 := by
  have hb : (y &&& ~~~ B).toNat.testBit j = false := by
    show (y &&& ~~~ B).getLsbD j = false
    rw [BitVec.getLsbD_and, BitVec.getLsbD_not, hB]; simp
  rw [Nat.testBit_eq_decide_div_mod_eq] at hb
  have h1 := of_decide_eq_false hb
  rw [show (2 : Int) ^ j = ((2 ^ j : Nat) : Int) by simp, Int.fdiv_eq_ediv_of_nonneg _ (Int.natCast_nonneg _), ← Int.natCast_ediv]
  generalize (y &&& ~~~ B).toNat / 2 ^ j = q at *
  omega
theorem bit_out {x : Int} (h : Sm x) {a : Int} (ha : 0 ≤ a ∧ a < 8) : bits .and .i64 ((bits .andNot .i64 x (bitI a)).fdiv (2 ^ min (IntKind.u64.wrap a).toNat IntKind.i64.bits)) 1 = 0 := by
  have h1 : ∀ n : Int, bits .and .i64 n 1 = n % 2 := fun n => and_mask n 1 (by decide)
  rw [h1, not_val h]
  rcases (by omega : a = 0 ∨ a = 1 ∨ a = 2 ∨ a = 3 ∨ a = 4 ∨ a = 5 ∨ a = 6 ∨ a = 7) with rfl | rfl | rfl | rfl | rfl | rfl | rfl | rfl
  · exact bit_gen 0 (by decide) (by decide)
  · exact bit_gen 1 (by decide) (by decide)
  · exact bit_gen 2 (by decide) (by decide)
  · exact bit_gen 3 (by decide) (by decide)
  · exact bit_gen 4 (by decide) (by decide)
  · exact bit_gen 5 (by decide) (by decide)
  · exact bit_gen 6 (by decide) (by decide)
  · exact bit_gen 7 (by decide) (by decide)
/-- where a frame goes out, with VLANs known -/
theorem ot_in {t : Ft} {a : Int} {p : Pl} : bits .andNot .i64 (otP t a p) (vPo t p.vid) = 0 := by
  unfold otP
  split
  · exact not_zero (by unfold bv; simp)
  · cases aGet t p with
    | none => exact in_1 _ _
    | some g => exact in_2 _ _ _
theorem ot_bare {t : Ft} {a : Int} {p : Pl} : otB t a p = bits .and .i64 (otP t a p) (vBa t p.vid) ∨ (otP t a p = 0 ∧ otB t a p = 0) := by
  unfold otB
  split
  · rename_i h
    exact .inr ⟨if_pos h, rfl⟩
  · exact .inl rfl
theorem ot_self {t : Ft} {a : Int} {p : Pl} (h : Sm (vPo t p.vid)) (ha : 0 ≤ a ∧ a < 8) : bits .and .i64 ((otP t a p).fdiv (2 ^ min (IntKind.u64.wrap a).toNat IntKind.i64.bits)) 1 = 0 := by
  unfold otP
  split
  · have h1 : ∀ n : Int, bits .and .i64 n 1 = n % 2 := fun n => and_mask n 1 (by decide)
    rw [h1, Int.zero_fdiv]; rfl
  · cases aGet t p with
    | none => exact bit_out h ha
    | some g => exact bit_out (sm_and h) ha
theorem and_0 (b : Int) : bits .and .i64 0 b = 0 := by
  show IntKind.i64.wrap ((bv 0 &&& bv b).toNat : Int) = 0
  have : bv 0 &&& bv b = 0 := by unfold bv; simp
  rw [this]; rfl
theorem vPo_put {t : Ft} {x : Int} {v : Vl} (h : ¬ svBad t x v) (ht : t.vl = []) : vPo (svT t x v) x = v.po ∧ vBa (svT t x v) x = v.ba ∧ (svT t x v).n = t.n := by
  unfold vPo vBa svT
  rw [if_neg h]
  dsimp only
  rw [ht]
  simp [mpPut, mpHas, mpGet, cellI]

end Go.Proofs.Ytnkmfkongmijfaa
