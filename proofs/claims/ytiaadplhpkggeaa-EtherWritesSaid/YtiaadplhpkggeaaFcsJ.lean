/-
  Contracts of functions, and plain facts about them, that a claim of this seat uses.
-/
import Derived.Test.YtiaadplhpkggeaaSx
import Derived.Test.YtiaadplhpkggeaaFcsNum
import Derived.Test.YtiaadplhpkggeaaFcsBits
import Derived.Test.YtiaadplhpkggeaaFcsA
import Derived.Test.YtiaadplhpkggeaaFcsB
import Derived.Test.YtiaadplhpkggeaaFcsC
import Derived.Test.YtiaadplhpkggeaaFcsIn
import Derived.Test.YtiaadplhpkggeaaProg
namespace Go.Proofs.Ytiaadplhpkggeaa
open Go.Sx
set_option linter.unusedVariables false
set_option linter.unusedSimpArgs false
set_option maxRecDepth 100000

/-! facts for the laws. -/
theorem opD_yes {a : IS} (h : (!opD a) = false) : opB a.g a.len := by
  unfold opD at h
  by_cases ho : opB a.g a.len
  · exact ho
  · rw [decide_eq_false ho] at h; cases h
theorem opD_no {a : IS} (h : (!opD a) = true) : ¬ opB a.g a.len := fun ho => by
  unfold opD at h
  rw [decide_eq_true ho] at h; cases h
theorem opD_is {a : IS} (h : opD a = true) : opB a.g a.len := opD_yes (by rw [h]; rfl)
theorem opD_not {a : IS} (h : opD a = false) : ¬ opB a.g a.len := opD_no (by rw [h]; rfl)
theorem not_same {a b : IS} {c : Bool} (h : sameB a b = true) (h2 : (!sameB a b) = true) : False := by rw [h] at h2; cases h2
theorem xor8 {a b : Int} (ha : 0 ≤ a ∧ a < 256) (hb : 0 ≤ b ∧ b < 256) : bits .xor .u8 a b = ((a.toNat ^^^ b.toNat : Nat) : Int) := by
  have h3 : (BitVec.ofInt 8 a ^^^ BitVec.ofInt 8 b).toNat = a.toNat ^^^ b.toNat := by rw [BitVec.toNat_xor, nat_ofInt ha.1 ha.2, nat_ofInt hb.1 hb.2]
  have h4 : a.toNat ^^^ b.toNat < 2 ^ 8 := Nat.xor_lt_two_pow (by show _ < 256; omega) (by show _ < 256; omega)
  show IntKind.u8.wrap ((BitVec.ofInt 8 a ^^^ BitVec.ofInt 8 b).toNat : Int) = _
  rw [h3, wu8]; omega
theorem one_shl {k : Int} (h : 0 ≤ k ∧ k < 8) : ((1 : Int) * 2 ^ (if k.toNat ≤ 8 then k.toNat else 8)) % 256 = ((2 ^ k.toNat : Nat) : Int) ∧ 2 ^ k.toNat < 256 := by
  have h2 : 2 ^ k.toNat < 256 := Nat.pow_lt_pow_right (n := 8) (a := 2) (by decide) (by omega)
  rw [if_pos (by omega), Int.one_mul]
  have h3 : (2 : Int) ^ k.toNat = ((2 ^ k.toNat : Nat) : Int) := by simp
  rw [h3]
  generalize 2 ^ k.toNat = q at h2 ⊢
  exact ⟨by omega, h2⟩
/-- a bit that is turned in place -/
theorem turned {h : Nat → Int} {n : Nat} {p : Int} (hh : Bytes h n) (h0 : 0 ≤ p) (hp : p < 8 * n) (r : Nat) :
    (if r = (p / 8).toNat then bits .xor .u8 (h (p / 8).toNat) (((1 : Int) * 2 ^ (if (p % 8).toNat ≤ 8 then (p % 8).toNat else 8)) % 256) else h r) = flp h p.toNat r := by
  obtain ⟨e1, e2⟩ := one_shl (k := p % 8) (by omega)
  have e3 : (p / 8).toNat = p.toNat / 8 := by omega
  have e4 : (p % 8).toNat = p.toNat % 8 := by omega
  rw [e1]
  unfold flp
  rw [e4] at e2 ⊢
  rw [e3]
  by_cases hr : r = p.toNat / 8
  · generalize 2 ^ (p.toNat % 8) = q at e2 ⊢
    rw [if_pos hr, if_pos hr, hr, xor8 (hh _ (by omega)) (by omega), Int.toNat_natCast]
  · rw [if_neg hr, if_neg hr]
theorem bit_test {b i : Int} (hb : 0 ≤ b ∧ b < 4294967296) (hi : 0 ≤ i ∧ i < 32) : (bits .and .u32 (b.fdiv (2 ^ (if i.toNat ≤ 32 then i.toNat else 32))) 1 = 1) ↔ b.toNat / 2 ^ i.toNat % 2 = 1 := by
  rw [if_pos (by omega)]
  have h3 : (2 : Int) ^ i.toNat = ((2 ^ i.toNat : Nat) : Int) := by simp
  have h4 : b.fdiv (2 ^ i.toNat) = ((b.toNat / 2 ^ i.toNat : Nat) : Int) := by
    rw [h3, Int.fdiv_eq_ediv_of_nonneg _ (Int.natCast_nonneg _), Int.natCast_ediv, Int.toNat_of_nonneg hb.1]
  have h5 : b.toNat / 2 ^ i.toNat ≤ b.toNat := Nat.div_le_self _ _
  rw [h4]
  generalize b.toNat / 2 ^ i.toNat = q at h5 ⊢
  rw [and32_1 (by omega)]
  omega
theorem mul_xor (A x y : Nat) : 2 ^ A * (x ^^^ y) = 2 ^ A * x ^^^ 2 ^ A * y := by
  have := Nat.shiftLeft_xor_distrib (a := x) (b := y) (i := A)
  simp only [Nat.shiftLeft_eq] at this
  rw [Nat.mul_comm, this, Nat.mul_comm x, Nat.mul_comm y]
theorem Off.congr {g h k : Nat → Int} {n E : Nat} (ho : Off g h n E) (e : ∀ r, r < n → k r = h r) : Off g k n E := fun r hr => by rw [e r hr, ho r hr]
theorem off_step {g h F : Nat → Int} {n A B i : Nat} (hg : Bytes g n) (ho : Off g h n (2 ^ A * (B % 2 ^ i))) (hF : ∀ r, r < n → F r = flp h (A + i) r) (hbit : B / 2 ^ i % 2 = 1) : Off g F n (2 ^ A * (B % 2 ^ (i + 1))) := by
  have := ho.trans (Off.flpd (p := A + i) (ho.bytes hg))
  rw [low_bits, if_pos hbit, mul_xor, ← Nat.pow_add]
  exact this.congr hF
theorem off_skip {g h : Nat → Int} {n A B i : Nat} (ho : Off g h n (2 ^ A * (B % 2 ^ i))) (hbit : ¬ B / 2 ^ i % 2 = 1) : Off g h n (2 ^ A * (B % 2 ^ (i + 1))) := by
  rw [low_bits, if_neg hbit, Nat.xor_zero]; exact ho
theorem burst_end {g : Nat → Int} {n A B i : Nat} {C D : IS} (hg : Bytes g n) (hn : 4 ≤ n) (hf : opB g n) (hC : C.len = n) (hD : D.len = n) (eC : ∀ r, r < n → C.g r = g r) (ho : Off g D.g n (2 ^ A * (B % 2 ^ i))) (hB : B < 4294967296) (hi : A + i ≤ 8 * n) (hA : A ≤ 8 * n) :
    (opB D.g n → sameB C D = true) ∧ (¬ opB D.g n → sameB C D = false) := by
  have hW : B % 2 ^ i < 4294967296 := Nat.lt_of_le_of_lt (Nat.mod_le _ _) hB
  have hE : 2 ^ A * (B % 2 ^ i) < 256 ^ n := by
    rw [pow256]
    have h1 : 2 ^ A * (B % 2 ^ i) < 2 ^ A * 2 ^ i := Nat.mul_lt_mul_of_pos_left (Nat.mod_lt _ (Nat.two_pow_pos i)) (Nat.two_pow_pos A)
    rw [← Nat.pow_add] at h1
    exact Nat.lt_of_lt_of_le h1 (Nat.pow_le_pow_right (by decide) hi)
  have key := run_fits hg ho hn hE hW hA hf
  have hDb : Bytes D.g D.len := by rw [hD]; exact ho.bytes hg
  have hCb : Bytes C.g C.len := by rw [hC]; exact hg.congr eC
  have sm := sameB_iff hCb hDb
  constructor
  · intro h
    have h0 := key.1 h
    rw [h0, Nat.mul_zero] at ho
    refine sm.2 ⟨hC.trans hD.symm, fun r hr => ?_⟩
    rw [hC] at hr
    have h5 := hg r hr
    rw [eC r hr, ho r hr, eb_zero, Nat.xor_zero]; omega
  · intro h
    cases hh : sameB C D with
    | false => rfl
    | true =>
      obtain ⟨_, h2⟩ := sm.1 hh
      rw [hC] at h2
      exact absurd ((opB_congr fun r hr => (eC r hr).symm.trans (h2 r hr)).1 hf) h
theorem u32_of {a : Int} (h : (Lit.int .u32 a).wf = true) : 0 ≤ a ∧ a < 4294967296 := by
  have := (Lit.wf_int_iff _ _).1 h
  have h1 : IntKind.u32.min = 0 := rfl
  have h2 : IntKind.u32.max = 4294967295 := rfl
  omega

end Go.Proofs.Ytiaadplhpkggeaa
