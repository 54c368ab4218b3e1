/-
  Contracts of functions, and plain facts about them, that a claim of this seat uses.
-/
import Derived.Test.YtiaadplhpkggeaaSx
import Derived.Test.YtiaadplhpkggeaaFcsNum
import Derived.Test.YtiaadplhpkggeaaProg
namespace Go.Proofs.Ytiaadplhpkggeaa
open Go.Sx
set_option linter.unusedVariables false
set_option linter.unusedSimpArgs false
set_option maxRecDepth 100000

/-! texts that differ: the registers' difference -/
theorem xor_zero_eq {x y : Nat} (h : x ^^^ y = 0) : x = y := by
  have e : (x ^^^ y) ^^^ y = x := by rw [Nat.xor_assoc, Nat.xor_self, Nat.xor_zero]
  rw [h, Nat.zero_xor] at e; exact e.symm
theorem crT_zero {x : Nat} (hx : x < 4294967296) (h : crT x = 0) : x = 0 := by
  unfold crT at h
  have h1 := xor_zero_eq h
  rcases Nat.mod_two_eq_zero_or_one x with h2 | h2 <;> rw [h2] at h1 <;> omega
theorem crTn_zero {n x : Nat} (hx : x < 4294967296) (h : crTn n x = 0) : x = 0 := by
  induction n with
  | zero => exact h
  | succ n ih => exact ih (crT_zero (crTn_lt hx) h)
theorem crTn_inj {n x y : Nat} (hx : x < 4294967296) (hy : y < 4294967296) (h : crTn n x = crTn n y) : x = y := by
  refine xor_zero_eq (crTn_zero (n := n) (Nat.xor_lt_two_pow (n := 32) hx hy) ?_)
  rw [crTn_xor, h, Nat.xor_self]
theorem crTn_pow (k n x : Nat) : crTn (n + k) (2 ^ k * x) = crTn n x := by
  induction k generalizing n x with
  | zero => rw [Nat.pow_zero, Nat.one_mul]; rfl
  | succ k ih =>
    rw [show n + (k + 1) = (n + 1) + k by omega, show 2 ^ (k + 1) * x = 2 ^ k * (2 * x) by rw [Nat.pow_succ]; rw [Nat.mul_assoc], ih, crTn_add, show crTn 1 (2 * x) = x from crT_two x]
def Bytes (g : Nat → Int) (n : Nat) : Prop := ∀ r, r < n → 0 ≤ g r ∧ g r < 256
/-- does the check fit? -/
def opB (g : Nat → Int) (n : Nat) : Prop := 4 ≤ n ∧ crcI g (n - 4) = le32 g (n - 4)
theorem rest_is : crTn 32 4294967295 = 3736805603 := by decide +kernel
theorem op_iff {g : Nat → Int} {n : Nat} (h : Bytes g n) (hn : 4 ≤ n) : opB g n ↔ fcR g n = 3736805603 := by
  obtain ⟨k, rfl⟩ : ∃ k, n = k + 4 := ⟨n - 4, by omega⟩
  have hk : k + 4 - 4 = k := by omega
  have hR := fcR_lt (g := g) (n := k) fun r hr => h r (by omega)
  have b0 := h k (by omega)
  have b1 := h (k + 1) (by omega)
  have b2 := h (k + 2) (by omega)
  have b3 := h (k + 3) (by omega)
  have e := four_bytes (R := fcR g k) (a := (g k).toNat) (b := (g (k + 1)).toNat) (c := (g (k + 2)).toNat) (d := (g (k + 3)).toNat) (by omega) (by omega) (by omega) (by omega)
  have hw : ((g k).toNat + 256 * ((g (k + 1)).toNat + 256 * ((g (k + 2)).toNat + 256 * (g (k + 3)).toNat)) : Nat) = (le32 g k).toNat := by unfold le32; omega
  have hl : 0 ≤ le32 g k ∧ le32 g k < 4294967296 := by unfold le32; omega
  have e2 : fcR g (k + 4) = crTn 32 (fcR g k ^^^ (le32 g k).toNat) := by rw [← hw]; exact e
  rw [e2, ← rest_is]
  unfold opB
  rw [hk]
  constructor
  · rintro ⟨_, h1⟩
    have : (le32 g k).toNat = 4294967295 - fcR g k := by unfold crcI at h1; omega
    rw [this, ones_xor hR]
  · intro h1
    have h2 := crTn_inj (Nat.xor_lt_two_pow (n := 32) hR (show (le32 g k).toNat < 2 ^ 32 by show _ < 4294967296; omega)) (by decide) h1
    refine ⟨by omega, ?_⟩
    have h4 : fcR g k ^^^ (fcR g k ^^^ (4294967295 - fcR g k)) = fcR g k ^^^ (fcR g k ^^^ (le32 g k).toNat) := by rw [h2, ones_xor hR]
    rw [← Nat.xor_assoc, ← Nat.xor_assoc, Nat.xor_self, Nat.zero_xor, Nat.zero_xor] at h4
    unfold crcI; omega
/-- byte r of the bits E -/
def eb (E r : Nat) : Nat := E / 256 ^ r % 256
theorem pow256 (r : Nat) : 256 ^ r = 2 ^ (8 * r) := by rw [Nat.pow_mul]
theorem eb_xor (E F r : Nat) : eb (E ^^^ F) r = eb E r ^^^ eb F r := by
  unfold eb
  rw [pow256, Nat.xor_div_two_pow, show 256 = 2 ^ 8 from rfl, Nat.xor_mod_two_pow]
theorem eb_lt (E r : Nat) : eb E r < 256 := Nat.mod_lt _ (by decide)
theorem eb_zero (r : Nat) : eb 0 r = 0 := by unfold eb; rw [Nat.zero_div]
/-- h is g, but for the bits E -/
def Off (g h : Nat → Int) (n E : Nat) : Prop := ∀ r, r < n → h r = (((g r).toNat ^^^ eb E r : Nat) : Int)
theorem Off.bytes {g h : Nat → Int} {n E : Nat} (hg : Bytes g n) (ho : Off g h n E) : Bytes h n := fun r hr => by
  have h1 := hg r hr
  have h2 : (g r).toNat ^^^ eb E r < 256 := Nat.xor_lt_two_pow (n := 8) (by show _ < 256; omega) (eb_lt E r)
  rw [ho r hr]; omega
theorem Off.refl {g : Nat → Int} {n : Nat} (hg : Bytes g n) : Off g g n 0 := fun r hr => by
  have := hg r hr
  rw [eb_zero, Nat.xor_zero]; omega
theorem Off.trans {g h k : Nat → Int} {n E F : Nat} (h1 : Off g h n E) (h2 : Off h k n F) : Off g k n (E ^^^ F) := fun r hr => by
  rw [h2 r hr, h1 r hr, eb_xor, Int.toNat_natCast, Nat.xor_assoc]
theorem Off.reg {g h : Nat → Int} {n E : Nat} (ho : Off g h n E) : ∀ {k : Nat}, k ≤ n → (fcR h k ^^^ fcR g k) ^^^ (E / 256 ^ k) = crTn (8 * k) E
  | 0, _ => by
    show (4294967295 ^^^ 4294967295) ^^^ (E / 1) = E
    rw [Nat.xor_self, Nat.zero_xor, Nat.div_one]
  | k + 1, hk => by
    have ih := ho.reg (k := k) (by omega)
    have e1 : (h k).toNat = (g k).toNat ^^^ eb E k := by rw [ho k (by omega), Int.toNat_natCast]
    have e2 : E / 256 ^ (k + 1) = crTn 8 (256 * (E / 256 ^ (k + 1))) := (crTn_8 _).symm
    have e3 : eb E k ^^^ 256 * (E / 256 ^ (k + 1)) = E / 256 ^ k := by
      rw [xor_cat _ (eb_lt E k)]
      unfold eb
      rw [Nat.pow_succ, ← Nat.div_div_eq_div_mul]; omega
    simp only [fcR]
    rw [e2, ← crTn_xor, ← crTn_xor, e1, show 8 * (k + 1) = 8 + 8 * k by omega, crTn_add, ← ih]
    congr 1
    rw [xor4, ← e3]
    have : (fcR h k ^^^ fcR g k) ^^^ (((g k).toNat ^^^ eb E k) ^^^ (g k).toNat) = (fcR h k ^^^ fcR g k) ^^^ eb E k := by
      congr 1
      rw [Nat.xor_comm, ← Nat.xor_assoc, Nat.xor_self, Nat.zero_xor]
    rw [this, Nat.xor_assoc]
theorem Off.fits {g h : Nat → Int} {n E : Nat} (hg : Bytes g n) (ho : Off g h n E) (hn : 4 ≤ n) (hE : E < 256 ^ n) (hf : opB g n) : opB h n ↔ crTn (8 * n) E = 0 := by
  have h1 := (op_iff hg hn).1 hf
  have h2 := ho.reg (k := n) (Nat.le_refl n)
  rw [Nat.div_eq_of_lt hE, Nat.xor_zero, h1] at h2
  rw [op_iff (ho.bytes hg) hn, ← h2]
  constructor
  · intro h3; rw [h3, Nat.xor_self]
  · intro h3; exact xor_zero_eq h3
/-- a run of bits -/
theorem run_fits {g h : Nat → Int} {n W a : Nat} (hg : Bytes g n) (ho : Off g h n (2 ^ a * W)) (hn : 4 ≤ n) (hE : 2 ^ a * W < 256 ^ n) (hW : W < 4294967296) (ha : a ≤ 8 * n) (hf : opB g n) : opB h n ↔ W = 0 := by
  rw [ho.fits hg hn hE hf, show 8 * n = (8 * n - a) + a by omega, crTn_pow]
  constructor
  · exact crTn_zero hW
  · intro h0; subst h0
    have : ∀ k, crTn k 0 = 0 := by
      intro k
      induction k with
      | zero => rfl
      | succ k ih => simp only [crTn, ih]; rfl
    exact this _
/-- the bytes of one bit -/
theorem eb_bit (p r : Nat) : eb (2 ^ p) r = if r = p / 8 then 2 ^ (p % 8) else 0 := by
  unfold eb
  rw [pow256]
  by_cases h1 : 8 * r ≤ p
  · rw [Nat.pow_div h1 (by decide)]
    by_cases h2 : r = p / 8
    · rw [if_pos h2, show p - 8 * r = p % 8 by omega]
      have : 2 ^ (p % 8) < 2 ^ 8 := Nat.pow_lt_pow_right (by decide) (by omega)
      exact Nat.mod_eq_of_lt this
    · rw [if_neg h2, show p - 8 * r = 8 + (p - 8 * r - 8) by omega, Nat.pow_add]
      exact Nat.mul_mod_right _ _
  · rw [if_neg (by omega), Nat.div_eq_of_lt (Nat.pow_lt_pow_right (by decide) (by omega))]
def flp (g : Nat → Int) (p : Nat) : Nat → Int := fun r => if r = p / 8 then (((g r).toNat ^^^ 2 ^ (p % 8) : Nat) : Int) else g r
theorem Off.flpd {g : Nat → Int} {n p : Nat} (hg : Bytes g n) : Off g (flp g p) n (2 ^ p) := fun r hr => by
  have := hg r hr
  unfold flp
  rw [eb_bit]
  by_cases h : r = p / 8
  · rw [if_pos h, if_pos h]
  · rw [if_neg h, if_neg h, Nat.xor_zero]; omega
theorem flip_two {g : Nat → Int} {n p : Nat} (hg : Bytes g n) (r : Nat) (hr : r < n) : flp (flp g p) p r = g r := by
  have := hg r hr
  unfold flp
  by_cases h : r = p / 8
  · rw [if_pos h, if_pos h, Int.toNat_natCast, Nat.xor_assoc, Nat.xor_self, Nat.xor_zero]; omega
  · rw [if_neg h, if_neg h]
theorem bit_lt {p n : Nat} (h : p < 8 * n) : 2 ^ p < 256 ^ n := by rw [pow256]; exact Nat.pow_lt_pow_right (by decide) h
/-- one bit is told -/
theorem one_bit {g : Nat → Int} {n p : Nat} (hg : Bytes g n) (hn : 4 ≤ n) (hp : p < 8 * n) (hf : opB g n) : ¬ opB (flp g p) n := by
  have := run_fits (W := 1) (a := p) hg (by rw [Nat.mul_one]; exact Off.flpd hg) hn (by rw [Nat.mul_one]; exact bit_lt hp) (by decide) (by omega) hf
  rw [this]; decide
theorem near_bits : ∀ d, d < 352 → d = 0 ∨ crTn d 1 ≠ 1 := by decide +kernel
theorem two_at {n lo hi : Nat} (h1 : lo < hi) (h2 : hi < 8 * n) (h3 : hi - lo < 352) : crTn (8 * n) (2 ^ lo ^^^ 2 ^ hi) ≠ 0 := by
  intro h
  rw [crTn_xor, show 8 * n = (8 * n - hi + (hi - lo)) + lo by omega, ← Nat.mul_one (2 ^ lo), crTn_pow, show 8 * n - hi + (hi - lo) + lo = (8 * n - hi) + hi by omega, ← Nat.mul_one (2 ^ hi), crTn_pow, crTn_add] at h
  have h4 := crTn_inj (crTn_lt (by decide)) (by decide) (xor_zero_eq h)
  rcases near_bits _ h3 with h5 | h5
  · omega
  · exact h5 h4
theorem two_bits {g : Nat → Int} {n p q : Nat} (hg : Bytes g n) (hn : 4 ≤ n) (hn2 : n ≤ 44) (hp : p < 8 * n) (hq : q < 8 * n) (hf : opB g n) : opB (flp (flp g p) q) n ↔ q = p := by
  have ho : Off g (flp (flp g p) q) n (2 ^ p ^^^ 2 ^ q) := (Off.flpd hg).trans (Off.flpd ((Off.flpd hg).bytes hg))
  have hE : 2 ^ p ^^^ 2 ^ q < 256 ^ n := by
    rw [pow256]
    have h1 := bit_lt hp
    have h2 := bit_lt hq
    rw [pow256] at h1 h2
    exact Nat.xor_lt_two_pow h1 h2
  rw [ho.fits hg hn hE hf]
  constructor
  · intro h
    rcases Nat.lt_trichotomy p q with h1 | h1 | h1
    · exact absurd h (two_at h1 hq (by omega))
    · exact h1.symm
    · rw [Nat.xor_comm] at h
      exact absurd h (two_at h1 hp (by omega))
  · intro h; subst h
    rw [Nat.xor_self]
    have : ∀ k, crTn k 0 = 0 := by
      intro k
      induction k with
      | zero => rfl
      | succ k ih => simp only [crTn, ih]; rfl
    exact this _
/-- bits below i, and bit i -/
theorem low_bits (b i : Nat) : b % 2 ^ (i + 1) = b % 2 ^ i ^^^ (if b / 2 ^ i % 2 = 1 then 2 ^ i else 0) := by
  apply Nat.eq_of_testBit_eq
  intro j
  rw [Nat.testBit_xor, Nat.testBit_mod_two_pow, Nat.testBit_mod_two_pow]
  have hb : (b / 2 ^ i % 2 = 1) ↔ b.testBit i = true := by
    rw [Nat.testBit_eq_decide_div_mod_eq]; simp
  by_cases h : b.testBit i = true
  · rw [if_pos (hb.2 h), Nat.testBit_two_pow]
    by_cases h1 : j < i
    · simp [show j < i + 1 by omega, h1, show ¬ i = j by omega]
    · by_cases h2 : i = j
      · subst h2; simp [h]
      · simp [show ¬ j < i + 1 by omega, h1, h2]
  · rw [if_neg (fun hh => h (hb.1 hh)), Nat.zero_testBit]
    by_cases h1 : j < i
    · simp [show j < i + 1 by omega, h1]
    · by_cases h2 : i = j
      · subst h2; simp at h; simp [h]
      · simp [show ¬ j < i + 1 by omega, h1]

end Go.Proofs.Ytiaadplhpkggeaa
