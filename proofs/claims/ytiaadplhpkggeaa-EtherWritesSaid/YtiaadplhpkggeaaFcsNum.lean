/-
  Contracts of functions, and plain facts about them, that a claim of this seat uses.
-/
import Derived.Test.YtiaadplhpkggeaaSx
import Derived.Test.YtiaadplhpkggeaaProg
namespace Go.Proofs.Ytiaadplhpkggeaa
open Go.Sx
set_option linter.unusedVariables false
set_option linter.unusedSimpArgs false
set_option maxRecDepth 100000

/-! the check, in plain numbers -/
/-- one turn of the register -/
def crT (x : Nat) : Nat := (x / 2) ^^^ (x % 2 * 3988292384)
/-- n turns -/
def crTn : Nat → Nat → Nat
  | 0, x => x
  | n + 1, x => crT (crTn n x)
theorem crTn_add (m n x : Nat) : crTn (m + n) x = crTn m (crTn n x) := by
  induction m with
  | zero => rw [Nat.zero_add]; rfl
  | succ m ih => rw [show m + 1 + n = (m + n) + 1 by omega]; simp only [crTn, ih]
theorem xor_half (a b : Nat) : (a ^^^ b) / 2 = (a / 2) ^^^ (b / 2) := by have := Nat.xor_div_two_pow (a := a) (b := b) (n := 1); simpa using this
theorem xor_par (a b : Nat) : (a ^^^ b) % 2 = (a % 2) ^^^ (b % 2) := by have := Nat.xor_mod_two_pow (a := a) (b := b) (n := 1); simpa using this
theorem xor4 (a b c d : Nat) : (a ^^^ b) ^^^ (c ^^^ d) = (a ^^^ c) ^^^ (b ^^^ d) := by
  rw [Nat.xor_assoc, Nat.xor_assoc, ← Nat.xor_assoc b c d, Nat.xor_comm b c, Nat.xor_assoc]
theorem crT_xor (a b : Nat) : crT (a ^^^ b) = crT a ^^^ crT b := by
  unfold crT
  rw [xor_half, xor_par, xor4]
  congr 1
  rcases Nat.mod_two_eq_zero_or_one a with h | h <;> rcases Nat.mod_two_eq_zero_or_one b with h' | h' <;> rw [h, h'] <;> decide
theorem crTn_xor (n a b : Nat) : crTn n (a ^^^ b) = crTn n a ^^^ crTn n b := by
  induction n with
  | zero => rfl
  | succ n ih => simp only [crTn, ih, crT_xor]
theorem crT_lt {x : Nat} (h : x < 4294967296) : crT x < 4294967296 := by
  unfold crT
  exact Nat.xor_lt_two_pow (n := 32) (by omega) (by have := Nat.mod_lt x (show 2 > 0 by decide); show _ < 4294967296; omega)
theorem crTn_lt {n x : Nat} (h : x < 4294967296) : crTn n x < 4294967296 := by
  induction n with
  | zero => exact h
  | succ n ih => exact crT_lt ih
theorem crT_two (x : Nat) : crT (2 * x) = x := by
  unfold crT
  rw [show 2 * x / 2 = x by omega, show 2 * x % 2 = 0 by omega, Nat.zero_mul, Nat.xor_zero]
theorem crTn_8 (x : Nat) : crTn 8 (256 * x) = x := by
  rw [show 256 * x = 2 * (2 * (2 * (2 * (2 * (2 * (2 * (2 * x))))))) by omega]
  simp only [crTn, crT_two]
theorem xor_cat {a : Nat} (b : Nat) (h : a < 256) : a ^^^ (256 * b) = a + 256 * b := by
  apply Nat.eq_of_testBit_eq
  intro i
  have e := Nat.testBit_two_pow_mul_add b (b := a) (i := 8) h i
  have e0 := Nat.testBit_two_pow_mul_add b (b := 0) (i := 8) (by decide) i
  rw [Nat.testBit_xor, show a + 256 * b = 2 ^ 8 * b + a by omega, e, show 256 * b = 2 ^ 8 * b + 0 by omega, e0]
  by_cases hi : i < 8
  · rw [if_pos hi, if_pos hi, Nat.zero_testBit, Bool.xor_false]
  · rw [if_neg hi, if_neg hi, Nat.testBit_lt_two_pow (Nat.lt_of_lt_of_le h (Nat.pow_le_pow_right (n := 2) (by decide) (show 8 ≤ i by omega))), Bool.false_xor]
/-- the register behind n bytes -/
def fcR (g : Nat → Int) : Nat → Nat
  | 0 => 4294967295
  | n + 1 => crTn 8 (fcR g n ^^^ (g n).toNat)
theorem fcR_lt {g : Nat → Int} : ∀ {n : Nat}, (∀ r, r < n → 0 ≤ g r ∧ g r < 256) → fcR g n < 4294967296
  | 0, _ => by show (4294967295 : Nat) < 4294967296; decide
  | n + 1, h => by
    have h1 := fcR_lt (n := n) fun r hr => h r (by omega)
    have h2 := h n (by omega)
    exact crTn_lt (Nat.xor_lt_two_pow (n := 32) h1 (by show _ < 4294967296; omega))
theorem fcR_congr {g h : Nat → Int} : ∀ {n : Nat}, (∀ r, r < n → g r = h r) → fcR g n = fcR h n
  | 0, _ => rfl
  | n + 1, e => by simp only [fcR]; rw [fcR_congr fun r hr => e r (by omega), e n (by omega)]
/-- the check -/
def crcI (g : Nat → Int) (n : Nat) : Int := 4294967295 - (fcR g n : Int)
theorem crcI_congr {g h : Nat → Int} {n : Nat} (e : ∀ r, r < n → g r = h r) : crcI g n = crcI h n := by unfold crcI; rw [fcR_congr e]
theorem crcI_bd {g : Nat → Int} {n : Nat} (h : ∀ r, r < n → 0 ≤ g r ∧ g r < 256) : 0 ≤ crcI g n ∧ crcI g n < 4294967296 := by
  have := fcR_lt h
  unfold crcI; omega
theorem ones_xor {x : Nat} (h : x < 4294967296) : x ^^^ (4294967295 - x) = 4294967295 := by
  have h1 : (4294967295 - x) = 4294967295 ^^^ x := by
    have e : (~~~ (BitVec.ofNat 32 x)).toNat = (BitVec.allOnes 32 ^^^ BitVec.ofNat 32 x).toNat := by rw [BitVec.allOnes_xor]
    rw [BitVec.toNat_not, BitVec.toNat_xor, BitVec.toNat_ofNat, Nat.mod_eq_of_lt h, BitVec.toNat_allOnes] at e
    exact e
  rw [h1, Nat.xor_comm 4294967295 x, ← Nat.xor_assoc, Nat.xor_self, Nat.zero_xor]
/-- four bytes are a word of 32 turns -/
theorem four_bytes {R a b c d : Nat} (ha : a < 256) (hb : b < 256) (hc : c < 256) (hd : d < 256) :
    crTn 8 (crTn 8 (crTn 8 (crTn 8 (R ^^^ a) ^^^ b) ^^^ c) ^^^ d) = crTn 32 (R ^^^ (a + 256 * (b + 256 * (c + 256 * d)))) := by
  rw [← xor_cat _ ha, ← Nat.xor_assoc, show 32 = 24 + 8 from rfl, crTn_add, crTn_xor 8 (R ^^^ a), crTn_8,
    ← xor_cat _ hb, ← Nat.xor_assoc, show 24 = 16 + 8 from rfl, crTn_add, crTn_xor 8 (_ ^^^ b), crTn_8,
    ← xor_cat _ hc, ← Nat.xor_assoc, show 16 = 8 + 8 from rfl, crTn_add, crTn_xor 8 (_ ^^^ c), crTn_8]
/-- the bytes of a text with its check behind -/
def clG (g : Nat → Int) (n : Nat) : Nat → Int := fun r => if r < n then g r else if r = n then crcI g n % 256 else if r = n + 1 then crcI g n / 256 % 256 else if r = n + 2 then crcI g n / 65536 % 256 else crcI g n / 16777216 % 256
def le32 (g : Nat → Int) (n : Nat) : Int := g n + 256 * g (n + 1) + 65536 * g (n + 2) + 16777216 * g (n + 3)
theorem clG_wf {g : Nat → Int} {n : Nat} (h : ∀ r, r < n → 0 ≤ g r ∧ g r < 256) (r : Nat) : 0 ≤ clG g n r ∧ clG g n r < 256 := by
  unfold clG
  split
  · exact h r (by assumption)
  · repeat' split
    all_goals omega
theorem clG_old {g : Nat → Int} {n r : Nat} (h : r < n) : clG g n r = g r := if_pos h
theorem clG_crc (g : Nat → Int) (n : Nat) : crcI (clG g n) n = crcI g n := crcI_congr fun _ h => clG_old h
theorem clG_0 (g : Nat → Int) (n : Nat) : clG g n n = crcI g n % 256 := by unfold clG; rw [if_neg (by omega), if_pos rfl]
theorem clG_1 (g : Nat → Int) (n : Nat) : clG g n (n + 1) = crcI g n / 256 % 256 := by unfold clG; rw [if_neg (by omega), if_neg (by omega), if_pos rfl]
theorem clG_2 (g : Nat → Int) (n : Nat) : clG g n (n + 2) = crcI g n / 65536 % 256 := by unfold clG; rw [if_neg (by omega), if_neg (by omega), if_neg (by omega), if_pos rfl]
theorem clG_3 (g : Nat → Int) (n : Nat) : clG g n (n + 3) = crcI g n / 16777216 % 256 := by unfold clG; rw [if_neg (by omega), if_neg (by omega), if_neg (by omega), if_neg (by omega)]
theorem clG_le {g : Nat → Int} {n : Nat} (h : ∀ r, r < n → 0 ≤ g r ∧ g r < 256) : le32 (clG g n) n = crcI g n := by
  have := crcI_bd h
  unfold le32; rw [clG_0, clG_1, clG_2, clG_3]; omega
/-- the check of a text with its check behind is always the same -/
theorem clG_rest {g : Nat → Int} {n : Nat} (h : ∀ r, r < n → 0 ≤ g r ∧ g r < 256) : crcI (clG g n) (n + 4) = 558161692 := by
  have hb := crcI_bd h
  have hl := fcR_lt h
  have e := four_bytes (R := fcR g n) (a := (clG g n n).toNat) (b := (clG g n (n + 1)).toNat) (c := (clG g n (n + 2)).toNat) (d := (clG g n (n + 3)).toNat)
    (by have := clG_wf h n; omega) (by have := clG_wf h (n + 1); omega) (by have := clG_wf h (n + 2); omega) (by have := clG_wf h (n + 3); omega)
  have hw : (clG g n n).toNat + 256 * ((clG g n (n + 1)).toNat + 256 * ((clG g n (n + 2)).toNat + 256 * (clG g n (n + 3)).toNat)) = 4294967295 - fcR g n := by
    have h0 := clG_le h
    have h1 := clG_wf h n
    have h2 := clG_wf h (n + 1)
    have h3 := clG_wf h (n + 2)
    have h4 := clG_wf h (n + 3)
    unfold le32 at h0
    have hc : crcI g n = 4294967295 - (fcR g n : Int) := rfl
    omega
  rw [hw, ones_xor hl] at e
  have e2 : fcR (clG g n) (n + 4) = 3736805603 := by
    show crTn 8 (crTn 8 (crTn 8 (crTn 8 (fcR (clG g n) n ^^^ _) ^^^ _) ^^^ _) ^^^ _) = _
    rw [fcR_congr (h := g) (fun r hr => clG_old hr), e]
    decide +kernel
  unfold crcI; rw [e2]; rfl
theorem clG_congr {g h : Nat → Int} {n : Nat} (e : ∀ r, r < n → g r = h r) (r : Nat) : clG g n r = clG h n r := by
  unfold clG
  rw [crcI_congr e]
  by_cases hr : r < n
  · rw [if_pos hr, if_pos hr, e r hr]
  · rw [if_neg hr, if_neg hr]

end Go.Proofs.Ytiaadplhpkggeaa
