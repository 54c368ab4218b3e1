/-
  Contracts of functions, and plain facts about them, that a claim of this seat uses.
-/
import Derived.Test.YtiaadplhpkggeaaSx
import Derived.Test.YtiaadplhpkggeaaFcsNum
import Derived.Test.YtiaadplhpkggeaaFcsBits
import Derived.Test.YtiaadplhpkggeaaFcsA
import Derived.Test.YtiaadplhpkggeaaFcsB
import Derived.Test.YtiaadplhpkggeaaFcsIn
import Derived.Test.YtiaadplhpkggeaaFcsC
import Derived.Test.YtiaadplhpkggeaaFcsJ
import Derived.Test.YtiaadplhpkggeaaFcsH
import Derived.Test.YtiaadplhpkggeaaProg
namespace Go.Proofs.Ytiaadplhpkggeaa
open Go.Sx
set_option linter.unusedVariables false
set_option linter.unusedSimpArgs false
set_option maxRecDepth 100000

/-! frames: plain facts. -/
structure Fr where
  a0 : Int
  a1 : Int
  a2 : Int
  a3 : Int
  a4 : Int
  a5 : Int
  b0 : Int
  b1 : Int
  b2 : Int
  b3 : Int
  b4 : Int
  b5 : Int
  tg : Bool
  vid : Int
  prio : Int
  drop : Bool
  many : Bool
  seq : Int
  typ : Int
  data : IS
def siz (f : Fr) : Int := 20 + f.data.len + (if f.tg = true then 4 else 0) + (if f.many = true then 6 else 0)
def BadN (f : Fr) : Prop := f.vid < 0 ∨ 4094 < f.vid ∨ f.prio < 0 ∨ 7 < f.prio ∨ f.seq < 0 ∨ 65535 < f.seq ∨ f.typ < 1536 ∨ 65535 < f.typ
def BadT (f : Fr) : Prop := (f.tg = false ∧ (f.vid ≠ 0 ∨ f.prio ≠ 0 ∨ f.drop = true)) ∨ (f.many = false ∧ f.seq ≠ 0)
instance (f : Fr) : Decidable (BadN f) := by unfold BadN; exact inferInstance
instance (f : Fr) : Decidable (BadT f) := by unfold BadT; exact inferInstance
def chk (f : Fr) : Int := if BadN f then 1 else if BadT f then 1 else if f.typ = 33024 ∨ f.typ = 61889 then 23 else if 1600 < siz f then 3 else 0
theorem chk_0 {f : Fr} (h : chk f = 0) : ¬ BadN f ∧ ¬ BadT f ∧ f.typ ≠ 33024 ∧ f.typ ≠ 61889 ∧ siz f ≤ 1600 := by
  unfold chk at h
  split at h
  · cases h
  · split at h
    · cases h
    · split at h
      · cases h
      · split at h
        · cases h
        · refine ⟨by assumption, by assumption, ?_, ?_, by omega⟩ <;> omega
theorem chk_1 {f : Fr} (h : BadN f ∨ BadT f) : chk f = 1 := by
  unfold chk
  split
  · rfl
  · split
    · rfl
    · rcases h with h | h <;> contradiction
theorem chk_23 {f : Fr} (h : ¬ BadN f) (h2 : ¬ BadT f) (h3 : f.typ = 33024 ∨ f.typ = 61889) : chk f = 23 := by
  unfold chk
  rw [if_neg h, if_neg h2, if_pos h3]
theorem chk_3 {f : Fr} (h : ¬ BadN f) (h2 : ¬ BadT f) (h3 : ¬ (f.typ = 33024 ∨ f.typ = 61889)) (h4 : 1600 < siz f) : chk f = 3 := by
  unfold chk
  rw [if_neg h, if_neg h2, if_neg h3, if_pos h4]
theorem chk_ok {f : Fr} (h : ¬ BadN f) (h2 : ¬ BadT f) (h3 : ¬ (f.typ = 33024 ∨ f.typ = 61889)) (h4 : ¬ 1600 < siz f) : chk f = 0 := by
  unfold chk
  rw [if_neg h, if_neg h2, if_neg h3, if_neg h4]
def tag (f : Fr) : Int := f.prio * 8192 + (if f.drop = true then 4096 else 0) + f.vid
def hi (x : Int) : Int := x / 256 % 256
def lo (x : Int) : Int := x % 256
/-- what stands ahead of the type -/
def pre (f : Fr) : List Int := [f.a0, f.a1, f.a2, f.a3, f.a4, f.a5, f.b0, f.b1, f.b2, f.b3, f.b4, f.b5] ++ (if f.tg = true then [129, 0, hi (tag f), lo (tag f)] else []) ++ (if f.many = true then [241, 193, 0, 0, hi f.seq, lo f.seq] else [])
def hl (f : Fr) : Nat := 12 + (if f.tg = true then 4 else 0) + (if f.many = true then 6 else 0)
theorem pre_len (f : Fr) : (pre f).length = hl f := by
  unfold pre hl
  cases f.tg <;> cases f.many <;> rfl
/-- all that stands ahead of the check -/
def inG (f : Fr) (r : Nat) : Int := if r < hl f then (pre f).getD r 0 else if r < hl f + 4 then [hi f.typ, lo f.typ, hi f.data.len, lo f.data.len].getD (r - hl f) 0 else if r < hl f + 4 + f.data.len then f.data.g (r - (hl f + 4)) else 0
def tot (f : Fr) : Nat := max 60 (hl f + 4 + f.data.len)
theorem siz_tot (f : Fr) : max 64 (siz f) = ((tot f + 4 : Nat) : Int) := by
  unfold siz tot hl
  cases f.tg <;> cases f.many <;> simp <;> omega
theorem hl_c (f : Fr) : hl f = 12 ∨ hl f = 16 ∨ hl f = 18 ∨ hl f = 22 := by
  unfold hl
  cases f.tg <;> cases f.many <;> simp
/-- as it comes in -/
structure FrW (f : Fr) : Prop where
  a : (0 ≤ f.a0 ∧ f.a0 < 256) ∧ (0 ≤ f.a1 ∧ f.a1 < 256) ∧ (0 ≤ f.a2 ∧ f.a2 < 256) ∧ (0 ≤ f.a3 ∧ f.a3 < 256) ∧ (0 ≤ f.a4 ∧ f.a4 < 256) ∧ (0 ≤ f.a5 ∧ f.a5 < 256)
  b : (0 ≤ f.b0 ∧ f.b0 < 256) ∧ (0 ≤ f.b1 ∧ f.b1 < 256) ∧ (0 ≤ f.b2 ∧ f.b2 < 256) ∧ (0 ≤ f.b3 ∧ f.b3 < 256) ∧ (0 ≤ f.b4 ∧ f.b4 < 256) ∧ (0 ≤ f.b5 ∧ f.b5 < 256)
  d : Bw f.data
theorem hi_bd (x : Int) : 0 ≤ hi x ∧ hi x < 256 := by unfold hi; omega
theorem lo_bd (x : Int) : 0 ≤ lo x ∧ lo x < 256 := by unfold lo; omega
theorem getD_bd {l : List Int} (h : ∀ x ∈ l, 0 ≤ x ∧ x < 256) (r : Nat) : 0 ≤ l.getD r 0 ∧ l.getD r 0 < 256 := by
  rw [List.getD_eq_getElem?_getD]
  cases hr : l[r]? with
  | none => simp
  | some x => exact h x (List.mem_of_getElem? hr)
theorem inG_wf {f : Fr} (h : FrW f) (r : Nat) : 0 ≤ inG f r ∧ inG f r < 256 := by
  have h9 := h
  obtain ⟨⟨x0, x1, x2, x3, x4, x5⟩, ⟨y0, y1, y2, y3, y4, y5⟩, hd⟩ := h
  unfold inG
  split
  · refine getD_bd ?_ r
    intro x hx
    unfold pre at hx
    simp only [List.mem_append, List.mem_cons, List.not_mem_nil, or_false] at hx
    rcases hx with (hx | hx) | hx
    · rcases hx with hx | hx | hx | hx | hx | hx | hx | hx | hx | hx | hx | hx <;> (subst hx; assumption)
    · split at hx
      · simp only [List.mem_cons, List.not_mem_nil, or_false] at hx
        rcases hx with hx | hx | hx | hx
        · omega
        · omega
        · rw [hx]; exact hi_bd _
        · rw [hx]; exact lo_bd _
      · cases hx
    · split at hx
      · simp only [List.mem_cons, List.not_mem_nil, or_false] at hx
        rcases hx with hx | hx | hx | hx | hx | hx
        · omega
        · omega
        · omega
        · omega
        · rw [hx]; exact hi_bd _
        · rw [hx]; exact lo_bd _
      · cases hx
  · split
    · refine getD_bd ?_ _
      intro x hx
      simp only [List.mem_cons, List.not_mem_nil, or_false] at hx
      rcases hx with hx | hx | hx | hx
      · rw [hx]; exact hi_bd _
      · rw [hx]; exact lo_bd _
      · rw [hx]; exact hi_bd _
      · rw [hx]; exact lo_bd _
    · split
      · exact hd.1 _ (by omega)
      · omega
/-! bits -/
theorem nat64 {a : Int} (ha : 0 ≤ a) (hb : a < 9223372036854775808) : (BitVec.ofInt 64 a).toNat = a.toNat := nat_ofInt ha (by show _ < (18446744073709551616 : Int); omega)
theorem or64 {a b : Int} (ha : 0 ≤ a ∧ a < 4294967296) (hb : 0 ≤ b ∧ b < 4294967296) : bits .or .i64 a b = ((a.toNat ||| b.toNat : Nat) : Int) := by
  have h3 : (BitVec.ofInt 64 a ||| BitVec.ofInt 64 b).toNat = a.toNat ||| b.toNat := by rw [BitVec.toNat_or, nat64 ha.1 (by omega), nat64 hb.1 (by omega)]
  have h4 : a.toNat ||| b.toNat < 2 ^ 32 := Nat.or_lt_two_pow (by show _ < 4294967296; omega) (by show _ < 4294967296; omega)
  show IntKind.i64.wrap ((BitVec.ofInt 64 a ||| BitVec.ofInt 64 b).toNat : Int) = _
  rw [h3, w64' (by omega) (by omega)]
theorem or_word {a b : Int} (ha : 0 ≤ a ∧ a < 256) (hb : 0 ≤ b ∧ b < 256) : bits .or .i64 (a * 256) b = a * 256 + b := by
  rw [or64 (by omega) (by omega)]
  have e := Nat.two_pow_add_eq_or_of_lt (i := 8) (b := b.toNat) (by omega) a.toNat
  rw [show (a * 256).toNat = 2 ^ 8 * a.toNat by omega, ← e]; omega
theorem or_tag {p v : Int} (hp : 0 ≤ p ∧ p < 8) (hv : 0 ≤ v ∧ v < 4096) : bits .or .i64 (p * 8192) v = p * 8192 + v := by
  rw [or64 (by omega) (by omega)]
  have e := Nat.two_pow_add_eq_or_of_lt (i := 13) (b := v.toNat) (by omega) p.toNat
  rw [show (p * 8192).toNat = 2 ^ 13 * p.toNat by omega, ← e]; omega
theorem or_drop {p v : Int} (hp : 0 ≤ p ∧ p < 8) (hv : 0 ≤ v ∧ v < 4096) : bits .or .i64 (p * 8192 + v) 4096 = p * 8192 + 4096 + v := by
  rw [or64 (by omega) (by omega)]
  have e1 := Nat.two_pow_add_eq_or_of_lt (i := 13) (b := v.toNat) (by omega) p.toNat
  have e2 := Nat.two_pow_add_eq_or_of_lt (i := 12) (b := v.toNat) (by omega) 1
  have e3 := Nat.two_pow_add_eq_or_of_lt (i := 13) (b := 2 ^ 12 * 1 + v.toNat) (by omega) p.toNat
  have e4 : (2 ^ 13 * p.toNat ||| v.toNat) ||| 4096 = 2 ^ 13 * p.toNat ||| (2 ^ 12 * 1 + v.toNat) := by
    rw [e2, Nat.or_assoc, Nat.or_comm v.toNat]
  rw [show (p * 8192 + v).toNat = 2 ^ 13 * p.toNat + v.toNat by omega, show (4096 : Int).toNat = 4096 from rfl, e1, e4, ← e3]; omega
theorem and64 {a : Int} (ha : 0 ≤ a ∧ a < 4294967296) (k : Nat) (hk : k ≤ 32) : bits .and .i64 a ((2 ^ k - 1 : Nat) : Int) = a % 2 ^ k := by
  have hp : 2 ^ k ≤ 2 ^ 32 := Nat.pow_le_pow_right (by decide) hk
  have hp2 : (2 : Nat) ^ 32 = 4294967296 := by decide
  have hpp : 0 < 2 ^ k := Nat.pow_pos (by decide)
  have h3 : (BitVec.ofInt 64 a &&& BitVec.ofInt 64 ((2 ^ k - 1 : Nat) : Int)).toNat = a.toNat % 2 ^ k := by
    rw [BitVec.toNat_and, nat64 ha.1 (by omega), nat64 (by omega) (by omega), Int.toNat_natCast, Nat.and_two_pow_sub_one_eq_mod]
  have hm : a.toNat % 2 ^ k ≤ a.toNat := Nat.mod_le _ _
  show IntKind.i64.wrap ((BitVec.ofInt 64 a &&& BitVec.ofInt 64 ((2 ^ k - 1 : Nat) : Int)).toNat : Int) = _
  rw [h3, w64' (by omega) (by omega)]
  have : a = ((a.toNat : Nat) : Int) := by omega
  rw [this, Int.toNat_natCast]
  simp
theorem and_1 {a : Int} (ha : 0 ≤ a ∧ a < 4294967296) : bits .and .i64 a 1 = a % 2 := and64 ha 1 (by decide)
theorem and_4095 {a : Int} (ha : 0 ≤ a ∧ a < 4294967296) : bits .and .i64 a 4095 = a % 4096 := and64 ha 12 (by decide)

end Go.Proofs.Ytiaadplhpkggeaa
