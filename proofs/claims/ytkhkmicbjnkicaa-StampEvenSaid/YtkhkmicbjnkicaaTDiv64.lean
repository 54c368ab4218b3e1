/-
  Contracts of functions, and plain facts about them, that a claim of this seat uses.
-/
import Derived.Test.YtkhkmicbjnkicaaSx
import Derived.Test.YtkhkmicbjnkicaaTWideNum
import Derived.Test.YtkhkmicbjnkicaaTRef
import Derived.Test.YtkhkmicbjnkicaaTWideU
import Derived.Test.YtkhkmicbjnkicaaTLen
import Derived.Test.YtkhkmicbjnkicaaProg
namespace Go.Proofs.Ytkhkmicbjnkicaa
open Go.Sx
set_option linter.unusedVariables false
set_option linter.unusedSimpArgs false
set_option maxRecDepth 100000

/-! A number of 128 bits by one of 64. -/
theorem fn27 : FnOf Try.prog 27 Try.f27 := ⟨Try.func27, rfl, rfl, mixed⟩
theorem bits_or_u64 (a b : Int) (ha : U64 a) (hb : U64 b) : bits .or .u64 a b = ((a.toNat ||| b.toNat : Nat) : Int) := by
  have h1 : (BitVec.ofInt 64 a).toNat = a.toNat := by rw [BitVec.toNat_ofInt]; unfold U64 at ha; omega
  have h2 : (BitVec.ofInt 64 b).toNat = b.toNat := by rw [BitVec.toNat_ofInt]; unfold U64 at hb; omega
  have h3 : (BitVec.ofInt 64 a ||| BitVec.ofInt 64 b).toNat = a.toNat ||| b.toNat := by rw [BitVec.toNat_or, h1, h2]
  show IntKind.u64.wrap ((BitVec.ofInt 64 a ||| BitVec.ofInt 64 b).toNat : Int) = _
  have h4 := (BitVec.ofInt 64 a ||| BitVec.ofInt 64 b).isLt
  rw [wu64' (by omega) (by omega), h3]
theorem or_add {a b : Nat} {i : Nat} (h : b < 2 ^ i) : (a * 2 ^ i ||| b) = a * 2 ^ i + b := by
  rw [← Nat.shiftLeft_eq, Nat.shiftLeft_add_eq_or_of_lt h]
/-- 2 to the power of how far y is moved -/
def dS_ (y : Int) : Nat := (64 - bl y).toNat
def dP (y : Int) : Int := ((2 ^ dS_ y : Nat) : Int)
def dY (y : Int) : Int := y * dP y
def dN (h l y : Int) : Int := (h * 18446744073709551616 + l) * dP y / 18446744073709551616
def dL (h l y : Int) : Int := (h * 18446744073709551616 + l) * dP y % 18446744073709551616
theorem dS_lt {y : Int} (hy : U64 y) (h0 : 0 < y) : dS_ y ≤ 63 ∧ bl y = 64 - dS_ y := by
  have h1 := bl_bd hy
  obtain ⟨n, h2, _⟩ := bl_spec h0
  unfold dS_; omega
theorem dY_bd {y : Int} (hy : U64 y) (h0 : 0 < y) : 9223372036854775808 ≤ dY y ∧ dY y < 18446744073709551616 ∧ 0 < dP y := by
  obtain ⟨h1, h2⟩ := dS_lt hy h0
  obtain ⟨n, h3, h4, h5⟩ := bl_spec h0
  have hp : (0 : Int) < ((2 ^ dS_ y : Nat) : Int) := by exact_mod_cast Nat.pow_pos (by decide)
  have hn : n + dS_ y = 63 := by omega
  have e1 : ((2 ^ n : Nat) : Int) * ((2 ^ dS_ y : Nat) : Int) = 9223372036854775808 := by
    rw [← Int.natCast_mul, ← Nat.pow_add, hn]; rfl
  have e2 : ((2 ^ (n + 1) : Nat) : Int) * ((2 ^ dS_ y : Nat) : Int) = 18446744073709551616 := by
    rw [← Int.natCast_mul, ← Nat.pow_add, show n + 1 + dS_ y = 64 by omega]; rfl
  unfold dY dP
  refine ⟨?_, ?_, hp⟩
  · rw [← e1]; exact Int.mul_le_mul_of_nonneg_right h4 (by omega)
  · rw [← e2]; exact Int.mul_lt_mul_of_pos_right h5 hp
theorem dN_lt {h l y : Int} (hy : U64 y) (h0 : 0 < y) (hl : U64 l) (hh : 0 ≤ h ∧ h < y) : 0 ≤ dN h l y ∧ dN h l y < dY y := by
  obtain ⟨_, _, hp⟩ := dY_bd hy h0
  unfold U64 at hl
  have h1 : (h * 18446744073709551616 + l) * dP y < y * 18446744073709551616 * dP y := Int.mul_lt_mul_of_pos_right (by omega) hp
  have h2 : y * 18446744073709551616 * dP y = dY y * 18446744073709551616 := by unfold dY; rw [Int.mul_assoc, Int.mul_comm 18446744073709551616, ← Int.mul_assoc]
  have h3 : 0 ≤ (h * 18446744073709551616 + l) * dP y := Int.mul_nonneg (by omega) (by omega)
  unfold dN; omega
/-- a digit of the quotient -/
def qs (Y n d : Int) : Int := (n * 4294967296 + d) / Y
theorem q_val {y1 y0 n d q r : Int} (hr : r + q * y1 = n) : q * (y1 * 4294967296 + y0) = (n - r) * 4294967296 + q * y0 := by
  rw [Int.mul_add, ← Int.mul_assoc]
  have : q * y1 = n - r := by omega
  rw [this]
theorem q_le {y1 y0 n d q r : Int} (hY : 0 < y1 * 4294967296 + y0) (hr : r + q * y1 = n) (hc : q * y0 ≤ 4294967296 * r + d) : q ≤ qs (y1 * 4294967296 + y0) n d := by
  unfold qs
  rw [Int.le_ediv_iff_mul_le hY, q_val (d := d) hr]; omega
theorem q_gt {y1 y0 n d q r : Int} (hY : 0 < y1 * 4294967296 + y0) (hr : r + q * y1 = n) (hc : 4294967296 * r + d < q * y0) : qs (y1 * 4294967296 + y0) n d < q := by
  unfold qs
  rw [Int.ediv_lt_iff_lt_mul hY, q_val (d := d) hr]; omega
theorem qs_lt {Y n d : Int} (hY : 0 < Y) (hn : 0 ≤ n ∧ n < Y) (hd : 0 ≤ d ∧ d < 4294967296) : 0 ≤ qs Y n d ∧ qs Y n d < 4294967296 := by
  unfold qs
  refine ⟨Int.ediv_nonneg (by omega) (by omega), ?_⟩
  rw [Int.ediv_lt_iff_lt_mul hY]; omega
/-- what is tried first -/
theorem q_first {y1 y0 n d : Int} (h1 : 2147483648 ≤ y1) (h0 : 0 ≤ y0 ∧ y0 < 4294967296) (hn : 0 ≤ n ∧ n < y1 * 4294967296 + y0) (hd : 0 ≤ d ∧ d < 4294967296) : qs (y1 * 4294967296 + y0) n d ≤ n / y1 ∧ n / y1 ≤ 4294967297 := by
  constructor
  · unfold qs
    have hy : 0 < y1 * 4294967296 := by omega
    have e1 : n / y1 = n * 4294967296 / (y1 * 4294967296) := (Int.mul_ediv_mul_of_pos_left n y1 (by decide)).symm
    have e2 : n * 4294967296 / (y1 * 4294967296) = (n * 4294967296 + d) / (y1 * 4294967296) := by
      have := Int.mul_ediv_add_emod n y1
      have h3 := Int.emod_nonneg n (show y1 ≠ 0 by omega)
      have h4 := Int.emod_lt_of_pos n (show 0 < y1 by omega)
      have hq : (n * 4294967296 + d) / (y1 * 4294967296) = n / y1 := by
        refine (Int.ediv_eq_iff_of_pos hy).2 ⟨?_, ?_⟩
        · have : n / y1 * (y1 * 4294967296) = y1 * (n / y1) * 4294967296 := by rw [← Int.mul_assoc, Int.mul_comm (n / y1)]
          rw [this]; omega
        · have : n / y1 * (y1 * 4294967296) = y1 * (n / y1) * 4294967296 := by rw [← Int.mul_assoc, Int.mul_comm (n / y1)]
          rw [this]; omega
      rw [hq, ← e1]
    rw [e1, e2]
    have h5 : 0 ≤ n * 4294967296 + d := by omega
    refine (Int.le_ediv_iff_mul_le hy).2 ?_
    refine Int.le_trans (Int.mul_le_mul_of_nonneg_left (show y1 * 4294967296 ≤ y1 * 4294967296 + y0 by omega) (Int.ediv_nonneg h5 (by omega))) ?_
    exact Int.ediv_mul_le _ (by omega)
  · have : n / y1 < 4294967298 := by
      rw [Int.ediv_lt_iff_lt_mul (by omega)]; omega
    omega
/-! ### the walk -/
structure DA where
  h : Int
  l : Int
  b : Int
  P : Int
  Y : Int
  y1 : Int
  y0 : Int
  N : Int
  L : Int
  d1 : Int
  d0 : Int
  Q1 : Int
  M : Int
  Q0 : Int
  s : Nat
abbrev laD1 (a : DA) : LA where
  ι := Int × Int
  inv := fun x => x.2 + x.1 * a.y1 = a.N ∧ a.Q1 ≤ x.1 ∧ x.1 ≤ 4294967297 ∧ 0 ≤ x.2 ∧ x.2 < 4294967296
  T := fun x => ⟨135, [(15, int_ .u64 x.1), (16, int_ .u64 x.2), (2, int_ .u64 a.Y), (8, int_ .u64 a.s), (9, int_ .u64 a.y1), (10, int_ .u64 a.y0), (11, int_ .u64 a.N), (12, int_ .u64 a.L), (13, int_ .u64 a.d1), (14, int_ .u64 a.d0)], []⟩
  μ := fun x => x.1.toNat
  ren := fun _ => []
abbrev laD2 (a : DA) : LA where
  ι := Int × Int
  inv := fun x => x.2 + x.1 * a.y1 = a.M ∧ a.Q0 ≤ x.1 ∧ x.1 ≤ 4294967297 ∧ 0 ≤ x.2 ∧ x.2 < 4294967296
  T := fun x => ⟨135, [(18, int_ .u64 x.1), (16, int_ .u64 x.2), (2, int_ .u64 a.Y), (8, int_ .u64 a.s), (9, int_ .u64 a.y1), (10, int_ .u64 a.y0), (15, int_ .u64 a.Q1), (17, int_ .u64 a.M), (14, int_ .u64 a.d0)], []⟩
  μ := fun x => x.1.toNat
  ren := fun _ => []
/-- behind the first digit, and behind the second one -/
abbrev laC (a : DA) : LA where
  ι := Int
  inv := fun x => x = a.Q1
  T := fun x => ⟨135, [(15, int_ .u64 x), (2, int_ .u64 a.Y), (8, int_ .u64 a.s), (9, int_ .u64 a.y1), (10, int_ .u64 a.y0), (11, int_ .u64 a.N), (12, int_ .u64 a.L), (13, int_ .u64 a.d1), (14, int_ .u64 a.d0)], []⟩
  μ := fun _ => 0
  ren := fun _ => []
abbrev laC2 (a : DA) : LA where
  ι := Int
  inv := fun x => x = a.Q0
  T := fun x => ⟨135, [(18, int_ .u64 x), (2, int_ .u64 a.Y), (8, int_ .u64 a.s), (15, int_ .u64 a.Q1), (17, int_ .u64 a.M), (14, int_ .u64 a.d0)], []⟩
  μ := fun _ => 0
  ren := fun _ => []
noncomputable def cxDiv (a : DA) : Cx Try.prog := { ps := [lzS], es := [], is := [], n0 := 0, loops := fun i => match i with | 17 => some (.inv (laD1 a)) | 24 => some (.inv (laD2 a)) | _ => none, cuts := fun i => match i with | 21 => some (laC a) | 28 => some (laC2 a) | _ => none }
attribute [local irreducible] enter
/-- what the numbers are to each other -/
structure DOK (a : DA) : Prop where
  hh : 0 ≤ a.h ∧ a.h < a.b
  hl : U64 a.l
  hb : U64 a.b
  eY : a.Y = a.b * a.P
  Yb : 9223372036854775808 ≤ a.Y ∧ a.Y < 18446744073709551616
  hp : 0 < a.P
  hs : a.s ≤ 63 ∧ bl a.b = 64 - a.s
  hP : (2 : Int) ^ min a.s 64 = a.P
  Y1 : a.y1 = a.Y / 4294967296
  Y0 : a.y0 = a.Y % 4294967296
  N : bits .or .u64 (IntKind.u64.wrap (a.h * a.P)) (a.l / (2 ^ min (64 - (a.s : Int)).toNat 64)) = a.N
  Nb : 0 ≤ a.N ∧ a.N < a.Y
  L : a.L = IntKind.u64.wrap (a.l * a.P)
  d1 : a.d1 = a.L / 4294967296
  d0 : a.d0 = a.L % 4294967296
  Q1 : a.Q1 = (a.N * 4294967296 + a.d1) / a.Y
  M : a.M = (a.N * 4294967296 + a.d1) % a.Y
  Q0 : a.Q0 = (a.M * 4294967296 + a.d0) / a.Y
  quo : a.Q1 * 4294967296 + a.Q0 = (a.h * 18446744073709551616 + a.l) / a.b
  rem : (a.M * 4294967296 + a.d0) % a.Y / a.P = (a.h * 18446744073709551616 + a.l) % a.b
theorem fdiv_p2 (n : Int) (k : Nat) : n.fdiv (2 ^ k) = n / 2 ^ k := Int.fdiv_eq_ediv_of_nonneg _ (Int.pow_nonneg (by decide))
theorem mul_bd {a b : Int} (ha : 0 ≤ a ∧ a < 4294967296) (hb : 0 ≤ b ∧ b < 4294967296) : 0 ≤ a * b ∧ a * b < 18446744073709551616 := by
  have h1 : 0 ≤ a * b := Int.mul_nonneg ha.1 hb.1
  have h2 : a * b ≤ 4294967295 * 4294967295 := Int.mul_le_mul (by omega) (by omega) hb.1 (by decide)
  omega
theorem step_dec {y1 n q r : Int} (h : r + q * y1 = n) : r + y1 + (q - 1) * y1 = n := by rw [Int.sub_mul, Int.one_mul]; omega
theorem loop_facts {y1 y0 n d Q : Int} (h1 : 2147483648 ≤ y1) (h0 : 0 ≤ y0 ∧ y0 < 4294967296) (hd : 0 ≤ d ∧ d < 4294967296) (hQ : Q = (n * 4294967296 + d) / (y1 * 4294967296 + y0)) (x : Int × Int) (hx : x.2 + x.1 * y1 = n) :
    (0 ≤ x.1 → x.1 < 4294967296 → IntKind.u64.wrap (x.1 * y0) = x.1 * y0) ∧ (4294967296 * x.2 + d < x.1 * y0 → Q < x.1) ∧ (x.1 * y0 ≤ 4294967296 * x.2 + d → x.1 ≤ Q) ∧ x.2 + y1 + (x.1 - 1) * y1 = n ∧ (4294967296 ≤ x.2 + y1 → x.1 ≤ 4294967297 → x.1 - 1 ≤ Q) := by
  subst hQ
  have hY : 0 < y1 * 4294967296 + y0 := by omega
  refine ⟨fun a b => wu64' (mul_bd ⟨a, b⟩ h0).1 (mul_bd ⟨a, b⟩ h0).2, fun a => q_gt hY hx a, fun a => q_le hY hx a, step_dec hx, fun a b => ?_⟩
  refine q_le hY (step_dec hx) ?_
  rcases Int.lt_or_le 0 (x.1 - 1) with hc | hc
  · have := Int.mul_le_mul (show x.1 - 1 ≤ 4294967296 by omega) (show y0 ≤ 4294967295 by omega) h0.1 (by decide)
    omega
  · have := Int.mul_le_mul_of_nonneg_right hc h0.1
    omega
set_option maxHeartbeats 4000000 in
theorem div64_core (a : DA) (k : DOK a) : Runs (cxDiv a) Try.f27 [int_ .u64 a.h, int_ .u64 a.l, int_ .u64 a.b] [] fun v _ => isRes (.tup [u64_ ((a.h * 18446744073709551616 + a.l) / a.b), u64_ ((a.h * 18446744073709551616 + a.l) % a.b)]) v := by
  have hh := k.hh
  have hl := k.hl
  have hb := k.hb
  have Yb := k.Yb
  have hs := k.hs
  have Y1 := k.Y1
  have Y0 := k.Y0
  have Nb := k.Nb
  have d1 := k.d1
  have d0 := k.d0
  have hP := k.hP
  have Lb : 0 ≤ a.L ∧ a.L < 18446744073709551616 := by have := k.L; rw [wu64] at this; omega
  have hY : a.Y = a.y1 * 4294967296 + a.y0 := by omega
  have Mb : 0 ≤ a.M ∧ a.M < a.Y := by rw [k.M]; exact ⟨Int.emod_nonneg _ (by omega), Int.emod_lt_of_pos _ (by omega)⟩
  have q1 := qs_lt (Y := a.Y) (n := a.N) (d := a.d1) (by omega) Nb (by omega)
  have q0 := qs_lt (Y := a.Y) (n := a.M) (d := a.d0) (by omega) Mb (by omega)
  unfold qs at q1 q0
  rw [← k.Q1] at q1
  rw [← k.Q0] at q0
  have f1 := q_first (y1 := a.y1) (y0 := a.y0) (n := a.N) (d := a.d1) (by omega) (by omega) (by omega) (by omega)
  have f0 := q_first (y1 := a.y1) (y0 := a.y0) (n := a.M) (d := a.d0) (by omega) (by omega) (by omega) (by omega)
  unfold qs at f1 f0
  rw [← hY, ← k.Q1] at f1
  rw [← hY, ← k.Q0] at f0
  have w1 : IntKind.u64.wrap (64 - bl a.b) = a.s := by rw [hs.2, wu64' (by omega) (by omega)]; omega
  have w2 : IntKind.u64.wrap (64 - (a.s : Int)) = 64 - a.s := wu64' (by omega) (by omega)
  have eY : IntKind.u64.wrap (a.b * a.P) = a.Y := by rw [← k.eY]; exact wu64' (by omega) (by omega)
  have e10 : bits .and .u64 a.Y 4294967295 = a.y0 := by rw [and_low32 _ (by omega) (by omega), Y0]
  have e9 : a.Y / 4294967296 = a.y1 := Y1.symm
  have eL : IntKind.u64.wrap (a.l * a.P) = a.L := k.L.symm
  have e14 : bits .and .u64 a.L 4294967295 = a.d0 := by rw [and_low32 _ (by omega) (by omega), d0]
  have e13 : a.L / 4294967296 = a.d1 := d1.symm
  have eN := k.N
  have c32 : (2 : Int) ^ min (Int.toNat 32) 64 = 4294967296 := by decide
  have mN := Int.mul_ediv_add_emod a.N a.y1
  have mM := Int.mul_ediv_add_emod a.M a.y1
  have rN := Int.emod_nonneg a.N (show a.y1 ≠ 0 by omega)
  have rN' := Int.emod_lt_of_pos a.N (show 0 < a.y1 by omega)
  have rM := Int.emod_nonneg a.M (show a.y1 ≠ 0 by omega)
  have rM' := Int.emod_lt_of_pos a.M (show 0 < a.y1 by omega)
  rw [Int.mul_comm] at mN mM
  have mQ := Int.mul_ediv_add_emod (a.N * 4294967296 + a.d1) a.Y
  rw [← k.Q1, ← k.M, Int.mul_comm] at mQ
  have mR := Int.mul_ediv_add_emod (a.M * 4294967296 + a.d0) a.Y
  rw [← k.Q0, Int.mul_comm] at mR
  have Rb := Int.emod_lt_of_pos (a.M * 4294967296 + a.d0) (show 0 < a.Y by omega)
  have Ra := Int.emod_nonneg (a.M * 4294967296 + a.d0) (show a.Y ≠ 0 by omega)
  have eM : IntKind.u64.wrap (IntKind.u64.wrap (IntKind.u64.wrap (a.N * 4294967296) + a.d1) - IntKind.u64.wrap (a.Q1 * a.Y)) = a.M := by
    simp only [wu64]; omega
  have eR : IntKind.u64.wrap (IntKind.u64.wrap (IntKind.u64.wrap (a.M * 4294967296) + a.d0) - IntKind.u64.wrap (a.Q0 * a.Y)) = (a.M * 4294967296 + a.d0) % a.Y := by
    simp only [wu64]; omega
  have eQ : IntKind.u64.wrap (IntKind.u64.wrap (a.Q1 * 4294967296) + a.Q0) = a.Q1 * 4294967296 + a.Q0 := by
    simp only [wu64]; omega
  have nN : 0 ≤ a.N / a.y1 := Int.ediv_nonneg (by omega) (by omega)
  have nM : 0 ≤ a.M / a.y1 := Int.ediv_nonneg (by omega) (by omega)
  have pN : 0 ≤ a.N / a.y1 * a.y1 := Int.mul_nonneg nN (by omega)
  have pM : 0 ≤ a.M / a.y1 * a.y1 := Int.mul_nonneg nM (by omega)
  unfold U64 at hl hb
  repeat' (first | with_reducible exact trivial | with_reducible exact rfl | with_reducible exact Nat.le_refl _ | with_reducible exact (fun _ _ => rfl) | ((conv => whnf); first | (refine fun (x : Int × Int) => ?_) | (refine fun (y : Int) => ?_) | (refine fun (z : Int × Int) => ?_) | (refine fun (u : Int) => ?_) | (refine fun _ => ?_) | refine ⟨?_, ?_⟩ | exact trivial | exact Nat.le_refl _ | exact lex_q (by kernel_rfl) | exact lex_t (by kernel_rfl) | exact lex_h (by kernel_rfl) | fail))
  all_goals (try dsimp only [laC, laC2] at *)
  all_goals (try (have hy : y = a.Q1 := by assumption
                  subst hy))
  all_goals (try (have hy : y = a.Q0 := by assumption
                  subst hy))
  any_goals first
    | omega
    | (exfalso; omega)
  · have h1 : 0 ≤ a.l / a.b := Int.ediv_nonneg hl.1 (by omega)
    have h2 : a.l / a.b ≤ a.l := Int.ediv_le_self _ hl.1
    rw [tdiv_pos hl.1, wu64' (by omega) (by omega), show a.h = 0 by assumption]; simp
  · rw [tmod_pos hl.1, show a.h = 0 by assumption]; simp
  · rw [w1, w2]; omega
  · rename_i h1 h2 h3 h4
    simp (disch := omega) only [w1, w2, Int.toNat_natCast, IntKind.bits, hP, eY, e9, e10, eL, e13, e14, eN, eM, eR, eQ, c32, fdiv_nn, fdiv_p2, tdiv_pos, tmod_pos, wu64'] at h4
    omega
  all_goals first
    | (have hx : (laD1 a).inv x := by assumption
       have gx := loop_facts (y1 := a.y1) (y0 := a.y0) (n := a.N) (d := a.d1) (Q := a.Q1) (by omega) (by omega) (by omega) (by rw [k.Q1, hY]) x hx.1
       clear mM rM rM' f0 mR Ra Rb
       (try (have gw := gx.1 (by omega) (by omega); simp only [gw] at *)))
    | (have hx : (laD2 a).inv x := by assumption
       have gx := loop_facts (y1 := a.y1) (y0 := a.y0) (n := a.M) (d := a.d0) (Q := a.Q0) (by omega) (by omega) (by omega) (by rw [k.Q0, hY]) x hx.1
       clear mN rN rN' f1 mQ
       (try (have gw := gx.1 (by omega) (by omega); simp only [gw] at *)))
    | skip
  any_goals (refine enter_mk (la := laD1 a) ⟨_, _⟩ ?_ (by (repeat' (first | with_reducible exact rfl | exact Nat.le_refl _ | with_reducible exact (fun _ _ => rfl) | ((conv => whnf); first | refine ⟨?_, ?_⟩ | exact trivial | fail))); first | ((all_goals ((try dsimp only [laD1] at *); (all_goals (try simp (disch := omega) only [w64', wu64', tdiv_pos, tmod_pos, Int.toNat_natCast, Nat.zero_add] at *)); (all_goals ((first | with_reducible rfl | omega | (simp (disch := omega) only [w1, w2, Int.toNat_natCast, IntKind.bits, hP, eY, e9, e10, eL, e13, e14, eN, eM, eR, eQ, c32, fdiv_nn, fdiv_p2, tdiv_pos, tmod_pos, wu64'] ; done) | (simp (disch := omega) only [w1, w2, Int.toNat_natCast, IntKind.bits, hP, eY, e9, e10, eL, e13, e14, eN, eM, eR, eQ, c32, fdiv_nn, fdiv_p2, tdiv_pos, tmod_pos, wu64'] ; first | with_reducible rfl | omega) | fail))))); done) | fail))
  any_goals (refine enter_mk (la := laC a) _ ?_ (by (repeat' (first | with_reducible exact rfl | exact Nat.le_refl _ | with_reducible exact (fun _ _ => rfl) | ((conv => whnf); first | refine ⟨?_, ?_⟩ | exact trivial | fail))); first | ((all_goals ((try dsimp only [laC] at *); (all_goals (try simp (disch := omega) only [w64', wu64', tdiv_pos, tmod_pos, Int.toNat_natCast, Nat.zero_add] at *)); (all_goals ((first | rfl | omega))))); done) | fail))
  any_goals (refine enter_mk (la := laD2 a) ⟨_, _⟩ ?_ (by (repeat' (first | with_reducible exact rfl | exact Nat.le_refl _ | with_reducible exact (fun _ _ => rfl) | ((conv => whnf); first | refine ⟨?_, ?_⟩ | exact trivial | fail))); first | ((all_goals ((try dsimp only [laD2] at *); (all_goals (try simp (disch := omega) only [w64', wu64', tdiv_pos, tmod_pos, Int.toNat_natCast, Nat.zero_add] at *)); (all_goals ((first | with_reducible rfl | omega | (simp (disch := omega) only [w1, w2, Int.toNat_natCast, IntKind.bits, hP, eY, e9, e10, eL, e13, e14, eN, eM, eR, eQ, c32, fdiv_nn, fdiv_p2, tdiv_pos, tmod_pos, wu64'] ; done) | (simp (disch := omega) only [w1, w2, Int.toNat_natCast, IntKind.bits, hP, eY, e9, e10, eL, e13, e14, eN, eM, eR, eQ, c32, fdiv_nn, fdiv_p2, tdiv_pos, tmod_pos, wu64'] ; first | with_reducible rfl | omega) | fail))))); done) | fail))
  any_goals (refine enter_mk (la := laC2 a) _ ?_ (by (repeat' (first | with_reducible exact rfl | exact Nat.le_refl _ | with_reducible exact (fun _ _ => rfl) | ((conv => whnf); first | refine ⟨?_, ?_⟩ | exact trivial | fail))); first | ((all_goals ((try dsimp only [laC2] at *); (all_goals (try simp (disch := omega) only [w64', wu64', tdiv_pos, tmod_pos, Int.toNat_natCast, Nat.zero_add] at *)); (all_goals ((first | rfl | omega))))); done) | fail))
  all_goals (try dsimp only [laD1, laD2, laC, laC2] at *)
  all_goals (try simp (disch := omega) only [w1, w2, Int.toNat_natCast, IntKind.bits, hP, eY, e9, e10, eL, e13, e14, eN, eM, eR, eQ, c32, fdiv_nn, fdiv_p2, tdiv_pos, tmod_pos, wu64'] at *)
  all_goals (try omega)
  all_goals first
    | (have e1 : IntKind.u64.wrap (a.N / a.y1 * a.y1) = a.N / a.y1 * a.y1 := wu64' (by omega) (by omega)
       rw [e1, wu64' (n := a.N - a.N / a.y1 * a.y1) (by omega) (by omega)]; omega)
    | (have e1 : IntKind.u64.wrap (a.M / a.y1 * a.y1) = a.M / a.y1 * a.y1 := wu64' (by omega) (by omega)
       rw [e1, wu64' (n := a.M - a.M / a.y1 * a.y1) (by omega) (by omega)]; omega)
    | (rw [wu64' (n := x.1 - 1) (by omega) (by omega)]; omega)
    | exact k.quo.symm
    | (rw [fdiv_nn (Int.le_of_lt k.hp)]; exact k.rem.symm)
theorem div_back {Y P b U q r : Int} (hY : Y = b * P) (hb : 0 < b) (hP : 0 < P) (key : Y * q + r = U * P) (r1 : 0 ≤ r) (r2 : r < Y) : U / b = q ∧ r / P = U % b := by
  have e1 : r = (U - b * q) * P := by
    rw [Int.sub_mul, Int.mul_assoc b q P, Int.mul_comm q P, ← Int.mul_assoc, ← hY]; omega
  have t1 : 0 ≤ U - b * q := by
    rcases Int.lt_or_le (U - b * q) 0 with h | h
    · have := Int.mul_lt_mul_of_pos_right h hP
      omega
    · exact h
  have t2 : U - b * q < b := by
    rcases Int.lt_or_le (U - b * q) b with h | h
    · exact h
    · have := Int.mul_le_mul_of_nonneg_right h (Int.le_of_lt hP)
      omega
  obtain ⟨h1, h2⟩ := (Int.ediv_emod_unique hb).2 ⟨show (U - b * q) + b * q = U by omega, t1, t2⟩
  refine ⟨h1, ?_⟩
  rw [h2, e1, Int.mul_ediv_cancel _ (by omega)]
/-- the numbers of a division -/
def dA (x : Int × Int × Int) : DA :=
  let Y := dY x.2.2
  let N := dN x.1 x.2.1 x.2.2
  let L := dL x.1 x.2.1 x.2.2
  let M := (N * 4294967296 + L / 4294967296) % Y
  ⟨x.1, x.2.1, x.2.2, dP x.2.2, Y, Y / 4294967296, Y % 4294967296, N, L, L / 4294967296, L % 4294967296, (N * 4294967296 + L / 4294967296) / Y, M, (M * 4294967296 + L % 4294967296) / Y, dS_ x.2.2⟩
theorem dA_ok (x : Int × Int × Int) (h : U64 x.1 ∧ U64 x.2.1 ∧ U64 x.2.2 ∧ x.1 < x.2.2) : DOK (dA x) := by
  obtain ⟨h, l, b⟩ := x
  obtain ⟨hh, hl, hb, hlt⟩ := h
  dsimp only at *
  have h0 : 0 < b := by unfold U64 at hh; omega
  obtain ⟨b1, b2, b3⟩ := dY_bd hb h0
  obtain ⟨s1, s2⟩ := dS_lt hb h0
  obtain ⟨n1, n2⟩ := dN_lt hb h0 hl ⟨hh.1, hlt⟩
  have e1 : dL h l b = l * dP b % 18446744073709551616 := by
    unfold dL
    rw [Int.add_mul, Int.mul_right_comm, Int.mul_add_emod_self_right]
  have p64 : (2 : Int) ^ min (dS_ b) 64 = dP b := by
    rw [show min (dS_ b) 64 = dS_ b by omega]; unfold dP; push_cast; rfl
  -- the number moved
  have hq : (dN h l b * 18446744073709551616 + dL h l b) = (h * 18446744073709551616 + l) * dP b := by
    unfold dN dL; omega
  have hd1 := Int.mul_ediv_add_emod (dN h l b * 4294967296 + dL h l b / 4294967296) (dY b)
  have hd2 := Int.mul_ediv_add_emod ((dN h l b * 4294967296 + dL h l b / 4294967296) % dY b * 4294967296 + dL h l b % 4294967296) (dY b)
  have key : dY b * ((dN h l b * 4294967296 + dL h l b / 4294967296) / dY b * 4294967296 + ((dN h l b * 4294967296 + dL h l b / 4294967296) % dY b * 4294967296 + dL h l b % 4294967296) / dY b) + ((dN h l b * 4294967296 + dL h l b / 4294967296) % dY b * 4294967296 + dL h l b % 4294967296) % dY b = (h * 18446744073709551616 + l) * dP b := by
    rw [← hq, Int.mul_add, ← Int.mul_assoc]
    omega
  have r1 := Int.emod_nonneg ((dN h l b * 4294967296 + dL h l b / 4294967296) % dY b * 4294967296 + dL h l b % 4294967296) (show dY b ≠ 0 by omega)
  have r2 := Int.emod_lt_of_pos ((dN h l b * 4294967296 + dL h l b / 4294967296) % dY b * 4294967296 + dL h l b % 4294967296) (show 0 < dY b by omega)
  have hres := div_back (Y := dY b) (P := dP b) (b := b) (U := h * 18446744073709551616 + l) rfl h0 b3 key r1 r2
  have hc : ((2 ^ (64 - dS_ b) : Nat) : Int) * dP b = 18446744073709551616 := by
    unfold dP
    rw [← Int.natCast_mul, ← Nat.pow_add, show 64 - dS_ b + dS_ b = 64 by omega]; rfl
  have hc0 : (0 : Int) < ((2 ^ (64 - dS_ b) : Nat) : Int) := by exact_mod_cast Nat.pow_pos (by decide)
  have hlq : l * dP b / 18446744073709551616 = l / ((2 ^ (64 - dS_ b) : Nat) : Int) := by
    rw [← hc]; exact Int.mul_ediv_mul_of_pos_left l _ b3
  have hN : dN h l b = h * dP b + l / ((2 ^ (64 - dS_ b) : Nat) : Int) := by
    rw [← hlq]; unfold dN
    rw [Int.add_mul, Int.mul_right_comm, Int.add_comm, Int.add_mul_ediv_right _ _ (by decide), Int.add_comm]
  have hw1 : 0 ≤ h * dP b := Int.mul_nonneg hh.1 (by omega)
  have hw2 : h * dP b < dY b := Int.mul_lt_mul_of_pos_right hlt b3
  have hw3 : 0 ≤ l / ((2 ^ (64 - dS_ b) : Nat) : Int) := Int.ediv_nonneg hl.1 (by omega)
  have hw4 : l / ((2 ^ (64 - dS_ b) : Nat) : Int) < dP b := by
    rw [Int.ediv_lt_iff_lt_mul hc0, Int.mul_comm, hc]; exact hl.2
  have hor : bits .or .u64 (IntKind.u64.wrap (h * dP b)) (l / (2 ^ min (64 - (dS_ b : Int)).toNat 64)) = dN h l b := by
    have e2 : (2 : Int) ^ min (64 - (dS_ b : Int)).toNat 64 = ((2 ^ (64 - dS_ b) : Nat) : Int) := by
      rw [show min (64 - (dS_ b : Int)).toNat 64 = 64 - dS_ b by omega]; push_cast; rfl
    have hP64 : dP b ≤ 18446744073709551616 := by
      have := Int.mul_le_mul_of_nonneg_right (show 1 ≤ b by omega) (show 0 ≤ dP b by omega)
      unfold dY at b2; omega
    rw [e2, wu64' (by omega) (by omega), bits_or_u64 _ _ ⟨by omega, by omega⟩ ⟨by omega, by omega⟩, hN]
    obtain ⟨hn, rfl⟩ := Int.eq_ofNat_of_zero_le hh.1
    obtain ⟨c, hcc⟩ := Int.eq_ofNat_of_zero_le hw3
    rw [hcc] at hw4 ⊢
    have e3 : ((hn : Int) * dP b).toNat = hn * 2 ^ dS_ b := by unfold dP; rw [← Int.natCast_mul]; rfl
    rw [e3, Int.toNat_natCast, or_add (by unfold dP at hw4; exact_mod_cast hw4)]
    unfold dP; push_cast; rfl
  exact ⟨⟨hh.1, hlt⟩, hl, hb, rfl, ⟨b1, b2⟩, b3, ⟨s1, s2⟩, p64, rfl, rfl, hor, ⟨n1, n2⟩, by rw [wu64]; exact e1, rfl, rfl, rfl, rfl, rfl, hres.1.symm, hres.2⟩
theorem div64_runs (x : Int × Int × Int) (hp : obp (some (U64 x.1 ∧ U64 x.2.1 ∧ U64 x.2.2 ∧ x.1 < x.2.2))) : Runs (cxDiv (dA x)) Try.f27 [int_ .u64 x.1, int_ .u64 x.2.1, int_ .u64 x.2.2] [] fun v _ => isRes (.tup [u64_ ((x.1 * 18446744073709551616 + x.2.1) / x.2.2), u64_ ((x.1 * 18446744073709551616 + x.2.1) % x.2.2)]) v := div64_core (dA x) (dA_ok x hp)
noncomputable def div64S : PSpec Try.prog := readN fn27 (.s3 (.int .u64) (.int .u64) (.int .u64)) (fun x => cxDiv (dA x)) (fun x => some (U64 x.1 ∧ U64 x.2.1 ∧ U64 x.2.2 ∧ x.1 < x.2.2)) (fun x => .tup [u64_ ((x.1 * 18446744073709551616 + x.2.1) / x.2.2), u64_ ((x.1 * 18446744073709551616 + x.2.1) % x.2.2)]) (fun _ => rfl) (fun _ => rfl) (fun _ => rfl) div64_runs

end Go.Proofs.Ytkhkmicbjnkicaa
