/-
  Contracts of functions, and plain facts about them, that a claim of this seat uses.
-/
import Derived.Test.YtdphgjnflaahbaaSx
import Derived.Test.YtdphgjnflaahbaaMWideNum
import Derived.Test.YtdphgjnflaahbaaMRefA
import Derived.Test.YtdphgjnflaahbaaMRefB
import Derived.Test.YtdphgjnflaahbaaMRefM
import Derived.Test.YtdphgjnflaahbaaProg
namespace Go.Proofs.Ytdphgjnflaahbaa
open Go.Sx
set_option linter.unusedVariables false
set_option linter.unusedSimpArgs false
set_option maxRecDepth 100000

/-! the reference's quotient and rest. -/
theorem fn26 : FnOf Try.prog 26 Try.f26 := ⟨Try.func26, rfl, rfl, mixed⟩
abbrev laDivO (a b : IS) : LA where
  ι := (Nat → Int) × Int × DS
  inv := fun x => (-1 ≤ x.2.1 ∧ x.2.1 < a.len) ∧ Dig x.1 a.len ∧ (∀ r : Nat, (r : Int) ≤ x.2.1 → x.1 r = 0) ∧ (∃ R, DV R x.2.2 ∧ R < nv b ∧ pv a.g a.len = nv b * pv x.1 a.len + R * B (x.2.1 + 1).toNat + pv a.g (x.2.1 + 1).toNat)
  T := fun x => ⟨59, [(0, D1 0 a), (1, D1 1 b), (6, .one (.a (.slc 2 1 0 a.len a.len))), (7, .one (.a (.slc 3 1 0 x.2.2.len x.2.2.cap))), (8, int_ .i64 x.2.1)], [roI a, roI b, rwI a.len x.1, rwI x.2.2.cap x.2.2.g]⟩
  μ := fun x => (x.2.1 + 1).toNat
  ren := fun S => [0, 1, S.ix 6, S.ix 7]
abbrev laDivI (a b : IS) (i : Int) : LA where
  ι := DS × (Nat → Int) × Int
  inv := fun x => (0 ≤ i ∧ i < a.len) ∧ (-1 ≤ x.2.2 ∧ x.2.2 ≤ 15) ∧ Dig x.2.1 a.len ∧ (∀ r : Nat, (r : Int) < i → x.2.1 r = 0) ∧ x.2.1 i.toNat % 2 ^ (x.2.2 + 1).toNat = 0 ∧ (∃ R, DV R x.1 ∧ R < nv b ∧ pv a.g a.len = nv b * pv x.2.1 a.len + (R * 2 ^ (x.2.2 + 1).toNat + a.g i.toNat % 2 ^ (x.2.2 + 1).toNat) * B i.toNat + pv a.g i.toNat)
  T := fun x => ⟨59, [(0, D1 0 a), (1, D1 1 b), (6, .one (.a (.slc 2 1 0 a.len a.len))), (7, .one (.a (.slc 3 1 0 x.1.len x.1.cap))), (8, int_ .i64 i), (9, int_ .i64 x.2.2)], [roI a, roI b, rwI a.len x.2.1, rwI x.1.cap x.1.g]⟩
  μ := fun x => (x.2.2 + 1).toNat
  ren := fun S => [0, 1, S.ix 6, S.ix 7]
noncomputable def cxDivR (a b : IS) : Cx Try.prog := { ps := [trimS, cmpRefS], es := [addRefS, subRefS], is := [], n0 := 2, loops := fun i => match i with | 4 => some (.inv (laDivO a b)) | 7 => some (.here 8 (laDivI a b)) | _ => none, cuts := fun _ => none }
theorem and1_i64 (a : Int) : bits .and .i64 a 1 = a % 2 := by
  have h1 : ((BitVec.ofInt 64 a).toNat : Int) = a % 18446744073709551616 := by rw [BitVec.toNat_ofInt]; omega
  have h3 : (BitVec.ofInt 64 a &&& BitVec.ofInt 64 1).toNat = (BitVec.ofInt 64 a).toNat % 2 := by
    rw [BitVec.toNat_and, show (BitVec.ofInt 64 1).toNat = 1 from rfl, Nat.and_one_is_mod]
  show IntKind.i64.wrap ((BitVec.ofInt 64 a &&& BitVec.ofInt 64 1).toNat : Int) = _
  rw [h3, w64' (by omega) (by omega)]; omega
theorem pw {k : Int} (h0 : 0 ≤ k) (h1 : k ≤ 15) : ∃ h : Int, (2 : Int) ^ (k + 1).toNat = 2 * h ∧ (2 : Int) ^ (k - 1 + 1).toNat = h ∧ (2 : Int) ^ min k.toNat IntKind.i64.bits = h ∧ 1 ≤ h ∧ h ≤ 32768 ∧ (∀ a : Int, a % (2 * h) = a / h % 2 * h + a % h) ∧ (∀ q : Int, 0 ≤ q → q < 65536 → q % (2 * h) = 0 → q + h < 65536 ∧ (q + h) % h = 0) ∧ (∀ q : Int, q % (2 * h) = 0 → q % h = 0) ∧ ∀ a : Int, bits .and .i64 (Int.fdiv a h) 1 = a / h % 2 := by
  rcases (by omega : k = 0 ∨ k = 1 ∨ k = 2 ∨ k = 3 ∨ k = 4 ∨ k = 5 ∨ k = 6 ∨ k = 7 ∨ k = 8 ∨ k = 9 ∨ k = 10 ∨ k = 11 ∨ k = 12 ∨ k = 13 ∨ k = 14 ∨ k = 15) with rfl|rfl|rfl|rfl|rfl|rfl|rfl|rfl|rfl|rfl|rfl|rfl|rfl|rfl|rfl|rfl
  · exact ⟨1, by decide, by decide, by decide, by decide, by decide, fun a => by omega, fun q _ _ _ => by omega, fun q _ => by omega, fun a => by rw [Int.fdiv_eq_ediv_of_nonneg _ (by decide)]; exact and1_i64 _⟩
  · exact ⟨2, by decide, by decide, by decide, by decide, by decide, fun a => by omega, fun q _ _ _ => by omega, fun q _ => by omega, fun a => by rw [Int.fdiv_eq_ediv_of_nonneg _ (by decide)]; exact and1_i64 _⟩
  · exact ⟨4, by decide, by decide, by decide, by decide, by decide, fun a => by omega, fun q _ _ _ => by omega, fun q _ => by omega, fun a => by rw [Int.fdiv_eq_ediv_of_nonneg _ (by decide)]; exact and1_i64 _⟩
  · exact ⟨8, by decide, by decide, by decide, by decide, by decide, fun a => by omega, fun q _ _ _ => by omega, fun q _ => by omega, fun a => by rw [Int.fdiv_eq_ediv_of_nonneg _ (by decide)]; exact and1_i64 _⟩
  · exact ⟨16, by decide, by decide, by decide, by decide, by decide, fun a => by omega, fun q _ _ _ => by omega, fun q _ => by omega, fun a => by rw [Int.fdiv_eq_ediv_of_nonneg _ (by decide)]; exact and1_i64 _⟩
  · exact ⟨32, by decide, by decide, by decide, by decide, by decide, fun a => by omega, fun q _ _ _ => by omega, fun q _ => by omega, fun a => by rw [Int.fdiv_eq_ediv_of_nonneg _ (by decide)]; exact and1_i64 _⟩
  · exact ⟨64, by decide, by decide, by decide, by decide, by decide, fun a => by omega, fun q _ _ _ => by omega, fun q _ => by omega, fun a => by rw [Int.fdiv_eq_ediv_of_nonneg _ (by decide)]; exact and1_i64 _⟩
  · exact ⟨128, by decide, by decide, by decide, by decide, by decide, fun a => by omega, fun q _ _ _ => by omega, fun q _ => by omega, fun a => by rw [Int.fdiv_eq_ediv_of_nonneg _ (by decide)]; exact and1_i64 _⟩
  · exact ⟨256, by decide, by decide, by decide, by decide, by decide, fun a => by omega, fun q _ _ _ => by omega, fun q _ => by omega, fun a => by rw [Int.fdiv_eq_ediv_of_nonneg _ (by decide)]; exact and1_i64 _⟩
  · exact ⟨512, by decide, by decide, by decide, by decide, by decide, fun a => by omega, fun q _ _ _ => by omega, fun q _ => by omega, fun a => by rw [Int.fdiv_eq_ediv_of_nonneg _ (by decide)]; exact and1_i64 _⟩
  · exact ⟨1024, by decide, by decide, by decide, by decide, by decide, fun a => by omega, fun q _ _ _ => by omega, fun q _ => by omega, fun a => by rw [Int.fdiv_eq_ediv_of_nonneg _ (by decide)]; exact and1_i64 _⟩
  · exact ⟨2048, by decide, by decide, by decide, by decide, by decide, fun a => by omega, fun q _ _ _ => by omega, fun q _ => by omega, fun a => by rw [Int.fdiv_eq_ediv_of_nonneg _ (by decide)]; exact and1_i64 _⟩
  · exact ⟨4096, by decide, by decide, by decide, by decide, by decide, fun a => by omega, fun q _ _ _ => by omega, fun q _ => by omega, fun a => by rw [Int.fdiv_eq_ediv_of_nonneg _ (by decide)]; exact and1_i64 _⟩
  · exact ⟨8192, by decide, by decide, by decide, by decide, by decide, fun a => by omega, fun q _ _ _ => by omega, fun q _ => by omega, fun a => by rw [Int.fdiv_eq_ediv_of_nonneg _ (by decide)]; exact and1_i64 _⟩
  · exact ⟨16384, by decide, by decide, by decide, by decide, by decide, fun a => by omega, fun q _ _ _ => by omega, fun q _ => by omega, fun a => by rw [Int.fdiv_eq_ediv_of_nonneg _ (by decide)]; exact and1_i64 _⟩
  · exact ⟨32768, by decide, by decide, by decide, by decide, by decide, fun a => by omega, fun q _ _ _ => by omega, fun q _ => by omega, fun a => by rw [Int.fdiv_eq_ediv_of_nonneg _ (by decide)]; exact and1_i64 _⟩
theorem div_alg {V n P R h A bv Bi rest : Int} (w : A % (2 * h) = bv * h + A % h) (e : V = n * P + (R * (2 * h) + A % (2 * h)) * Bi + rest) :
    V = n * P + ((R + R + bv) * h + A % h) * Bi + rest ∧ V = n * (P + h * Bi) + ((R + R + bv - n) * h + A % h) * Bi + rest := by
  have e1 : R * (2 * h) + A % (2 * h) = (R + R + bv) * h + A % h := by
    rw [w, Int.add_mul, Int.add_mul, Int.two_mul, Int.mul_add]; omega
  rw [e1] at e
  refine ⟨e, ?_⟩
  rw [e, Int.sub_mul, Int.mul_add, ← Int.mul_assoc, show (R + R + bv) * h - n * h + A % h = ((R + R + bv) * h + A % h) - n * h by omega, Int.sub_mul]
  omega
theorem one_wf : Wf { len := 1, cap := 1, N := 1 - 0, g := fun q => [(1 : Int)].getD (q + 0) 0 } := (show DVal 1 ⟨1, 1, fun q => [(1 : Int)].getD (q + 0) 0⟩ from ⟨by decide, by decide, by decide, fun r hr => by
  have hr' : r < 1 := hr
  obtain rfl : r = 0 := by omega
  exact ⟨by decide, by decide⟩, .inr (by decide), by decide⟩).wf
theorem one_nv : nv { len := 1, cap := 1, N := 1 - 0, g := fun q => [(1 : Int)].getD (q + 0) 0 } = 1 := by decide
theorem dv_len {n : Int} {y : DS} {k : Nat} (h : DV n y) (hk : k ≤ 899) (hn : n < 65536 * B k) : y.len ≤ 900 := by
  have := h.1.len_le (k := k + 1) (by rw [B_succ]; exact hn)
  omega
theorem cmpI3_le {x y : Int} (h : 0 ≤ cmpI3 x y) : y ≤ x := by
  unfold cmpI3 at h; split at h <;> omega
theorem cmpI3_lt {x y : Int} (h : ¬ 0 ≤ cmpI3 x y) : x < y := by
  unfold cmpI3 at h; split at h
  · assumption
  · split at h <;> omega
theorem div_keep {a b : IS} {i k R bv h : Int} {q : Nat → Int} {z : DS} (hi : 0 ≤ i ∧ i < a.len) (hk : 0 ≤ k ∧ k ≤ 15) (hd : Dig q a.len) (hz : ∀ r : Nat, (r : Int) < i → q r = 0) (hq : q i.toNat % (2 * h) = 0)
    (p2 : (2 : Int) ^ (k - 1 + 1).toNat = h) (p5 : ∀ a : Int, a % (2 * h) = a / h % 2 * h + a % h) (p7 : ∀ q : Int, q % (2 * h) = 0 → q % h = 0)
    (e : pv a.g a.len = nv b * pv q a.len + (R * (2 * h) + a.g i.toNat % (2 * h)) * B i.toNat + pv a.g i.toNat) (hbv : a.g i.toNat / h % 2 = bv) (hr : DV (R + R + bv) z) (hlt : R + R + bv < nv b) : (laDivI a b i).inv (z, q, k - 1) := by
  refine ⟨hi, ⟨by show -1 ≤ k - 1; omega, by show k - 1 ≤ 15; omega⟩, hd, hz, ?_, R + R + bv, hr, hlt, ?_⟩
  · show q i.toNat % 2 ^ (k - 1 + 1).toNat = 0
    rw [p2]; exact p7 _ hq
  · show pv a.g a.len = nv b * pv q a.len + ((R + R + bv) * 2 ^ (k - 1 + 1).toNat + a.g i.toNat % 2 ^ (k - 1 + 1).toNat) * B i.toNat + pv a.g i.toNat
    rw [p2]
    exact (div_alg (by rw [p5, hbv]) e).1
theorem div_take {a b : IS} {i k R bv h : Int} {q : Nat → Int} {z : DS} (hi : 0 ≤ i ∧ i < a.len) (hk : 0 ≤ k ∧ k ≤ 15) (hd : Dig q a.len) (hz : ∀ r : Nat, (r : Int) < i → q r = 0) (hq : q i.toNat % (2 * h) = 0)
    (p2 : (2 : Int) ^ (k - 1 + 1).toNat = h) (p3 : 1 ≤ h) (p5 : ∀ a : Int, a % (2 * h) = a / h % 2 * h + a % h) (p6 : ∀ q : Int, 0 ≤ q → q < 65536 → q % (2 * h) = 0 → q + h < 65536 ∧ (q + h) % h = 0)
    (e : pv a.g a.len = nv b * pv q a.len + (R * (2 * h) + a.g i.toNat % (2 * h)) * B i.toNat + pv a.g i.toNat) (hbv : a.g i.toNat / h % 2 = bv) (hr : DV (R + R + bv - nv b) z) (hle : nv b ≤ R + R + bv) (hR : R < nv b) (hb2 : bv ≤ 1) : (laDivI a b i).inv (z, fun r => if r = i.toNat then q i.toNat + h else q r, k - 1) := by
  have hil : i.toNat < a.len := by omega
  have hqi := hd _ hil
  obtain ⟨g1, g2⟩ := p6 _ hqi.1 hqi.2 hq
  have n1 : ∀ r, r ≠ i.toNat → (if r = i.toNat then q i.toNat + h else q r) = q r := fun r hr => if_neg hr
  have n2 : (if i.toNat = i.toNat then q i.toNat + h else q i.toNat) = q i.toNat + h := if_pos rfl
  refine ⟨hi, ⟨by show -1 ≤ k - 1; omega, by show k - 1 ≤ 15; omega⟩, dig_upd hd n1 (by show 0 ≤ (if i.toNat = i.toNat then q i.toNat + h else q i.toNat) ∧ (if i.toNat = i.toNat then q i.toNat + h else q i.toNat) < 65536; rw [n2]; omega), fun r hr => ?_, ?_, R + R + bv - nv b, hr, by omega, ?_⟩
  · show (if r = i.toNat then q i.toNat + h else q r) = 0
    have hr' : (r : Int) < i := hr
    rw [if_neg (by omega)]; exact hz r hr'
  · show (if i.toNat = i.toNat then q i.toNat + h else q i.toNat) % 2 ^ (k - 1 + 1).toNat = 0
    rw [n2, p2]; exact g2
  · show pv a.g a.len = nv b * pv (fun r => if r = i.toNat then q i.toNat + h else q r) a.len + ((R + R + bv - nv b) * 2 ^ (k - 1 + 1).toNat + a.g i.toNat % 2 ^ (k - 1 + 1).toNat) * B i.toNat + pv a.g i.toNat
    rw [p2, pv_upd n1 hil, n2, show q i.toNat + h - q i.toNat = h by omega]
    exact (div_alg (by rw [p5, hbv]) e).2
attribute [local irreducible] enter anyAlt
def divAlts (a b : IS) : List Alt := [.fam (DS × DS) (fun y => DV (nv a / nv b) y.1 ∧ DV (nv a % nv b) y.2) (fun y => .tup [.a (.slc 2 1 0 y.1.len y.1.cap), .a (.slc 3 1 0 y.2.len y.2.cap)]) (fun y => [roI a, roI b, rwI y.1.cap y.1.g, rwI y.2.cap y.2.g])]
def ix2 (j : Nat) : SV → Nat
  | .tup l => (match l[j]? with | some (.a x) => x.ix | _ => 0)
  | _ => 0
set_option maxHeartbeats 8000000 in
theorem div_ref_runs (a b : IS) (hp : obp (some (Wf a ∧ Wf b ∧ a.len ≤ 800 ∧ b.len ≤ 800 ∧ 0 < nv b))) : Runs (cxDivR a b) Try.f26 [D1 0 a, D1 1 b] [roI a, roI b] fun v m => anyAlt [roI a, roI b] [0, 1, ix2 0 v, ix2 1 v] v m (divAlts a b) := by
  obtain ⟨ha, hb, ha1, hb1, hb0⟩ := hp
  have a1 := ha.n
  have b1 := hb.n
  repeat' (first | with_reducible exact trivial | with_reducible exact rfl | with_reducible exact Nat.le_refl _ | with_reducible exact (fun _ _ => rfl) | ((conv => whnf); first | (refine fun (x : (Nat → Int) × Int × DS) => ?_) | (refine fun (y : DS × (Nat → Int) × Int) => ?_) | (refine fun (z : DS) => ?_) | (refine fun _ => ?_) | refine ⟨?_, ?_⟩ | exact trivial | exact Nat.le_refl _ | exact lex_q (by kernel_rfl) | exact lex_t (by kernel_rfl) | exact lex_h (by kernel_rfl) | fail))
  any_goals (refine enter_mk (la := laDivO a b) ⟨_, _, ⟨_, _, _⟩⟩ ?_ (by (repeat' (first | with_reducible exact rfl | exact Nat.le_refl _ | with_reducible exact (fun _ _ => rfl) | ((conv => whnf); first | refine ⟨?_, ?_⟩ | exact trivial | fail))); first | ((all_goals ((try dsimp only [laDivO] at *); (all_goals (try simp (disch := omega) only [w64', wu64', tdiv_pos, tmod_pos, Int.toNat_natCast, Nat.zero_add] at *)); (all_goals ((try omega))))); done) | fail))
  any_goals (refine alt_fam (α := DS × DS) ⟨⟨_, _, _⟩, ⟨_, _, _⟩⟩ ?_ (by (repeat' (first | with_reducible exact rfl | exact Nat.le_refl _ | with_reducible exact (fun _ _ => rfl) | ((conv => whnf); first | refine ⟨?_, ?_⟩ | exact trivial | fail))); first | ((all_goals ((try dsimp only [laDivO] at *); (all_goals (try simp (disch := omega) only [w64', wu64', tdiv_pos, tmod_pos, Int.toNat_natCast, Nat.zero_add] at *)); (all_goals ((try omega))))); done) | fail))
  any_goals (refine enter_mk (la := laDivI a b _) ⟨⟨_, _, _⟩, _, _⟩ ?_ (by (repeat' (first | with_reducible exact rfl | exact Nat.le_refl _ | with_reducible exact (fun _ _ => rfl) | ((conv => whnf); first | refine ⟨?_, ?_⟩ | exact trivial | fail))); first | ((all_goals ((try dsimp only [laDivI] at *); (all_goals (try simp (disch := omega) only [w64', wu64', tdiv_pos, tmod_pos, Int.toNat_natCast, Nat.zero_add] at *)); (all_goals ((try omega))))); done) | fail))
  all_goals (try dsimp only [laDivO, laDivI, cutR, cutL, id] at *)
  all_goals (try simp (disch := omega) only [w64', wu64', tdiv_pos, tmod_pos, Int.toNat_natCast, Nat.zero_add] at *)
  all_goals (try omega)
  · refine ⟨⟨by omega, by omega⟩, fun r hr => by show (0 : Int) ≤ 0 ∧ (0 : Int) < 65536; omega, fun _ _ => trivial, 0, DVal.full ⟨by decide, by decide, by decide, fun r hr => absurd hr (Nat.not_lt_zero _), .inl rfl, rfl⟩, hb0, ?_⟩
    rw [pv_zero, show ((a.len : Int) - 1 + 1).toNat = a.len by omega]; simp
  · obtain ⟨⟨i1, i2⟩, qd, qz, R, hR, hRb, he⟩ := ‹(laDivO a b).inv x›
    try dsimp only at *
    refine ⟨⟨by omega, by omega⟩, ⟨by omega, by omega⟩, qd, fun r hr => qz r (by omega), ?_, R, hR, hRb, ?_⟩
    · have z0 : x.1 x.2.1.toNat = 0 := qz _ (by omega)
      exact (by rw [z0]; rfl : x.1 x.2.1.toNat % 2 ^ (15 + 1 : Int).toNat = 0)
    · have ai := ha.dig x.2.1.toNat (by omega)
      show pv a.g a.len = nv b * pv x.1 a.len + (R * 2 ^ (15 + 1 : Int).toNat + a.g x.2.1.toNat % 2 ^ (15 + 1 : Int).toNat) * B x.2.1.toNat + pv a.g x.2.1.toNat
      rw [he, show (x.2.1 + 1).toNat = x.2.1.toNat + 1 by omega, show (2 : Int) ^ (15 + 1 : Int).toNat = 65536 from by decide, Int.emod_eq_of_lt ai.1 ai.2, Int.add_mul, B_succ, Int.mul_assoc]
      simp only [pv]; omega
  iterate 17
    · obtain ⟨i0, ⟨k1, k2⟩, qd, qz, qm, R, hR, hRb, he⟩ := ‹(laDivI a b x.2.1).inv y›
      obtain ⟨h, p1, p2, p3, p4, p4', p5, p6, p7, p8⟩ := pw (k := y.2.2) (by omega) k2
      have w1 := hR.2.2.1
      have hbn : nv ⟨b.len, b.cap, b.N - 0, fun q => b.g (q + 0)⟩ = nv b := rfl
      have hbB : nv b < B b.len := (pv_bd hb.dig).2
      have R0 := hR.2.2.2.1
      have ai := ha.dig x.2.1.toNat (by omega)
      have hqi := qd x.2.1.toNat (by omega)
      try dsimp only at qd qz qm he hqi
      rw [p1] at qm he
      simp only [p3, p8, w1, hbn, one_nv] at *
      first
      | exact hR.2.1
      | exact dv_len (k := b.len) hR (by omega) (by omega)
      | exact one_wf
      | exact (by assumption : DV (R + R) _).2.1
      | exact dv_len (k := b.len) (by assumption : DV (R + R) _) (by omega) (by omega)
      | (have w2 := (by assumption : DV (R + R) _).2.2.1
         simp only [w2] at *
         first
         | exact (by assumption : DV (R + R + 1) _).2.1
         | exact cmpI3_le (by assumption : 0 ≤ cmpI3 (R + R) (nv b))
         | (have hc := cmpI3_lt (by assumption : ¬ 0 ≤ cmpI3 (R + R) (nv b))
            exact div_keep (bv := 0) i0 ⟨by omega, k2⟩ qd qz qm p2 p5 p7 he (by omega) (by rw [Int.add_zero]; assumption) (by omega))
         | (have hc := cmpI3_le (by assumption : 0 ≤ cmpI3 (R + R) (nv b))
            have key := div_take (z := z) (bv := 0) i0 ⟨by omega, k2⟩ qd qz qm p2 p4 p5 p6 he (by omega) (by rw [Int.add_zero]; assumption) (by omega) hRb (by omega)
            simp (disch := omega) only [Int.one_mul, w64']
            refine ⟨key.1, key.2.1, key.2.2.1, key.2.2.2.1, ?_, key.2.2.2.2.2⟩
            have k5 := key.2.2.2.2.1
            dsimp only at k5
            simpa using k5)
         | (have w3 := (by assumption : DV (R + R + 1) _).2.2.1
            simp only [w3] at *
            first
            | exact cmpI3_le (by assumption : 0 ≤ cmpI3 (R + R + 1) (nv b))
            | (have hc := cmpI3_lt (by assumption : ¬ 0 ≤ cmpI3 (R + R + 1) (nv b))
               exact div_keep (bv := 1) i0 ⟨by omega, k2⟩ qd qz qm p2 p5 p7 he (by assumption) (by assumption) hc)
            | (have hc := cmpI3_le (by assumption : 0 ≤ cmpI3 (R + R + 1) (nv b))
               have key := div_take (z := z) (bv := 1) i0 ⟨by omega, k2⟩ qd qz qm p2 p4 p5 p6 he (by assumption) (by assumption) hc hRb (by omega)
               simp (disch := omega) only [Int.one_mul, w64']
               refine ⟨key.1, key.2.1, key.2.2.1, key.2.2.2.1, ?_, key.2.2.2.2.2⟩
               have k5 := key.2.2.2.2.1
               dsimp only at k5
               simpa using k5)))
  · obtain ⟨i0, ⟨k1, k2⟩, qd, qz, qm, R, hR, hRb, he⟩ := ‹(laDivI a b x.2.1).inv y›
    try dsimp only at *
    have hk : y.2.2 = -1 := by omega
    refine ⟨⟨by omega, by omega⟩, qd, fun r hr => qz r (by omega), R, hR, hRb, ?_⟩
    rw [he, hk, show ((-1 : Int) + 1).toNat = 0 from rfl, show (x.2.1 - 1 + 1).toNat = x.2.1.toNat by omega]
    simp
  · obtain ⟨⟨i1, i2⟩, qd, qz, R, hR, hRb, he⟩ := ‹(laDivO a b).inv x›
    try dsimp only at *
    rw [show (x.2.1 + 1).toNat = 0 by omega] at he
    simp only [pv, B_zero, Int.mul_one, Int.add_zero] at he
    have R0 := hR.2.2.2.1
    have hu := (Int.ediv_emod_unique (a := nv a) (r := R) (q := pv x.1 a.len) hb0).2 ⟨by show R + nv b * _ = pv a.g a.len; omega, R0, hRb⟩
    rw [hu.1, hu.2]
    exact ⟨(trim_val qd (Nat.le_refl _) (by have := ha.small; omega) (by omega) rfl).full, hR⟩
noncomputable def divRefS : ESpec Try.prog := newN fn26 (.s2 dS dS) (fun x => cxDivR x.1 x.2) (fun x => some (Wf x.1 ∧ Wf x.2 ∧ x.1.len ≤ 800 ∧ x.2.len ≤ 800 ∧ 0 < nv x.2)) (fun x => divAlts x.1 x.2) (fun _ v _ => [0, 1, ix2 0 v, ix2 1 v]) (fun _ => rfl) (fun x a ha => by rw [List.mem_singleton.1 ha]; exact fun _ => rfl) (fun x => div_ref_runs x.1 x.2)

end Go.Proofs.Ytdphgjnflaahbaa
