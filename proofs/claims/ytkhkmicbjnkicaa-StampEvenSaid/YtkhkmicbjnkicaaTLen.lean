/-
  Contracts of functions, and plain facts about them, that a claim of this seat uses.
-/
import Derived.Test.YtkhkmicbjnkicaaSx
import Derived.Test.YtkhkmicbjnkicaaTWideNum
import Derived.Test.YtkhkmicbjnkicaaTRef
import Derived.Test.YtkhkmicbjnkicaaTWideU
import Derived.Test.YtkhkmicbjnkicaaProg
namespace Go.Proofs.Ytkhkmicbjnkicaa
open Go.Sx
set_option linter.unusedVariables false
set_option linter.unusedSimpArgs false
set_option maxRecDepth 100000

/-! The length of a number in bits, by the library's own text. -/
theorem fn39 : FnOf Try.prog 39 Try.f39 := ⟨Try.func39, rfl, rfl, mixed⟩
theorem fn40 : FnOf Try.prog 40 Try.f40 := ⟨Try.func40, rfl, rfl, mixed⟩
def bl (x : Int) : Int := if x.toNat = 0 then 0 else (x.toNat.log2 : Int) + 1
def lens : List UInt8 := [0, 1, 2, 2, 3, 3, 3, 3, 4, 4, 4, 4, 4, 4, 4, 4, 5, 5, 5, 5, 5, 5, 5, 5, 5, 5, 5, 5, 5, 5, 5, 5, 6, 6, 6, 6, 6, 6, 6, 6, 6, 6, 6, 6, 6, 6, 6, 6, 6, 6, 6, 6, 6, 6, 6, 6, 6, 6, 6, 6, 6, 6, 6, 6, 7, 7, 7, 7, 7, 7, 7, 7, 7, 7, 7, 7, 7, 7, 7, 7, 7, 7, 7, 7, 7, 7, 7, 7, 7, 7, 7, 7, 7, 7, 7, 7, 7, 7, 7, 7, 7, 7, 7, 7, 7, 7, 7, 7, 7, 7, 7, 7, 7, 7, 7, 7, 7, 7, 7, 7, 7, 7, 7, 7, 7, 7, 7, 7, 8, 8, 8, 8, 8, 8, 8, 8, 8, 8, 8, 8, 8, 8, 8, 8, 8, 8, 8, 8, 8, 8, 8, 8, 8, 8, 8, 8, 8, 8, 8, 8, 8, 8, 8, 8, 8, 8, 8, 8, 8, 8, 8, 8, 8, 8, 8, 8, 8, 8, 8, 8, 8, 8, 8, 8, 8, 8, 8, 8, 8, 8, 8, 8, 8, 8, 8, 8, 8, 8, 8, 8, 8, 8, 8, 8, 8, 8, 8, 8, 8, 8, 8, 8, 8, 8, 8, 8, 8, 8, 8, 8, 8, 8, 8, 8, 8, 8, 8, 8, 8, 8, 8, 8, 8, 8, 8, 8, 8, 8, 8, 8, 8, 8, 8, 8, 8, 8, 8, 8, 8, 8, 8, 8, 8, 8, 8, 8]
theorem bl_tab : ∀ k : Fin 256, ((lens.getD k.val 0).toNat : Int) = bl (k.val : Int) := by decide +kernel
theorem bl_tab' (x : Int) (h0 : 0 ≤ x) (h1 : x < 256) : ((lens.getD x.toNat 0).toNat : Int) = bl x := by
  have := bl_tab ⟨x.toNat, by omega⟩
  simp only [Int.toNat_of_nonneg h0] at this
  exact this
theorem bl_spec {x : Int} (h : 0 < x) : ∃ n : Nat, bl x = n + 1 ∧ ((2 ^ n : Nat) : Int) ≤ x ∧ x < ((2 ^ (n + 1) : Nat) : Int) := by
  have hx : x.toNat ≠ 0 := by omega
  refine ⟨x.toNat.log2, by unfold bl; rw [if_neg hx], ?_, ?_⟩
  · have := Nat.log2_self_le hx; omega
  · have := @Nat.lt_log2_self x.toNat; omega
theorem bl_unique {x : Int} {n : Nat} (h1 : ((2 ^ n : Nat) : Int) ≤ x) (h2 : x < ((2 ^ (n + 1) : Nat) : Int)) : bl x = n + 1 := by
  have hp : 0 < (2 : Nat) ^ n := Nat.pow_pos (by decide)
  have hx : x.toNat ≠ 0 := by omega
  unfold bl
  have hl : x.toNat.log2 = n := (Nat.log2_eq_iff hx).2 ⟨by omega, by omega⟩
  rw [if_neg hx, hl]
theorem bl_shift {x : Int} (k : Nat) (h : 0 < x / ((2 ^ k : Nat) : Int)) : bl x = k + bl (x / ((2 ^ k : Nat) : Int)) := by
  obtain ⟨n, h1, h2, h3⟩ := bl_spec h
  have hk : (0 : Int) < ((2 ^ k : Nat) : Int) := by exact_mod_cast Nat.pow_pos (by decide)
  have h4 : ((2 ^ n : Nat) : Int) * ((2 ^ k : Nat) : Int) ≤ x := (Int.le_ediv_iff_mul_le hk).1 h2
  have h5 : x < ((2 ^ (n + 1) : Nat) : Int) * ((2 ^ k : Nat) : Int) := (Int.ediv_lt_iff_lt_mul hk).1 h3
  have h6 : bl x = ((n + k : Nat) : Int) + 1 := bl_unique (by rw [Nat.pow_add]; exact_mod_cast h4) (by rw [show n + k + 1 = (n + 1) + k by omega, Nat.pow_add]; exact_mod_cast h5)
  rw [h6, h1]; omega
theorem bl_bd {x : Int} (h : U64 x) : 0 ≤ bl x ∧ bl x ≤ 64 := by
  rcases Int.lt_or_le 0 x with h0 | h0
  · obtain ⟨n, h1, h2, h3⟩ := bl_spec h0
    have : n < 64 := by
      rcases Nat.lt_or_ge n 64 with h4 | h4
      · exact h4
      · have h5 : (2 : Nat) ^ 64 ≤ 2 ^ n := Nat.pow_le_pow_right (by decide) h4
        unfold U64 at h; omega
    omega
  · have : x = 0 := by unfold U64 at h; omega
    subst this; decide
theorem len_fin {x A t : Int} (h0 : 0 ≤ t ∧ t < 256) (hA : 0 ≤ A ∧ A ≤ 56) (h : bl x = A + bl t) : bl x = IntKind.i64.wrap (A + IntKind.i64.wrap ((lens.getD t.toNat 0).toNat : Int)) := by
  have h1 := bl_tab' t h0.1 h0.2
  have h2 := bl_bd (x := t) ⟨h0.1, by omega⟩
  have h3 : IntKind.i64.wrap (bl t) = bl t := w64' (by omega) (by omega)
  rw [h1, h3, w64' (by omega) (by omega)]; exact h
theorem len64_runs (x : Int) (hp : obp (some (U64 x))) : Runs C0 Try.f39 [int_ .u64 x] [] fun v _ => isRes (int_ .i64 (bl x)) v := by
  have hx : U64 x := hp
  have s32 := bl_shift (x := x) 32
  have s16 := bl_shift (x := x) 16
  have s8 := bl_shift (x := x) 8
  have s48 := bl_shift (x := x) 48
  have s40 := bl_shift (x := x) 40
  have s24 := bl_shift (x := x) 24
  have s56 := bl_shift (x := x) 56
  unfold U64 at hx
  simp only [Nat.reducePow, Int.cast_ofNat_Int] at s32 s16 s8 s48 s40 s24 s56
  repeat' (first | with_reducible exact trivial | with_reducible exact rfl | with_reducible exact Nat.le_refl _ | with_reducible exact (fun _ _ => rfl) | ((conv => whnf); first | (refine fun _ => ?_) | refine ⟨?_, ?_⟩ | exact trivial | exact Nat.le_refl _ | exact lex_q (by kernel_rfl) | exact lex_t (by kernel_rfl) | exact lex_h (by kernel_rfl) | fail))
  all_goals (try simp (disch := omega) only [fdiv_nn, Int.reduceToNat, IntKind.bits, Nat.min_def, Nat.reduceLeDiff, if_true, if_false, Int.reducePow, wu8, wu32, w64', wu64', tdiv_pos, tmod_pos, Int.toNat_natCast, Nat.zero_add] at *)
  all_goals first
    | omega
    | (show _ < (256 : Int); omega)
    | skip
  all_goals refine len_fin (by omega) (by omega) ?_
  · rw [show x / 4294967296 / 65536 / 256 % 256 = x / 72057594037927936 by omega]; have := s56 (by omega); omega
  · rw [show x / 4294967296 / 65536 % 256 = x / 281474976710656 by omega]; have := s48 (by omega); omega
  · rw [show x / 4294967296 / 256 % 256 = x / 1099511627776 by omega]; have := s40 (by omega); omega
  · rw [show x / 4294967296 % 256 = x / 4294967296 by omega]; have := s32 (by omega); omega
  · rw [show x / 65536 / 256 % 256 = x / 16777216 by omega]; have := s24 (by omega); omega
  · rw [show x / 65536 % 256 = x / 65536 by omega]; have := s16 (by omega); omega
  · rw [show x / 256 % 256 = x / 256 by omega]; have := s8 (by omega); omega
  · rw [show x % 256 = x by omega]; omega
noncomputable def len64S : PSpec Try.prog := readN fn39 (.s1 (.int .u64)) (fun _ => C0) (fun x => some (U64 x)) (fun x => int_ .i64 (bl x)) (fun _ => rfl) (fun _ => rfl) (fun _ => rfl) len64_runs
noncomputable def cxLz : Cx Try.prog := { ps := [len64S], es := [], is := [], n0 := 0, loops := fun _ => none, cuts := fun _ => none }
theorem lz_runs (x : Int) (hp : obp (some (U64 x))) : Runs cxLz Try.f40 [int_ .u64 x] [] fun v _ => isRes (int_ .i64 (64 - bl x)) v := by
  have hb := bl_bd hp
  have hx : U64 x := hp
  repeat' (first | with_reducible exact trivial | with_reducible exact rfl | with_reducible exact Nat.le_refl _ | with_reducible exact (fun _ _ => rfl) | ((conv => whnf); first | (refine fun _ => ?_) | refine ⟨?_, ?_⟩ | exact trivial | exact Nat.le_refl _ | exact lex_q (by kernel_rfl) | exact lex_t (by kernel_rfl) | exact lex_h (by kernel_rfl) | fail))
  · exact hx.1
  · exact hx.2
  · exact (w64' (by omega) (by omega)).symm
noncomputable def lzS : PSpec Try.prog := readN fn40 (.s1 (.int .u64)) (fun _ => cxLz) (fun x => some (U64 x)) (fun x => int_ .i64 (64 - bl x)) (fun _ => rfl) (fun _ => rfl) (fun _ => rfl) lz_runs

end Go.Proofs.Ytkhkmicbjnkicaa
