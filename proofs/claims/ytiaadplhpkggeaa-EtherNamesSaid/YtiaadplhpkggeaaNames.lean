/-
  Contracts of functions, and plain facts about them, that a claim of this seat uses.
-/
import Derived.Test.YtiaadplhpkggeaaSx
import Derived.Test.YtiaadplhpkggeaaFcsNum
import Derived.Test.YtiaadplhpkggeaaFcsBits
import Derived.Test.YtiaadplhpkggeaaFcsA
import Derived.Test.YtiaadplhpkggeaaProg
namespace Go.Proofs.Ytiaadplhpkggeaa
open Go.Sx
set_option linter.unusedVariables false
set_option linter.unusedSimpArgs false
set_option maxRecDepth 100000

/-! addresses as numbers. -/
theorem fn15 : FnOf Try.prog 15 Try.f15 := ⟨Try.func15, rfl, rfl, mixed⟩
theorem fn16 : FnOf Try.prog 16 Try.f16 := ⟨Try.func16, rfl, rfl, mixed⟩
theorem fn17 : FnOf Try.prog 17 Try.f17 := ⟨Try.func17, rfl, rfl, mixed⟩
attribute [local irreducible] enter anyAlt
abbrev M6 := Int × Int × Int × Int × Int × Int
def m6 (x : M6) : List SA := [.v (.int .u8 x.1), .v (.int .u8 x.2.1), .v (.int .u8 x.2.2.1), .v (.int .u8 x.2.2.2.1), .v (.int .u8 x.2.2.2.2.1), .v (.int .u8 x.2.2.2.2.2)]
def Lens.six : Lens M6 where
  sp := .agg [.i .u8, .i .u8, .i .u8, .i .u8, .i .u8, .i .u8]
  pat := fun a => match a with | .agg [.i .u8 a, .i .u8 b, .i .u8 c, .i .u8 d, .i .u8 e, .i .u8 f] => some (a, b, c, d, e, f) | _ => none
  arg := fun x => .agg [.i .u8 x.1, .i .u8 x.2.1, .i .u8 x.2.2.1, .i .u8 x.2.2.2.1, .i .u8 x.2.2.2.2.1, .i .u8 x.2.2.2.2.2]
  ok := fun a x h => by
    split at h
    · cases h; rfl
    · cases h
def U8 (n : Int) : Prop := 0 ≤ n ∧ n < 256
def B6 (x : M6) : Prop := U8 x.1 ∧ U8 x.2.1 ∧ U8 x.2.2.1 ∧ U8 x.2.2.2.1 ∧ U8 x.2.2.2.2.1 ∧ U8 x.2.2.2.2.2
/-- the first k bytes as a number -/
def pre6 (x : M6) (k : Int) : Int :=
  if k = 0 then 0 else if k = 1 then x.1 else if k = 2 then x.1 * 256 + x.2.1 else if k = 3 then (x.1 * 256 + x.2.1) * 256 + x.2.2.1 else if k = 4 then ((x.1 * 256 + x.2.1) * 256 + x.2.2.1) * 256 + x.2.2.2.1
  else if k = 5 then (((x.1 * 256 + x.2.1) * 256 + x.2.2.1) * 256 + x.2.2.2.1) * 256 + x.2.2.2.2.1 else ((((x.1 * 256 + x.2.1) * 256 + x.2.2.1) * 256 + x.2.2.2.1) * 256 + x.2.2.2.2.1) * 256 + x.2.2.2.2.2
theorem or_low {x c : Int} (hx : 0 ≤ x ∧ x < 36028797018963968) (hc : 0 ≤ c ∧ c < 256) : bits .or .i64 (x * 256) c = x * 256 + c := by
  have e1 := Nat.two_pow_add_eq_or_of_lt (i := 8) (b := c.toNat) (by show _ < 256; omega) x.toNat
  have h3 : (BitVec.ofInt 64 (x * 256) ||| BitVec.ofInt 64 c).toNat = 2 ^ 8 * x.toNat + c.toNat := by
    rw [BitVec.toNat_or, nat_ofInt (by omega) (by show _ < 18446744073709551616; omega), nat_ofInt hc.1 (by show _ < 18446744073709551616; omega), e1]
    congr 1
    omega
  show IntKind.i64.wrap ((BitVec.ofInt 64 (x * 256) ||| BitVec.ofInt 64 c).toNat : Int) = _
  rw [h3, w64' (by omega) (by omega)]; omega
abbrev laNum (m : M6) : LA where
  ι := Int × Int
  inv := fun y => (0 ≤ y.2 ∧ y.2 ≤ 6) ∧ y.1 = pre6 m y.2
  T := fun y => ⟨17, [(3, int_ .i64 y.1), (6, .one (.agg (m6 m))), (7, int_ .i64 y.2)], []⟩
  μ := fun y => (6 - y.2).toNat
  ren := fun _ => []
noncomputable def cxNum (m : M6) : Cx Try.prog := { ps := [], es := [], is := [], n0 := 0, loops := fun i => match i with | 3 => some (.inv (laNum m)) | _ => none, cuts := fun _ => none }
set_option maxHeartbeats 4000000 in
theorem num_runs (m : M6) (hp : obp (some (B6 m))) : Runs (cxNum m) Try.f15 [.one (.agg (m6 m))] [] fun v _ => isRes (int_ .i64 (pre6 m 6)) v := by
  have hb : B6 m := hp
  unfold B6 U8 at hb
  repeat' (first | exact trivial | with_reducible exact rfl | exact Nat.le_refl _ | with_reducible exact (fun _ _ => rfl) | ((conv => whnf); first | (refine fun (x : Int × Int) => ?_) | (refine fun _ => ?_) | refine ⟨?_, ?_⟩ | exact trivial | exact lex_q (by kernel_rfl) | exact lex_t (by kernel_rfl) | exact lex_h (by kernel_rfl) | fail))
  any_goals (refine enter_mk (la := laNum m) (_, _) ?_ (by (repeat' (first | ((conv => whnf); first | refine ⟨?_, ?_⟩ | exact trivial | fail) | ((try dsimp only); first | with_reducible exact rfl | exact Nat.le_refl _ | with_reducible exact (fun _ _ => rfl)))); all_goals ((try dsimp only [laNum] at *); (try simp (disch := omega) only [w64', wu64', tdiv_pos, tmod_pos, Int.toNat_natCast, Nat.zero_add] at *); (try omega))))
  all_goals (try dsimp only [laNum] at *)
  all_goals (try simp (disch := omega) only [fdiv_nn, Int.reduceToNat, IntKind.bits, Nat.min_def, Nat.reduceLeDiff, if_true, if_false, Int.reducePow, wu8, wu32, w64', wu64', tdiv_pos, tmod_pos, Int.toNat_natCast, Nat.zero_add] at *)
  all_goals (try omega)
  all_goals first
    | exact ⟨by omega, rfl⟩
    | (have h1 := (by assumption : (0 ≤ x.2 ∧ x.2 ≤ 6) ∧ x.1 = pre6 m x.2)
       obtain ⟨h4, h5⟩ := h1
       first
       | (rw [h5, show x.2 = 6 by omega])
       | (refine ⟨by omega, ?_⟩
          have h3 := (by assumption : x.2 = ((_ : Nat) : Int))
          rw [h3] at h5 ⊢
          unfold pre6 at h5 ⊢
          simp at h5 ⊢
          try simp only [h5]
          rw [w64' (by omega) (by omega), or_low (by omega) (by omega)]
          try omega))
noncomputable def numS : PSpec Try.prog := readN fn15 (.s1 Lens.six) cxNum (fun m => some (B6 m)) (fun m => int_ .i64 (pre6 m 6)) (fun _ => rfl) (fun _ => rfl) (fun _ => rfl) num_runs
noncomputable def cxGrp : Cx Try.prog := { ps := [], es := [], is := [], n0 := 0, loops := fun _ => none, cuts := fun _ => none }
theorem and8_1 {a : Int} (ha : 0 ≤ a ∧ a < 256) : bits .and .u8 a 1 = a % 2 := by
  have h3 : (BitVec.ofInt 8 a &&& BitVec.ofInt 8 1).toNat = a.toNat % 2 := by
    rw [BitVec.toNat_and, nat_ofInt ha.1 ha.2, show (BitVec.ofInt 8 1).toNat = 1 from rfl, Nat.and_one_is_mod]
  show IntKind.u8.wrap ((BitVec.ofInt 8 a &&& BitVec.ofInt 8 1).toNat : Int) = _
  rw [h3, wu8]; omega
theorem grp_runs (m : M6) (hp : obp (some (B6 m))) : Runs cxGrp Try.f17 [.one (.agg (m6 m))] [] fun v _ => isRes (.one (.a (.pr (m.1 % 2 = 1) inferInstance))) v := by
  have hb : B6 m := hp
  unfold B6 U8 at hb
  have h1 := and8_1 (a := m.1) (by omega)
  repeat' (first | exact trivial | with_reducible exact rfl | exact Nat.le_refl _ | with_reducible exact (fun _ _ => rfl) | ((conv => whnf); first | (refine fun _ => ?_) | refine ⟨?_, ?_⟩ | exact trivial | exact lex_q (by kernel_rfl) | exact lex_t (by kernel_rfl) | exact lex_h (by kernel_rfl) | fail))
  all_goals (try dsimp only at *)
  all_goals (try rw [h1])
noncomputable def grpS : PSpec Try.prog := readN fn17 (.s1 Lens.six) (fun _ => cxGrp) (fun m => some (B6 m)) (fun m => .one (.a (.pr (m.1 % 2 = 1) inferInstance))) (fun _ => rfl) (fun _ => rfl) (fun _ => rfl) grp_runs
def ofV (n : Int) : M6 := (n / 1099511627776 % 256, n / 4294967296 % 256, n / 16777216 % 256, n / 65536 % 256, n / 256 % 256, n % 256)
abbrev laOf (n : Int) : LA where
  ι := Int × Int × Int × Int × Int × Int × Int
  inv := fun y => (0 ≤ y.1 ∧ y.1 ≤ 6) ∧ (0 < y.1 → y.2.2.2.2.2.2 = n % 256) ∧ (1 < y.1 → y.2.2.2.2.2.1 = n / 256 % 256) ∧ (2 < y.1 → y.2.2.2.2.1 = n / 65536 % 256) ∧ (3 < y.1 → y.2.2.2.1 = n / 16777216 % 256) ∧ (4 < y.1 → y.2.2.1 = n / 4294967296 % 256) ∧ (5 < y.1 → y.2.1 = n / 1099511627776 % 256)
  T := fun y => ⟨18, [(0, int_ .i64 n), (2, .one (.a (.ptr 0 0))), (3, .one (.a (.ptr 1 0))), (5, int_ .i64 y.1)], [some ⟨true, .flat [.v (.int .u8 0), .v (.int .u8 0), .v (.int .u8 0), .v (.int .u8 0), .v (.int .u8 0), .v (.int .u8 0)]⟩, some ⟨true, .flat (m6 y.2)⟩]⟩
  μ := fun y => (6 - y.1).toNat
  ren := fun S => [S.ix 2, S.ix 3]
noncomputable def cxOf (n : Int) : Cx Try.prog := { ps := [], es := [], is := [], n0 := 0, loops := fun i => match i with | 3 => some (.inv (laOf n)) | _ => none, cuts := fun _ => none }
set_option maxHeartbeats 4000000 in
theorem of_runs (n : Int) (hp : obp (some (-9223372036854775808 ≤ n ∧ n ≤ 9223372036854775807))) : Runs (cxOf n) Try.f16 [int_ .i64 n] [] fun v _ => isRes (.one (.agg (m6 (ofV n)))) v := by
  have hn : -9223372036854775808 ≤ n ∧ n ≤ 9223372036854775807 := hp
  repeat' (first | exact trivial | with_reducible exact rfl | exact Nat.le_refl _ | with_reducible exact (fun _ _ => rfl) | ((conv => whnf); first | (refine fun (x : Int × Int × Int × Int × Int × Int × Int) => ?_) | (refine fun _ => ?_) | refine ⟨?_, ?_⟩ | exact trivial | exact lex_q (by kernel_rfl) | exact lex_t (by kernel_rfl) | exact lex_h (by kernel_rfl) | fail))
  any_goals (refine enter_mk (la := laOf n) (_, _, _, _, _, _, _) ?_ (by (repeat' (first | ((conv => whnf); first | refine ⟨?_, ?_⟩ | exact trivial | fail) | ((try dsimp only); first | with_reducible exact rfl | exact Nat.le_refl _ | with_reducible exact (fun _ _ => rfl)))); all_goals ((try dsimp only [laOf] at *); (try simp (disch := omega) only [w64', wu64', tdiv_pos, tmod_pos, Int.toNat_natCast, Nat.zero_add] at *); (try omega))))
  all_goals (try dsimp only [laOf] at *)
  all_goals (try simp (disch := omega) only [fdiv_nn, Int.reduceToNat, IntKind.bits, Nat.min_def, Nat.reduceLeDiff, if_true, if_false, Int.reducePow, wu8, wu32, w64', wu64', tdiv_pos, tmod_pos, Int.toNat_natCast, Nat.zero_add] at *)
  all_goals (try omega)
  all_goals
    have h0 := (by assumption : (0 ≤ x.1 ∧ x.1 ≤ 6) ∧ _)
    obtain ⟨h0, g0, g1, g2, g3, g4, g5⟩ := h0
    first
    | exact (g0 (by omega)).symm
    | exact (g1 (by omega)).symm
    | exact (g2 (by omega)).symm
    | exact (g3 (by omega)).symm
    | exact (g4 (by omega)).symm
    | exact (g5 (by omega)).symm
    | (rcases (by omega : x.1 = 0 ∨ x.1 = 1 ∨ x.1 = 2 ∨ x.1 = 3 ∨ x.1 = 4 ∨ x.1 = 5) with e | e | e | e | e | e
       all_goals first
       | (exfalso; omega)
       | (refine ⟨by omega, fun h => ?_, fun h => ?_, fun h => ?_, fun h => ?_, fun h => ?_, fun h => ?_⟩
          all_goals first
          | exact g0 (by omega)
          | exact g1 (by omega)
          | exact g2 (by omega)
          | exact g3 (by omega)
          | exact g4 (by omega)
          | exact g5 (by omega)
          | (exfalso; omega)
          | (rw [e, Int.fdiv_eq_ediv_of_nonneg _ (by decide)]
             first
             | rfl
             | (show n / 1 % 256 = n % 256
                rw [Int.ediv_one]))))
noncomputable def ofS : PSpec Try.prog := readN fn16 (.s1 (.int .i64)) cxOf (fun n => some (-9223372036854775808 ≤ n ∧ n ≤ 9223372036854775807)) (fun n => .one (.agg (m6 (ofV n)))) (fun _ => rfl) (fun _ => rfl) (fun _ => rfl) of_runs

end Go.Proofs.Ytiaadplhpkggeaa
