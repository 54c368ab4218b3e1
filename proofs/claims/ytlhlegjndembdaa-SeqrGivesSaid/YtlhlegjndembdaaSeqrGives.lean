/-
  SeqrGives answers true for every whole number: the statement SeqrGivesSaid; conditions: those of the statement alone.
-/
import Derived.Test.YtlhlegjndembdaaSx
import Derived.Test.YtlhlegjndembdaaRows
import Derived.WalkKit
import Derived.ProofKit
import Derived.OpenShut
namespace Go.Proofs.Ytlhlegjndembdaa.seqrGives
open Go.ChangeShapes Go.WideShapes Go.ChangeAt Go.RowKit Go.Sx
set_option linter.unusedVariables false

theorem mixed : Try.prog.follows .mixedOrders = true := by kernel_rfl
theorem fn13 : FnOf Try.prog 13 Try.f13 := ⟨Try.func13, rfl, rfl, mixed⟩
def nilNext : PSpec Try.prog := pureSpec fn13 cx0 rfl Unit (fun l => match l with | [.one (.a (.v (.pointer none)))] => some () | _ => none) (fun _ => [.one (.a (.v (.pointer none)))]) (fun _ => none) (fun _ => int_ .i64 0)
  (fun l x h => by split at h <;> first | rfl | cases h) (fun _ => rfl) (fun _ => rfl) (fun _ _ => by
    refine ⟨rfl, trivial⟩)
def low (a : Int) : Int := bits .and .i64 a 131071
theorem low_bounds (a : Int) : 0 ≤ low a ∧ low a < 131072 := by
  have h : low a = a % 131072 := and_mask a 17 (by decide)
  omega
def la3 (a : Int) : LA where
  ι := Int
  inv := fun p => 0 ≤ p ∧ p ≤ 3
  T := fun p => ⟨40, [(0, int_ .i64 a), (3, .one (.a (.ptr 0 0))), (4, int_ .i64 p)], [some ⟨true, .flat [.v (.int .i64 p)]⟩]⟩
  μ := fun p => (3 - p).toNat
  ren := fun _ => [0]
def la10 (a : Int) : LA where
  ι := Int × Int
  inv := fun p => 3 ≤ p.1 ∧ (p.1 ≤ 3 ∨ p.1 ≤ low a + 1) ∧ (3 < p.1 → p.2 = (p.1 - 1) % 65536)
  T := fun p => ⟨40, [(0, int_ .i64 (low a)), (3, .one (.a (.ptr 0 0))), (5, int_ .i64 p.2), (6, int_ .i64 p.1)], [some ⟨true, .flat [.v (.int .i64 (p.1 % 65536))]⟩]⟩
  μ := fun p => (low a + 1 - p.1).toNat
  ren := fun _ => [0]
def cx (a : Int) : Cx Try.prog := { ps := [nilNext], es := [], is := [inl fn13 cx0], n0 := 0, loops := fun i => match i with | 3 => some (.inv (la3 a)) | 10 => some (.inv (la10 a)) | _ => none, cuts := fun _ => none }
set_option maxRecDepth 100000
attribute [local irreducible] enter
theorem runs (a : Int) : Runs (cx a) Try.f3 [int_ .i64 a] [] yes := by
  have hlow := low_bounds a
  repeat' (first | exact trivial | (refine fun _ => ?_) | refine ⟨?_, ?_⟩ | fail)
  · exact enter_mk (la := la3 a) (0 : Int) ⟨by decide, by decide⟩ ⟨rfl, rfl, rfl, rfl, trivial⟩
  · rename_i i hi h1 h2
    exact absurd rfl h2
  · rename_i i hi h1 h2
    obtain ⟨i, rfl⟩ : ∃ k : Int, k = i := ⟨i, rfl⟩
    obtain ⟨hi1, hi2⟩ := hi
    refine enter_mk (la := la3 a) (i + 1 : Int) ⟨by omega, by omega⟩ ⟨rfl, rfl, (w64 (by omega)).symm, ?_, ?_⟩
    · show i + 1 = (IntKind.i64.wrap (i + 1)).tmod 65536
      rw [w64 (by omega), Int.tmod_eq_emod_of_nonneg (by omega)]; omega
    · show (3 - (i + 1)).toNat < (3 - i).toNat
      omega
  · rename_i i hi h1
    obtain ⟨i, rfl⟩ : ∃ k : Int, k = i := ⟨i, rfl⟩
    obtain ⟨hi1, hi2⟩ := hi
    obtain rfl : i = 3 := by omega
    exact enter_mk (la := la10 a) ((3, 0) : Int × Int) ⟨by decide, .inl (by decide), fun h => absurd h (by decide)⟩ ⟨rfl, rfl, rfl, rfl, rfl, trivial⟩
  · rename_i i hi h0 j hj h1
    obtain ⟨hj1, hj2, hj3⟩ := hj
    refine enter_mk (la := la10 a) ((j.1 + 1, j.1 % 65536) : Int × Int) ⟨by show 3 ≤ j.1 + 1; omega, .inr (by show j.1 + 1 ≤ _; omega), fun _ => by show j.1 % 65536 = (j.1 + 1 - 1) % 65536; omega⟩ ⟨rfl, rfl, rfl, (w64 (by omega)).symm, ?_, ?_⟩
    · show (j.1 + 1) % 65536 = (IntKind.i64.wrap (j.1 % 65536 + 1)).tmod 65536
      rw [w64 (by omega), Int.tmod_eq_emod_of_nonneg (by omega)]; omega
    · show (low a + 1 - (j.1 + 1)).toNat < (low a + 1 - j.1).toNat
      omega
  · rfl
  · rfl
  · rename_i i hi h0 j hj h1 h2 h3
    obtain ⟨hj1, hj2, hj3⟩ := hj
    have : j.1 = low a + 1 := by omega
    have h5 := hj3 (by omega)
    refine absurd ?_ h3
    rw [Int.tmod_eq_emod_of_nonneg (by omega), h5, this]
    omega

theorem own : ownKnob Try.prog.godebug = none := by kernel_rfl

set_option maxRecDepth 100000 in
theorem lifted (os : Os) (started : os.Started) (H : Type) (enc : TypeId × Value → H) :
    ReturnsInHanded {} Try.checked os 3 .any (Rows.seqrGivesSpec.pre6 enc Try.prog Try.f3 Rows.seqrGivesRow.domain false) (Rows.seqrGivesSpec.post enc Try.prog Try.f3 false true false false) := by
  refine returnsInHanded_of_change (C := Try.checked) own started (by kernel_rfl) Try.func3
    (ChangeSpec.witness6 (enc := enc) (C := Try.checked) false ⟨#[], #[.int .i64 0], []⟩ 8 (by kernel_rfl) (by kernel_rfl) (by kernel_rfl) (by kernel_rfl)) ?_
  intro W base args ds gs before hval0 hW hcnd _
  have hval : ∀ (j : Nat) t v, Try.f3.params[j]? = some t → args[j]? = some v → Value.okWide Try.prog W .any base t v := hval0
  have hW' := hW
  obtain ⟨p, q, hA0, hV, rfl, hfz, hnd⟩ := hW
  have hA : DataW.TrodAll enc Try.prog W 0 (fun _ => true) true Try.f3.params.toList args.toList ds p := hA0
  rw [Try.params3] at hA hval
  obtain ⟨v0, vs0, d0, ds0, p0, q0, hargs0, rfl, rfl, h0, r0⟩ := trodAll_cons hA
  obtain ⟨rfl, rfl, rfl⟩ := trodAll_nil r0
  obtain ⟨rfl, rfl⟩ := trodVars_none hV
  obtain rfl : args = #[v0] := by cases args; simp_all
  obtain ⟨a0, rfl, rfl, rfl, w0⟩ := open_int Try.underlying3 (hval 0 3 v0 rfl rfl) h0
  refine Calls.mono (law_calls mixed Try.func3 (runs a0) (rel_nil (fun _ => none) W) (Nat.le_refl 0) rfl) fun e W' ⟨he, hb⟩ => ?_
  subst he
  exact ⟨_, rfl, law_post hW' rfl rfl (by kernel_rfl) (by decide +kernel) rfl Try.underlying4 hb⟩

theorem over : Rows.seqrGivesRow.holds Try.pinned (OpenSpec.ofChange Rows.seqrGivesSpec) :=
  OpenClaim.holds_of_wide 3 Try.f3 rfl rfl rfl rfl rfl rfl rfl ⟨rfl, rfl, rfl, rfl, rfl⟩ rfl rfl rfl rfl rfl (by kernel_rfl) Try.func3 (by kernel_rfl)
    (of_decide_eq_true (by kernel_rfl)) (by unfold Func.isWrapper; first | (rw [if_pos (by decide +kernel)]; kernel_rfl) | (rw [if_neg (by decide +kernel)]; exact ⟨rfl, rfl⟩))
    (fun os started H enc _ => lifted os started H enc)

/-- SeqrGives -/
theorem proved : Rows.SeqrGivesSaid := over
#print axioms proved
end Go.Proofs.Ytlhlegjndembdaa.seqrGives
