/-
  Contracts of functions, and plain facts about them, that a claim of this seat uses.
-/
import Derived.Test.YtnkmfkongmijfaaSx
import Derived.DeepKeys4
import Derived.Test.YtnkmfkongmijfaaProg
namespace Go.Proofs.Ytnkmfkongmijfaa
open Go.Sx
set_option linter.unusedVariables false
set_option linter.unusedSimpArgs false
set_option maxRecDepth 100000

/-! fdb: its two maps. -/
theorem mixed : Try.prog.follows .mixedOrders = true := by kernel_rfl
theorem fn10 : FnOf Try.prog 10 Try.f10 := ⟨Try.func10, rfl, rfl, mixed⟩
theorem fn11 : FnOf Try.prog 11 Try.f11 := ⟨Try.func11, rfl, rfl, mixed⟩
theorem fn12 : FnOf Try.prog 12 Try.f12 := ⟨Try.func12, rfl, rfl, mixed⟩
theorem fn13 : FnOf Try.prog 13 Try.f13 := ⟨Try.func13, rfl, rfl, mixed⟩
theorem fn14 : FnOf Try.prog 14 Try.f14 := ⟨Try.func14, rfl, rfl, mixed⟩
theorem fn15 : FnOf Try.prog 15 Try.f15 := ⟨Try.func15, rfl, rfl, mixed⟩
theorem fn16 : FnOf Try.prog 16 Try.f16 := ⟨Try.func16, rfl, rfl, mixed⟩
theorem fn17 : FnOf Try.prog 17 Try.f17 := ⟨Try.func17, rfl, rfl, mixed⟩
theorem fn18 : FnOf Try.prog 18 Try.f18 := ⟨Try.func18, rfl, rfl, mixed⟩
theorem fn19 : FnOf Try.prog 19 Try.f19 := ⟨Try.func19, rfl, rfl, mixed⟩
theorem fn29 : FnOf Try.prog 29 Try.f29 := ⟨Try.func29, rfl, rfl, mixed⟩
theorem fn30 : FnOf Try.prog 30 Try.f30 := ⟨Try.func30, rfl, rfl, mixed⟩
noncomputable def VT : MapT Try.prog := ⟨78, 3, 23, [.i64], true, [some .i64, some .i64], false, Try.underlying78⟩
noncomputable def AT : MapT Try.prog := ⟨79, 27, 85, [.i64, .u8, .u8, .u8, .u8, .u8, .u8], false, [some .i64, none, some .i64], false, Try.underlying79⟩
theorem len7 {l : List Int} (h : l.length = 7) : ∃ a b c d e f g, l = [a, b, c, d, e, f, g] := by
  match l, h with
  | [a, b, c, d, e, f, g], _ => exact ⟨a, b, c, d, e, f, g, rfl⟩
theorem VT_ok : MapOK VT where
  law := Maps.int_keyed Try.underlying3
  key := fun l hl => by
    match l, hl with
    | [n], hl =>
      have h1 : (Lit.int .i64 n).wf = true := (Lit.wf_int_iff _ _).2 hl.1
      exact ⟨.int .i64 n, by show keyOf Try.prog 3 (.int .i64 n) = _; simp [keyOf, mapKey, Try.underlying3, h1]⟩
  zero := fun w => by
    show (zeroValue 23).run Try.prog w = .ok (.agg #[.int .i64 0, .int .i64 0]) w
    exact run_zero (P := Try.prog) (t := 23) (i := _) (z := _) rfl rfl w
  one := ⟨fun _ => rfl, fun h => by cases h⟩
theorem size_k : Try.prog.types.size + 1 = (Try.prog.types.size - 4) + 5 := by kernel_rfl
theorem key27 {a b c d e f g : Int} (h0 : (Lit.int .i64 a).wf = true) (h1 : (Lit.int .u8 b).wf = true) (h2 : (Lit.int .u8 c).wf = true) (h3 : (Lit.int .u8 d).wf = true) (h4 : (Lit.int .u8 e).wf = true) (h5 : (Lit.int .u8 f).wf = true) (h6 : (Lit.int .u8 g).wf = true) :
    ∃ q, keyOf Try.prog 27 (.agg #[.int .i64 a, .int .u8 b, .int .u8 c, .int .u8 d, .int .u8 e, .int .u8 f, .int .u8 g]) = some q := by
  have hk : Try.prog.keyType 27 = true := by kernel_rfl
  have c27 : Try.prog.cellsOf 27 = 7 := by kernel_rfl
  have c25 : Try.prog.cellsOf 25 = 6 := by kernel_rfl
  have c24 : Try.prog.cellsOf 24 = 6 := by kernel_rfl
  have c3 : Try.prog.cellsOf 3 = 1 := by kernel_rfl
  have c5 : Try.prog.cellsOf 5 = 1 := by kernel_rfl
  have hl : ∃ ls, Try.prog.keyLits (Try.prog.types.size + 1) 27 [.int .i64 a, .int .u8 b, .int .u8 c, .int .u8 d, .int .u8 e, .int .u8 f, .int .u8 g] = some ls := by
    rw [size_k]
    generalize Try.prog.types.size - 4 = n
    simp [Program.keyLits, Try.underlying27, Try.underlying25, Try.underlying3, Try.underlying5, c27, c25, c24, c3, c5, h0, h1, h2, h3, h4, h5, h6, List.range, List.range.loop]
  obtain ⟨ls, hl⟩ := hl
  refine ⟨.string (keyBytes ls), ?_⟩
  unfold keyOf
  rw [Try.underlying27]
  simp [hk, Value.formed, Try.underlying27, c27, Value.cells]
  exact ⟨ls, hl, rfl⟩
theorem AT_ok : MapOK AT where
  law := Maps.Keyed.of_law (deep_law_laid (P := Try.prog) (by kernel_rfl) (m := 5) (by decide) (k := 27) (of_decide_eq_true (by kernel_rfl)) (by kernel_rfl) (by kernel_rfl))
  key := fun l hl => by
    match l, hl with
    | [a, b, c, d, e, f, g], hl =>
      have h0 : (Lit.int .i64 a).wf = true := (Lit.wf_int_iff _ _).2 hl.1
      have h1 : (Lit.int .u8 b).wf = true := (Lit.wf_int_iff _ _).2 hl.2.1
      have h2 : (Lit.int .u8 c).wf = true := (Lit.wf_int_iff _ _).2 hl.2.2.1
      have h3 : (Lit.int .u8 d).wf = true := (Lit.wf_int_iff _ _).2 hl.2.2.2.1
      have h4 : (Lit.int .u8 e).wf = true := (Lit.wf_int_iff _ _).2 hl.2.2.2.2.1
      have h5 : (Lit.int .u8 f).wf = true := (Lit.wf_int_iff _ _).2 hl.2.2.2.2.2.1
      have h6 : (Lit.int .u8 g).wf = true := (Lit.wf_int_iff _ _).2 hl.2.2.2.2.2.2.1
      exact key27 h0 h1 h2 h3 h4 h5 h6
  zero := fun w => by
    show (zeroValue 85).run Try.prog w = .ok (.agg #[.int .i64 0, .bool false, .int .i64 0]) w
    exact run_zero (P := Try.prog) (t := 85) (i := _) (z := _) rfl rfl w
  one := ⟨fun h => (by cases h), fun h => by cases h⟩

end Go.Proofs.Ytnkmfkongmijfaa
