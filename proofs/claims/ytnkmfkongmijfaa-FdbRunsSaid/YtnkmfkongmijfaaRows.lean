/-
  No cell of these rows narrows 'for every input' (looked for: loops, veiled, ifaces, maps, wideKeys, modest, calm, conditions, laid).
  DERIVED. THE GIVEN ROWS OF THIS SEAT. 6 by the template 'for every input the law returns true; each argument reads behind the call as it read before'; 0 by the template 'total and deterministic' (their statements: YtnkmfkongmijfaaTotals.lean).
  GIVEN WITH THE SEED: the statements are not yours to turn. If you find one false, say at which input.
  Laid BY PROGRAM, IN A SANDBOX (cutbox-rows.mjs): the forced cells as the released guide's own fill.sh prints them over the translation ff22699f9e121afc… (all of the seat's roots in one cut). By AI agents, Wed Nov 11 2026. No macro, syntax, notation, axiom, sorry.
-/
import Derived.Test.YtnkmfkongmijfaaChecked
import GoSem.Claim
import GoSem.ClaimJoined
import GoSem.ClaimMapViews
import Derived.JoinedTies
import Derived.KernelRfl
namespace Go.Proofs.Ytnkmfkongmijfaa
/- THE CELL 'sum', in the pinned program and in every row, IS THE sha256 OF THE DUMP (.gsa) THAT YtnkmfkongmijfaaProg.lean LOADS. Nothing in Lean hashes anything: it is a label: what it is worth is what the hold of that sum in a sandbox is worth. -/
noncomputable def Try.pinned : Pinned := { name := "ytnkmfkongmijfaa", sum := "ff22699f9e121afc56d6c919099c442cd0b19f905b8d903848cc456c3e2f8589", checked := Try.checked }
namespace Rows
def none {H : Type} : Left H := { results := [], args := [] }

/-- 'sandglasslaw09.FdbApart': WHATEVER THE INPUT: true; the input reads as it did. -/
def fdbApartSpec : ChangeSpec := { name := "fdbApart", fn := fun _ => fun
  | [d1, d2, d3, d4, d5] => { results := [.lit (.bool true)], args := [d1, d2, d3, d4, d5] }
  | _ => none }
def fdbApartRow : OpenClaim := { program := "ytnkmfkongmijfaa", sum := "ff22699f9e121afc56d6c919099c442cd0b19f905b8d903848cc456c3e2f8589", func := "sandglass/sandglasslaw09.FdbApart", spec := "fdbApart", plainKeys := false, apart := false }
def FdbApartSaid : Prop := fdbApartRow.holds Try.pinned (OpenSpec.ofChange fdbApartSpec)

/-- ITS FALSE NEIGHBOUR: 'it returns false'. Refute it at one input. -/
def fdbApartWrong : ChangeSpec := { name := "fdbApart", fn := fun _ => fun
  | [d1, d2, d3, d4, d5] => { results := [.lit (.bool false)], args := [d1, d2, d3, d4, d5] }
  | _ => none }
def FdbApartWrongFalsely : Prop := fdbApartRow.holds Try.pinned (OpenSpec.ofChange fdbApartWrong)

/-- 'sandglasslaw09.FdbFlush': WHATEVER THE INPUT: true; the input reads as it did. -/
def fdbFlushSpec : ChangeSpec := { name := "fdbFlush", fn := fun _ => fun
  | [d1, d2] => { results := [.lit (.bool true)], args := [d1, d2] }
  | _ => none }
def fdbFlushRow : OpenClaim := { program := "ytnkmfkongmijfaa", sum := "ff22699f9e121afc56d6c919099c442cd0b19f905b8d903848cc456c3e2f8589", func := "sandglass/sandglasslaw09.FdbFlush", spec := "fdbFlush", plainKeys := false, apart := false }
def FdbFlushSaid : Prop := fdbFlushRow.holds Try.pinned (OpenSpec.ofChange fdbFlushSpec)

/-- ITS FALSE NEIGHBOUR: 'it returns false'. Refute it at one input. -/
def fdbFlushWrong : ChangeSpec := { name := "fdbFlush", fn := fun _ => fun
  | [d1, d2] => { results := [.lit (.bool false)], args := [d1, d2] }
  | _ => none }
def FdbFlushWrongFalsely : Prop := fdbFlushRow.holds Try.pinned (OpenSpec.ofChange fdbFlushWrong)

/-- 'sandglasslaw09.FdbMoves': WHATEVER THE INPUT: true; the input reads as it did. -/
def fdbMovesSpec : ChangeSpec := { name := "fdbMoves", fn := fun _ => fun
  | [d1, d2, d3] => { results := [.lit (.bool true)], args := [d1, d2, d3] }
  | _ => none }
def fdbMovesRow : OpenClaim := { program := "ytnkmfkongmijfaa", sum := "ff22699f9e121afc56d6c919099c442cd0b19f905b8d903848cc456c3e2f8589", func := "sandglass/sandglasslaw09.FdbMoves", spec := "fdbMoves", plainKeys := false, apart := false }
def FdbMovesSaid : Prop := fdbMovesRow.holds Try.pinned (OpenSpec.ofChange fdbMovesSpec)

/-- ITS FALSE NEIGHBOUR: 'it returns false'. Refute it at one input. -/
def fdbMovesWrong : ChangeSpec := { name := "fdbMoves", fn := fun _ => fun
  | [d1, d2, d3] => { results := [.lit (.bool false)], args := [d1, d2, d3] }
  | _ => none }
def FdbMovesWrongFalsely : Prop := fdbMovesRow.holds Try.pinned (OpenSpec.ofChange fdbMovesWrong)

/-- 'sandglasslaw09.FdbRoom': WHATEVER THE INPUT: true; the input reads as it did. -/
def fdbRoomSpec : ChangeSpec := { name := "fdbRoom", fn := fun _ => fun
  | [d1, d2, d3] => { results := [.lit (.bool true)], args := [d1, d2, d3] }
  | _ => none }
def fdbRoomRow : OpenClaim := { program := "ytnkmfkongmijfaa", sum := "ff22699f9e121afc56d6c919099c442cd0b19f905b8d903848cc456c3e2f8589", func := "sandglass/sandglasslaw09.FdbRoom", spec := "fdbRoom", plainKeys := false, apart := false }
def FdbRoomSaid : Prop := fdbRoomRow.holds Try.pinned (OpenSpec.ofChange fdbRoomSpec)

/-- ITS FALSE NEIGHBOUR: 'it returns false'. Refute it at one input. -/
def fdbRoomWrong : ChangeSpec := { name := "fdbRoom", fn := fun _ => fun
  | [d1, d2, d3] => { results := [.lit (.bool false)], args := [d1, d2, d3] }
  | _ => none }
def FdbRoomWrongFalsely : Prop := fdbRoomRow.holds Try.pinned (OpenSpec.ofChange fdbRoomWrong)

/-- 'sandglasslaw09.FdbTags': WHATEVER THE INPUT: true; the input reads as it did. -/
def fdbTagsSpec : ChangeSpec := { name := "fdbTags", fn := fun _ => fun
  | [d1, d2, d3] => { results := [.lit (.bool true)], args := [d1, d2, d3] }
  | _ => none }
def fdbTagsRow : OpenClaim := { program := "ytnkmfkongmijfaa", sum := "ff22699f9e121afc56d6c919099c442cd0b19f905b8d903848cc456c3e2f8589", func := "sandglass/sandglasslaw09.FdbTags", spec := "fdbTags", plainKeys := false, apart := false }
def FdbTagsSaid : Prop := fdbTagsRow.holds Try.pinned (OpenSpec.ofChange fdbTagsSpec)

/-- ITS FALSE NEIGHBOUR: 'it returns false'. Refute it at one input. -/
def fdbTagsWrong : ChangeSpec := { name := "fdbTags", fn := fun _ => fun
  | [d1, d2, d3] => { results := [.lit (.bool false)], args := [d1, d2, d3] }
  | _ => none }
def FdbTagsWrongFalsely : Prop := fdbTagsRow.holds Try.pinned (OpenSpec.ofChange fdbTagsWrong)

/-- 'sandglasslaw09.FdbRuns': WHATEVER THE INPUT: true; the input reads as it did. -/
def fdbRunsSpec : ChangeSpec := { name := "fdbRuns", fn := fun _ => fun
  | [d1, d2, d3] => { results := [.lit (.bool true)], args := [d1, d2, d3] }
  | _ => none }
def fdbRunsRow : OpenClaim := { program := "ytnkmfkongmijfaa", sum := "ff22699f9e121afc56d6c919099c442cd0b19f905b8d903848cc456c3e2f8589", func := "sandglass/sandglasslaw09.FdbRuns", spec := "fdbRuns", plainKeys := false, apart := false }
def FdbRunsSaid : Prop := fdbRunsRow.holds Try.pinned (OpenSpec.ofChange fdbRunsSpec)

/-- ITS FALSE NEIGHBOUR: 'it returns false'. Refute it at one input. -/
def fdbRunsWrong : ChangeSpec := { name := "fdbRuns", fn := fun _ => fun
  | [d1, d2, d3] => { results := [.lit (.bool false)], args := [d1, d2, d3] }
  | _ => none }
def FdbRunsWrongFalsely : Prop := fdbRunsRow.holds Try.pinned (OpenSpec.ofChange fdbRunsWrong)

/- THE SECOND FORM. 'bulk': how many values and letters a reading holds, each counted each time it is reached (what is shared counts as often as it is met; a slice's spare places count too). A statement '..UptoSaid' is the law's where the arguments, and the package variables that the reading takes, are together of bulk at most 1048576: NARROWER than '..Said'. Prove '..Said' where nothing that the law and all that it calls make is longer than what came in: it says more and counts as full. Else prove '..UptoSaid'. A law counts once. -/
mutual
def uptoBulk {H : Type} : DataW H → Nat
  | .lit (.string bytes) => bytes.length + 1
  | .lit _ => 1
  | .nil => 1
  | .ptr d => uptoBulk d + 1
  | .slice elems spare => uptoBulkAll elems + uptoBulkAll spare + 1
  | .agg parts => uptoBulkAll parts + 1
  | .iface _ d => uptoBulk d + 1
  | .map entries => uptoBulkEntries entries + 1
  | .held _ => 1
def uptoBulkAll {H : Type} : List (DataW H) → Nat
  | [] => 0
  | d :: r => uptoBulk d + uptoBulkAll r
def uptoBulkEntries {H : Type} : List (Lit × DataW H) → Nat
  | [] => 0
  | x :: r => uptoBulkEntry x + uptoBulkEntries r
def uptoBulkEntry {H : Type} : Lit × DataW H → Nat
  | (.string bytes, d) => bytes.length + uptoBulk d + 1
  | (_, d) => uptoBulk d + 1
 end
def uptoSmall : (H : Type) → List (DataW H) → Bool := fun _ ds => decide (uptoBulkAll ds ≤ 1048576)
def OpenSpec.upto (s : _root_.Go.ChangeSpec) : _root_.Go.OpenSpec := { _root_.Go.OpenSpec.ofChange s with cond := some uptoSmall }

/-- 'sandglasslaw09.FdbApart', WHERE WHAT IT READS IS OF BULK AT MOST 1048576: true; the input reads as it did. -/
def fdbApartUptoRow : OpenClaim := { program := "ytnkmfkongmijfaa", sum := "ff22699f9e121afc56d6c919099c442cd0b19f905b8d903848cc456c3e2f8589", func := "sandglass/sandglasslaw09.FdbApart", spec := "fdbApart", plainKeys := false, apart := false, narrowed := true }
def FdbApartUptoSaid : Prop := fdbApartUptoRow.holds Try.pinned (OpenSpec.upto fdbApartSpec)

/-- 'sandglasslaw09.FdbFlush', WHERE WHAT IT READS IS OF BULK AT MOST 1048576: true; the input reads as it did. -/
def fdbFlushUptoRow : OpenClaim := { program := "ytnkmfkongmijfaa", sum := "ff22699f9e121afc56d6c919099c442cd0b19f905b8d903848cc456c3e2f8589", func := "sandglass/sandglasslaw09.FdbFlush", spec := "fdbFlush", plainKeys := false, apart := false, narrowed := true }
def FdbFlushUptoSaid : Prop := fdbFlushUptoRow.holds Try.pinned (OpenSpec.upto fdbFlushSpec)

/-- 'sandglasslaw09.FdbMoves', WHERE WHAT IT READS IS OF BULK AT MOST 1048576: true; the input reads as it did. -/
def fdbMovesUptoRow : OpenClaim := { program := "ytnkmfkongmijfaa", sum := "ff22699f9e121afc56d6c919099c442cd0b19f905b8d903848cc456c3e2f8589", func := "sandglass/sandglasslaw09.FdbMoves", spec := "fdbMoves", plainKeys := false, apart := false, narrowed := true }
def FdbMovesUptoSaid : Prop := fdbMovesUptoRow.holds Try.pinned (OpenSpec.upto fdbMovesSpec)

/-- 'sandglasslaw09.FdbRoom', WHERE WHAT IT READS IS OF BULK AT MOST 1048576: true; the input reads as it did. -/
def fdbRoomUptoRow : OpenClaim := { program := "ytnkmfkongmijfaa", sum := "ff22699f9e121afc56d6c919099c442cd0b19f905b8d903848cc456c3e2f8589", func := "sandglass/sandglasslaw09.FdbRoom", spec := "fdbRoom", plainKeys := false, apart := false, narrowed := true }
def FdbRoomUptoSaid : Prop := fdbRoomUptoRow.holds Try.pinned (OpenSpec.upto fdbRoomSpec)

/-- 'sandglasslaw09.FdbTags', WHERE WHAT IT READS IS OF BULK AT MOST 1048576: true; the input reads as it did. -/
def fdbTagsUptoRow : OpenClaim := { program := "ytnkmfkongmijfaa", sum := "ff22699f9e121afc56d6c919099c442cd0b19f905b8d903848cc456c3e2f8589", func := "sandglass/sandglasslaw09.FdbTags", spec := "fdbTags", plainKeys := false, apart := false, narrowed := true }
def FdbTagsUptoSaid : Prop := fdbTagsUptoRow.holds Try.pinned (OpenSpec.upto fdbTagsSpec)

/-- 'sandglasslaw09.FdbRuns', WHERE WHAT IT READS IS OF BULK AT MOST 1048576: true; the input reads as it did. -/
def fdbRunsUptoRow : OpenClaim := { program := "ytnkmfkongmijfaa", sum := "ff22699f9e121afc56d6c919099c442cd0b19f905b8d903848cc456c3e2f8589", func := "sandglass/sandglasslaw09.FdbRuns", spec := "fdbRuns", plainKeys := false, apart := false, narrowed := true }
def FdbRunsUptoSaid : Prop := fdbRunsUptoRow.holds Try.pinned (OpenSpec.upto fdbRunsSpec)

end Rows
end Go.Proofs.Ytnkmfkongmijfaa
