/-
  No cell of these rows narrows 'for every input' (looked for: loops, veiled, ifaces, maps, wideKeys, modest, calm, conditions, laid).
  DERIVED. THE GIVEN ROWS OF THIS SEAT. 5 by the template 'for every input the law returns true; each argument reads behind the call as it read before'; 0 by the template 'total and deterministic' (their statements: YtdphgjnflaahbaaTotals.lean).
  GIVEN WITH THE SEED: the statements are not yours to turn. If you find one false, say at which input.
  Laid BY PROGRAM, IN A SANDBOX (cutbox-rows.mjs): the forced cells as the released guide's own fill.sh prints them over the translation b45d7faa2c849ac4… (all of the seat's roots in one cut). By AI agents, Wed Nov 11 2026. No macro, syntax, notation, axiom, sorry.
-/
import Derived.Test.YtdphgjnflaahbaaChecked
import GoSem.Claim
import GoSem.ClaimJoined
import GoSem.ClaimMapViews
import Derived.JoinedTies
import Derived.KernelRfl
namespace Go.Proofs.Ytdphgjnflaahbaa
/- THE CELL 'sum', in the pinned program and in every row, IS THE sha256 OF THE DUMP (.gsa) THAT YtdphgjnflaahbaaProg.lean LOADS. Nothing in Lean hashes anything: it is a label: what it is worth is what the hold of that sum in a sandbox is worth. -/
noncomputable def Try.pinned : Pinned := { name := "ytdphgjnflaahbaa", sum := "b45d7faa2c849ac472a5a35677e3edd35e0df6797ecb2003994eb740f2240c58", checked := Try.checked }
namespace Rows
def none {H : Type} : Left H := { results := [], args := [] }

/-- 'sandglasslaw10.MeterBounds': WHATEVER THE INPUT: true; the input reads as it did. -/
def meterBoundsSpec : ChangeSpec := { name := "meterBounds", fn := fun _ => fun
  | [d1, d2] => { results := [.lit (.bool true)], args := [d1, d2] }
  | _ => none }
def meterBoundsRow : OpenClaim := { program := "ytdphgjnflaahbaa", sum := "b45d7faa2c849ac472a5a35677e3edd35e0df6797ecb2003994eb740f2240c58", func := "sandglass/sandglasslaw10.MeterBounds", spec := "meterBounds", inPlace := ["math/bits.Add64"], named := ["math/bits.divideError", "math/bits.overflowError"], apart := false }
def MeterBoundsSaid : Prop := meterBoundsRow.holds Try.pinned (OpenSpec.ofChange meterBoundsSpec)

/-- ITS FALSE NEIGHBOUR: 'it returns false'. Refute it at one input. -/
def meterBoundsWrong : ChangeSpec := { name := "meterBounds", fn := fun _ => fun
  | [d1, d2] => { results := [.lit (.bool false)], args := [d1, d2] }
  | _ => none }
def MeterBoundsWrongFalsely : Prop := meterBoundsRow.holds Try.pinned (OpenSpec.ofChange meterBoundsWrong)

/-- 'sandglasslaw10.MeterShuts': WHATEVER THE INPUT: true; the input reads as it did. -/
def meterShutsSpec : ChangeSpec := { name := "meterShuts", fn := fun _ => fun
  | [d1, d2] => { results := [.lit (.bool true)], args := [d1, d2] }
  | _ => none }
def meterShutsRow : OpenClaim := { program := "ytdphgjnflaahbaa", sum := "b45d7faa2c849ac472a5a35677e3edd35e0df6797ecb2003994eb740f2240c58", func := "sandglass/sandglasslaw10.MeterShuts", spec := "meterShuts", inPlace := ["math/bits.Add64"], named := ["math/bits.divideError", "math/bits.overflowError"], apart := false }
def MeterShutsSaid : Prop := meterShutsRow.holds Try.pinned (OpenSpec.ofChange meterShutsSpec)

/-- ITS FALSE NEIGHBOUR: 'it returns false'. Refute it at one input. -/
def meterShutsWrong : ChangeSpec := { name := "meterShuts", fn := fun _ => fun
  | [d1, d2] => { results := [.lit (.bool false)], args := [d1, d2] }
  | _ => none }
def MeterShutsWrongFalsely : Prop := meterShutsRow.holds Try.pinned (OpenSpec.ofChange meterShutsWrong)

/-- 'sandglasslaw10.MeterLate': WHATEVER THE INPUT: true; the input reads as it did. -/
def meterLateSpec : ChangeSpec := { name := "meterLate", fn := fun _ => fun
  | [d1, d2, d3] => { results := [.lit (.bool true)], args := [d1, d2, d3] }
  | _ => none }
def meterLateRow : OpenClaim := { program := "ytdphgjnflaahbaa", sum := "b45d7faa2c849ac472a5a35677e3edd35e0df6797ecb2003994eb740f2240c58", func := "sandglass/sandglasslaw10.MeterLate", spec := "meterLate", inPlace := ["math/bits.Add64"], named := ["math/bits.divideError", "math/bits.overflowError"], apart := false }
def MeterLateSaid : Prop := meterLateRow.holds Try.pinned (OpenSpec.ofChange meterLateSpec)

/-- ITS FALSE NEIGHBOUR: 'it returns false'. Refute it at one input. -/
def meterLateWrong : ChangeSpec := { name := "meterLate", fn := fun _ => fun
  | [d1, d2, d3] => { results := [.lit (.bool false)], args := [d1, d2, d3] }
  | _ => none }
def MeterLateWrongFalsely : Prop := meterLateRow.holds Try.pinned (OpenSpec.ofChange meterLateWrong)

/-- 'sandglasslaw10.MeterFull': WHATEVER THE INPUT: true; the input reads as it did. -/
def meterFullSpec : ChangeSpec := { name := "meterFull", fn := fun _ => fun
  | [d1, d2] => { results := [.lit (.bool true)], args := [d1, d2] }
  | _ => none }
def meterFullRow : OpenClaim := { program := "ytdphgjnflaahbaa", sum := "b45d7faa2c849ac472a5a35677e3edd35e0df6797ecb2003994eb740f2240c58", func := "sandglass/sandglasslaw10.MeterFull", spec := "meterFull", inPlace := ["math/bits.Add64"], named := ["math/bits.divideError", "math/bits.overflowError"], apart := false }
def MeterFullSaid : Prop := meterFullRow.holds Try.pinned (OpenSpec.ofChange meterFullSpec)

/-- ITS FALSE NEIGHBOUR: 'it returns false'. Refute it at one input. -/
def meterFullWrong : ChangeSpec := { name := "meterFull", fn := fun _ => fun
  | [d1, d2] => { results := [.lit (.bool false)], args := [d1, d2] }
  | _ => none }
def MeterFullWrongFalsely : Prop := meterFullRow.holds Try.pinned (OpenSpec.ofChange meterFullWrong)

/-- 'sandglasslaw10.MeterRuns': WHATEVER THE INPUT: true; the input reads as it did. -/
def meterRunsSpec : ChangeSpec := { name := "meterRuns", fn := fun _ => fun
  | [d1, d2, d3] => { results := [.lit (.bool true)], args := [d1, d2, d3] }
  | _ => none }
def meterRunsRow : OpenClaim := { program := "ytdphgjnflaahbaa", sum := "b45d7faa2c849ac472a5a35677e3edd35e0df6797ecb2003994eb740f2240c58", func := "sandglass/sandglasslaw10.MeterRuns", spec := "meterRuns", inPlace := ["math/bits.Add64"], named := ["math/bits.divideError", "math/bits.overflowError"], apart := false }
def MeterRunsSaid : Prop := meterRunsRow.holds Try.pinned (OpenSpec.ofChange meterRunsSpec)

/-- ITS FALSE NEIGHBOUR: 'it returns false'. Refute it at one input. -/
def meterRunsWrong : ChangeSpec := { name := "meterRuns", fn := fun _ => fun
  | [d1, d2, d3] => { results := [.lit (.bool false)], args := [d1, d2, d3] }
  | _ => none }
def MeterRunsWrongFalsely : Prop := meterRunsRow.holds Try.pinned (OpenSpec.ofChange meterRunsWrong)

/- THE SECOND FORM. 'bulk': how many values and letters a reading holds, each counted each time it is reached (what is shared counts as often as it is met; a slice's spare places count too). A statement '..UptoSaid' is the law's where the arguments, and the package variables that the reading takes, are together of bulk at most 1048576: NARROWER than '..Said'. Prove '..Said' where nothing that the law and all that it calls make is longer than what came in: it says more and counts as full. Else prove '..UptoSaid'. A law counts once. -/
mutual
def uptoBulk {H : Type} : DataW H → Nat
  | .lit (.string bytes) => bytes.length + 1
  | .lit _ => 1
  | .nil => 1
  | .ptr d => uptoBulk d + 1
  | .slice elems spare => uptoBulkAll elems + uptoBulkAll spare + 1
  | .agg parts => uptoBulkAll parts + 1
  | .iface _ d => uptoBulk d + 1
  | .map entries => uptoBulkEntries entries + 1
  | .held _ => 1
def uptoBulkAll {H : Type} : List (DataW H) → Nat
  | [] => 0
  | d :: r => uptoBulk d + uptoBulkAll r
def uptoBulkEntries {H : Type} : List (Lit × DataW H) → Nat
  | [] => 0
  | x :: r => uptoBulkEntry x + uptoBulkEntries r
def uptoBulkEntry {H : Type} : Lit × DataW H → Nat
  | (.string bytes, d) => bytes.length + uptoBulk d + 1
  | (_, d) => uptoBulk d + 1
 end
def uptoSmall : (H : Type) → List (DataW H) → Bool := fun _ ds => decide (uptoBulkAll ds ≤ 1048576)
def OpenSpec.upto (s : _root_.Go.ChangeSpec) : _root_.Go.OpenSpec := { _root_.Go.OpenSpec.ofChange s with cond := some uptoSmall }

/-- 'sandglasslaw10.MeterBounds', WHERE WHAT IT READS IS OF BULK AT MOST 1048576: true; the input reads as it did. -/
def meterBoundsUptoRow : OpenClaim := { program := "ytdphgjnflaahbaa", sum := "b45d7faa2c849ac472a5a35677e3edd35e0df6797ecb2003994eb740f2240c58", func := "sandglass/sandglasslaw10.MeterBounds", spec := "meterBounds", inPlace := ["math/bits.Add64"], named := ["math/bits.divideError", "math/bits.overflowError"], apart := false, narrowed := true }
def MeterBoundsUptoSaid : Prop := meterBoundsUptoRow.holds Try.pinned (OpenSpec.upto meterBoundsSpec)

/-- 'sandglasslaw10.MeterShuts', WHERE WHAT IT READS IS OF BULK AT MOST 1048576: true; the input reads as it did. -/
def meterShutsUptoRow : OpenClaim := { program := "ytdphgjnflaahbaa", sum := "b45d7faa2c849ac472a5a35677e3edd35e0df6797ecb2003994eb740f2240c58", func := "sandglass/sandglasslaw10.MeterShuts", spec := "meterShuts", inPlace := ["math/bits.Add64"], named := ["math/bits.divideError", "math/bits.overflowError"], apart := false, narrowed := true }
def MeterShutsUptoSaid : Prop := meterShutsUptoRow.holds Try.pinned (OpenSpec.upto meterShutsSpec)

/-- 'sandglasslaw10.MeterLate', WHERE WHAT IT READS IS OF BULK AT MOST 1048576: true; the input reads as it did. -/
def meterLateUptoRow : OpenClaim := { program := "ytdphgjnflaahbaa", sum := "b45d7faa2c849ac472a5a35677e3edd35e0df6797ecb2003994eb740f2240c58", func := "sandglass/sandglasslaw10.MeterLate", spec := "meterLate", inPlace := ["math/bits.Add64"], named := ["math/bits.divideError", "math/bits.overflowError"], apart := false, narrowed := true }
def MeterLateUptoSaid : Prop := meterLateUptoRow.holds Try.pinned (OpenSpec.upto meterLateSpec)

/-- 'sandglasslaw10.MeterFull', WHERE WHAT IT READS IS OF BULK AT MOST 1048576: true; the input reads as it did. -/
def meterFullUptoRow : OpenClaim := { program := "ytdphgjnflaahbaa", sum := "b45d7faa2c849ac472a5a35677e3edd35e0df6797ecb2003994eb740f2240c58", func := "sandglass/sandglasslaw10.MeterFull", spec := "meterFull", inPlace := ["math/bits.Add64"], named := ["math/bits.divideError", "math/bits.overflowError"], apart := false, narrowed := true }
def MeterFullUptoSaid : Prop := meterFullUptoRow.holds Try.pinned (OpenSpec.upto meterFullSpec)

/-- 'sandglasslaw10.MeterRuns', WHERE WHAT IT READS IS OF BULK AT MOST 1048576: true; the input reads as it did. -/
def meterRunsUptoRow : OpenClaim := { program := "ytdphgjnflaahbaa", sum := "b45d7faa2c849ac472a5a35677e3edd35e0df6797ecb2003994eb740f2240c58", func := "sandglass/sandglasslaw10.MeterRuns", spec := "meterRuns", inPlace := ["math/bits.Add64"], named := ["math/bits.divideError", "math/bits.overflowError"], apart := false, narrowed := true }
def MeterRunsUptoSaid : Prop := meterRunsUptoRow.holds Try.pinned (OpenSpec.upto meterRunsSpec)

end Rows
end Go.Proofs.Ytdphgjnflaahbaa
