/-
  No cell of these rows narrows 'for every input' (looked for: loops, veiled, ifaces, maps, wideKeys, modest, calm, conditions, laid).
  DERIVED. THE GIVEN ROWS OF THIS SEAT. 4 by the template 'for every input the law returns true; each argument reads behind the call as it read before'; 0 by the template 'total and deterministic' (their statements: YtmhggafgdilgeaaTotals.lean).
  GIVEN WITH THE SEED: the statements are not yours to turn. If you find one false, say at which input.
  Laid BY PROGRAM, IN A SANDBOX (cutbox-rows.mjs): the forced cells as the released guide's own fill.sh prints them over the translation 89e6353853d59e0a… (all of the seat's roots in one cut). By AI agents, Wed Nov 11 2026. No macro, syntax, notation, axiom, sorry.
-/
import Derived.Test.YtmhggafgdilgeaaChecked
import GoSem.Claim
import GoSem.ClaimJoined
import GoSem.ClaimMapViews
import Derived.JoinedTies
import Derived.KernelRfl
namespace Go.Proofs.Ytmhggafgdilgeaa
/- THE CELL 'sum', in the pinned program and in every row, IS THE sha256 OF THE DUMP (.gsa) THAT YtmhggafgdilgeaaProg.lean LOADS. Nothing in Lean hashes anything: it is a label: what it is worth is what the hold of that sum in a sandbox is worth. -/
noncomputable def Try.pinned : Pinned := { name := "ytmhggafgdilgeaa", sum := "89e6353853d59e0a18fc46417db0ff0aae20dc9d33738a4ea924021d45c2b8d1", checked := Try.checked }
namespace Rows
def none {H : Type} : Left H := { results := [], args := [] }

/-- 'sandglasslaw12.SieveForged': WHATEVER THE INPUT: true; the input reads as it did. -/
def sieveForgedSpec : ChangeSpec := { name := "sieveForged", fn := fun _ => fun
  | [d1, d2, d3, d4] => { results := [.lit (.bool true)], args := [d1, d2, d3, d4] }
  | _ => none }
def sieveForgedRow : OpenClaim := { program := "ytmhggafgdilgeaa", sum := "89e6353853d59e0a18fc46417db0ff0aae20dc9d33738a4ea924021d45c2b8d1", func := "sandglass/sandglasslaw12.SieveForged", spec := "sieveForged", inPlace := ["math/bits.Add64"], named := ["math/bits.divideError", "math/bits.overflowError"], apart := false }
def SieveForgedSaid : Prop := sieveForgedRow.holds Try.pinned (OpenSpec.ofChange sieveForgedSpec)

/-- ITS FALSE NEIGHBOUR: 'it returns false'. Refute it at one input. -/
def sieveForgedWrong : ChangeSpec := { name := "sieveForged", fn := fun _ => fun
  | [d1, d2, d3, d4] => { results := [.lit (.bool false)], args := [d1, d2, d3, d4] }
  | _ => none }
def SieveForgedWrongFalsely : Prop := sieveForgedRow.holds Try.pinned (OpenSpec.ofChange sieveForgedWrong)

/-- 'sandglasslaw12.SieveFirst': WHATEVER THE INPUT: true; the input reads as it did. -/
def sieveFirstSpec : ChangeSpec := { name := "sieveFirst", fn := fun _ => fun
  | [d1, d2] => { results := [.lit (.bool true)], args := [d1, d2] }
  | _ => none }
def sieveFirstRow : OpenClaim := { program := "ytmhggafgdilgeaa", sum := "89e6353853d59e0a18fc46417db0ff0aae20dc9d33738a4ea924021d45c2b8d1", func := "sandglass/sandglasslaw12.SieveFirst", spec := "sieveFirst", inPlace := ["math/bits.Add64"], named := ["math/bits.divideError", "math/bits.overflowError"], apart := false }
def SieveFirstSaid : Prop := sieveFirstRow.holds Try.pinned (OpenSpec.ofChange sieveFirstSpec)

/-- ITS FALSE NEIGHBOUR: 'it returns false'. Refute it at one input. -/
def sieveFirstWrong : ChangeSpec := { name := "sieveFirst", fn := fun _ => fun
  | [d1, d2] => { results := [.lit (.bool false)], args := [d1, d2] }
  | _ => none }
def SieveFirstWrongFalsely : Prop := sieveFirstRow.holds Try.pinned (OpenSpec.ofChange sieveFirstWrong)

/-- 'sandglasslaw12.SieveCounts': WHATEVER THE INPUT: true; the input reads as it did. -/
def sieveCountsSpec : ChangeSpec := { name := "sieveCounts", fn := fun _ => fun
  | [d1, d2] => { results := [.lit (.bool true)], args := [d1, d2] }
  | _ => none }
def sieveCountsRow : OpenClaim := { program := "ytmhggafgdilgeaa", sum := "89e6353853d59e0a18fc46417db0ff0aae20dc9d33738a4ea924021d45c2b8d1", func := "sandglass/sandglasslaw12.SieveCounts", spec := "sieveCounts", inPlace := ["math/bits.Add64"], named := ["math/bits.divideError", "math/bits.overflowError"], apart := false }
def SieveCountsSaid : Prop := sieveCountsRow.holds Try.pinned (OpenSpec.ofChange sieveCountsSpec)

/-- ITS FALSE NEIGHBOUR: 'it returns false'. Refute it at one input. -/
def sieveCountsWrong : ChangeSpec := { name := "sieveCounts", fn := fun _ => fun
  | [d1, d2] => { results := [.lit (.bool false)], args := [d1, d2] }
  | _ => none }
def SieveCountsWrongFalsely : Prop := sieveCountsRow.holds Try.pinned (OpenSpec.ofChange sieveCountsWrong)

/-- 'sandglasslaw12.SieveGates': WHATEVER THE INPUT: true; the input reads as it did. -/
def sieveGatesSpec : ChangeSpec := { name := "sieveGates", fn := fun _ => fun
  | [d1, d2, d3] => { results := [.lit (.bool true)], args := [d1, d2, d3] }
  | _ => none }
def sieveGatesRow : OpenClaim := { program := "ytmhggafgdilgeaa", sum := "89e6353853d59e0a18fc46417db0ff0aae20dc9d33738a4ea924021d45c2b8d1", func := "sandglass/sandglasslaw12.SieveGates", spec := "sieveGates", inPlace := ["math/bits.Add64"], named := ["math/bits.divideError", "math/bits.overflowError"], apart := false }
def SieveGatesSaid : Prop := sieveGatesRow.holds Try.pinned (OpenSpec.ofChange sieveGatesSpec)

/-- ITS FALSE NEIGHBOUR: 'it returns false'. Refute it at one input. -/
def sieveGatesWrong : ChangeSpec := { name := "sieveGates", fn := fun _ => fun
  | [d1, d2, d3] => { results := [.lit (.bool false)], args := [d1, d2, d3] }
  | _ => none }
def SieveGatesWrongFalsely : Prop := sieveGatesRow.holds Try.pinned (OpenSpec.ofChange sieveGatesWrong)

/- THE SECOND FORM. 'bulk': how many values and letters a reading holds, each counted each time it is reached (what is shared counts as often as it is met; a slice's spare places count too). A statement '..UptoSaid' is the law's where the arguments, and the package variables that the reading takes, are together of bulk at most 1048576: NARROWER than '..Said'. Prove '..Said' where nothing that the law and all that it calls make is longer than what came in: it says more and counts as full. Else prove '..UptoSaid'. A law counts once. -/
mutual
def uptoBulk {H : Type} : DataW H → Nat
  | .lit (.string bytes) => bytes.length + 1
  | .lit _ => 1
  | .nil => 1
  | .ptr d => uptoBulk d + 1
  | .slice elems spare => uptoBulkAll elems + uptoBulkAll spare + 1
  | .agg parts => uptoBulkAll parts + 1
  | .iface _ d => uptoBulk d + 1
  | .map entries => uptoBulkEntries entries + 1
  | .held _ => 1
def uptoBulkAll {H : Type} : List (DataW H) → Nat
  | [] => 0
  | d :: r => uptoBulk d + uptoBulkAll r
def uptoBulkEntries {H : Type} : List (Lit × DataW H) → Nat
  | [] => 0
  | x :: r => uptoBulkEntry x + uptoBulkEntries r
def uptoBulkEntry {H : Type} : Lit × DataW H → Nat
  | (.string bytes, d) => bytes.length + uptoBulk d + 1
  | (_, d) => uptoBulk d + 1
 end
def uptoSmall : (H : Type) → List (DataW H) → Bool := fun _ ds => decide (uptoBulkAll ds ≤ 1048576)
def OpenSpec.upto (s : _root_.Go.ChangeSpec) : _root_.Go.OpenSpec := { _root_.Go.OpenSpec.ofChange s with cond := some uptoSmall }

/-- 'sandglasslaw12.SieveForged', WHERE WHAT IT READS IS OF BULK AT MOST 1048576: true; the input reads as it did. -/
def sieveForgedUptoRow : OpenClaim := { program := "ytmhggafgdilgeaa", sum := "89e6353853d59e0a18fc46417db0ff0aae20dc9d33738a4ea924021d45c2b8d1", func := "sandglass/sandglasslaw12.SieveForged", spec := "sieveForged", inPlace := ["math/bits.Add64"], named := ["math/bits.divideError", "math/bits.overflowError"], apart := false, narrowed := true }
def SieveForgedUptoSaid : Prop := sieveForgedUptoRow.holds Try.pinned (OpenSpec.upto sieveForgedSpec)

/-- 'sandglasslaw12.SieveFirst', WHERE WHAT IT READS IS OF BULK AT MOST 1048576: true; the input reads as it did. -/
def sieveFirstUptoRow : OpenClaim := { program := "ytmhggafgdilgeaa", sum := "89e6353853d59e0a18fc46417db0ff0aae20dc9d33738a4ea924021d45c2b8d1", func := "sandglass/sandglasslaw12.SieveFirst", spec := "sieveFirst", inPlace := ["math/bits.Add64"], named := ["math/bits.divideError", "math/bits.overflowError"], apart := false, narrowed := true }
def SieveFirstUptoSaid : Prop := sieveFirstUptoRow.holds Try.pinned (OpenSpec.upto sieveFirstSpec)

/-- 'sandglasslaw12.SieveCounts', WHERE WHAT IT READS IS OF BULK AT MOST 1048576: true; the input reads as it did. -/
def sieveCountsUptoRow : OpenClaim := { program := "ytmhggafgdilgeaa", sum := "89e6353853d59e0a18fc46417db0ff0aae20dc9d33738a4ea924021d45c2b8d1", func := "sandglass/sandglasslaw12.SieveCounts", spec := "sieveCounts", inPlace := ["math/bits.Add64"], named := ["math/bits.divideError", "math/bits.overflowError"], apart := false, narrowed := true }
def SieveCountsUptoSaid : Prop := sieveCountsUptoRow.holds Try.pinned (OpenSpec.upto sieveCountsSpec)

/-- 'sandglasslaw12.SieveGates', WHERE WHAT IT READS IS OF BULK AT MOST 1048576: true; the input reads as it did. -/
def sieveGatesUptoRow : OpenClaim := { program := "ytmhggafgdilgeaa", sum := "89e6353853d59e0a18fc46417db0ff0aae20dc9d33738a4ea924021d45c2b8d1", func := "sandglass/sandglasslaw12.SieveGates", spec := "sieveGates", inPlace := ["math/bits.Add64"], named := ["math/bits.divideError", "math/bits.overflowError"], apart := false, narrowed := true }
def SieveGatesUptoSaid : Prop := sieveGatesUptoRow.holds Try.pinned (OpenSpec.upto sieveGatesSpec)

end Rows
end Go.Proofs.Ytmhggafgdilgeaa
