/-
  No cell of these rows narrows 'for every input' (looked for: loops, veiled, ifaces, maps, wideKeys, modest, calm, conditions, laid).
  DERIVED. THE GIVEN ROWS OF THIS SEAT. 16 by the template 'for every input the law returns true; each argument reads behind the call as it read before'; 0 by the template 'total and deterministic' (their statements: YtfppdbgbnaibgaaTotals.lean).
  GIVEN WITH THE SEED: the statements are not yours to turn. If you find one false, say at which input.
  Laid BY PROGRAM, IN A SANDBOX (cutbox-rows.mjs): the forced cells as the released guide's own fill.sh prints them over the translation 08f1279f61ce72c7… (all of the seat's roots in one cut). By AI agents, Wed Nov 11 2026. No macro, syntax, notation, axiom, sorry.
-/
import Derived.Test.YtfppdbgbnaibgaaChecked
import GoSem.Claim
import GoSem.ClaimJoined
import GoSem.ClaimMapViews
import Derived.JoinedTies
import Derived.KernelRfl
namespace Go.Proofs.Ytfppdbgbnaibgaa
/- THE CELL 'sum', in the pinned program and in every row, IS THE sha256 OF THE DUMP (.gsa) THAT YtfppdbgbnaibgaaProg.lean LOADS. Nothing in Lean hashes anything: it is a label: what it is worth is what the hold of that sum in a sandbox is worth. -/
noncomputable def Try.pinned : Pinned := { name := "ytfppdbgbnaibgaa", sum := "08f1279f61ce72c7db80e6e64c327a73336555be9ce685ccee8c9f2b1cd3fef0", checked := Try.checked }
namespace Rows
def none {H : Type} : Left H := { results := [], args := [] }

/-- 'sandglasslaw01.WideMuls': WHATEVER THE INPUT: true; the input reads as it did. -/
def wideMulsSpec : ChangeSpec := { name := "wideMuls", fn := fun _ => fun
  | [d1, d2] => { results := [.lit (.bool true)], args := [d1, d2] }
  | _ => none }
def wideMulsRow : OpenClaim := { program := "ytfppdbgbnaibgaa", sum := "08f1279f61ce72c7db80e6e64c327a73336555be9ce685ccee8c9f2b1cd3fef0", func := "sandglass/sandglasslaw01.WideMuls", spec := "wideMuls", apart := false }
def WideMulsSaid : Prop := wideMulsRow.holds Try.pinned (OpenSpec.ofChange wideMulsSpec)

/-- ITS FALSE NEIGHBOUR: 'it returns false'. Refute it at one input. -/
def wideMulsWrong : ChangeSpec := { name := "wideMuls", fn := fun _ => fun
  | [d1, d2] => { results := [.lit (.bool false)], args := [d1, d2] }
  | _ => none }
def WideMulsWrongFalsely : Prop := wideMulsRow.holds Try.pinned (OpenSpec.ofChange wideMulsWrong)

/-- 'sandglasslaw01.WidePowers': WHATEVER THE INPUT: true; the input reads as it did. -/
def widePowersSpec : ChangeSpec := { name := "widePowers", fn := fun _ => fun
  | [d1, d2] => { results := [.lit (.bool true)], args := [d1, d2] }
  | _ => none }
def widePowersRow : OpenClaim := { program := "ytfppdbgbnaibgaa", sum := "08f1279f61ce72c7db80e6e64c327a73336555be9ce685ccee8c9f2b1cd3fef0", func := "sandglass/sandglasslaw01.WidePowers", spec := "widePowers", apart := false }
def WidePowersSaid : Prop := widePowersRow.holds Try.pinned (OpenSpec.ofChange widePowersSpec)

/-- ITS FALSE NEIGHBOUR: 'it returns false'. Refute it at one input. -/
def widePowersWrong : ChangeSpec := { name := "widePowers", fn := fun _ => fun
  | [d1, d2] => { results := [.lit (.bool false)], args := [d1, d2] }
  | _ => none }
def WidePowersWrongFalsely : Prop := widePowersRow.holds Try.pinned (OpenSpec.ofChange widePowersWrong)

/-- 'sandglasslaw01.WideAdds': WHATEVER THE INPUT: true; the input reads as it did. -/
def wideAddsSpec : ChangeSpec := { name := "wideAdds", fn := fun _ => fun
  | [d1, d2] => { results := [.lit (.bool true)], args := [d1, d2] }
  | _ => none }
def wideAddsRow : OpenClaim := { program := "ytfppdbgbnaibgaa", sum := "08f1279f61ce72c7db80e6e64c327a73336555be9ce685ccee8c9f2b1cd3fef0", func := "sandglass/sandglasslaw01.WideAdds", spec := "wideAdds", inPlace := ["math/bits.Add64", "math/bits.Sub64"], apart := false }
def WideAddsSaid : Prop := wideAddsRow.holds Try.pinned (OpenSpec.ofChange wideAddsSpec)

/-- ITS FALSE NEIGHBOUR: 'it returns false'. Refute it at one input. -/
def wideAddsWrong : ChangeSpec := { name := "wideAdds", fn := fun _ => fun
  | [d1, d2] => { results := [.lit (.bool false)], args := [d1, d2] }
  | _ => none }
def WideAddsWrongFalsely : Prop := wideAddsRow.holds Try.pinned (OpenSpec.ofChange wideAddsWrong)

/-- 'sandglasslaw01.WideTurns': WHATEVER THE INPUT: true; the input reads as it did. -/
def wideTurnsSpec : ChangeSpec := { name := "wideTurns", fn := fun _ => fun
  | [d1, d2] => { results := [.lit (.bool true)], args := [d1, d2] }
  | _ => none }
def wideTurnsRow : OpenClaim := { program := "ytfppdbgbnaibgaa", sum := "08f1279f61ce72c7db80e6e64c327a73336555be9ce685ccee8c9f2b1cd3fef0", func := "sandglass/sandglasslaw01.WideTurns", spec := "wideTurns", inPlace := ["math/bits.Add64", "math/bits.Sub64"], apart := false }
def WideTurnsSaid : Prop := wideTurnsRow.holds Try.pinned (OpenSpec.ofChange wideTurnsSpec)

/-- ITS FALSE NEIGHBOUR: 'it returns false'. Refute it at one input. -/
def wideTurnsWrong : ChangeSpec := { name := "wideTurns", fn := fun _ => fun
  | [d1, d2] => { results := [.lit (.bool false)], args := [d1, d2] }
  | _ => none }
def WideTurnsWrongFalsely : Prop := wideTurnsRow.holds Try.pinned (OpenSpec.ofChange wideTurnsWrong)

/-- 'sandglasslaw03.StampMiddles': WHATEVER THE INPUT: true; the input reads as it did. -/
def stampMiddlesSpec : ChangeSpec := { name := "stampMiddles", fn := fun _ => fun
  | [d1, d2, d3] => { results := [.lit (.bool true)], args := [d1, d2, d3] }
  | _ => none }
def stampMiddlesRow : OpenClaim := { program := "ytfppdbgbnaibgaa", sum := "08f1279f61ce72c7db80e6e64c327a73336555be9ce685ccee8c9f2b1cd3fef0", func := "sandglass/sandglasslaw03.StampMiddles", spec := "stampMiddles", inPlace := ["math/bits.Add64"], unfollowed := true, recurses := true, named := ["math/bits.divideError", "math/bits.overflowError"], apart := false }
def StampMiddlesSaid : Prop := stampMiddlesRow.holds Try.pinned (OpenSpec.ofChange stampMiddlesSpec)

/-- ITS FALSE NEIGHBOUR: 'it returns false'. Refute it at one input. -/
def stampMiddlesWrong : ChangeSpec := { name := "stampMiddles", fn := fun _ => fun
  | [d1, d2, d3] => { results := [.lit (.bool false)], args := [d1, d2, d3] }
  | _ => none }
def StampMiddlesWrongFalsely : Prop := stampMiddlesRow.holds Try.pinned (OpenSpec.ofChange stampMiddlesWrong)

/-- 'sandglasslaw03.StampEven': WHATEVER THE INPUT: true; the input reads as it did. -/
def stampEvenSpec : ChangeSpec := { name := "stampEven", fn := fun _ => fun
  | [d1, d2, d3] => { results := [.lit (.bool true)], args := [d1, d2, d3] }
  | _ => none }
def stampEvenRow : OpenClaim := { program := "ytfppdbgbnaibgaa", sum := "08f1279f61ce72c7db80e6e64c327a73336555be9ce685ccee8c9f2b1cd3fef0", func := "sandglass/sandglasslaw03.StampEven", spec := "stampEven", inPlace := ["math/bits.Add64"], unfollowed := true, recurses := true, named := ["math/bits.divideError", "math/bits.overflowError"], apart := false }
def StampEvenSaid : Prop := stampEvenRow.holds Try.pinned (OpenSpec.ofChange stampEvenSpec)

/-- ITS FALSE NEIGHBOUR: 'it returns false'. Refute it at one input. -/
def stampEvenWrong : ChangeSpec := { name := "stampEven", fn := fun _ => fun
  | [d1, d2, d3] => { results := [.lit (.bool false)], args := [d1, d2, d3] }
  | _ => none }
def StampEvenWrongFalsely : Prop := stampEvenRow.holds Try.pinned (OpenSpec.ofChange stampEvenWrong)

/-- 'sandglasslaw01.WideDivs': WHATEVER THE INPUT: true; the input reads as it did. -/
def wideDivsSpec : ChangeSpec := { name := "wideDivs", fn := fun _ => fun
  | [d1, d2] => { results := [.lit (.bool true)], args := [d1, d2] }
  | _ => none }
def wideDivsRow : OpenClaim := { program := "ytfppdbgbnaibgaa", sum := "08f1279f61ce72c7db80e6e64c327a73336555be9ce685ccee8c9f2b1cd3fef0", func := "sandglass/sandglasslaw01.WideDivs", spec := "wideDivs", named := ["math/bits.divideError", "math/bits.overflowError"], apart := false }
def WideDivsSaid : Prop := wideDivsRow.holds Try.pinned (OpenSpec.ofChange wideDivsSpec)

/-- ITS FALSE NEIGHBOUR: 'it returns false'. Refute it at one input. -/
def wideDivsWrong : ChangeSpec := { name := "wideDivs", fn := fun _ => fun
  | [d1, d2] => { results := [.lit (.bool false)], args := [d1, d2] }
  | _ => none }
def WideDivsWrongFalsely : Prop := wideDivsRow.holds Try.pinned (OpenSpec.ofChange wideDivsWrong)

/-- 'sandglasslaw01.WideParts': WHATEVER THE INPUT: true; the input reads as it did. -/
def widePartsSpec : ChangeSpec := { name := "wideParts", fn := fun _ => fun
  | [d1, d2] => { results := [.lit (.bool true)], args := [d1, d2] }
  | _ => none }
def widePartsRow : OpenClaim := { program := "ytfppdbgbnaibgaa", sum := "08f1279f61ce72c7db80e6e64c327a73336555be9ce685ccee8c9f2b1cd3fef0", func := "sandglass/sandglasslaw01.WideParts", spec := "wideParts", inPlace := ["math/bits.Add64"], named := ["math/bits.divideError", "math/bits.overflowError"], apart := false }
def WidePartsSaid : Prop := widePartsRow.holds Try.pinned (OpenSpec.ofChange widePartsSpec)

/-- ITS FALSE NEIGHBOUR: 'it returns false'. Refute it at one input. -/
def widePartsWrong : ChangeSpec := { name := "wideParts", fn := fun _ => fun
  | [d1, d2] => { results := [.lit (.bool false)], args := [d1, d2] }
  | _ => none }
def WidePartsWrongFalsely : Prop := widePartsRow.holds Try.pinned (OpenSpec.ofChange widePartsWrong)

/-- 'sandglasslaw01.WideNear': WHATEVER THE INPUT: true; the input reads as it did. -/
def wideNearSpec : ChangeSpec := { name := "wideNear", fn := fun _ => fun
  | [d1, d2, d3] => { results := [.lit (.bool true)], args := [d1, d2, d3] }
  | _ => none }
def wideNearRow : OpenClaim := { program := "ytfppdbgbnaibgaa", sum := "08f1279f61ce72c7db80e6e64c327a73336555be9ce685ccee8c9f2b1cd3fef0", func := "sandglass/sandglasslaw01.WideNear", spec := "wideNear", inPlace := ["math/bits.Add64"], named := ["math/bits.divideError", "math/bits.overflowError"], apart := false }
def WideNearSaid : Prop := wideNearRow.holds Try.pinned (OpenSpec.ofChange wideNearSpec)

/-- ITS FALSE NEIGHBOUR: 'it returns false'. Refute it at one input. -/
def wideNearWrong : ChangeSpec := { name := "wideNear", fn := fun _ => fun
  | [d1, d2, d3] => { results := [.lit (.bool false)], args := [d1, d2, d3] }
  | _ => none }
def WideNearWrongFalsely : Prop := wideNearRow.holds Try.pinned (OpenSpec.ofChange wideNearWrong)

/-- 'sandglasslaw01.WideBack': WHATEVER THE INPUT: true; the input reads as it did. -/
def wideBackSpec : ChangeSpec := { name := "wideBack", fn := fun _ => fun
  | [d1, d2] => { results := [.lit (.bool true)], args := [d1, d2] }
  | _ => none }
def wideBackRow : OpenClaim := { program := "ytfppdbgbnaibgaa", sum := "08f1279f61ce72c7db80e6e64c327a73336555be9ce685ccee8c9f2b1cd3fef0", func := "sandglass/sandglasslaw01.WideBack", spec := "wideBack", inPlace := ["math/bits.Add64"], named := ["math/bits.divideError", "math/bits.overflowError"], apart := false }
def WideBackSaid : Prop := wideBackRow.holds Try.pinned (OpenSpec.ofChange wideBackSpec)

/-- ITS FALSE NEIGHBOUR: 'it returns false'. Refute it at one input. -/
def wideBackWrong : ChangeSpec := { name := "wideBack", fn := fun _ => fun
  | [d1, d2] => { results := [.lit (.bool false)], args := [d1, d2] }
  | _ => none }
def WideBackWrongFalsely : Prop := wideBackRow.holds Try.pinned (OpenSpec.ofChange wideBackWrong)

/-- 'sandglasslaw03.StampRates': WHATEVER THE INPUT: true; the input reads as it did. -/
def stampRatesSpec : ChangeSpec := { name := "stampRates", fn := fun _ => fun
  | [d1, d2] => { results := [.lit (.bool true)], args := [d1, d2] }
  | _ => none }
def stampRatesRow : OpenClaim := { program := "ytfppdbgbnaibgaa", sum := "08f1279f61ce72c7db80e6e64c327a73336555be9ce685ccee8c9f2b1cd3fef0", func := "sandglass/sandglasslaw03.StampRates", spec := "stampRates", inPlace := ["math/bits.Add64"], named := ["math/bits.divideError", "math/bits.overflowError"], apart := false }
def StampRatesSaid : Prop := stampRatesRow.holds Try.pinned (OpenSpec.ofChange stampRatesSpec)

/-- ITS FALSE NEIGHBOUR: 'it returns false'. Refute it at one input. -/
def stampRatesWrong : ChangeSpec := { name := "stampRates", fn := fun _ => fun
  | [d1, d2] => { results := [.lit (.bool false)], args := [d1, d2] }
  | _ => none }
def StampRatesWrongFalsely : Prop := stampRatesRow.holds Try.pinned (OpenSpec.ofChange stampRatesWrong)

/-- 'sandglasslaw01.WideRounds': WHATEVER THE INPUT: true; the input reads as it did. -/
def wideRoundsSpec : ChangeSpec := { name := "wideRounds", fn := fun _ => fun
  | [d1, d2, d3, d4] => { results := [.lit (.bool true)], args := [d1, d2, d3, d4] }
  | _ => none }
def wideRoundsRow : OpenClaim := { program := "ytfppdbgbnaibgaa", sum := "08f1279f61ce72c7db80e6e64c327a73336555be9ce685ccee8c9f2b1cd3fef0", func := "sandglass/sandglasslaw01.WideRounds", spec := "wideRounds", inPlace := ["math/bits.Add64"], named := ["math/bits.divideError", "math/bits.overflowError"], apart := false }
def WideRoundsSaid : Prop := wideRoundsRow.holds Try.pinned (OpenSpec.ofChange wideRoundsSpec)

/-- ITS FALSE NEIGHBOUR: 'it returns false'. Refute it at one input. -/
def wideRoundsWrong : ChangeSpec := { name := "wideRounds", fn := fun _ => fun
  | [d1, d2, d3, d4] => { results := [.lit (.bool false)], args := [d1, d2, d3, d4] }
  | _ => none }
def WideRoundsWrongFalsely : Prop := wideRoundsRow.holds Try.pinned (OpenSpec.ofChange wideRoundsWrong)

/-- 'sandglasslaw03.StampGrains': WHATEVER THE INPUT: true; the input reads as it did. -/
def stampGrainsSpec : ChangeSpec := { name := "stampGrains", fn := fun _ => fun
  | [d1, d2] => { results := [.lit (.bool true)], args := [d1, d2] }
  | _ => none }
def stampGrainsRow : OpenClaim := { program := "ytfppdbgbnaibgaa", sum := "08f1279f61ce72c7db80e6e64c327a73336555be9ce685ccee8c9f2b1cd3fef0", func := "sandglass/sandglasslaw03.StampGrains", spec := "stampGrains", inPlace := ["math/bits.Add64"], named := ["math/bits.divideError", "math/bits.overflowError"], apart := false }
def StampGrainsSaid : Prop := stampGrainsRow.holds Try.pinned (OpenSpec.ofChange stampGrainsSpec)

/-- ITS FALSE NEIGHBOUR: 'it returns false'. Refute it at one input. -/
def stampGrainsWrong : ChangeSpec := { name := "stampGrains", fn := fun _ => fun
  | [d1, d2] => { results := [.lit (.bool false)], args := [d1, d2] }
  | _ => none }
def StampGrainsWrongFalsely : Prop := stampGrainsRow.holds Try.pinned (OpenSpec.ofChange stampGrainsWrong)

/-- 'sandglasslaw03.StampSums': WHATEVER THE INPUT: true; the input reads as it did. -/
def stampSumsSpec : ChangeSpec := { name := "stampSums", fn := fun _ => fun
  | [d1, d2] => { results := [.lit (.bool true)], args := [d1, d2] }
  | _ => none }
def stampSumsRow : OpenClaim := { program := "ytfppdbgbnaibgaa", sum := "08f1279f61ce72c7db80e6e64c327a73336555be9ce685ccee8c9f2b1cd3fef0", func := "sandglass/sandglasslaw03.StampSums", spec := "stampSums", inPlace := ["math/bits.Add64"], named := ["math/bits.divideError", "math/bits.overflowError"], apart := false }
def StampSumsSaid : Prop := stampSumsRow.holds Try.pinned (OpenSpec.ofChange stampSumsSpec)

/-- ITS FALSE NEIGHBOUR: 'it returns false'. Refute it at one input. -/
def stampSumsWrong : ChangeSpec := { name := "stampSums", fn := fun _ => fun
  | [d1, d2] => { results := [.lit (.bool false)], args := [d1, d2] }
  | _ => none }
def StampSumsWrongFalsely : Prop := stampSumsRow.holds Try.pinned (OpenSpec.ofChange stampSumsWrong)

/-- 'sandglasslaw03.StampBack': WHATEVER THE INPUT: true; the input reads as it did. -/
def stampBackSpec : ChangeSpec := { name := "stampBack", fn := fun _ => fun
  | [d1, d2] => { results := [.lit (.bool true)], args := [d1, d2] }
  | _ => none }
def stampBackRow : OpenClaim := { program := "ytfppdbgbnaibgaa", sum := "08f1279f61ce72c7db80e6e64c327a73336555be9ce685ccee8c9f2b1cd3fef0", func := "sandglass/sandglasslaw03.StampBack", spec := "stampBack", inPlace := ["math/bits.Add64"], named := ["math/bits.divideError", "math/bits.overflowError"], apart := false }
def StampBackSaid : Prop := stampBackRow.holds Try.pinned (OpenSpec.ofChange stampBackSpec)

/-- ITS FALSE NEIGHBOUR: 'it returns false'. Refute it at one input. -/
def stampBackWrong : ChangeSpec := { name := "stampBack", fn := fun _ => fun
  | [d1, d2] => { results := [.lit (.bool false)], args := [d1, d2] }
  | _ => none }
def StampBackWrongFalsely : Prop := stampBackRow.holds Try.pinned (OpenSpec.ofChange stampBackWrong)

/-- 'sandglasslaw03.StampNear': WHATEVER THE INPUT: true; the input reads as it did. -/
def stampNearSpec : ChangeSpec := { name := "stampNear", fn := fun _ => fun
  | [d1, d2] => { results := [.lit (.bool true)], args := [d1, d2] }
  | _ => none }
def stampNearRow : OpenClaim := { program := "ytfppdbgbnaibgaa", sum := "08f1279f61ce72c7db80e6e64c327a73336555be9ce685ccee8c9f2b1cd3fef0", func := "sandglass/sandglasslaw03.StampNear", spec := "stampNear", inPlace := ["math/bits.Add64"], named := ["math/bits.divideError", "math/bits.overflowError"], apart := false }
def StampNearSaid : Prop := stampNearRow.holds Try.pinned (OpenSpec.ofChange stampNearSpec)

/-- ITS FALSE NEIGHBOUR: 'it returns false'. Refute it at one input. -/
def stampNearWrong : ChangeSpec := { name := "stampNear", fn := fun _ => fun
  | [d1, d2] => { results := [.lit (.bool false)], args := [d1, d2] }
  | _ => none }
def StampNearWrongFalsely : Prop := stampNearRow.holds Try.pinned (OpenSpec.ofChange stampNearWrong)

/- THE SECOND FORM. 'bulk': how many values and letters a reading holds, each counted each time it is reached (what is shared counts as often as it is met; a slice's spare places count too). A statement '..UptoSaid' is the law's where the arguments, and the package variables that the reading takes, are together of bulk at most 1048576: NARROWER than '..Said'. Prove '..Said' where nothing that the law and all that it calls make is longer than what came in: it says more and counts as full. Else prove '..UptoSaid'. A law counts once. -/
mutual
def uptoBulk {H : Type} : DataW H → Nat
  | .lit (.string bytes) => bytes.length + 1
  | .lit _ => 1
  | .nil => 1
  | .ptr d => uptoBulk d + 1
  | .slice elems spare => uptoBulkAll elems + uptoBulkAll spare + 1
  | .agg parts => uptoBulkAll parts + 1
  | .iface _ d => uptoBulk d + 1
  | .map entries => uptoBulkEntries entries + 1
  | .held _ => 1
def uptoBulkAll {H : Type} : List (DataW H) → Nat
  | [] => 0
  | d :: r => uptoBulk d + uptoBulkAll r
def uptoBulkEntries {H : Type} : List (Lit × DataW H) → Nat
  | [] => 0
  | x :: r => uptoBulkEntry x + uptoBulkEntries r
def uptoBulkEntry {H : Type} : Lit × DataW H → Nat
  | (.string bytes, d) => bytes.length + uptoBulk d + 1
  | (_, d) => uptoBulk d + 1
 end
def uptoSmall : (H : Type) → List (DataW H) → Bool := fun _ ds => decide (uptoBulkAll ds ≤ 1048576)
def OpenSpec.upto (s : _root_.Go.ChangeSpec) : _root_.Go.OpenSpec := { _root_.Go.OpenSpec.ofChange s with cond := some uptoSmall }

/-- 'sandglasslaw01.WideMuls', WHERE WHAT IT READS IS OF BULK AT MOST 1048576: true; the input reads as it did. -/
def wideMulsUptoRow : OpenClaim := { program := "ytfppdbgbnaibgaa", sum := "08f1279f61ce72c7db80e6e64c327a73336555be9ce685ccee8c9f2b1cd3fef0", func := "sandglass/sandglasslaw01.WideMuls", spec := "wideMuls", apart := false, narrowed := true }
def WideMulsUptoSaid : Prop := wideMulsUptoRow.holds Try.pinned (OpenSpec.upto wideMulsSpec)

/-- 'sandglasslaw01.WidePowers', WHERE WHAT IT READS IS OF BULK AT MOST 1048576: true; the input reads as it did. -/
def widePowersUptoRow : OpenClaim := { program := "ytfppdbgbnaibgaa", sum := "08f1279f61ce72c7db80e6e64c327a73336555be9ce685ccee8c9f2b1cd3fef0", func := "sandglass/sandglasslaw01.WidePowers", spec := "widePowers", apart := false, narrowed := true }
def WidePowersUptoSaid : Prop := widePowersUptoRow.holds Try.pinned (OpenSpec.upto widePowersSpec)

/-- 'sandglasslaw01.WideAdds', WHERE WHAT IT READS IS OF BULK AT MOST 1048576: true; the input reads as it did. -/
def wideAddsUptoRow : OpenClaim := { program := "ytfppdbgbnaibgaa", sum := "08f1279f61ce72c7db80e6e64c327a73336555be9ce685ccee8c9f2b1cd3fef0", func := "sandglass/sandglasslaw01.WideAdds", spec := "wideAdds", inPlace := ["math/bits.Add64", "math/bits.Sub64"], apart := false, narrowed := true }
def WideAddsUptoSaid : Prop := wideAddsUptoRow.holds Try.pinned (OpenSpec.upto wideAddsSpec)

/-- 'sandglasslaw01.WideTurns', WHERE WHAT IT READS IS OF BULK AT MOST 1048576: true; the input reads as it did. -/
def wideTurnsUptoRow : OpenClaim := { program := "ytfppdbgbnaibgaa", sum := "08f1279f61ce72c7db80e6e64c327a73336555be9ce685ccee8c9f2b1cd3fef0", func := "sandglass/sandglasslaw01.WideTurns", spec := "wideTurns", inPlace := ["math/bits.Add64", "math/bits.Sub64"], apart := false, narrowed := true }
def WideTurnsUptoSaid : Prop := wideTurnsUptoRow.holds Try.pinned (OpenSpec.upto wideTurnsSpec)

/-- 'sandglasslaw03.StampMiddles', WHERE WHAT IT READS IS OF BULK AT MOST 1048576: true; the input reads as it did. -/
def stampMiddlesUptoRow : OpenClaim := { program := "ytfppdbgbnaibgaa", sum := "08f1279f61ce72c7db80e6e64c327a73336555be9ce685ccee8c9f2b1cd3fef0", func := "sandglass/sandglasslaw03.StampMiddles", spec := "stampMiddles", inPlace := ["math/bits.Add64"], unfollowed := true, recurses := true, named := ["math/bits.divideError", "math/bits.overflowError"], apart := false, narrowed := true }
def StampMiddlesUptoSaid : Prop := stampMiddlesUptoRow.holds Try.pinned (OpenSpec.upto stampMiddlesSpec)

/-- 'sandglasslaw03.StampEven', WHERE WHAT IT READS IS OF BULK AT MOST 1048576: true; the input reads as it did. -/
def stampEvenUptoRow : OpenClaim := { program := "ytfppdbgbnaibgaa", sum := "08f1279f61ce72c7db80e6e64c327a73336555be9ce685ccee8c9f2b1cd3fef0", func := "sandglass/sandglasslaw03.StampEven", spec := "stampEven", inPlace := ["math/bits.Add64"], unfollowed := true, recurses := true, named := ["math/bits.divideError", "math/bits.overflowError"], apart := false, narrowed := true }
def StampEvenUptoSaid : Prop := stampEvenUptoRow.holds Try.pinned (OpenSpec.upto stampEvenSpec)

/-- 'sandglasslaw01.WideDivs', WHERE WHAT IT READS IS OF BULK AT MOST 1048576: true; the input reads as it did. -/
def wideDivsUptoRow : OpenClaim := { program := "ytfppdbgbnaibgaa", sum := "08f1279f61ce72c7db80e6e64c327a73336555be9ce685ccee8c9f2b1cd3fef0", func := "sandglass/sandglasslaw01.WideDivs", spec := "wideDivs", named := ["math/bits.divideError", "math/bits.overflowError"], apart := false, narrowed := true }
def WideDivsUptoSaid : Prop := wideDivsUptoRow.holds Try.pinned (OpenSpec.upto wideDivsSpec)

/-- 'sandglasslaw01.WideParts', WHERE WHAT IT READS IS OF BULK AT MOST 1048576: true; the input reads as it did. -/
def widePartsUptoRow : OpenClaim := { program := "ytfppdbgbnaibgaa", sum := "08f1279f61ce72c7db80e6e64c327a73336555be9ce685ccee8c9f2b1cd3fef0", func := "sandglass/sandglasslaw01.WideParts", spec := "wideParts", inPlace := ["math/bits.Add64"], named := ["math/bits.divideError", "math/bits.overflowError"], apart := false, narrowed := true }
def WidePartsUptoSaid : Prop := widePartsUptoRow.holds Try.pinned (OpenSpec.upto widePartsSpec)

/-- 'sandglasslaw01.WideNear', WHERE WHAT IT READS IS OF BULK AT MOST 1048576: true; the input reads as it did. -/
def wideNearUptoRow : OpenClaim := { program := "ytfppdbgbnaibgaa", sum := "08f1279f61ce72c7db80e6e64c327a73336555be9ce685ccee8c9f2b1cd3fef0", func := "sandglass/sandglasslaw01.WideNear", spec := "wideNear", inPlace := ["math/bits.Add64"], named := ["math/bits.divideError", "math/bits.overflowError"], apart := false, narrowed := true }
def WideNearUptoSaid : Prop := wideNearUptoRow.holds Try.pinned (OpenSpec.upto wideNearSpec)

/-- 'sandglasslaw01.WideBack', WHERE WHAT IT READS IS OF BULK AT MOST 1048576: true; the input reads as it did. -/
def wideBackUptoRow : OpenClaim := { program := "ytfppdbgbnaibgaa", sum := "08f1279f61ce72c7db80e6e64c327a73336555be9ce685ccee8c9f2b1cd3fef0", func := "sandglass/sandglasslaw01.WideBack", spec := "wideBack", inPlace := ["math/bits.Add64"], named := ["math/bits.divideError", "math/bits.overflowError"], apart := false, narrowed := true }
def WideBackUptoSaid : Prop := wideBackUptoRow.holds Try.pinned (OpenSpec.upto wideBackSpec)

/-- 'sandglasslaw03.StampRates', WHERE WHAT IT READS IS OF BULK AT MOST 1048576: true; the input reads as it did. -/
def stampRatesUptoRow : OpenClaim := { program := "ytfppdbgbnaibgaa", sum := "08f1279f61ce72c7db80e6e64c327a73336555be9ce685ccee8c9f2b1cd3fef0", func := "sandglass/sandglasslaw03.StampRates", spec := "stampRates", inPlace := ["math/bits.Add64"], named := ["math/bits.divideError", "math/bits.overflowError"], apart := false, narrowed := true }
def StampRatesUptoSaid : Prop := stampRatesUptoRow.holds Try.pinned (OpenSpec.upto stampRatesSpec)

/-- 'sandglasslaw01.WideRounds', WHERE WHAT IT READS IS OF BULK AT MOST 1048576: true; the input reads as it did. -/
def wideRoundsUptoRow : OpenClaim := { program := "ytfppdbgbnaibgaa", sum := "08f1279f61ce72c7db80e6e64c327a73336555be9ce685ccee8c9f2b1cd3fef0", func := "sandglass/sandglasslaw01.WideRounds", spec := "wideRounds", inPlace := ["math/bits.Add64"], named := ["math/bits.divideError", "math/bits.overflowError"], apart := false, narrowed := true }
def WideRoundsUptoSaid : Prop := wideRoundsUptoRow.holds Try.pinned (OpenSpec.upto wideRoundsSpec)

/-- 'sandglasslaw03.StampGrains', WHERE WHAT IT READS IS OF BULK AT MOST 1048576: true; the input reads as it did. -/
def stampGrainsUptoRow : OpenClaim := { program := "ytfppdbgbnaibgaa", sum := "08f1279f61ce72c7db80e6e64c327a73336555be9ce685ccee8c9f2b1cd3fef0", func := "sandglass/sandglasslaw03.StampGrains", spec := "stampGrains", inPlace := ["math/bits.Add64"], named := ["math/bits.divideError", "math/bits.overflowError"], apart := false, narrowed := true }
def StampGrainsUptoSaid : Prop := stampGrainsUptoRow.holds Try.pinned (OpenSpec.upto stampGrainsSpec)

/-- 'sandglasslaw03.StampSums', WHERE WHAT IT READS IS OF BULK AT MOST 1048576: true; the input reads as it did. -/
def stampSumsUptoRow : OpenClaim := { program := "ytfppdbgbnaibgaa", sum := "08f1279f61ce72c7db80e6e64c327a73336555be9ce685ccee8c9f2b1cd3fef0", func := "sandglass/sandglasslaw03.StampSums", spec := "stampSums", inPlace := ["math/bits.Add64"], named := ["math/bits.divideError", "math/bits.overflowError"], apart := false, narrowed := true }
def StampSumsUptoSaid : Prop := stampSumsUptoRow.holds Try.pinned (OpenSpec.upto stampSumsSpec)

/-- 'sandglasslaw03.StampBack', WHERE WHAT IT READS IS OF BULK AT MOST 1048576: true; the input reads as it did. -/
def stampBackUptoRow : OpenClaim := { program := "ytfppdbgbnaibgaa", sum := "08f1279f61ce72c7db80e6e64c327a73336555be9ce685ccee8c9f2b1cd3fef0", func := "sandglass/sandglasslaw03.StampBack", spec := "stampBack", inPlace := ["math/bits.Add64"], named := ["math/bits.divideError", "math/bits.overflowError"], apart := false, narrowed := true }
def StampBackUptoSaid : Prop := stampBackUptoRow.holds Try.pinned (OpenSpec.upto stampBackSpec)

/-- 'sandglasslaw03.StampNear', WHERE WHAT IT READS IS OF BULK AT MOST 1048576: true; the input reads as it did. -/
def stampNearUptoRow : OpenClaim := { program := "ytfppdbgbnaibgaa", sum := "08f1279f61ce72c7db80e6e64c327a73336555be9ce685ccee8c9f2b1cd3fef0", func := "sandglass/sandglasslaw03.StampNear", spec := "stampNear", inPlace := ["math/bits.Add64"], named := ["math/bits.divideError", "math/bits.overflowError"], apart := false, narrowed := true }
def StampNearUptoSaid : Prop := stampNearUptoRow.holds Try.pinned (OpenSpec.upto stampNearSpec)

end Rows
end Go.Proofs.Ytfppdbgbnaibgaa
