/-
  No cell of these rows narrows 'for every input' (looked for: loops, veiled, ifaces, maps, wideKeys, modest, calm, conditions, laid).
  DERIVED. THE GIVEN ROWS OF THIS SEAT. 7 by the template 'for every input the law returns true; each argument reads behind the call as it read before'; 0 by the template 'total and deterministic' (their statements: YtkehcpafbkmapaaTotals.lean).
  GIVEN WITH THE SEED: the statements are not yours to turn. If you find one false, say at which input.
  Laid BY PROGRAM, IN A SANDBOX (cutbox-rows.mjs): the forced cells as the released guide's own fill.sh prints them over the translation e034ee278faa46f2… (all of the seat's roots in one cut). By AI agents, Wed Nov 11 2026. No macro, syntax, notation, axiom, sorry.
-/
import Derived.Test.YtkehcpafbkmapaaChecked
import GoSem.Claim
import GoSem.ClaimJoined
import GoSem.ClaimMapViews
import Derived.JoinedTies
import Derived.KernelRfl
namespace Go.Proofs.Ytkehcpafbkmapaa
/- THE CELL 'sum', in the pinned program and in every row, IS THE sha256 OF THE DUMP (.gsa) THAT YtkehcpafbkmapaaProg.lean LOADS. Nothing in Lean hashes anything: it is a label: what it is worth is what the hold of that sum in a sandbox is worth. -/
noncomputable def Try.pinned : Pinned := { name := "ytkehcpafbkmapaa", sum := "e034ee278faa46f2f7a01371ab7a264cf742b68d2f38270364273e454d9b814a", checked := Try.checked }
namespace Rows
def none {H : Type} : Left H := { results := [], args := [] }

/-- 'sandglasslaw11.GatesStates': WHATEVER THE INPUT: true; the input reads as it did. -/
def gatesStatesSpec : ChangeSpec := { name := "gatesStates", fn := fun _ => fun
  | [d1, d2] => { results := [.lit (.bool true)], args := [d1, d2] }
  | _ => none }
def gatesStatesRow : OpenClaim := { program := "ytkehcpafbkmapaa", sum := "e034ee278faa46f2f7a01371ab7a264cf742b68d2f38270364273e454d9b814a", func := "sandglass/sandglasslaw11.GatesStates", spec := "gatesStates", apart := false }
def GatesStatesSaid : Prop := gatesStatesRow.holds Try.pinned (OpenSpec.ofChange gatesStatesSpec)

/-- ITS FALSE NEIGHBOUR: 'it returns false'. Refute it at one input. -/
def gatesStatesWrong : ChangeSpec := { name := "gatesStates", fn := fun _ => fun
  | [d1, d2] => { results := [.lit (.bool false)], args := [d1, d2] }
  | _ => none }
def GatesStatesWrongFalsely : Prop := gatesStatesRow.holds Try.pinned (OpenSpec.ofChange gatesStatesWrong)

/-- 'sandglasslaw11.GatesTurns': WHATEVER THE INPUT: true; the input reads as it did. -/
def gatesTurnsSpec : ChangeSpec := { name := "gatesTurns", fn := fun _ => fun
  | [d1, d2] => { results := [.lit (.bool true)], args := [d1, d2] }
  | _ => none }
def gatesTurnsRow : OpenClaim := { program := "ytkehcpafbkmapaa", sum := "e034ee278faa46f2f7a01371ab7a264cf742b68d2f38270364273e454d9b814a", func := "sandglass/sandglasslaw11.GatesTurns", spec := "gatesTurns", apart := false }
def GatesTurnsSaid : Prop := gatesTurnsRow.holds Try.pinned (OpenSpec.ofChange gatesTurnsSpec)

/-- ITS FALSE NEIGHBOUR: 'it returns false'. Refute it at one input. -/
def gatesTurnsWrong : ChangeSpec := { name := "gatesTurns", fn := fun _ => fun
  | [d1, d2] => { results := [.lit (.bool false)], args := [d1, d2] }
  | _ => none }
def GatesTurnsWrongFalsely : Prop := gatesTurnsRow.holds Try.pinned (OpenSpec.ofChange gatesTurnsWrong)

/-- 'sandglasslaw11.GatesLefts': WHATEVER THE INPUT: true; the input reads as it did. -/
def gatesLeftsSpec : ChangeSpec := { name := "gatesLefts", fn := fun _ => fun
  | [d1, d2, d3] => { results := [.lit (.bool true)], args := [d1, d2, d3] }
  | _ => none }
def gatesLeftsRow : OpenClaim := { program := "ytkehcpafbkmapaa", sum := "e034ee278faa46f2f7a01371ab7a264cf742b68d2f38270364273e454d9b814a", func := "sandglass/sandglasslaw11.GatesLefts", spec := "gatesLefts", apart := false }
def GatesLeftsSaid : Prop := gatesLeftsRow.holds Try.pinned (OpenSpec.ofChange gatesLeftsSpec)

/-- ITS FALSE NEIGHBOUR: 'it returns false'. Refute it at one input. -/
def gatesLeftsWrong : ChangeSpec := { name := "gatesLefts", fn := fun _ => fun
  | [d1, d2, d3] => { results := [.lit (.bool false)], args := [d1, d2, d3] }
  | _ => none }
def GatesLeftsWrongFalsely : Prop := gatesLeftsRow.holds Try.pinned (OpenSpec.ofChange gatesLeftsWrong)

/-- 'sandglasslaw11.GatesNexts': WHATEVER THE INPUT: true; the input reads as it did. -/
def gatesNextsSpec : ChangeSpec := { name := "gatesNexts", fn := fun _ => fun
  | [d1, d2, d3] => { results := [.lit (.bool true)], args := [d1, d2, d3] }
  | _ => none }
def gatesNextsRow : OpenClaim := { program := "ytkehcpafbkmapaa", sum := "e034ee278faa46f2f7a01371ab7a264cf742b68d2f38270364273e454d9b814a", func := "sandglass/sandglasslaw11.GatesNexts", spec := "gatesNexts", apart := false }
def GatesNextsSaid : Prop := gatesNextsRow.holds Try.pinned (OpenSpec.ofChange gatesNextsSpec)

/-- ITS FALSE NEIGHBOUR: 'it returns false'. Refute it at one input. -/
def gatesNextsWrong : ChangeSpec := { name := "gatesNexts", fn := fun _ => fun
  | [d1, d2, d3] => { results := [.lit (.bool false)], args := [d1, d2, d3] }
  | _ => none }
def GatesNextsWrongFalsely : Prop := gatesNextsRow.holds Try.pinned (OpenSpec.ofChange gatesNextsWrong)

/-- 'sandglasslaw11.GatesChanges': WHATEVER THE INPUT: true; the input reads as it did. -/
def gatesChangesSpec : ChangeSpec := { name := "gatesChanges", fn := fun _ => fun
  | [d1, d2] => { results := [.lit (.bool true)], args := [d1, d2] }
  | _ => none }
def gatesChangesRow : OpenClaim := { program := "ytkehcpafbkmapaa", sum := "e034ee278faa46f2f7a01371ab7a264cf742b68d2f38270364273e454d9b814a", func := "sandglass/sandglasslaw11.GatesChanges", spec := "gatesChanges", apart := false }
def GatesChangesSaid : Prop := gatesChangesRow.holds Try.pinned (OpenSpec.ofChange gatesChangesSpec)

/-- ITS FALSE NEIGHBOUR: 'it returns false'. Refute it at one input. -/
def gatesChangesWrong : ChangeSpec := { name := "gatesChanges", fn := fun _ => fun
  | [d1, d2] => { results := [.lit (.bool false)], args := [d1, d2] }
  | _ => none }
def GatesChangesWrongFalsely : Prop := gatesChangesRow.holds Try.pinned (OpenSpec.ofChange gatesChangesWrong)

/-- 'sandglasslaw11.GatesAgain': WHATEVER THE INPUT: true; the input reads as it did. -/
def gatesAgainSpec : ChangeSpec := { name := "gatesAgain", fn := fun _ => fun
  | [d1, d2, d3] => { results := [.lit (.bool true)], args := [d1, d2, d3] }
  | _ => none }
def gatesAgainRow : OpenClaim := { program := "ytkehcpafbkmapaa", sum := "e034ee278faa46f2f7a01371ab7a264cf742b68d2f38270364273e454d9b814a", func := "sandglass/sandglasslaw11.GatesAgain", spec := "gatesAgain", apart := false }
def GatesAgainSaid : Prop := gatesAgainRow.holds Try.pinned (OpenSpec.ofChange gatesAgainSpec)

/-- ITS FALSE NEIGHBOUR: 'it returns false'. Refute it at one input. -/
def gatesAgainWrong : ChangeSpec := { name := "gatesAgain", fn := fun _ => fun
  | [d1, d2, d3] => { results := [.lit (.bool false)], args := [d1, d2, d3] }
  | _ => none }
def GatesAgainWrongFalsely : Prop := gatesAgainRow.holds Try.pinned (OpenSpec.ofChange gatesAgainWrong)

/-- 'sandglasslaw11.GatesShift': WHATEVER THE INPUT: true; the input reads as it did. -/
def gatesShiftSpec : ChangeSpec := { name := "gatesShift", fn := fun _ => fun
  | [d1, d2, d3, d4] => { results := [.lit (.bool true)], args := [d1, d2, d3, d4] }
  | _ => none }
def gatesShiftRow : OpenClaim := { program := "ytkehcpafbkmapaa", sum := "e034ee278faa46f2f7a01371ab7a264cf742b68d2f38270364273e454d9b814a", func := "sandglass/sandglasslaw11.GatesShift", spec := "gatesShift", apart := false }
def GatesShiftSaid : Prop := gatesShiftRow.holds Try.pinned (OpenSpec.ofChange gatesShiftSpec)

/-- ITS FALSE NEIGHBOUR: 'it returns false'. Refute it at one input. -/
def gatesShiftWrong : ChangeSpec := { name := "gatesShift", fn := fun _ => fun
  | [d1, d2, d3, d4] => { results := [.lit (.bool false)], args := [d1, d2, d3, d4] }
  | _ => none }
def GatesShiftWrongFalsely : Prop := gatesShiftRow.holds Try.pinned (OpenSpec.ofChange gatesShiftWrong)

/- THE SECOND FORM. 'bulk': how many values and letters a reading holds, each counted each time it is reached (what is shared counts as often as it is met; a slice's spare places count too). A statement '..UptoSaid' is the law's where the arguments, and the package variables that the reading takes, are together of bulk at most 1048576: NARROWER than '..Said'. Prove '..Said' where nothing that the law and all that it calls make is longer than what came in: it says more and counts as full. Else prove '..UptoSaid'. A law counts once. -/
mutual
def uptoBulk {H : Type} : DataW H → Nat
  | .lit (.string bytes) => bytes.length + 1
  | .lit _ => 1
  | .nil => 1
  | .ptr d => uptoBulk d + 1
  | .slice elems spare => uptoBulkAll elems + uptoBulkAll spare + 1
  | .agg parts => uptoBulkAll parts + 1
  | .iface _ d => uptoBulk d + 1
  | .map entries => uptoBulkEntries entries + 1
  | .held _ => 1
def uptoBulkAll {H : Type} : List (DataW H) → Nat
  | [] => 0
  | d :: r => uptoBulk d + uptoBulkAll r
def uptoBulkEntries {H : Type} : List (Lit × DataW H) → Nat
  | [] => 0
  | x :: r => uptoBulkEntry x + uptoBulkEntries r
def uptoBulkEntry {H : Type} : Lit × DataW H → Nat
  | (.string bytes, d) => bytes.length + uptoBulk d + 1
  | (_, d) => uptoBulk d + 1
 end
def uptoSmall : (H : Type) → List (DataW H) → Bool := fun _ ds => decide (uptoBulkAll ds ≤ 1048576)
def OpenSpec.upto (s : _root_.Go.ChangeSpec) : _root_.Go.OpenSpec := { _root_.Go.OpenSpec.ofChange s with cond := some uptoSmall }

/-- 'sandglasslaw11.GatesStates', WHERE WHAT IT READS IS OF BULK AT MOST 1048576: true; the input reads as it did. -/
def gatesStatesUptoRow : OpenClaim := { program := "ytkehcpafbkmapaa", sum := "e034ee278faa46f2f7a01371ab7a264cf742b68d2f38270364273e454d9b814a", func := "sandglass/sandglasslaw11.GatesStates", spec := "gatesStates", apart := false, narrowed := true }
def GatesStatesUptoSaid : Prop := gatesStatesUptoRow.holds Try.pinned (OpenSpec.upto gatesStatesSpec)

/-- 'sandglasslaw11.GatesTurns', WHERE WHAT IT READS IS OF BULK AT MOST 1048576: true; the input reads as it did. -/
def gatesTurnsUptoRow : OpenClaim := { program := "ytkehcpafbkmapaa", sum := "e034ee278faa46f2f7a01371ab7a264cf742b68d2f38270364273e454d9b814a", func := "sandglass/sandglasslaw11.GatesTurns", spec := "gatesTurns", apart := false, narrowed := true }
def GatesTurnsUptoSaid : Prop := gatesTurnsUptoRow.holds Try.pinned (OpenSpec.upto gatesTurnsSpec)

/-- 'sandglasslaw11.GatesLefts', WHERE WHAT IT READS IS OF BULK AT MOST 1048576: true; the input reads as it did. -/
def gatesLeftsUptoRow : OpenClaim := { program := "ytkehcpafbkmapaa", sum := "e034ee278faa46f2f7a01371ab7a264cf742b68d2f38270364273e454d9b814a", func := "sandglass/sandglasslaw11.GatesLefts", spec := "gatesLefts", apart := false, narrowed := true }
def GatesLeftsUptoSaid : Prop := gatesLeftsUptoRow.holds Try.pinned (OpenSpec.upto gatesLeftsSpec)

/-- 'sandglasslaw11.GatesNexts', WHERE WHAT IT READS IS OF BULK AT MOST 1048576: true; the input reads as it did. -/
def gatesNextsUptoRow : OpenClaim := { program := "ytkehcpafbkmapaa", sum := "e034ee278faa46f2f7a01371ab7a264cf742b68d2f38270364273e454d9b814a", func := "sandglass/sandglasslaw11.GatesNexts", spec := "gatesNexts", apart := false, narrowed := true }
def GatesNextsUptoSaid : Prop := gatesNextsUptoRow.holds Try.pinned (OpenSpec.upto gatesNextsSpec)

/-- 'sandglasslaw11.GatesChanges', WHERE WHAT IT READS IS OF BULK AT MOST 1048576: true; the input reads as it did. -/
def gatesChangesUptoRow : OpenClaim := { program := "ytkehcpafbkmapaa", sum := "e034ee278faa46f2f7a01371ab7a264cf742b68d2f38270364273e454d9b814a", func := "sandglass/sandglasslaw11.GatesChanges", spec := "gatesChanges", apart := false, narrowed := true }
def GatesChangesUptoSaid : Prop := gatesChangesUptoRow.holds Try.pinned (OpenSpec.upto gatesChangesSpec)

/-- 'sandglasslaw11.GatesAgain', WHERE WHAT IT READS IS OF BULK AT MOST 1048576: true; the input reads as it did. -/
def gatesAgainUptoRow : OpenClaim := { program := "ytkehcpafbkmapaa", sum := "e034ee278faa46f2f7a01371ab7a264cf742b68d2f38270364273e454d9b814a", func := "sandglass/sandglasslaw11.GatesAgain", spec := "gatesAgain", apart := false, narrowed := true }
def GatesAgainUptoSaid : Prop := gatesAgainUptoRow.holds Try.pinned (OpenSpec.upto gatesAgainSpec)

/-- 'sandglasslaw11.GatesShift', WHERE WHAT IT READS IS OF BULK AT MOST 1048576: true; the input reads as it did. -/
def gatesShiftUptoRow : OpenClaim := { program := "ytkehcpafbkmapaa", sum := "e034ee278faa46f2f7a01371ab7a264cf742b68d2f38270364273e454d9b814a", func := "sandglass/sandglasslaw11.GatesShift", spec := "gatesShift", apart := false, narrowed := true }
def GatesShiftUptoSaid : Prop := gatesShiftUptoRow.holds Try.pinned (OpenSpec.upto gatesShiftSpec)

end Rows
end Go.Proofs.Ytkehcpafbkmapaa
