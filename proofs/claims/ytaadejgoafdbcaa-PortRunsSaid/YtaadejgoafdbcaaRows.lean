/-
  No cell of these rows narrows 'for every input' (looked for: loops, veiled, ifaces, maps, wideKeys, modest, calm, conditions, laid).
  DERIVED. THE GIVEN ROWS OF THIS SEAT. 4 by the template 'for every input the law returns true; each argument reads behind the call as it read before'; 0 by the template 'total and deterministic' (their statements: YtaadejgoafdbcaaTotals.lean).
  GIVEN WITH THE SEED: the statements are not yours to turn. If you find one false, say at which input.
  Laid BY PROGRAM, IN A SANDBOX (cutbox-rows.mjs): the forced cells as the released guide's own fill.sh prints them over the translation afeaf79115fc83e5… (all of the seat's roots in one cut). By AI agents, Wed Nov 11 2026. No macro, syntax, notation, axiom, sorry.
-/
import Derived.Test.YtaadejgoafdbcaaChecked
import GoSem.Claim
import GoSem.ClaimJoined
import GoSem.ClaimMapViews
import Derived.JoinedTies
import Derived.KernelRfl
namespace Go.Proofs.Ytaadejgoafdbcaa
/- THE CELL 'sum', in the pinned program and in every row, IS THE sha256 OF THE DUMP (.gsa) THAT YtaadejgoafdbcaaProg.lean LOADS. Nothing in Lean hashes anything: it is a label: what it is worth is what the hold of that sum in a sandbox is worth. -/
noncomputable def Try.pinned : Pinned := { name := "ytaadejgoafdbcaa", sum := "afeaf79115fc83e59d9dc8bc71e0f502a00c4dcc3dd7c2c3d43e91496b52ee0d", checked := Try.checked }
namespace Rows
def none {H : Type} : Left H := { results := [], args := [] }

/-- 'sandglasslaw16.PortOpen': WHATEVER THE INPUT: true; the input reads as it did. -/
def portOpenSpec : ChangeSpec := { name := "portOpen", fn := fun _ => fun
  | [d1, d2] => { results := [.lit (.bool true)], args := [d1, d2] }
  | _ => none }
def portOpenRow : OpenClaim := { program := "ytaadejgoafdbcaa", sum := "afeaf79115fc83e59d9dc8bc71e0f502a00c4dcc3dd7c2c3d43e91496b52ee0d", func := "sandglass/sandglasslaw16.PortOpen", spec := "portOpen", unfollowed := true, recurses := true, apart := false }
def PortOpenSaid : Prop := portOpenRow.holds Try.pinned (OpenSpec.ofChange portOpenSpec)

/-- ITS FALSE NEIGHBOUR: 'it returns false'. Refute it at one input. -/
def portOpenWrong : ChangeSpec := { name := "portOpen", fn := fun _ => fun
  | [d1, d2] => { results := [.lit (.bool false)], args := [d1, d2] }
  | _ => none }
def PortOpenWrongFalsely : Prop := portOpenRow.holds Try.pinned (OpenSpec.ofChange portOpenWrong)

/-- 'sandglasslaw16.PortWhens': WHATEVER THE INPUT: true; the input reads as it did. -/
def portWhensSpec : ChangeSpec := { name := "portWhens", fn := fun _ => fun
  | [d1, d2] => { results := [.lit (.bool true)], args := [d1, d2] }
  | _ => none }
def portWhensRow : OpenClaim := { program := "ytaadejgoafdbcaa", sum := "afeaf79115fc83e59d9dc8bc71e0f502a00c4dcc3dd7c2c3d43e91496b52ee0d", func := "sandglass/sandglasslaw16.PortWhens", spec := "portWhens", unfollowed := true, recurses := true, apart := false }
def PortWhensSaid : Prop := portWhensRow.holds Try.pinned (OpenSpec.ofChange portWhensSpec)

/-- ITS FALSE NEIGHBOUR: 'it returns false'. Refute it at one input. -/
def portWhensWrong : ChangeSpec := { name := "portWhens", fn := fun _ => fun
  | [d1, d2] => { results := [.lit (.bool false)], args := [d1, d2] }
  | _ => none }
def PortWhensWrongFalsely : Prop := portWhensRow.holds Try.pinned (OpenSpec.ofChange portWhensWrong)

/-- 'sandglasslaw16.PortChanges': WHATEVER THE INPUT: true; the input reads as it did. -/
def portChangesSpec : ChangeSpec := { name := "portChanges", fn := fun _ => fun
  | [d1, d2] => { results := [.lit (.bool true)], args := [d1, d2] }
  | _ => none }
def portChangesRow : OpenClaim := { program := "ytaadejgoafdbcaa", sum := "afeaf79115fc83e59d9dc8bc71e0f502a00c4dcc3dd7c2c3d43e91496b52ee0d", func := "sandglass/sandglasslaw16.PortChanges", spec := "portChanges", unfollowed := true, recurses := true, apart := false }
def PortChangesSaid : Prop := portChangesRow.holds Try.pinned (OpenSpec.ofChange portChangesSpec)

/-- ITS FALSE NEIGHBOUR: 'it returns false'. Refute it at one input. -/
def portChangesWrong : ChangeSpec := { name := "portChanges", fn := fun _ => fun
  | [d1, d2] => { results := [.lit (.bool false)], args := [d1, d2] }
  | _ => none }
def PortChangesWrongFalsely : Prop := portChangesRow.holds Try.pinned (OpenSpec.ofChange portChangesWrong)

/-- 'sandglasslaw16.PortRuns': WHATEVER THE INPUT: true; the input reads as it did. -/
def portRunsSpec : ChangeSpec := { name := "portRuns", fn := fun _ => fun
  | [d1, d2, d3] => { results := [.lit (.bool true)], args := [d1, d2, d3] }
  | _ => none }
def portRunsRow : OpenClaim := { program := "ytaadejgoafdbcaa", sum := "afeaf79115fc83e59d9dc8bc71e0f502a00c4dcc3dd7c2c3d43e91496b52ee0d", func := "sandglass/sandglasslaw16.PortRuns", spec := "portRuns", unfollowed := true, recurses := true, apart := false }
def PortRunsSaid : Prop := portRunsRow.holds Try.pinned (OpenSpec.ofChange portRunsSpec)

/-- ITS FALSE NEIGHBOUR: 'it returns false'. Refute it at one input. -/
def portRunsWrong : ChangeSpec := { name := "portRuns", fn := fun _ => fun
  | [d1, d2, d3] => { results := [.lit (.bool false)], args := [d1, d2, d3] }
  | _ => none }
def PortRunsWrongFalsely : Prop := portRunsRow.holds Try.pinned (OpenSpec.ofChange portRunsWrong)

/- THE SECOND FORM. 'bulk': how many values and letters a reading holds, each counted each time it is reached (what is shared counts as often as it is met; a slice's spare places count too). A statement '..UptoSaid' is the law's where the arguments, and the package variables that the reading takes, are together of bulk at most 1048576: NARROWER than '..Said'. Prove '..Said' where nothing that the law and all that it calls make is longer than what came in: it says more and counts as full. Else prove '..UptoSaid'. A law counts once. -/
mutual
def uptoBulk {H : Type} : DataW H → Nat
  | .lit (.string bytes) => bytes.length + 1
  | .lit _ => 1
  | .nil => 1
  | .ptr d => uptoBulk d + 1
  | .slice elems spare => uptoBulkAll elems + uptoBulkAll spare + 1
  | .agg parts => uptoBulkAll parts + 1
  | .iface _ d => uptoBulk d + 1
  | .map entries => uptoBulkEntries entries + 1
  | .held _ => 1
def uptoBulkAll {H : Type} : List (DataW H) → Nat
  | [] => 0
  | d :: r => uptoBulk d + uptoBulkAll r
def uptoBulkEntries {H : Type} : List (Lit × DataW H) → Nat
  | [] => 0
  | x :: r => uptoBulkEntry x + uptoBulkEntries r
def uptoBulkEntry {H : Type} : Lit × DataW H → Nat
  | (.string bytes, d) => bytes.length + uptoBulk d + 1
  | (_, d) => uptoBulk d + 1
 end
def uptoSmall : (H : Type) → List (DataW H) → Bool := fun _ ds => decide (uptoBulkAll ds ≤ 1048576)
def OpenSpec.upto (s : _root_.Go.ChangeSpec) : _root_.Go.OpenSpec := { _root_.Go.OpenSpec.ofChange s with cond := some uptoSmall }

/-- 'sandglasslaw16.PortOpen', WHERE WHAT IT READS IS OF BULK AT MOST 1048576: true; the input reads as it did. -/
def portOpenUptoRow : OpenClaim := { program := "ytaadejgoafdbcaa", sum := "afeaf79115fc83e59d9dc8bc71e0f502a00c4dcc3dd7c2c3d43e91496b52ee0d", func := "sandglass/sandglasslaw16.PortOpen", spec := "portOpen", unfollowed := true, recurses := true, apart := false, narrowed := true }
def PortOpenUptoSaid : Prop := portOpenUptoRow.holds Try.pinned (OpenSpec.upto portOpenSpec)

/-- 'sandglasslaw16.PortWhens', WHERE WHAT IT READS IS OF BULK AT MOST 1048576: true; the input reads as it did. -/
def portWhensUptoRow : OpenClaim := { program := "ytaadejgoafdbcaa", sum := "afeaf79115fc83e59d9dc8bc71e0f502a00c4dcc3dd7c2c3d43e91496b52ee0d", func := "sandglass/sandglasslaw16.PortWhens", spec := "portWhens", unfollowed := true, recurses := true, apart := false, narrowed := true }
def PortWhensUptoSaid : Prop := portWhensUptoRow.holds Try.pinned (OpenSpec.upto portWhensSpec)

/-- 'sandglasslaw16.PortChanges', WHERE WHAT IT READS IS OF BULK AT MOST 1048576: true; the input reads as it did. -/
def portChangesUptoRow : OpenClaim := { program := "ytaadejgoafdbcaa", sum := "afeaf79115fc83e59d9dc8bc71e0f502a00c4dcc3dd7c2c3d43e91496b52ee0d", func := "sandglass/sandglasslaw16.PortChanges", spec := "portChanges", unfollowed := true, recurses := true, apart := false, narrowed := true }
def PortChangesUptoSaid : Prop := portChangesUptoRow.holds Try.pinned (OpenSpec.upto portChangesSpec)

/-- 'sandglasslaw16.PortRuns', WHERE WHAT IT READS IS OF BULK AT MOST 1048576: true; the input reads as it did. -/
def portRunsUptoRow : OpenClaim := { program := "ytaadejgoafdbcaa", sum := "afeaf79115fc83e59d9dc8bc71e0f502a00c4dcc3dd7c2c3d43e91496b52ee0d", func := "sandglass/sandglasslaw16.PortRuns", spec := "portRuns", unfollowed := true, recurses := true, apart := false, narrowed := true }
def PortRunsUptoSaid : Prop := portRunsUptoRow.holds Try.pinned (OpenSpec.upto portRunsSpec)

end Rows
end Go.Proofs.Ytaadejgoafdbcaa
