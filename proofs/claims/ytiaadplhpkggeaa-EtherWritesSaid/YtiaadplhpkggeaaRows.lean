/-
  No cell of these rows narrows 'for every input' (looked for: loops, veiled, ifaces, maps, wideKeys, modest, calm, conditions, laid).
  DERIVED. THE GIVEN ROWS OF THIS SEAT. 12 by the template 'for every input the law returns true; each argument reads behind the call as it read before'; 0 by the template 'total and deterministic' (their statements: YtiaadplhpkggeaaTotals.lean).
  GIVEN WITH THE SEED: the statements are not yours to turn. If you find one false, say at which input.
  Laid BY PROGRAM, IN A SANDBOX (cutbox-rows.mjs): the forced cells as the released guide's own fill.sh prints them over the translation e86bb039b3adffd6… (all of the seat's roots in one cut). By AI agents, Wed Nov 11 2026. No macro, syntax, notation, axiom, sorry.
-/
import Derived.Test.YtiaadplhpkggeaaChecked
import GoSem.Claim
import GoSem.ClaimJoined
import GoSem.ClaimMapViews
import Derived.JoinedTies
import Derived.KernelRfl
namespace Go.Proofs.Ytiaadplhpkggeaa
/- THE CELL 'sum', in the pinned program and in every row, IS THE sha256 OF THE DUMP (.gsa) THAT YtiaadplhpkggeaaProg.lean LOADS. Nothing in Lean hashes anything: it is a label: what it is worth is what the hold of that sum in a sandbox is worth. -/
noncomputable def Try.pinned : Pinned := { name := "ytiaadplhpkggeaa", sum := "e86bb039b3adffd62eaa22c04e7c6d42bb3889b61177383c2311526356705335", checked := Try.checked }
namespace Rows
def none {H : Type} : Left H := { results := [], args := [] }

/-- 'sandglasslaw05.EtherNames': WHATEVER THE INPUT: true; the input reads as it did. -/
def etherNamesSpec : ChangeSpec := { name := "etherNames", fn := fun _ => fun
  | [d1, d2] => { results := [.lit (.bool true)], args := [d1, d2] }
  | _ => none }
def etherNamesRow : OpenClaim := { program := "ytiaadplhpkggeaa", sum := "e86bb039b3adffd62eaa22c04e7c6d42bb3889b61177383c2311526356705335", func := "sandglass/sandglasslaw05.EtherNames", spec := "etherNames", apart := false }
def EtherNamesSaid : Prop := etherNamesRow.holds Try.pinned (OpenSpec.ofChange etherNamesSpec)

/-- ITS FALSE NEIGHBOUR: 'it returns false'. Refute it at one input. -/
def etherNamesWrong : ChangeSpec := { name := "etherNames", fn := fun _ => fun
  | [d1, d2] => { results := [.lit (.bool false)], args := [d1, d2] }
  | _ => none }
def EtherNamesWrongFalsely : Prop := etherNamesRow.holds Try.pinned (OpenSpec.ofChange etherNamesWrong)

/-- 'sandglasslaw04.FcsSums': WHATEVER THE INPUT: true; the input reads as it did. -/
def fcsSumsSpec : ChangeSpec := { name := "fcsSums", fn := fun _ => fun
  | [d] => { results := [.lit (.bool true)], args := [d] }
  | _ => none }
def fcsSumsRow : OpenClaim := { program := "ytiaadplhpkggeaa", sum := "e86bb039b3adffd62eaa22c04e7c6d42bb3889b61177383c2311526356705335", func := "sandglass/sandglasslaw04.FcsSums", spec := "fcsSums", apart := false }
def FcsSumsSaid : Prop := fcsSumsRow.holds Try.pinned (OpenSpec.ofChange fcsSumsSpec)

/-- ITS FALSE NEIGHBOUR: 'it returns false'. Refute it at one input. -/
def fcsSumsWrong : ChangeSpec := { name := "fcsSums", fn := fun _ => fun
  | [d] => { results := [.lit (.bool false)], args := [d] }
  | _ => none }
def FcsSumsWrongFalsely : Prop := fcsSumsRow.holds Try.pinned (OpenSpec.ofChange fcsSumsWrong)

/-- 'sandglasslaw04.FcsOpens': WHATEVER THE INPUT: true; the input reads as it did. -/
def fcsOpensSpec : ChangeSpec := { name := "fcsOpens", fn := fun _ => fun
  | [d] => { results := [.lit (.bool true)], args := [d] }
  | _ => none }
def fcsOpensRow : OpenClaim := { program := "ytiaadplhpkggeaa", sum := "e86bb039b3adffd62eaa22c04e7c6d42bb3889b61177383c2311526356705335", func := "sandglass/sandglasslaw04.FcsOpens", spec := "fcsOpens", apart := false }
def FcsOpensSaid : Prop := fcsOpensRow.holds Try.pinned (OpenSpec.ofChange fcsOpensSpec)

/-- ITS FALSE NEIGHBOUR: 'it returns false'. Refute it at one input. -/
def fcsOpensWrong : ChangeSpec := { name := "fcsOpens", fn := fun _ => fun
  | [d] => { results := [.lit (.bool false)], args := [d] }
  | _ => none }
def FcsOpensWrongFalsely : Prop := fcsOpensRow.holds Try.pinned (OpenSpec.ofChange fcsOpensWrong)

/-- 'sandglasslaw04.FcsBursts': WHATEVER THE INPUT: true; the input reads as it did. -/
def fcsBurstsSpec : ChangeSpec := { name := "fcsBursts", fn := fun _ => fun
  | [d1, d2, d3] => { results := [.lit (.bool true)], args := [d1, d2, d3] }
  | _ => none }
def fcsBurstsRow : OpenClaim := { program := "ytiaadplhpkggeaa", sum := "e86bb039b3adffd62eaa22c04e7c6d42bb3889b61177383c2311526356705335", func := "sandglass/sandglasslaw04.FcsBursts", spec := "fcsBursts", apart := false }
def FcsBurstsSaid : Prop := fcsBurstsRow.holds Try.pinned (OpenSpec.ofChange fcsBurstsSpec)

/-- ITS FALSE NEIGHBOUR: 'it returns false'. Refute it at one input. -/
def fcsBurstsWrong : ChangeSpec := { name := "fcsBursts", fn := fun _ => fun
  | [d1, d2, d3] => { results := [.lit (.bool false)], args := [d1, d2, d3] }
  | _ => none }
def FcsBurstsWrongFalsely : Prop := fcsBurstsRow.holds Try.pinned (OpenSpec.ofChange fcsBurstsWrong)

/-- 'sandglasslaw04.FcsBack': WHATEVER THE INPUT: true; the input reads as it did. -/
def fcsBackSpec : ChangeSpec := { name := "fcsBack", fn := fun _ => fun
  | [d] => { results := [.lit (.bool true)], args := [d] }
  | _ => none }
def fcsBackRow : OpenClaim := { program := "ytiaadplhpkggeaa", sum := "e86bb039b3adffd62eaa22c04e7c6d42bb3889b61177383c2311526356705335", func := "sandglass/sandglasslaw04.FcsBack", spec := "fcsBack", apart := false }
def FcsBackSaid : Prop := fcsBackRow.holds Try.pinned (OpenSpec.ofChange fcsBackSpec)

/-- ITS FALSE NEIGHBOUR: 'it returns false'. Refute it at one input. -/
def fcsBackWrong : ChangeSpec := { name := "fcsBack", fn := fun _ => fun
  | [d] => { results := [.lit (.bool false)], args := [d] }
  | _ => none }
def FcsBackWrongFalsely : Prop := fcsBackRow.holds Try.pinned (OpenSpec.ofChange fcsBackWrong)

/-- 'sandglasslaw04.FcsFirst': WHATEVER THE INPUT: true; the input reads as it did. -/
def fcsFirstSpec : ChangeSpec := { name := "fcsFirst", fn := fun _ => fun
  | [d] => { results := [.lit (.bool true)], args := [d] }
  | _ => none }
def fcsFirstRow : OpenClaim := { program := "ytiaadplhpkggeaa", sum := "e86bb039b3adffd62eaa22c04e7c6d42bb3889b61177383c2311526356705335", func := "sandglass/sandglasslaw04.FcsFirst", spec := "fcsFirst", apart := false }
def FcsFirstSaid : Prop := fcsFirstRow.holds Try.pinned (OpenSpec.ofChange fcsFirstSpec)

/-- ITS FALSE NEIGHBOUR: 'it returns false'. Refute it at one input. -/
def fcsFirstWrong : ChangeSpec := { name := "fcsFirst", fn := fun _ => fun
  | [d] => { results := [.lit (.bool false)], args := [d] }
  | _ => none }
def FcsFirstWrongFalsely : Prop := fcsFirstRow.holds Try.pinned (OpenSpec.ofChange fcsFirstWrong)

/-- 'sandglasslaw04.FcsHits': WHATEVER THE INPUT: true; the input reads as it did. -/
def fcsHitsSpec : ChangeSpec := { name := "fcsHits", fn := fun _ => fun
  | [d1, d2] => { results := [.lit (.bool true)], args := [d1, d2] }
  | _ => none }
def fcsHitsRow : OpenClaim := { program := "ytiaadplhpkggeaa", sum := "e86bb039b3adffd62eaa22c04e7c6d42bb3889b61177383c2311526356705335", func := "sandglass/sandglasslaw04.FcsHits", spec := "fcsHits", apart := false }
def FcsHitsSaid : Prop := fcsHitsRow.holds Try.pinned (OpenSpec.ofChange fcsHitsSpec)

/-- ITS FALSE NEIGHBOUR: 'it returns false'. Refute it at one input. -/
def fcsHitsWrong : ChangeSpec := { name := "fcsHits", fn := fun _ => fun
  | [d1, d2] => { results := [.lit (.bool false)], args := [d1, d2] }
  | _ => none }
def FcsHitsWrongFalsely : Prop := fcsHitsRow.holds Try.pinned (OpenSpec.ofChange fcsHitsWrong)

/-- 'sandglasslaw05.EtherSizes': WHATEVER THE INPUT: true; the input reads as it did. -/
def etherSizesSpec : ChangeSpec := { name := "etherSizes", fn := fun _ => fun
  | [d1, d2] => { results := [.lit (.bool true)], args := [d1, d2] }
  | _ => none }
def etherSizesRow : OpenClaim := { program := "ytiaadplhpkggeaa", sum := "e86bb039b3adffd62eaa22c04e7c6d42bb3889b61177383c2311526356705335", func := "sandglass/sandglasslaw05.EtherSizes", spec := "etherSizes", apart := false }
def EtherSizesSaid : Prop := etherSizesRow.holds Try.pinned (OpenSpec.ofChange etherSizesSpec)

/-- ITS FALSE NEIGHBOUR: 'it returns false'. Refute it at one input. -/
def etherSizesWrong : ChangeSpec := { name := "etherSizes", fn := fun _ => fun
  | [d1, d2] => { results := [.lit (.bool false)], args := [d1, d2] }
  | _ => none }
def EtherSizesWrongFalsely : Prop := etherSizesRow.holds Try.pinned (OpenSpec.ofChange etherSizesWrong)

/-- 'sandglasslaw05.EtherWrites': WHATEVER THE INPUT: true; the input reads as it did. -/
def etherWritesSpec : ChangeSpec := { name := "etherWrites", fn := fun _ => fun
  | [d1, d2] => { results := [.lit (.bool true)], args := [d1, d2] }
  | _ => none }
def etherWritesRow : OpenClaim := { program := "ytiaadplhpkggeaa", sum := "e86bb039b3adffd62eaa22c04e7c6d42bb3889b61177383c2311526356705335", func := "sandglass/sandglasslaw05.EtherWrites", spec := "etherWrites", unfollowed := true, recurses := true, apart := false }
def EtherWritesSaid : Prop := etherWritesRow.holds Try.pinned (OpenSpec.ofChange etherWritesSpec)

/-- ITS FALSE NEIGHBOUR: 'it returns false'. Refute it at one input. -/
def etherWritesWrong : ChangeSpec := { name := "etherWrites", fn := fun _ => fun
  | [d1, d2] => { results := [.lit (.bool false)], args := [d1, d2] }
  | _ => none }
def EtherWritesWrongFalsely : Prop := etherWritesRow.holds Try.pinned (OpenSpec.ofChange etherWritesWrong)

/-- 'sandglasslaw05.EtherReads': WHATEVER THE INPUT: true; the input reads as it did. -/
def etherReadsSpec : ChangeSpec := { name := "etherReads", fn := fun _ => fun
  | [d] => { results := [.lit (.bool true)], args := [d] }
  | _ => none }
def etherReadsRow : OpenClaim := { program := "ytiaadplhpkggeaa", sum := "e86bb039b3adffd62eaa22c04e7c6d42bb3889b61177383c2311526356705335", func := "sandglass/sandglasslaw05.EtherReads", spec := "etherReads", unfollowed := true, recurses := true, apart := false }
def EtherReadsSaid : Prop := etherReadsRow.holds Try.pinned (OpenSpec.ofChange etherReadsSpec)

/-- ITS FALSE NEIGHBOUR: 'it returns false'. Refute it at one input. -/
def etherReadsWrong : ChangeSpec := { name := "etherReads", fn := fun _ => fun
  | [d] => { results := [.lit (.bool false)], args := [d] }
  | _ => none }
def EtherReadsWrongFalsely : Prop := etherReadsRow.holds Try.pinned (OpenSpec.ofChange etherReadsWrong)

/-- 'sandglasslaw05.EtherForm': WHATEVER THE INPUT: true; the input reads as it did. -/
def etherFormSpec : ChangeSpec := { name := "etherForm", fn := fun _ => fun
  | [d] => { results := [.lit (.bool true)], args := [d] }
  | _ => none }
def etherFormRow : OpenClaim := { program := "ytiaadplhpkggeaa", sum := "e86bb039b3adffd62eaa22c04e7c6d42bb3889b61177383c2311526356705335", func := "sandglass/sandglasslaw05.EtherForm", spec := "etherForm", unfollowed := true, recurses := true, apart := false }
def EtherFormSaid : Prop := etherFormRow.holds Try.pinned (OpenSpec.ofChange etherFormSpec)

/-- ITS FALSE NEIGHBOUR: 'it returns false'. Refute it at one input. -/
def etherFormWrong : ChangeSpec := { name := "etherForm", fn := fun _ => fun
  | [d] => { results := [.lit (.bool false)], args := [d] }
  | _ => none }
def EtherFormWrongFalsely : Prop := etherFormRow.holds Try.pinned (OpenSpec.ofChange etherFormWrong)

/-- 'sandglasslaw05.EtherTurned': WHATEVER THE INPUT: true; the input reads as it did. -/
def etherTurnedSpec : ChangeSpec := { name := "etherTurned", fn := fun _ => fun
  | [d1, d2] => { results := [.lit (.bool true)], args := [d1, d2] }
  | _ => none }
def etherTurnedRow : OpenClaim := { program := "ytiaadplhpkggeaa", sum := "e86bb039b3adffd62eaa22c04e7c6d42bb3889b61177383c2311526356705335", func := "sandglass/sandglasslaw05.EtherTurned", spec := "etherTurned", unfollowed := true, recurses := true, apart := false }
def EtherTurnedSaid : Prop := etherTurnedRow.holds Try.pinned (OpenSpec.ofChange etherTurnedSpec)

/-- ITS FALSE NEIGHBOUR: 'it returns false'. Refute it at one input. -/
def etherTurnedWrong : ChangeSpec := { name := "etherTurned", fn := fun _ => fun
  | [d1, d2] => { results := [.lit (.bool false)], args := [d1, d2] }
  | _ => none }
def EtherTurnedWrongFalsely : Prop := etherTurnedRow.holds Try.pinned (OpenSpec.ofChange etherTurnedWrong)

/- THE SECOND FORM. 'bulk': how many values and letters a reading holds, each counted each time it is reached (what is shared counts as often as it is met; a slice's spare places count too). A statement '..UptoSaid' is the law's where the arguments, and the package variables that the reading takes, are together of bulk at most 1048576: NARROWER than '..Said'. Prove '..Said' where nothing that the law and all that it calls make is longer than what came in: it says more and counts as full. Else prove '..UptoSaid'. A law counts once. -/
mutual
def uptoBulk {H : Type} : DataW H → Nat
  | .lit (.string bytes) => bytes.length + 1
  | .lit _ => 1
  | .nil => 1
  | .ptr d => uptoBulk d + 1
  | .slice elems spare => uptoBulkAll elems + uptoBulkAll spare + 1
  | .agg parts => uptoBulkAll parts + 1
  | .iface _ d => uptoBulk d + 1
  | .map entries => uptoBulkEntries entries + 1
  | .held _ => 1
def uptoBulkAll {H : Type} : List (DataW H) → Nat
  | [] => 0
  | d :: r => uptoBulk d + uptoBulkAll r
def uptoBulkEntries {H : Type} : List (Lit × DataW H) → Nat
  | [] => 0
  | x :: r => uptoBulkEntry x + uptoBulkEntries r
def uptoBulkEntry {H : Type} : Lit × DataW H → Nat
  | (.string bytes, d) => bytes.length + uptoBulk d + 1
  | (_, d) => uptoBulk d + 1
 end
def uptoSmall : (H : Type) → List (DataW H) → Bool := fun _ ds => decide (uptoBulkAll ds ≤ 1048576)
def OpenSpec.upto (s : _root_.Go.ChangeSpec) : _root_.Go.OpenSpec := { _root_.Go.OpenSpec.ofChange s with cond := some uptoSmall }

/-- 'sandglasslaw05.EtherNames', WHERE WHAT IT READS IS OF BULK AT MOST 1048576: true; the input reads as it did. -/
def etherNamesUptoRow : OpenClaim := { program := "ytiaadplhpkggeaa", sum := "e86bb039b3adffd62eaa22c04e7c6d42bb3889b61177383c2311526356705335", func := "sandglass/sandglasslaw05.EtherNames", spec := "etherNames", apart := false, narrowed := true }
def EtherNamesUptoSaid : Prop := etherNamesUptoRow.holds Try.pinned (OpenSpec.upto etherNamesSpec)

/-- 'sandglasslaw04.FcsSums', WHERE WHAT IT READS IS OF BULK AT MOST 1048576: true; the input reads as it did. -/
def fcsSumsUptoRow : OpenClaim := { program := "ytiaadplhpkggeaa", sum := "e86bb039b3adffd62eaa22c04e7c6d42bb3889b61177383c2311526356705335", func := "sandglass/sandglasslaw04.FcsSums", spec := "fcsSums", apart := false, narrowed := true }
def FcsSumsUptoSaid : Prop := fcsSumsUptoRow.holds Try.pinned (OpenSpec.upto fcsSumsSpec)

/-- 'sandglasslaw04.FcsOpens', WHERE WHAT IT READS IS OF BULK AT MOST 1048576: true; the input reads as it did. -/
def fcsOpensUptoRow : OpenClaim := { program := "ytiaadplhpkggeaa", sum := "e86bb039b3adffd62eaa22c04e7c6d42bb3889b61177383c2311526356705335", func := "sandglass/sandglasslaw04.FcsOpens", spec := "fcsOpens", apart := false, narrowed := true }
def FcsOpensUptoSaid : Prop := fcsOpensUptoRow.holds Try.pinned (OpenSpec.upto fcsOpensSpec)

/-- 'sandglasslaw04.FcsBursts', WHERE WHAT IT READS IS OF BULK AT MOST 1048576: true; the input reads as it did. -/
def fcsBurstsUptoRow : OpenClaim := { program := "ytiaadplhpkggeaa", sum := "e86bb039b3adffd62eaa22c04e7c6d42bb3889b61177383c2311526356705335", func := "sandglass/sandglasslaw04.FcsBursts", spec := "fcsBursts", apart := false, narrowed := true }
def FcsBurstsUptoSaid : Prop := fcsBurstsUptoRow.holds Try.pinned (OpenSpec.upto fcsBurstsSpec)

/-- 'sandglasslaw04.FcsBack', WHERE WHAT IT READS IS OF BULK AT MOST 1048576: true; the input reads as it did. -/
def fcsBackUptoRow : OpenClaim := { program := "ytiaadplhpkggeaa", sum := "e86bb039b3adffd62eaa22c04e7c6d42bb3889b61177383c2311526356705335", func := "sandglass/sandglasslaw04.FcsBack", spec := "fcsBack", apart := false, narrowed := true }
def FcsBackUptoSaid : Prop := fcsBackUptoRow.holds Try.pinned (OpenSpec.upto fcsBackSpec)

/-- 'sandglasslaw04.FcsFirst', WHERE WHAT IT READS IS OF BULK AT MOST 1048576: true; the input reads as it did. -/
def fcsFirstUptoRow : OpenClaim := { program := "ytiaadplhpkggeaa", sum := "e86bb039b3adffd62eaa22c04e7c6d42bb3889b61177383c2311526356705335", func := "sandglass/sandglasslaw04.FcsFirst", spec := "fcsFirst", apart := false, narrowed := true }
def FcsFirstUptoSaid : Prop := fcsFirstUptoRow.holds Try.pinned (OpenSpec.upto fcsFirstSpec)

/-- 'sandglasslaw04.FcsHits', WHERE WHAT IT READS IS OF BULK AT MOST 1048576: true; the input reads as it did. -/
def fcsHitsUptoRow : OpenClaim := { program := "ytiaadplhpkggeaa", sum := "e86bb039b3adffd62eaa22c04e7c6d42bb3889b61177383c2311526356705335", func := "sandglass/sandglasslaw04.FcsHits", spec := "fcsHits", apart := false, narrowed := true }
def FcsHitsUptoSaid : Prop := fcsHitsUptoRow.holds Try.pinned (OpenSpec.upto fcsHitsSpec)

/-- 'sandglasslaw05.EtherSizes', WHERE WHAT IT READS IS OF BULK AT MOST 1048576: true; the input reads as it did. -/
def etherSizesUptoRow : OpenClaim := { program := "ytiaadplhpkggeaa", sum := "e86bb039b3adffd62eaa22c04e7c6d42bb3889b61177383c2311526356705335", func := "sandglass/sandglasslaw05.EtherSizes", spec := "etherSizes", apart := false, narrowed := true }
def EtherSizesUptoSaid : Prop := etherSizesUptoRow.holds Try.pinned (OpenSpec.upto etherSizesSpec)

/-- 'sandglasslaw05.EtherWrites', WHERE WHAT IT READS IS OF BULK AT MOST 1048576: true; the input reads as it did. -/
def etherWritesUptoRow : OpenClaim := { program := "ytiaadplhpkggeaa", sum := "e86bb039b3adffd62eaa22c04e7c6d42bb3889b61177383c2311526356705335", func := "sandglass/sandglasslaw05.EtherWrites", spec := "etherWrites", unfollowed := true, recurses := true, apart := false, narrowed := true }
def EtherWritesUptoSaid : Prop := etherWritesUptoRow.holds Try.pinned (OpenSpec.upto etherWritesSpec)

/-- 'sandglasslaw05.EtherReads', WHERE WHAT IT READS IS OF BULK AT MOST 1048576: true; the input reads as it did. -/
def etherReadsUptoRow : OpenClaim := { program := "ytiaadplhpkggeaa", sum := "e86bb039b3adffd62eaa22c04e7c6d42bb3889b61177383c2311526356705335", func := "sandglass/sandglasslaw05.EtherReads", spec := "etherReads", unfollowed := true, recurses := true, apart := false, narrowed := true }
def EtherReadsUptoSaid : Prop := etherReadsUptoRow.holds Try.pinned (OpenSpec.upto etherReadsSpec)

/-- 'sandglasslaw05.EtherForm', WHERE WHAT IT READS IS OF BULK AT MOST 1048576: true; the input reads as it did. -/
def etherFormUptoRow : OpenClaim := { program := "ytiaadplhpkggeaa", sum := "e86bb039b3adffd62eaa22c04e7c6d42bb3889b61177383c2311526356705335", func := "sandglass/sandglasslaw05.EtherForm", spec := "etherForm", unfollowed := true, recurses := true, apart := false, narrowed := true }
def EtherFormUptoSaid : Prop := etherFormUptoRow.holds Try.pinned (OpenSpec.upto etherFormSpec)

/-- 'sandglasslaw05.EtherTurned', WHERE WHAT IT READS IS OF BULK AT MOST 1048576: true; the input reads as it did. -/
def etherTurnedUptoRow : OpenClaim := { program := "ytiaadplhpkggeaa", sum := "e86bb039b3adffd62eaa22c04e7c6d42bb3889b61177383c2311526356705335", func := "sandglass/sandglasslaw05.EtherTurned", spec := "etherTurned", unfollowed := true, recurses := true, apart := false, narrowed := true }
def EtherTurnedUptoSaid : Prop := etherTurnedUptoRow.holds Try.pinned (OpenSpec.upto etherTurnedSpec)

end Rows
end Go.Proofs.Ytiaadplhpkggeaa
