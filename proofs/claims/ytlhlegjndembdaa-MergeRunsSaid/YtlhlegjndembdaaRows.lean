/-
  No cell of these rows narrows 'for every input' (looked for: loops, veiled, ifaces, maps, wideKeys, modest, calm, conditions, laid).
  DERIVED. THE GIVEN ROWS OF THIS SEAT. 10 by the template 'for every input the law returns true; each argument reads behind the call as it read before'; 0 by the template 'total and deterministic' (their statements: YtlhlegjndembdaaTotals.lean).
  GIVEN WITH THE SEED: the statements are not yours to turn. If you find one false, say at which input.
  Laid BY PROGRAM, IN A SANDBOX (cutbox-rows.mjs): the forced cells as the released guide's own fill.sh prints them over the translation afaef4cfb4867e47… (all of the seat's roots in one cut). By AI agents, Wed Nov 11 2026. No macro, syntax, notation, axiom, sorry.
-/
import Derived.Test.YtlhlegjndembdaaChecked
import GoSem.Claim
import GoSem.ClaimJoined
import GoSem.ClaimMapViews
import Derived.JoinedTies
import Derived.KernelRfl
namespace Go.Proofs.Ytlhlegjndembdaa
/- THE CELL 'sum', in the pinned program and in every row, IS THE sha256 OF THE DUMP (.gsa) THAT YtlhlegjndembdaaProg.lean LOADS. Nothing in Lean hashes anything: it is a label: what it is worth is what the hold of that sum in a sandbox is worth. -/
noncomputable def Try.pinned : Pinned := { name := "ytlhlegjndembdaa", sum := "afaef4cfb4867e47e294adccf5a233099c3ba27f59a969c74a4f7f3cad30510d", checked := Try.checked }
namespace Rows
def none {H : Type} : Left H := { results := [], args := [] }

/-- 'sandglasslaw13.SeqrGives': WHATEVER THE INPUT: true; the input reads as it did. -/
def seqrGivesSpec : ChangeSpec := { name := "seqrGives", fn := fun _ => fun
  | [d] => { results := [.lit (.bool true)], args := [d] }
  | _ => none }
def seqrGivesRow : OpenClaim := { program := "ytlhlegjndembdaa", sum := "afaef4cfb4867e47e294adccf5a233099c3ba27f59a969c74a4f7f3cad30510d", func := "sandglass/sandglasslaw13.SeqrGives", spec := "seqrGives", apart := false }
def SeqrGivesSaid : Prop := seqrGivesRow.holds Try.pinned (OpenSpec.ofChange seqrGivesSpec)

/-- ITS FALSE NEIGHBOUR: 'it returns false'. Refute it at one input. -/
def seqrGivesWrong : ChangeSpec := { name := "seqrGives", fn := fun _ => fun
  | [d] => { results := [.lit (.bool false)], args := [d] }
  | _ => none }
def SeqrGivesWrongFalsely : Prop := seqrGivesRow.holds Try.pinned (OpenSpec.ofChange seqrGivesWrong)

/-- 'sandglasslaw13.SeqrOnce': WHATEVER THE INPUT: true; the input reads as it did. -/
def seqrOnceSpec : ChangeSpec := { name := "seqrOnce", fn := fun _ => fun
  | [d1, d2, d3] => { results := [.lit (.bool true)], args := [d1, d2, d3] }
  | _ => none }
def seqrOnceRow : OpenClaim := { program := "ytlhlegjndembdaa", sum := "afaef4cfb4867e47e294adccf5a233099c3ba27f59a969c74a4f7f3cad30510d", func := "sandglass/sandglasslaw13.SeqrOnce", spec := "seqrOnce", unfollowed := true, recurses := true, apart := false }
def SeqrOnceSaid : Prop := seqrOnceRow.holds Try.pinned (OpenSpec.ofChange seqrOnceSpec)

/-- ITS FALSE NEIGHBOUR: 'it returns false'. Refute it at one input. -/
def seqrOnceWrong : ChangeSpec := { name := "seqrOnce", fn := fun _ => fun
  | [d1, d2, d3] => { results := [.lit (.bool false)], args := [d1, d2, d3] }
  | _ => none }
def SeqrOnceWrongFalsely : Prop := seqrOnceRow.holds Try.pinned (OpenSpec.ofChange seqrOnceWrong)

/-- 'sandglasslaw13.SeqrAnew': WHATEVER THE INPUT: true; the input reads as it did. -/
def seqrAnewSpec : ChangeSpec := { name := "seqrAnew", fn := fun _ => fun
  | [d1, d2, d3, d4] => { results := [.lit (.bool true)], args := [d1, d2, d3, d4] }
  | _ => none }
def seqrAnewRow : OpenClaim := { program := "ytlhlegjndembdaa", sum := "afaef4cfb4867e47e294adccf5a233099c3ba27f59a969c74a4f7f3cad30510d", func := "sandglass/sandglasslaw13.SeqrAnew", spec := "seqrAnew", apart := false }
def SeqrAnewSaid : Prop := seqrAnewRow.holds Try.pinned (OpenSpec.ofChange seqrAnewSpec)

/-- ITS FALSE NEIGHBOUR: 'it returns false'. Refute it at one input. -/
def seqrAnewWrong : ChangeSpec := { name := "seqrAnew", fn := fun _ => fun
  | [d1, d2, d3, d4] => { results := [.lit (.bool false)], args := [d1, d2, d3, d4] }
  | _ => none }
def SeqrAnewWrongFalsely : Prop := seqrAnewRow.holds Try.pinned (OpenSpec.ofChange seqrAnewWrong)

/-- 'sandglasslaw13.SeqrRound': WHATEVER THE INPUT: true; the input reads as it did. -/
def seqrRoundSpec : ChangeSpec := { name := "seqrRound", fn := fun _ => fun
  | [d1, d2, d3] => { results := [.lit (.bool true)], args := [d1, d2, d3] }
  | _ => none }
def seqrRoundRow : OpenClaim := { program := "ytlhlegjndembdaa", sum := "afaef4cfb4867e47e294adccf5a233099c3ba27f59a969c74a4f7f3cad30510d", func := "sandglass/sandglasslaw13.SeqrRound", spec := "seqrRound", apart := false }
def SeqrRoundSaid : Prop := seqrRoundRow.holds Try.pinned (OpenSpec.ofChange seqrRoundSpec)

/-- ITS FALSE NEIGHBOUR: 'it returns false'. Refute it at one input. -/
def seqrRoundWrong : ChangeSpec := { name := "seqrRound", fn := fun _ => fun
  | [d1, d2, d3] => { results := [.lit (.bool false)], args := [d1, d2, d3] }
  | _ => none }
def SeqrRoundWrongFalsely : Prop := seqrRoundRow.holds Try.pinned (OpenSpec.ofChange seqrRoundWrong)

/-- 'sandglasslaw13.SeqrAdds': WHATEVER THE INPUT: true; the input reads as it did. -/
def seqrAddsSpec : ChangeSpec := { name := "seqrAdds", fn := fun _ => fun
  | [d1, d2] => { results := [.lit (.bool true)], args := [d1, d2] }
  | _ => none }
def seqrAddsRow : OpenClaim := { program := "ytlhlegjndembdaa", sum := "afaef4cfb4867e47e294adccf5a233099c3ba27f59a969c74a4f7f3cad30510d", func := "sandglass/sandglasslaw13.SeqrAdds", spec := "seqrAdds", apart := false }
def SeqrAddsSaid : Prop := seqrAddsRow.holds Try.pinned (OpenSpec.ofChange seqrAddsSpec)

/-- ITS FALSE NEIGHBOUR: 'it returns false'. Refute it at one input. -/
def seqrAddsWrong : ChangeSpec := { name := "seqrAdds", fn := fun _ => fun
  | [d1, d2] => { results := [.lit (.bool false)], args := [d1, d2] }
  | _ => none }
def SeqrAddsWrongFalsely : Prop := seqrAddsRow.holds Try.pinned (OpenSpec.ofChange seqrAddsWrong)

/-- 'sandglasslaw13.SeqrRuns': WHATEVER THE INPUT: true; the input reads as it did. -/
def seqrRunsSpec : ChangeSpec := { name := "seqrRuns", fn := fun _ => fun
  | [d1, d2, d3] => { results := [.lit (.bool true)], args := [d1, d2, d3] }
  | _ => none }
def seqrRunsRow : OpenClaim := { program := "ytlhlegjndembdaa", sum := "afaef4cfb4867e47e294adccf5a233099c3ba27f59a969c74a4f7f3cad30510d", func := "sandglass/sandglasslaw13.SeqrRuns", spec := "seqrRuns", apart := false }
def SeqrRunsSaid : Prop := seqrRunsRow.holds Try.pinned (OpenSpec.ofChange seqrRunsSpec)

/-- ITS FALSE NEIGHBOUR: 'it returns false'. Refute it at one input. -/
def seqrRunsWrong : ChangeSpec := { name := "seqrRuns", fn := fun _ => fun
  | [d1, d2, d3] => { results := [.lit (.bool false)], args := [d1, d2, d3] }
  | _ => none }
def SeqrRunsWrongFalsely : Prop := seqrRunsRow.holds Try.pinned (OpenSpec.ofChange seqrRunsWrong)

/-- 'sandglasslaw14.MergeSilent': WHATEVER THE INPUT: true; the input reads as it did. -/
def mergeSilentSpec : ChangeSpec := { name := "mergeSilent", fn := fun _ => fun
  | [d1, d2] => { results := [.lit (.bool true)], args := [d1, d2] }
  | _ => none }
def mergeSilentRow : OpenClaim := { program := "ytlhlegjndembdaa", sum := "afaef4cfb4867e47e294adccf5a233099c3ba27f59a969c74a4f7f3cad30510d", func := "sandglass/sandglasslaw14.MergeSilent", spec := "mergeSilent", apart := false }
def MergeSilentSaid : Prop := mergeSilentRow.holds Try.pinned (OpenSpec.ofChange mergeSilentSpec)

/-- ITS FALSE NEIGHBOUR: 'it returns false'. Refute it at one input. -/
def mergeSilentWrong : ChangeSpec := { name := "mergeSilent", fn := fun _ => fun
  | [d1, d2] => { results := [.lit (.bool false)], args := [d1, d2] }
  | _ => none }
def MergeSilentWrongFalsely : Prop := mergeSilentRow.holds Try.pinned (OpenSpec.ofChange mergeSilentWrong)

/-- 'sandglasslaw14.MergeRuns': WHATEVER THE INPUT: true; the input reads as it did. -/
def mergeRunsSpec : ChangeSpec := { name := "mergeRuns", fn := fun _ => fun
  | [d1, d2, d3] => { results := [.lit (.bool true)], args := [d1, d2, d3] }
  | _ => none }
def mergeRunsRow : OpenClaim := { program := "ytlhlegjndembdaa", sum := "afaef4cfb4867e47e294adccf5a233099c3ba27f59a969c74a4f7f3cad30510d", func := "sandglass/sandglasslaw14.MergeRuns", spec := "mergeRuns", apart := false }
def MergeRunsSaid : Prop := mergeRunsRow.holds Try.pinned (OpenSpec.ofChange mergeRunsSpec)

/-- ITS FALSE NEIGHBOUR: 'it returns false'. Refute it at one input. -/
def mergeRunsWrong : ChangeSpec := { name := "mergeRuns", fn := fun _ => fun
  | [d1, d2, d3] => { results := [.lit (.bool false)], args := [d1, d2, d3] }
  | _ => none }
def MergeRunsWrongFalsely : Prop := mergeRunsRow.holds Try.pinned (OpenSpec.ofChange mergeRunsWrong)

/-- 'sandglasslaw14.MergeWays': WHATEVER THE INPUT: true; the input reads as it did. -/
def mergeWaysSpec : ChangeSpec := { name := "mergeWays", fn := fun _ => fun
  | [d1, d2] => { results := [.lit (.bool true)], args := [d1, d2] }
  | _ => none }
def mergeWaysRow : OpenClaim := { program := "ytlhlegjndembdaa", sum := "afaef4cfb4867e47e294adccf5a233099c3ba27f59a969c74a4f7f3cad30510d", func := "sandglass/sandglasslaw14.MergeWays", spec := "mergeWays", apart := false }
def MergeWaysSaid : Prop := mergeWaysRow.holds Try.pinned (OpenSpec.ofChange mergeWaysSpec)

/-- ITS FALSE NEIGHBOUR: 'it returns false'. Refute it at one input. -/
def mergeWaysWrong : ChangeSpec := { name := "mergeWays", fn := fun _ => fun
  | [d1, d2] => { results := [.lit (.bool false)], args := [d1, d2] }
  | _ => none }
def MergeWaysWrongFalsely : Prop := mergeWaysRow.holds Try.pinned (OpenSpec.ofChange mergeWaysWrong)

/-- 'sandglasslaw14.MergeAdds': WHATEVER THE INPUT: true; the input reads as it did. -/
def mergeAddsSpec : ChangeSpec := { name := "mergeAdds", fn := fun _ => fun
  | [d1, d2] => { results := [.lit (.bool true)], args := [d1, d2] }
  | _ => none }
def mergeAddsRow : OpenClaim := { program := "ytlhlegjndembdaa", sum := "afaef4cfb4867e47e294adccf5a233099c3ba27f59a969c74a4f7f3cad30510d", func := "sandglass/sandglasslaw14.MergeAdds", spec := "mergeAdds", apart := false }
def MergeAddsSaid : Prop := mergeAddsRow.holds Try.pinned (OpenSpec.ofChange mergeAddsSpec)

/-- ITS FALSE NEIGHBOUR: 'it returns false'. Refute it at one input. -/
def mergeAddsWrong : ChangeSpec := { name := "mergeAdds", fn := fun _ => fun
  | [d1, d2] => { results := [.lit (.bool false)], args := [d1, d2] }
  | _ => none }
def MergeAddsWrongFalsely : Prop := mergeAddsRow.holds Try.pinned (OpenSpec.ofChange mergeAddsWrong)

/- THE SECOND FORM. 'bulk': how many values and letters a reading holds, each counted each time it is reached (what is shared counts as often as it is met; a slice's spare places count too). A statement '..UptoSaid' is the law's where the arguments, and the package variables that the reading takes, are together of bulk at most 1048576: NARROWER than '..Said'. Prove '..Said' where nothing that the law and all that it calls make is longer than what came in: it says more and counts as full. Else prove '..UptoSaid'. A law counts once. -/
mutual
def uptoBulk {H : Type} : DataW H → Nat
  | .lit (.string bytes) => bytes.length + 1
  | .lit _ => 1
  | .nil => 1
  | .ptr d => uptoBulk d + 1
  | .slice elems spare => uptoBulkAll elems + uptoBulkAll spare + 1
  | .agg parts => uptoBulkAll parts + 1
  | .iface _ d => uptoBulk d + 1
  | .map entries => uptoBulkEntries entries + 1
  | .held _ => 1
def uptoBulkAll {H : Type} : List (DataW H) → Nat
  | [] => 0
  | d :: r => uptoBulk d + uptoBulkAll r
def uptoBulkEntries {H : Type} : List (Lit × DataW H) → Nat
  | [] => 0
  | x :: r => uptoBulkEntry x + uptoBulkEntries r
def uptoBulkEntry {H : Type} : Lit × DataW H → Nat
  | (.string bytes, d) => bytes.length + uptoBulk d + 1
  | (_, d) => uptoBulk d + 1
 end
def uptoSmall : (H : Type) → List (DataW H) → Bool := fun _ ds => decide (uptoBulkAll ds ≤ 1048576)
def OpenSpec.upto (s : _root_.Go.ChangeSpec) : _root_.Go.OpenSpec := { _root_.Go.OpenSpec.ofChange s with cond := some uptoSmall }

/-- 'sandglasslaw13.SeqrGives', WHERE WHAT IT READS IS OF BULK AT MOST 1048576: true; the input reads as it did. -/
def seqrGivesUptoRow : OpenClaim := { program := "ytlhlegjndembdaa", sum := "afaef4cfb4867e47e294adccf5a233099c3ba27f59a969c74a4f7f3cad30510d", func := "sandglass/sandglasslaw13.SeqrGives", spec := "seqrGives", apart := false, narrowed := true }
def SeqrGivesUptoSaid : Prop := seqrGivesUptoRow.holds Try.pinned (OpenSpec.upto seqrGivesSpec)

/-- 'sandglasslaw13.SeqrOnce', WHERE WHAT IT READS IS OF BULK AT MOST 1048576: true; the input reads as it did. -/
def seqrOnceUptoRow : OpenClaim := { program := "ytlhlegjndembdaa", sum := "afaef4cfb4867e47e294adccf5a233099c3ba27f59a969c74a4f7f3cad30510d", func := "sandglass/sandglasslaw13.SeqrOnce", spec := "seqrOnce", unfollowed := true, recurses := true, apart := false, narrowed := true }
def SeqrOnceUptoSaid : Prop := seqrOnceUptoRow.holds Try.pinned (OpenSpec.upto seqrOnceSpec)

/-- 'sandglasslaw13.SeqrAnew', WHERE WHAT IT READS IS OF BULK AT MOST 1048576: true; the input reads as it did. -/
def seqrAnewUptoRow : OpenClaim := { program := "ytlhlegjndembdaa", sum := "afaef4cfb4867e47e294adccf5a233099c3ba27f59a969c74a4f7f3cad30510d", func := "sandglass/sandglasslaw13.SeqrAnew", spec := "seqrAnew", apart := false, narrowed := true }
def SeqrAnewUptoSaid : Prop := seqrAnewUptoRow.holds Try.pinned (OpenSpec.upto seqrAnewSpec)

/-- 'sandglasslaw13.SeqrRound', WHERE WHAT IT READS IS OF BULK AT MOST 1048576: true; the input reads as it did. -/
def seqrRoundUptoRow : OpenClaim := { program := "ytlhlegjndembdaa", sum := "afaef4cfb4867e47e294adccf5a233099c3ba27f59a969c74a4f7f3cad30510d", func := "sandglass/sandglasslaw13.SeqrRound", spec := "seqrRound", apart := false, narrowed := true }
def SeqrRoundUptoSaid : Prop := seqrRoundUptoRow.holds Try.pinned (OpenSpec.upto seqrRoundSpec)

/-- 'sandglasslaw13.SeqrAdds', WHERE WHAT IT READS IS OF BULK AT MOST 1048576: true; the input reads as it did. -/
def seqrAddsUptoRow : OpenClaim := { program := "ytlhlegjndembdaa", sum := "afaef4cfb4867e47e294adccf5a233099c3ba27f59a969c74a4f7f3cad30510d", func := "sandglass/sandglasslaw13.SeqrAdds", spec := "seqrAdds", apart := false, narrowed := true }
def SeqrAddsUptoSaid : Prop := seqrAddsUptoRow.holds Try.pinned (OpenSpec.upto seqrAddsSpec)

/-- 'sandglasslaw13.SeqrRuns', WHERE WHAT IT READS IS OF BULK AT MOST 1048576: true; the input reads as it did. -/
def seqrRunsUptoRow : OpenClaim := { program := "ytlhlegjndembdaa", sum := "afaef4cfb4867e47e294adccf5a233099c3ba27f59a969c74a4f7f3cad30510d", func := "sandglass/sandglasslaw13.SeqrRuns", spec := "seqrRuns", apart := false, narrowed := true }
def SeqrRunsUptoSaid : Prop := seqrRunsUptoRow.holds Try.pinned (OpenSpec.upto seqrRunsSpec)

/-- 'sandglasslaw14.MergeSilent', WHERE WHAT IT READS IS OF BULK AT MOST 1048576: true; the input reads as it did. -/
def mergeSilentUptoRow : OpenClaim := { program := "ytlhlegjndembdaa", sum := "afaef4cfb4867e47e294adccf5a233099c3ba27f59a969c74a4f7f3cad30510d", func := "sandglass/sandglasslaw14.MergeSilent", spec := "mergeSilent", apart := false, narrowed := true }
def MergeSilentUptoSaid : Prop := mergeSilentUptoRow.holds Try.pinned (OpenSpec.upto mergeSilentSpec)

/-- 'sandglasslaw14.MergeRuns', WHERE WHAT IT READS IS OF BULK AT MOST 1048576: true; the input reads as it did. -/
def mergeRunsUptoRow : OpenClaim := { program := "ytlhlegjndembdaa", sum := "afaef4cfb4867e47e294adccf5a233099c3ba27f59a969c74a4f7f3cad30510d", func := "sandglass/sandglasslaw14.MergeRuns", spec := "mergeRuns", apart := false, narrowed := true }
def MergeRunsUptoSaid : Prop := mergeRunsUptoRow.holds Try.pinned (OpenSpec.upto mergeRunsSpec)

/-- 'sandglasslaw14.MergeWays', WHERE WHAT IT READS IS OF BULK AT MOST 1048576: true; the input reads as it did. -/
def mergeWaysUptoRow : OpenClaim := { program := "ytlhlegjndembdaa", sum := "afaef4cfb4867e47e294adccf5a233099c3ba27f59a969c74a4f7f3cad30510d", func := "sandglass/sandglasslaw14.MergeWays", spec := "mergeWays", apart := false, narrowed := true }
def MergeWaysUptoSaid : Prop := mergeWaysUptoRow.holds Try.pinned (OpenSpec.upto mergeWaysSpec)

/-- 'sandglasslaw14.MergeAdds', WHERE WHAT IT READS IS OF BULK AT MOST 1048576: true; the input reads as it did. -/
def mergeAddsUptoRow : OpenClaim := { program := "ytlhlegjndembdaa", sum := "afaef4cfb4867e47e294adccf5a233099c3ba27f59a969c74a4f7f3cad30510d", func := "sandglass/sandglasslaw14.MergeAdds", spec := "mergeAdds", apart := false, narrowed := true }
def MergeAddsUptoSaid : Prop := mergeAddsUptoRow.holds Try.pinned (OpenSpec.upto mergeAddsSpec)

end Rows
end Go.Proofs.Ytlhlegjndembdaa
