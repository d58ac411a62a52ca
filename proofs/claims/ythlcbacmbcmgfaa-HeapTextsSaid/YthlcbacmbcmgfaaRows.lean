/-
  No cell of these rows narrows 'for every input' (looked for: loops, veiled, ifaces, maps, wideKeys, modest, calm, conditions, laid).
  DERIVED. THE GIVEN ROWS OF THIS SEAT. 10 by the template 'for every input the law returns true; each argument reads behind the call as it read before'; 0 by the template 'total and deterministic' (their statements: YthlcbacmbcmgfaaTotals.lean).
  GIVEN WITH THE SEED: the statements are not yours to turn. If you find one false, say at which input.
  Laid BY PROGRAM, IN A SANDBOX (cutbox-rows.mjs): the forced cells as the released guide's own fill.sh prints them over the translation 9c750d0183a7afb9… (all of the seat's roots in one cut). By AI agents, Wed Nov 11 2026. No macro, syntax, notation, axiom, sorry.
-/
import Derived.Test.YthlcbacmbcmgfaaChecked
import GoSem.Claim
import GoSem.ClaimJoined
import GoSem.ClaimMapViews
import Derived.JoinedTies
import Derived.KernelRfl
namespace Go.Proofs.Ythlcbacmbcmgfaa
/- THE CELL 'sum', in the pinned program and in every row, IS THE sha256 OF THE DUMP (.gsa) THAT YthlcbacmbcmgfaaProg.lean LOADS. Nothing in Lean hashes anything: it is a label: what it is worth is what the hold of that sum in a sandbox is worth. -/
noncomputable def Try.pinned : Pinned := { name := "ythlcbacmbcmgfaa", sum := "9c750d0183a7afb9edc91d22e4271eb03ad086db4bc4d7cd22f8cc34afd07e62", checked := Try.checked }
namespace Rows
def none {H : Type} : Left H := { results := [], args := [] }

/-- 'sheaflaw8.HeapRuns': WHATEVER THE INPUT: true; the input reads as it did. -/
def heapRunsSpec : ChangeSpec := { name := "heapRuns", fn := fun _ => fun
  | [] => { results := [.lit (.bool true)], args := [] }
  | _ => none }
def heapRunsRow : OpenClaim := { program := "ythlcbacmbcmgfaa", sum := "9c750d0183a7afb9edc91d22e4271eb03ad086db4bc4d7cd22f8cc34afd07e62", func := "sheaf/sheaflaw8.HeapRuns", spec := "heapRuns", unfollowed := true, recurses := true, apart := false }
def HeapRunsSaid : Prop := heapRunsRow.holds Try.pinned (OpenSpec.ofChange heapRunsSpec)

/-- ITS FALSE NEIGHBOUR: 'it returns false'. Refute it at one input. -/
def heapRunsWrong : ChangeSpec := { name := "heapRuns", fn := fun _ => fun
  | [] => { results := [.lit (.bool false)], args := [] }
  | _ => none }
def HeapRunsWrongFalsely : Prop := heapRunsRow.holds Try.pinned (OpenSpec.ofChange heapRunsWrong)

/-- 'sheaflaw8.HeapPlays': WHATEVER THE INPUT: true; the input reads as it did. -/
def heapPlaysSpec : ChangeSpec := { name := "heapPlays", fn := fun _ => fun
  | [d] => { results := [.lit (.bool true)], args := [d] }
  | _ => none }
def heapPlaysRow : OpenClaim := { program := "ythlcbacmbcmgfaa", sum := "9c750d0183a7afb9edc91d22e4271eb03ad086db4bc4d7cd22f8cc34afd07e62", func := "sheaf/sheaflaw8.HeapPlays", spec := "heapPlays", unfollowed := true, recurses := true, apart := false }
def HeapPlaysSaid : Prop := heapPlaysRow.holds Try.pinned (OpenSpec.ofChange heapPlaysSpec)

/-- ITS FALSE NEIGHBOUR: 'it returns false'. Refute it at one input. -/
def heapPlaysWrong : ChangeSpec := { name := "heapPlays", fn := fun _ => fun
  | [d] => { results := [.lit (.bool false)], args := [d] }
  | _ => none }
def HeapPlaysWrongFalsely : Prop := heapPlaysRow.holds Try.pinned (OpenSpec.ofChange heapPlaysWrong)

/-- 'sheaflaw8.HeapPairs': WHATEVER THE INPUT: true; the input reads as it did. -/
def heapPairsSpec : ChangeSpec := { name := "heapPairs", fn := fun _ => fun
  | [d1, d2] => { results := [.lit (.bool true)], args := [d1, d2] }
  | _ => none }
def heapPairsRow : OpenClaim := { program := "ythlcbacmbcmgfaa", sum := "9c750d0183a7afb9edc91d22e4271eb03ad086db4bc4d7cd22f8cc34afd07e62", func := "sheaf/sheaflaw8.HeapPairs", spec := "heapPairs", unfollowed := true, recurses := true, apart := false }
def HeapPairsSaid : Prop := heapPairsRow.holds Try.pinned (OpenSpec.ofChange heapPairsSpec)

/-- ITS FALSE NEIGHBOUR: 'it returns false'. Refute it at one input. -/
def heapPairsWrong : ChangeSpec := { name := "heapPairs", fn := fun _ => fun
  | [d1, d2] => { results := [.lit (.bool false)], args := [d1, d2] }
  | _ => none }
def HeapPairsWrongFalsely : Prop := heapPairsRow.holds Try.pinned (OpenSpec.ofChange heapPairsWrong)

/-- 'sheaflaw8.HeapTexts': WHATEVER THE INPUT: true; the input reads as it did. -/
def heapTextsSpec : ChangeSpec := { name := "heapTexts", fn := fun _ => fun
  | [d1, d2] => { results := [.lit (.bool true)], args := [d1, d2] }
  | _ => none }
def heapTextsRow : OpenClaim := { program := "ythlcbacmbcmgfaa", sum := "9c750d0183a7afb9edc91d22e4271eb03ad086db4bc4d7cd22f8cc34afd07e62", func := "sheaf/sheaflaw8.HeapTexts", spec := "heapTexts", unfollowed := true, recurses := true, apart := false }
def HeapTextsSaid : Prop := heapTextsRow.holds Try.pinned (OpenSpec.ofChange heapTextsSpec)

/-- ITS FALSE NEIGHBOUR: 'it returns false'. Refute it at one input. -/
def heapTextsWrong : ChangeSpec := { name := "heapTexts", fn := fun _ => fun
  | [d1, d2] => { results := [.lit (.bool false)], args := [d1, d2] }
  | _ => none }
def HeapTextsWrongFalsely : Prop := heapTextsRow.holds Try.pinned (OpenSpec.ofChange heapTextsWrong)

/-- 'sheaflaw8.HeapOrder': WHATEVER THE INPUT: true; the input reads as it did. -/
def heapOrderSpec : ChangeSpec := { name := "heapOrder", fn := fun _ => fun
  | [d1, d2] => { results := [.lit (.bool true)], args := [d1, d2] }
  | _ => none }
def heapOrderRow : OpenClaim := { program := "ythlcbacmbcmgfaa", sum := "9c750d0183a7afb9edc91d22e4271eb03ad086db4bc4d7cd22f8cc34afd07e62", func := "sheaf/sheaflaw8.HeapOrder", spec := "heapOrder", unfollowed := true, recurses := true, apart := false }
def HeapOrderSaid : Prop := heapOrderRow.holds Try.pinned (OpenSpec.ofChange heapOrderSpec)

/-- ITS FALSE NEIGHBOUR: 'it returns false'. Refute it at one input. -/
def heapOrderWrong : ChangeSpec := { name := "heapOrder", fn := fun _ => fun
  | [d1, d2] => { results := [.lit (.bool false)], args := [d1, d2] }
  | _ => none }
def HeapOrderWrongFalsely : Prop := heapOrderRow.holds Try.pinned (OpenSpec.ofChange heapOrderWrong)

/-- 'sheaflaw11.RunsRuns': WHATEVER THE INPUT: true; the input reads as it did. -/
def runsRunsSpec : ChangeSpec := { name := "runsRuns", fn := fun _ => fun
  | [] => { results := [.lit (.bool true)], args := [] }
  | _ => none }
def runsRunsRow : OpenClaim := { program := "ythlcbacmbcmgfaa", sum := "9c750d0183a7afb9edc91d22e4271eb03ad086db4bc4d7cd22f8cc34afd07e62", func := "sheaf/sheaflaw11.RunsRuns", spec := "runsRuns", unfollowed := true, recurses := true, apart := false }
def RunsRunsSaid : Prop := runsRunsRow.holds Try.pinned (OpenSpec.ofChange runsRunsSpec)

/-- ITS FALSE NEIGHBOUR: 'it returns false'. Refute it at one input. -/
def runsRunsWrong : ChangeSpec := { name := "runsRuns", fn := fun _ => fun
  | [] => { results := [.lit (.bool false)], args := [] }
  | _ => none }
def RunsRunsWrongFalsely : Prop := runsRunsRow.holds Try.pinned (OpenSpec.ofChange runsRunsWrong)

/-- 'sheaflaw11.RunsPlays': WHATEVER THE INPUT: true; the input reads as it did. -/
def runsPlaysSpec : ChangeSpec := { name := "runsPlays", fn := fun _ => fun
  | [d1, d2] => { results := [.lit (.bool true)], args := [d1, d2] }
  | _ => none }
def runsPlaysRow : OpenClaim := { program := "ythlcbacmbcmgfaa", sum := "9c750d0183a7afb9edc91d22e4271eb03ad086db4bc4d7cd22f8cc34afd07e62", func := "sheaf/sheaflaw11.RunsPlays", spec := "runsPlays", unfollowed := true, recurses := true, apart := false }
def RunsPlaysSaid : Prop := runsPlaysRow.holds Try.pinned (OpenSpec.ofChange runsPlaysSpec)

/-- ITS FALSE NEIGHBOUR: 'it returns false'. Refute it at one input. -/
def runsPlaysWrong : ChangeSpec := { name := "runsPlays", fn := fun _ => fun
  | [d1, d2] => { results := [.lit (.bool false)], args := [d1, d2] }
  | _ => none }
def RunsPlaysWrongFalsely : Prop := runsPlaysRow.holds Try.pinned (OpenSpec.ofChange runsPlaysWrong)

/-- 'sheaflaw11.RunsSorted': WHATEVER THE INPUT: true; the input reads as it did. -/
def runsSortedSpec : ChangeSpec := { name := "runsSorted", fn := fun _ => fun
  | [d1, d2] => { results := [.lit (.bool true)], args := [d1, d2] }
  | _ => none }
def runsSortedRow : OpenClaim := { program := "ythlcbacmbcmgfaa", sum := "9c750d0183a7afb9edc91d22e4271eb03ad086db4bc4d7cd22f8cc34afd07e62", func := "sheaf/sheaflaw11.RunsSorted", spec := "runsSorted", unfollowed := true, recurses := true, apart := false }
def RunsSortedSaid : Prop := runsSortedRow.holds Try.pinned (OpenSpec.ofChange runsSortedSpec)

/-- ITS FALSE NEIGHBOUR: 'it returns false'. Refute it at one input. -/
def runsSortedWrong : ChangeSpec := { name := "runsSorted", fn := fun _ => fun
  | [d1, d2] => { results := [.lit (.bool false)], args := [d1, d2] }
  | _ => none }
def RunsSortedWrongFalsely : Prop := runsSortedRow.holds Try.pinned (OpenSpec.ofChange runsSortedWrong)

/-- 'sheaflaw11.RunsLeft': WHATEVER THE INPUT: true; the input reads as it did. -/
def runsLeftSpec : ChangeSpec := { name := "runsLeft", fn := fun _ => fun
  | [d1, d2, d3] => { results := [.lit (.bool true)], args := [d1, d2, d3] }
  | _ => none }
def runsLeftRow : OpenClaim := { program := "ythlcbacmbcmgfaa", sum := "9c750d0183a7afb9edc91d22e4271eb03ad086db4bc4d7cd22f8cc34afd07e62", func := "sheaf/sheaflaw11.RunsLeft", spec := "runsLeft", unfollowed := true, recurses := true, apart := false }
def RunsLeftSaid : Prop := runsLeftRow.holds Try.pinned (OpenSpec.ofChange runsLeftSpec)

/-- ITS FALSE NEIGHBOUR: 'it returns false'. Refute it at one input. -/
def runsLeftWrong : ChangeSpec := { name := "runsLeft", fn := fun _ => fun
  | [d1, d2, d3] => { results := [.lit (.bool false)], args := [d1, d2, d3] }
  | _ => none }
def RunsLeftWrongFalsely : Prop := runsLeftRow.holds Try.pinned (OpenSpec.ofChange runsLeftWrong)

/-- 'sheaflaw11.RunsTexts': WHATEVER THE INPUT: true; the input reads as it did. -/
def runsTextsSpec : ChangeSpec := { name := "runsTexts", fn := fun _ => fun
  | [d1, d2, d3] => { results := [.lit (.bool true)], args := [d1, d2, d3] }
  | _ => none }
def runsTextsRow : OpenClaim := { program := "ythlcbacmbcmgfaa", sum := "9c750d0183a7afb9edc91d22e4271eb03ad086db4bc4d7cd22f8cc34afd07e62", func := "sheaf/sheaflaw11.RunsTexts", spec := "runsTexts", unfollowed := true, recurses := true, apart := false }
def RunsTextsSaid : Prop := runsTextsRow.holds Try.pinned (OpenSpec.ofChange runsTextsSpec)

/-- ITS FALSE NEIGHBOUR: 'it returns false'. Refute it at one input. -/
def runsTextsWrong : ChangeSpec := { name := "runsTexts", fn := fun _ => fun
  | [d1, d2, d3] => { results := [.lit (.bool false)], args := [d1, d2, d3] }
  | _ => none }
def RunsTextsWrongFalsely : Prop := runsTextsRow.holds Try.pinned (OpenSpec.ofChange runsTextsWrong)

/- THE SECOND FORM. 'bulk': how many values and letters a reading holds, each counted each time it is reached (what is shared counts as often as it is met; a slice's spare places count too). A statement '..UptoSaid' is the law's where the arguments, and the package variables that the reading takes, are together of bulk at most 1048576: NARROWER than '..Said'. Prove '..Said' where nothing that the law and all that it calls make is longer than what came in: it says more and counts as full. Else prove '..UptoSaid'. A law counts once. -/
mutual
def uptoBulk {H : Type} : DataW H → Nat
  | .lit (.string bytes) => bytes.length + 1
  | .lit _ => 1
  | .nil => 1
  | .ptr d => uptoBulk d + 1
  | .slice elems spare => uptoBulkAll elems + uptoBulkAll spare + 1
  | .agg parts => uptoBulkAll parts + 1
  | .iface _ d => uptoBulk d + 1
  | .map entries => uptoBulkEntries entries + 1
  | .held _ => 1
def uptoBulkAll {H : Type} : List (DataW H) → Nat
  | [] => 0
  | d :: r => uptoBulk d + uptoBulkAll r
def uptoBulkEntries {H : Type} : List (Lit × DataW H) → Nat
  | [] => 0
  | x :: r => uptoBulkEntry x + uptoBulkEntries r
def uptoBulkEntry {H : Type} : Lit × DataW H → Nat
  | (.string bytes, d) => bytes.length + uptoBulk d + 1
  | (_, d) => uptoBulk d + 1
 end
def uptoSmall : (H : Type) → List (DataW H) → Bool := fun _ ds => decide (uptoBulkAll ds ≤ 1048576)
def OpenSpec.upto (s : _root_.Go.ChangeSpec) : _root_.Go.OpenSpec := { _root_.Go.OpenSpec.ofChange s with cond := some uptoSmall }

/-- 'sheaflaw8.HeapRuns', WHERE WHAT IT READS IS OF BULK AT MOST 1048576: true; the input reads as it did. -/
def heapRunsUptoRow : OpenClaim := { program := "ythlcbacmbcmgfaa", sum := "9c750d0183a7afb9edc91d22e4271eb03ad086db4bc4d7cd22f8cc34afd07e62", func := "sheaf/sheaflaw8.HeapRuns", spec := "heapRuns", unfollowed := true, recurses := true, apart := false, narrowed := true }
def HeapRunsUptoSaid : Prop := heapRunsUptoRow.holds Try.pinned (OpenSpec.upto heapRunsSpec)

/-- 'sheaflaw8.HeapPlays', WHERE WHAT IT READS IS OF BULK AT MOST 1048576: true; the input reads as it did. -/
def heapPlaysUptoRow : OpenClaim := { program := "ythlcbacmbcmgfaa", sum := "9c750d0183a7afb9edc91d22e4271eb03ad086db4bc4d7cd22f8cc34afd07e62", func := "sheaf/sheaflaw8.HeapPlays", spec := "heapPlays", unfollowed := true, recurses := true, apart := false, narrowed := true }
def HeapPlaysUptoSaid : Prop := heapPlaysUptoRow.holds Try.pinned (OpenSpec.upto heapPlaysSpec)

/-- 'sheaflaw8.HeapPairs', WHERE WHAT IT READS IS OF BULK AT MOST 1048576: true; the input reads as it did. -/
def heapPairsUptoRow : OpenClaim := { program := "ythlcbacmbcmgfaa", sum := "9c750d0183a7afb9edc91d22e4271eb03ad086db4bc4d7cd22f8cc34afd07e62", func := "sheaf/sheaflaw8.HeapPairs", spec := "heapPairs", unfollowed := true, recurses := true, apart := false, narrowed := true }
def HeapPairsUptoSaid : Prop := heapPairsUptoRow.holds Try.pinned (OpenSpec.upto heapPairsSpec)

/-- 'sheaflaw8.HeapTexts', WHERE WHAT IT READS IS OF BULK AT MOST 1048576: true; the input reads as it did. -/
def heapTextsUptoRow : OpenClaim := { program := "ythlcbacmbcmgfaa", sum := "9c750d0183a7afb9edc91d22e4271eb03ad086db4bc4d7cd22f8cc34afd07e62", func := "sheaf/sheaflaw8.HeapTexts", spec := "heapTexts", unfollowed := true, recurses := true, apart := false, narrowed := true }
def HeapTextsUptoSaid : Prop := heapTextsUptoRow.holds Try.pinned (OpenSpec.upto heapTextsSpec)

/-- 'sheaflaw8.HeapOrder', WHERE WHAT IT READS IS OF BULK AT MOST 1048576: true; the input reads as it did. -/
def heapOrderUptoRow : OpenClaim := { program := "ythlcbacmbcmgfaa", sum := "9c750d0183a7afb9edc91d22e4271eb03ad086db4bc4d7cd22f8cc34afd07e62", func := "sheaf/sheaflaw8.HeapOrder", spec := "heapOrder", unfollowed := true, recurses := true, apart := false, narrowed := true }
def HeapOrderUptoSaid : Prop := heapOrderUptoRow.holds Try.pinned (OpenSpec.upto heapOrderSpec)

/-- 'sheaflaw11.RunsRuns', WHERE WHAT IT READS IS OF BULK AT MOST 1048576: true; the input reads as it did. -/
def runsRunsUptoRow : OpenClaim := { program := "ythlcbacmbcmgfaa", sum := "9c750d0183a7afb9edc91d22e4271eb03ad086db4bc4d7cd22f8cc34afd07e62", func := "sheaf/sheaflaw11.RunsRuns", spec := "runsRuns", unfollowed := true, recurses := true, apart := false, narrowed := true }
def RunsRunsUptoSaid : Prop := runsRunsUptoRow.holds Try.pinned (OpenSpec.upto runsRunsSpec)

/-- 'sheaflaw11.RunsPlays', WHERE WHAT IT READS IS OF BULK AT MOST 1048576: true; the input reads as it did. -/
def runsPlaysUptoRow : OpenClaim := { program := "ythlcbacmbcmgfaa", sum := "9c750d0183a7afb9edc91d22e4271eb03ad086db4bc4d7cd22f8cc34afd07e62", func := "sheaf/sheaflaw11.RunsPlays", spec := "runsPlays", unfollowed := true, recurses := true, apart := false, narrowed := true }
def RunsPlaysUptoSaid : Prop := runsPlaysUptoRow.holds Try.pinned (OpenSpec.upto runsPlaysSpec)

/-- 'sheaflaw11.RunsSorted', WHERE WHAT IT READS IS OF BULK AT MOST 1048576: true; the input reads as it did. -/
def runsSortedUptoRow : OpenClaim := { program := "ythlcbacmbcmgfaa", sum := "9c750d0183a7afb9edc91d22e4271eb03ad086db4bc4d7cd22f8cc34afd07e62", func := "sheaf/sheaflaw11.RunsSorted", spec := "runsSorted", unfollowed := true, recurses := true, apart := false, narrowed := true }
def RunsSortedUptoSaid : Prop := runsSortedUptoRow.holds Try.pinned (OpenSpec.upto runsSortedSpec)

/-- 'sheaflaw11.RunsLeft', WHERE WHAT IT READS IS OF BULK AT MOST 1048576: true; the input reads as it did. -/
def runsLeftUptoRow : OpenClaim := { program := "ythlcbacmbcmgfaa", sum := "9c750d0183a7afb9edc91d22e4271eb03ad086db4bc4d7cd22f8cc34afd07e62", func := "sheaf/sheaflaw11.RunsLeft", spec := "runsLeft", unfollowed := true, recurses := true, apart := false, narrowed := true }
def RunsLeftUptoSaid : Prop := runsLeftUptoRow.holds Try.pinned (OpenSpec.upto runsLeftSpec)

/-- 'sheaflaw11.RunsTexts', WHERE WHAT IT READS IS OF BULK AT MOST 1048576: true; the input reads as it did. -/
def runsTextsUptoRow : OpenClaim := { program := "ythlcbacmbcmgfaa", sum := "9c750d0183a7afb9edc91d22e4271eb03ad086db4bc4d7cd22f8cc34afd07e62", func := "sheaf/sheaflaw11.RunsTexts", spec := "runsTexts", unfollowed := true, recurses := true, apart := false, narrowed := true }
def RunsTextsUptoSaid : Prop := runsTextsUptoRow.holds Try.pinned (OpenSpec.upto runsTextsSpec)

end Rows
end Go.Proofs.Ythlcbacmbcmgfaa
