/-
  No cell of these rows narrows 'for every input' (looked for: loops, veiled, ifaces, maps, wideKeys, modest, calm, conditions, laid).
  DERIVED. THE GIVEN ROWS OF THIS SEAT. 11 by the template 'for every input the law returns true; each argument reads behind the call as it read before'; 0 by the template 'total and deterministic' (their statements: YtgbpgkfmmhlkoaaTotals.lean).
  GIVEN WITH THE SEED: the statements are not yours to turn. If you find one false, say at which input.
  Laid BY PROGRAM, IN A SANDBOX (cutbox-rows.mjs): the forced cells as the released guide's own fill.sh prints them over the translation 050aa80f0e0adeda… (all of the seat's roots in one cut). By AI agents, Wed Nov 11 2026. No macro, syntax, notation, axiom, sorry.
-/
import Derived.Test.YtgbpgkfmmhlkoaaChecked
import GoSem.Claim
import GoSem.ClaimJoined
import GoSem.ClaimMapViews
import Derived.JoinedTies
import Derived.KernelRfl
namespace Go.Proofs.Ytgbpgkfmmhlkoaa
/- THE CELL 'sum', in the pinned program and in every row, IS THE sha256 OF THE DUMP (.gsa) THAT YtgbpgkfmmhlkoaaProg.lean LOADS. Nothing in Lean hashes anything: it is a label: what it is worth is what the hold of that sum in a sandbox is worth. -/
noncomputable def Try.pinned : Pinned := { name := "ytgbpgkfmmhlkoaa", sum := "050aa80f0e0adeda3f0814e064efe0c917e41380d0dae0b317308089e801a416", checked := Try.checked }
namespace Rows
def none {H : Type} : Left H := { results := [], args := [] }

/-- 'sheaflaw16.CheckRuns': WHATEVER THE INPUT: true; the input reads as it did. -/
def checkRunsSpec : ChangeSpec := { name := "checkRuns", fn := fun _ => fun
  | [] => { results := [.lit (.bool true)], args := [] }
  | _ => none }
def checkRunsRow : OpenClaim := { program := "ytgbpgkfmmhlkoaa", sum := "050aa80f0e0adeda3f0814e064efe0c917e41380d0dae0b317308089e801a416", func := "sheaf/sheaflaw16.CheckRuns", spec := "checkRuns", unfollowed := true, recurses := true, apart := false }
def CheckRunsSaid : Prop := checkRunsRow.holds Try.pinned (OpenSpec.ofChange checkRunsSpec)

/-- ITS FALSE NEIGHBOUR: 'it returns false'. Refute it at one input. -/
def checkRunsWrong : ChangeSpec := { name := "checkRuns", fn := fun _ => fun
  | [] => { results := [.lit (.bool false)], args := [] }
  | _ => none }
def CheckRunsWrongFalsely : Prop := checkRunsRow.holds Try.pinned (OpenSpec.ofChange checkRunsWrong)

/-- 'sheaflaw16.CheckTells': WHATEVER THE INPUT: true; the input reads as it did. -/
def checkTellsSpec : ChangeSpec := { name := "checkTells", fn := fun _ => fun
  | [d1, d2, d3] => { results := [.lit (.bool true)], args := [d1, d2, d3] }
  | _ => none }
def checkTellsRow : OpenClaim := { program := "ytgbpgkfmmhlkoaa", sum := "050aa80f0e0adeda3f0814e064efe0c917e41380d0dae0b317308089e801a416", func := "sheaf/sheaflaw16.CheckTells", spec := "checkTells", unfollowed := true, recurses := true, apart := false }
def CheckTellsSaid : Prop := checkTellsRow.holds Try.pinned (OpenSpec.ofChange checkTellsSpec)

/-- ITS FALSE NEIGHBOUR: 'it returns false'. Refute it at one input. -/
def checkTellsWrong : ChangeSpec := { name := "checkTells", fn := fun _ => fun
  | [d1, d2, d3] => { results := [.lit (.bool false)], args := [d1, d2, d3] }
  | _ => none }
def CheckTellsWrongFalsely : Prop := checkTellsRow.holds Try.pinned (OpenSpec.ofChange checkTellsWrong)

/-- 'sheaflaw16.CheckWhole': WHATEVER THE INPUT: true; the input reads as it did. -/
def checkWholeSpec : ChangeSpec := { name := "checkWhole", fn := fun _ => fun
  | [d1, d2] => { results := [.lit (.bool true)], args := [d1, d2] }
  | _ => none }
def checkWholeRow : OpenClaim := { program := "ytgbpgkfmmhlkoaa", sum := "050aa80f0e0adeda3f0814e064efe0c917e41380d0dae0b317308089e801a416", func := "sheaf/sheaflaw16.CheckWhole", spec := "checkWhole", unfollowed := true, recurses := true, apart := false }
def CheckWholeSaid : Prop := checkWholeRow.holds Try.pinned (OpenSpec.ofChange checkWholeSpec)

/-- ITS FALSE NEIGHBOUR: 'it returns false'. Refute it at one input. -/
def checkWholeWrong : ChangeSpec := { name := "checkWhole", fn := fun _ => fun
  | [d1, d2] => { results := [.lit (.bool false)], args := [d1, d2] }
  | _ => none }
def CheckWholeWrongFalsely : Prop := checkWholeRow.holds Try.pinned (OpenSpec.ofChange checkWholeWrong)

/-- 'sheaflaw16.CheckEdges': WHATEVER THE INPUT: true; the input reads as it did. -/
def checkEdgesSpec : ChangeSpec := { name := "checkEdges", fn := fun _ => fun
  | [d1, d2] => { results := [.lit (.bool true)], args := [d1, d2] }
  | _ => none }
def checkEdgesRow : OpenClaim := { program := "ytgbpgkfmmhlkoaa", sum := "050aa80f0e0adeda3f0814e064efe0c917e41380d0dae0b317308089e801a416", func := "sheaf/sheaflaw16.CheckEdges", spec := "checkEdges", unfollowed := true, recurses := true, apart := false }
def CheckEdgesSaid : Prop := checkEdgesRow.holds Try.pinned (OpenSpec.ofChange checkEdgesSpec)

/-- ITS FALSE NEIGHBOUR: 'it returns false'. Refute it at one input. -/
def checkEdgesWrong : ChangeSpec := { name := "checkEdges", fn := fun _ => fun
  | [d1, d2] => { results := [.lit (.bool false)], args := [d1, d2] }
  | _ => none }
def CheckEdgesWrongFalsely : Prop := checkEdgesRow.holds Try.pinned (OpenSpec.ofChange checkEdgesWrong)

/-- 'sheaflaw10.FlowRuns': WHATEVER THE INPUT: true; the input reads as it did. -/
def flowRunsSpec : ChangeSpec := { name := "flowRuns", fn := fun _ => fun
  | [] => { results := [.lit (.bool true)], args := [] }
  | _ => none }
def flowRunsRow : OpenClaim := { program := "ytgbpgkfmmhlkoaa", sum := "050aa80f0e0adeda3f0814e064efe0c917e41380d0dae0b317308089e801a416", func := "sheaf/sheaflaw10.FlowRuns", spec := "flowRuns", unfollowed := true, recurses := true, apart := false }
def FlowRunsSaid : Prop := flowRunsRow.holds Try.pinned (OpenSpec.ofChange flowRunsSpec)

/-- ITS FALSE NEIGHBOUR: 'it returns false'. Refute it at one input. -/
def flowRunsWrong : ChangeSpec := { name := "flowRuns", fn := fun _ => fun
  | [] => { results := [.lit (.bool false)], args := [] }
  | _ => none }
def FlowRunsWrongFalsely : Prop := flowRunsRow.holds Try.pinned (OpenSpec.ofChange flowRunsWrong)

/-- 'sheaflaw10.FlowGroups': WHATEVER THE INPUT: true; the input reads as it did. -/
def flowGroupsSpec : ChangeSpec := { name := "flowGroups", fn := fun _ => fun
  | [d1, d2] => { results := [.lit (.bool true)], args := [d1, d2] }
  | _ => none }
def flowGroupsRow : OpenClaim := { program := "ytgbpgkfmmhlkoaa", sum := "050aa80f0e0adeda3f0814e064efe0c917e41380d0dae0b317308089e801a416", func := "sheaf/sheaflaw10.FlowGroups", spec := "flowGroups", unfollowed := true, recurses := true, apart := false }
def FlowGroupsSaid : Prop := flowGroupsRow.holds Try.pinned (OpenSpec.ofChange flowGroupsSpec)

/-- ITS FALSE NEIGHBOUR: 'it returns false'. Refute it at one input. -/
def flowGroupsWrong : ChangeSpec := { name := "flowGroups", fn := fun _ => fun
  | [d1, d2] => { results := [.lit (.bool false)], args := [d1, d2] }
  | _ => none }
def FlowGroupsWrongFalsely : Prop := flowGroupsRow.holds Try.pinned (OpenSpec.ofChange flowGroupsWrong)

/-- 'sheaflaw10.FlowJoins': WHATEVER THE INPUT: true; the input reads as it did. -/
def flowJoinsSpec : ChangeSpec := { name := "flowJoins", fn := fun _ => fun
  | [d1, d2] => { results := [.lit (.bool true)], args := [d1, d2] }
  | _ => none }
def flowJoinsRow : OpenClaim := { program := "ytgbpgkfmmhlkoaa", sum := "050aa80f0e0adeda3f0814e064efe0c917e41380d0dae0b317308089e801a416", func := "sheaf/sheaflaw10.FlowJoins", spec := "flowJoins", unfollowed := true, recurses := true, apart := false }
def FlowJoinsSaid : Prop := flowJoinsRow.holds Try.pinned (OpenSpec.ofChange flowJoinsSpec)

/-- ITS FALSE NEIGHBOUR: 'it returns false'. Refute it at one input. -/
def flowJoinsWrong : ChangeSpec := { name := "flowJoins", fn := fun _ => fun
  | [d1, d2] => { results := [.lit (.bool false)], args := [d1, d2] }
  | _ => none }
def FlowJoinsWrongFalsely : Prop := flowJoinsRow.holds Try.pinned (OpenSpec.ofChange flowJoinsWrong)

/-- 'sheaflaw10.FlowCursor': WHATEVER THE INPUT: true; the input reads as it did. -/
def flowCursorSpec : ChangeSpec := { name := "flowCursor", fn := fun _ => fun
  | [d1, d2] => { results := [.lit (.bool true)], args := [d1, d2] }
  | _ => none }
def flowCursorRow : OpenClaim := { program := "ytgbpgkfmmhlkoaa", sum := "050aa80f0e0adeda3f0814e064efe0c917e41380d0dae0b317308089e801a416", func := "sheaf/sheaflaw10.FlowCursor", spec := "flowCursor", unfollowed := true, recurses := true, apart := false }
def FlowCursorSaid : Prop := flowCursorRow.holds Try.pinned (OpenSpec.ofChange flowCursorSpec)

/-- ITS FALSE NEIGHBOUR: 'it returns false'. Refute it at one input. -/
def flowCursorWrong : ChangeSpec := { name := "flowCursor", fn := fun _ => fun
  | [d1, d2] => { results := [.lit (.bool false)], args := [d1, d2] }
  | _ => none }
def FlowCursorWrongFalsely : Prop := flowCursorRow.holds Try.pinned (OpenSpec.ofChange flowCursorWrong)

/-- 'sheaflaw10.FlowBreaks': WHATEVER THE INPUT: true; the input reads as it did. -/
def flowBreaksSpec : ChangeSpec := { name := "flowBreaks", fn := fun _ => fun
  | [d1, d2] => { results := [.lit (.bool true)], args := [d1, d2] }
  | _ => none }
def flowBreaksRow : OpenClaim := { program := "ytgbpgkfmmhlkoaa", sum := "050aa80f0e0adeda3f0814e064efe0c917e41380d0dae0b317308089e801a416", func := "sheaf/sheaflaw10.FlowBreaks", spec := "flowBreaks", unfollowed := true, recurses := true, apart := false }
def FlowBreaksSaid : Prop := flowBreaksRow.holds Try.pinned (OpenSpec.ofChange flowBreaksSpec)

/-- ITS FALSE NEIGHBOUR: 'it returns false'. Refute it at one input. -/
def flowBreaksWrong : ChangeSpec := { name := "flowBreaks", fn := fun _ => fun
  | [d1, d2] => { results := [.lit (.bool false)], args := [d1, d2] }
  | _ => none }
def FlowBreaksWrongFalsely : Prop := flowBreaksRow.holds Try.pinned (OpenSpec.ofChange flowBreaksWrong)

/-- 'sheaflaw10.FlowLists': WHATEVER THE INPUT: true; the input reads as it did. -/
def flowListsSpec : ChangeSpec := { name := "flowLists", fn := fun _ => fun
  | [d1, d2, d3] => { results := [.lit (.bool true)], args := [d1, d2, d3] }
  | _ => none }
def flowListsRow : OpenClaim := { program := "ytgbpgkfmmhlkoaa", sum := "050aa80f0e0adeda3f0814e064efe0c917e41380d0dae0b317308089e801a416", func := "sheaf/sheaflaw10.FlowLists", spec := "flowLists", unfollowed := true, recurses := true, apart := false }
def FlowListsSaid : Prop := flowListsRow.holds Try.pinned (OpenSpec.ofChange flowListsSpec)

/-- ITS FALSE NEIGHBOUR: 'it returns false'. Refute it at one input. -/
def flowListsWrong : ChangeSpec := { name := "flowLists", fn := fun _ => fun
  | [d1, d2, d3] => { results := [.lit (.bool false)], args := [d1, d2, d3] }
  | _ => none }
def FlowListsWrongFalsely : Prop := flowListsRow.holds Try.pinned (OpenSpec.ofChange flowListsWrong)

/-- 'sheaflaw10.FlowChain': WHATEVER THE INPUT: true; the input reads as it did. -/
def flowChainSpec : ChangeSpec := { name := "flowChain", fn := fun _ => fun
  | [d1, d2, d3] => { results := [.lit (.bool true)], args := [d1, d2, d3] }
  | _ => none }
def flowChainRow : OpenClaim := { program := "ytgbpgkfmmhlkoaa", sum := "050aa80f0e0adeda3f0814e064efe0c917e41380d0dae0b317308089e801a416", func := "sheaf/sheaflaw10.FlowChain", spec := "flowChain", unfollowed := true, recurses := true, apart := false }
def FlowChainSaid : Prop := flowChainRow.holds Try.pinned (OpenSpec.ofChange flowChainSpec)

/-- ITS FALSE NEIGHBOUR: 'it returns false'. Refute it at one input. -/
def flowChainWrong : ChangeSpec := { name := "flowChain", fn := fun _ => fun
  | [d1, d2, d3] => { results := [.lit (.bool false)], args := [d1, d2, d3] }
  | _ => none }
def FlowChainWrongFalsely : Prop := flowChainRow.holds Try.pinned (OpenSpec.ofChange flowChainWrong)

/- THE SECOND FORM. 'bulk': how many values and letters a reading holds, each counted each time it is reached (what is shared counts as often as it is met; a slice's spare places count too). A statement '..UptoSaid' is the law's where the arguments, and the package variables that the reading takes, are together of bulk at most 1048576: NARROWER than '..Said'. Prove '..Said' where nothing that the law and all that it calls make is longer than what came in: it says more and counts as full. Else prove '..UptoSaid'. A law counts once. -/
mutual
def uptoBulk {H : Type} : DataW H → Nat
  | .lit (.string bytes) => bytes.length + 1
  | .lit _ => 1
  | .nil => 1
  | .ptr d => uptoBulk d + 1
  | .slice elems spare => uptoBulkAll elems + uptoBulkAll spare + 1
  | .agg parts => uptoBulkAll parts + 1
  | .iface _ d => uptoBulk d + 1
  | .map entries => uptoBulkEntries entries + 1
  | .held _ => 1
def uptoBulkAll {H : Type} : List (DataW H) → Nat
  | [] => 0
  | d :: r => uptoBulk d + uptoBulkAll r
def uptoBulkEntries {H : Type} : List (Lit × DataW H) → Nat
  | [] => 0
  | x :: r => uptoBulkEntry x + uptoBulkEntries r
def uptoBulkEntry {H : Type} : Lit × DataW H → Nat
  | (.string bytes, d) => bytes.length + uptoBulk d + 1
  | (_, d) => uptoBulk d + 1
 end
def uptoSmall : (H : Type) → List (DataW H) → Bool := fun _ ds => decide (uptoBulkAll ds ≤ 1048576)
def OpenSpec.upto (s : _root_.Go.ChangeSpec) : _root_.Go.OpenSpec := { _root_.Go.OpenSpec.ofChange s with cond := some uptoSmall }

/-- 'sheaflaw16.CheckRuns', WHERE WHAT IT READS IS OF BULK AT MOST 1048576: true; the input reads as it did. -/
def checkRunsUptoRow : OpenClaim := { program := "ytgbpgkfmmhlkoaa", sum := "050aa80f0e0adeda3f0814e064efe0c917e41380d0dae0b317308089e801a416", func := "sheaf/sheaflaw16.CheckRuns", spec := "checkRuns", unfollowed := true, recurses := true, apart := false, narrowed := true }
def CheckRunsUptoSaid : Prop := checkRunsUptoRow.holds Try.pinned (OpenSpec.upto checkRunsSpec)

/-- 'sheaflaw16.CheckTells', WHERE WHAT IT READS IS OF BULK AT MOST 1048576: true; the input reads as it did. -/
def checkTellsUptoRow : OpenClaim := { program := "ytgbpgkfmmhlkoaa", sum := "050aa80f0e0adeda3f0814e064efe0c917e41380d0dae0b317308089e801a416", func := "sheaf/sheaflaw16.CheckTells", spec := "checkTells", unfollowed := true, recurses := true, apart := false, narrowed := true }
def CheckTellsUptoSaid : Prop := checkTellsUptoRow.holds Try.pinned (OpenSpec.upto checkTellsSpec)

/-- 'sheaflaw16.CheckWhole', WHERE WHAT IT READS IS OF BULK AT MOST 1048576: true; the input reads as it did. -/
def checkWholeUptoRow : OpenClaim := { program := "ytgbpgkfmmhlkoaa", sum := "050aa80f0e0adeda3f0814e064efe0c917e41380d0dae0b317308089e801a416", func := "sheaf/sheaflaw16.CheckWhole", spec := "checkWhole", unfollowed := true, recurses := true, apart := false, narrowed := true }
def CheckWholeUptoSaid : Prop := checkWholeUptoRow.holds Try.pinned (OpenSpec.upto checkWholeSpec)

/-- 'sheaflaw16.CheckEdges', WHERE WHAT IT READS IS OF BULK AT MOST 1048576: true; the input reads as it did. -/
def checkEdgesUptoRow : OpenClaim := { program := "ytgbpgkfmmhlkoaa", sum := "050aa80f0e0adeda3f0814e064efe0c917e41380d0dae0b317308089e801a416", func := "sheaf/sheaflaw16.CheckEdges", spec := "checkEdges", unfollowed := true, recurses := true, apart := false, narrowed := true }
def CheckEdgesUptoSaid : Prop := checkEdgesUptoRow.holds Try.pinned (OpenSpec.upto checkEdgesSpec)

/-- 'sheaflaw10.FlowRuns', WHERE WHAT IT READS IS OF BULK AT MOST 1048576: true; the input reads as it did. -/
def flowRunsUptoRow : OpenClaim := { program := "ytgbpgkfmmhlkoaa", sum := "050aa80f0e0adeda3f0814e064efe0c917e41380d0dae0b317308089e801a416", func := "sheaf/sheaflaw10.FlowRuns", spec := "flowRuns", unfollowed := true, recurses := true, apart := false, narrowed := true }
def FlowRunsUptoSaid : Prop := flowRunsUptoRow.holds Try.pinned (OpenSpec.upto flowRunsSpec)

/-- 'sheaflaw10.FlowGroups', WHERE WHAT IT READS IS OF BULK AT MOST 1048576: true; the input reads as it did. -/
def flowGroupsUptoRow : OpenClaim := { program := "ytgbpgkfmmhlkoaa", sum := "050aa80f0e0adeda3f0814e064efe0c917e41380d0dae0b317308089e801a416", func := "sheaf/sheaflaw10.FlowGroups", spec := "flowGroups", unfollowed := true, recurses := true, apart := false, narrowed := true }
def FlowGroupsUptoSaid : Prop := flowGroupsUptoRow.holds Try.pinned (OpenSpec.upto flowGroupsSpec)

/-- 'sheaflaw10.FlowJoins', WHERE WHAT IT READS IS OF BULK AT MOST 1048576: true; the input reads as it did. -/
def flowJoinsUptoRow : OpenClaim := { program := "ytgbpgkfmmhlkoaa", sum := "050aa80f0e0adeda3f0814e064efe0c917e41380d0dae0b317308089e801a416", func := "sheaf/sheaflaw10.FlowJoins", spec := "flowJoins", unfollowed := true, recurses := true, apart := false, narrowed := true }
def FlowJoinsUptoSaid : Prop := flowJoinsUptoRow.holds Try.pinned (OpenSpec.upto flowJoinsSpec)

/-- 'sheaflaw10.FlowCursor', WHERE WHAT IT READS IS OF BULK AT MOST 1048576: true; the input reads as it did. -/
def flowCursorUptoRow : OpenClaim := { program := "ytgbpgkfmmhlkoaa", sum := "050aa80f0e0adeda3f0814e064efe0c917e41380d0dae0b317308089e801a416", func := "sheaf/sheaflaw10.FlowCursor", spec := "flowCursor", unfollowed := true, recurses := true, apart := false, narrowed := true }
def FlowCursorUptoSaid : Prop := flowCursorUptoRow.holds Try.pinned (OpenSpec.upto flowCursorSpec)

/-- 'sheaflaw10.FlowBreaks', WHERE WHAT IT READS IS OF BULK AT MOST 1048576: true; the input reads as it did. -/
def flowBreaksUptoRow : OpenClaim := { program := "ytgbpgkfmmhlkoaa", sum := "050aa80f0e0adeda3f0814e064efe0c917e41380d0dae0b317308089e801a416", func := "sheaf/sheaflaw10.FlowBreaks", spec := "flowBreaks", unfollowed := true, recurses := true, apart := false, narrowed := true }
def FlowBreaksUptoSaid : Prop := flowBreaksUptoRow.holds Try.pinned (OpenSpec.upto flowBreaksSpec)

/-- 'sheaflaw10.FlowLists', WHERE WHAT IT READS IS OF BULK AT MOST 1048576: true; the input reads as it did. -/
def flowListsUptoRow : OpenClaim := { program := "ytgbpgkfmmhlkoaa", sum := "050aa80f0e0adeda3f0814e064efe0c917e41380d0dae0b317308089e801a416", func := "sheaf/sheaflaw10.FlowLists", spec := "flowLists", unfollowed := true, recurses := true, apart := false, narrowed := true }
def FlowListsUptoSaid : Prop := flowListsUptoRow.holds Try.pinned (OpenSpec.upto flowListsSpec)

/-- 'sheaflaw10.FlowChain', WHERE WHAT IT READS IS OF BULK AT MOST 1048576: true; the input reads as it did. -/
def flowChainUptoRow : OpenClaim := { program := "ytgbpgkfmmhlkoaa", sum := "050aa80f0e0adeda3f0814e064efe0c917e41380d0dae0b317308089e801a416", func := "sheaf/sheaflaw10.FlowChain", spec := "flowChain", unfollowed := true, recurses := true, apart := false, narrowed := true }
def FlowChainUptoSaid : Prop := flowChainUptoRow.holds Try.pinned (OpenSpec.upto flowChainSpec)

end Rows
end Go.Proofs.Ytgbpgkfmmhlkoaa
