/-
  No cell of these rows narrows 'for every input' (looked for: loops, veiled, ifaces, maps, wideKeys, modest, calm, conditions, laid).
  DERIVED. THE GIVEN ROWS OF THIS SEAT. 6 by the template 'for every input the law returns true; each argument reads behind the call as it read before'; 0 by the template 'total and deterministic' (their statements: YtpabllcacdopdaaTotals.lean).
  GIVEN WITH THE SEED: the statements are not yours to turn. If you find one false, say at which input.
  Laid BY PROGRAM, IN A SANDBOX (cutbox-rows.mjs): the forced cells as the released guide's own fill.sh prints them over the translation b8c9e8fdce4d0a59… (all of the seat's roots in one cut). By AI agents, Wed Nov 11 2026. No macro, syntax, notation, axiom, sorry.
-/
import Derived.Test.YtpabllcacdopdaaChecked
import GoSem.Claim
import GoSem.ClaimJoined
import GoSem.ClaimMapViews
import Derived.JoinedTies
import Derived.KernelRfl
namespace Go.Proofs.Ytpabllcacdopdaa
/- THE CELL 'sum', in the pinned program and in every row, IS THE sha256 OF THE DUMP (.gsa) THAT YtpabllcacdopdaaProg.lean LOADS. Nothing in Lean hashes anything: it is a label: what it is worth is what the hold of that sum in a sandbox is worth. -/
noncomputable def Try.pinned : Pinned := { name := "ytpabllcacdopdaa", sum := "b8c9e8fdce4d0a59ea42831d982206b2730485ad59d8f860717c0763bf18ed61", checked := Try.checked }
namespace Rows
def none {H : Type} : Left H := { results := [], args := [] }

/-- 'sheaflaw17.StageRuns': WHATEVER THE INPUT: true; the input reads as it did. -/
def stageRunsSpec : ChangeSpec := { name := "stageRuns", fn := fun _ => fun
  | [] => { results := [.lit (.bool true)], args := [] }
  | _ => none }
def stageRunsRow : OpenClaim := { program := "ytpabllcacdopdaa", sum := "b8c9e8fdce4d0a59ea42831d982206b2730485ad59d8f860717c0763bf18ed61", func := "sheaf/sheaflaw17.StageRuns", spec := "stageRuns", inPlace := ["math/bits.Sub64"], unfollowed := true, recurses := true, named := ["math/bits.divideError", "math/bits.overflowError"], apart := false }
def StageRunsSaid : Prop := stageRunsRow.holds Try.pinned (OpenSpec.ofChange stageRunsSpec)

/-- ITS FALSE NEIGHBOUR: 'it returns false'. Refute it at one input. -/
def stageRunsWrong : ChangeSpec := { name := "stageRuns", fn := fun _ => fun
  | [] => { results := [.lit (.bool false)], args := [] }
  | _ => none }
def StageRunsWrongFalsely : Prop := stageRunsRow.holds Try.pinned (OpenSpec.ofChange stageRunsWrong)

/-- 'sheaflaw17.StageDoubles': WHATEVER THE INPUT: true; the input reads as it did. -/
def stageDoublesSpec : ChangeSpec := { name := "stageDoubles", fn := fun _ => fun
  | [d1, d2] => { results := [.lit (.bool true)], args := [d1, d2] }
  | _ => none }
def stageDoublesRow : OpenClaim := { program := "ytpabllcacdopdaa", sum := "b8c9e8fdce4d0a59ea42831d982206b2730485ad59d8f860717c0763bf18ed61", func := "sheaf/sheaflaw17.StageDoubles", spec := "stageDoubles", inPlace := ["math/bits.Sub64"], unfollowed := true, recurses := true, named := ["math/bits.divideError", "math/bits.overflowError"], apart := false }
def StageDoublesSaid : Prop := stageDoublesRow.holds Try.pinned (OpenSpec.ofChange stageDoublesSpec)

/-- ITS FALSE NEIGHBOUR: 'it returns false'. Refute it at one input. -/
def stageDoublesWrong : ChangeSpec := { name := "stageDoubles", fn := fun _ => fun
  | [d1, d2] => { results := [.lit (.bool false)], args := [d1, d2] }
  | _ => none }
def StageDoublesWrongFalsely : Prop := stageDoublesRow.holds Try.pinned (OpenSpec.ofChange stageDoublesWrong)

/-- 'sheaflaw17.StageRates': WHATEVER THE INPUT: true; the input reads as it did. -/
def stageRatesSpec : ChangeSpec := { name := "stageRates", fn := fun _ => fun
  | [d1, d2, d3] => { results := [.lit (.bool true)], args := [d1, d2, d3] }
  | _ => none }
def stageRatesRow : OpenClaim := { program := "ytpabllcacdopdaa", sum := "b8c9e8fdce4d0a59ea42831d982206b2730485ad59d8f860717c0763bf18ed61", func := "sheaf/sheaflaw17.StageRates", spec := "stageRates", inPlace := ["math/bits.Sub64"], unfollowed := true, recurses := true, named := ["math/bits.divideError", "math/bits.overflowError"], apart := false }
def StageRatesSaid : Prop := stageRatesRow.holds Try.pinned (OpenSpec.ofChange stageRatesSpec)

/-- ITS FALSE NEIGHBOUR: 'it returns false'. Refute it at one input. -/
def stageRatesWrong : ChangeSpec := { name := "stageRates", fn := fun _ => fun
  | [d1, d2, d3] => { results := [.lit (.bool false)], args := [d1, d2, d3] }
  | _ => none }
def StageRatesWrongFalsely : Prop := stageRatesRow.holds Try.pinned (OpenSpec.ofChange stageRatesWrong)

/-- 'sheaflaw17.StageJoins': WHATEVER THE INPUT: true; the input reads as it did. -/
def stageJoinsSpec : ChangeSpec := { name := "stageJoins", fn := fun _ => fun
  | [d1, d2, d3] => { results := [.lit (.bool true)], args := [d1, d2, d3] }
  | _ => none }
def stageJoinsRow : OpenClaim := { program := "ytpabllcacdopdaa", sum := "b8c9e8fdce4d0a59ea42831d982206b2730485ad59d8f860717c0763bf18ed61", func := "sheaf/sheaflaw17.StageJoins", spec := "stageJoins", inPlace := ["math/bits.Sub64"], unfollowed := true, recurses := true, named := ["math/bits.divideError", "math/bits.overflowError"], apart := false }
def StageJoinsSaid : Prop := stageJoinsRow.holds Try.pinned (OpenSpec.ofChange stageJoinsSpec)

/-- ITS FALSE NEIGHBOUR: 'it returns false'. Refute it at one input. -/
def stageJoinsWrong : ChangeSpec := { name := "stageJoins", fn := fun _ => fun
  | [d1, d2, d3] => { results := [.lit (.bool false)], args := [d1, d2, d3] }
  | _ => none }
def StageJoinsWrongFalsely : Prop := stageJoinsRow.holds Try.pinned (OpenSpec.ofChange stageJoinsWrong)

/-- 'sheaflaw17.StageSimple': WHATEVER THE INPUT: true; the input reads as it did. -/
def stageSimpleSpec : ChangeSpec := { name := "stageSimple", fn := fun _ => fun
  | [d1, d2, d3] => { results := [.lit (.bool true)], args := [d1, d2, d3] }
  | _ => none }
def stageSimpleRow : OpenClaim := { program := "ytpabllcacdopdaa", sum := "b8c9e8fdce4d0a59ea42831d982206b2730485ad59d8f860717c0763bf18ed61", func := "sheaf/sheaflaw17.StageSimple", spec := "stageSimple", inPlace := ["math/bits.Sub64"], unfollowed := true, recurses := true, named := ["math/bits.divideError", "math/bits.overflowError"], apart := false }
def StageSimpleSaid : Prop := stageSimpleRow.holds Try.pinned (OpenSpec.ofChange stageSimpleSpec)

/-- ITS FALSE NEIGHBOUR: 'it returns false'. Refute it at one input. -/
def stageSimpleWrong : ChangeSpec := { name := "stageSimple", fn := fun _ => fun
  | [d1, d2, d3] => { results := [.lit (.bool false)], args := [d1, d2, d3] }
  | _ => none }
def StageSimpleWrongFalsely : Prop := stageSimpleRow.holds Try.pinned (OpenSpec.ofChange stageSimpleWrong)

/-- 'sheaflaw17.StageAll': WHATEVER THE INPUT: true; the input reads as it did. -/
def stageAllSpec : ChangeSpec := { name := "stageAll", fn := fun _ => fun
  | [d] => { results := [.lit (.bool true)], args := [d] }
  | _ => none }
def stageAllRow : OpenClaim := { program := "ytpabllcacdopdaa", sum := "b8c9e8fdce4d0a59ea42831d982206b2730485ad59d8f860717c0763bf18ed61", func := "sheaf/sheaflaw17.StageAll", spec := "stageAll", inPlace := ["math/bits.Sub64"], unfollowed := true, recurses := true, named := ["math/bits.divideError", "math/bits.overflowError"], apart := false }
def StageAllSaid : Prop := stageAllRow.holds Try.pinned (OpenSpec.ofChange stageAllSpec)

/-- ITS FALSE NEIGHBOUR: 'it returns false'. Refute it at one input. -/
def stageAllWrong : ChangeSpec := { name := "stageAll", fn := fun _ => fun
  | [d] => { results := [.lit (.bool false)], args := [d] }
  | _ => none }
def StageAllWrongFalsely : Prop := stageAllRow.holds Try.pinned (OpenSpec.ofChange stageAllWrong)

/- THE SECOND FORM. 'bulk': how many values and letters a reading holds, each counted each time it is reached (what is shared counts as often as it is met; a slice's spare places count too). A statement '..UptoSaid' is the law's where the arguments, and the package variables that the reading takes, are together of bulk at most 1048576: NARROWER than '..Said'. Prove '..Said' where nothing that the law and all that it calls make is longer than what came in: it says more and counts as full. Else prove '..UptoSaid'. A law counts once. -/
mutual
def uptoBulk {H : Type} : DataW H → Nat
  | .lit (.string bytes) => bytes.length + 1
  | .lit _ => 1
  | .nil => 1
  | .ptr d => uptoBulk d + 1
  | .slice elems spare => uptoBulkAll elems + uptoBulkAll spare + 1
  | .agg parts => uptoBulkAll parts + 1
  | .iface _ d => uptoBulk d + 1
  | .map entries => uptoBulkEntries entries + 1
  | .held _ => 1
def uptoBulkAll {H : Type} : List (DataW H) → Nat
  | [] => 0
  | d :: r => uptoBulk d + uptoBulkAll r
def uptoBulkEntries {H : Type} : List (Lit × DataW H) → Nat
  | [] => 0
  | x :: r => uptoBulkEntry x + uptoBulkEntries r
def uptoBulkEntry {H : Type} : Lit × DataW H → Nat
  | (.string bytes, d) => bytes.length + uptoBulk d + 1
  | (_, d) => uptoBulk d + 1
 end
def uptoSmall : (H : Type) → List (DataW H) → Bool := fun _ ds => decide (uptoBulkAll ds ≤ 1048576)
def OpenSpec.upto (s : _root_.Go.ChangeSpec) : _root_.Go.OpenSpec := { _root_.Go.OpenSpec.ofChange s with cond := some uptoSmall }

/-- 'sheaflaw17.StageRuns', WHERE WHAT IT READS IS OF BULK AT MOST 1048576: true; the input reads as it did. -/
def stageRunsUptoRow : OpenClaim := { program := "ytpabllcacdopdaa", sum := "b8c9e8fdce4d0a59ea42831d982206b2730485ad59d8f860717c0763bf18ed61", func := "sheaf/sheaflaw17.StageRuns", spec := "stageRuns", inPlace := ["math/bits.Sub64"], unfollowed := true, recurses := true, named := ["math/bits.divideError", "math/bits.overflowError"], apart := false, narrowed := true }
def StageRunsUptoSaid : Prop := stageRunsUptoRow.holds Try.pinned (OpenSpec.upto stageRunsSpec)

/-- 'sheaflaw17.StageDoubles', WHERE WHAT IT READS IS OF BULK AT MOST 1048576: true; the input reads as it did. -/
def stageDoublesUptoRow : OpenClaim := { program := "ytpabllcacdopdaa", sum := "b8c9e8fdce4d0a59ea42831d982206b2730485ad59d8f860717c0763bf18ed61", func := "sheaf/sheaflaw17.StageDoubles", spec := "stageDoubles", inPlace := ["math/bits.Sub64"], unfollowed := true, recurses := true, named := ["math/bits.divideError", "math/bits.overflowError"], apart := false, narrowed := true }
def StageDoublesUptoSaid : Prop := stageDoublesUptoRow.holds Try.pinned (OpenSpec.upto stageDoublesSpec)

/-- 'sheaflaw17.StageRates', WHERE WHAT IT READS IS OF BULK AT MOST 1048576: true; the input reads as it did. -/
def stageRatesUptoRow : OpenClaim := { program := "ytpabllcacdopdaa", sum := "b8c9e8fdce4d0a59ea42831d982206b2730485ad59d8f860717c0763bf18ed61", func := "sheaf/sheaflaw17.StageRates", spec := "stageRates", inPlace := ["math/bits.Sub64"], unfollowed := true, recurses := true, named := ["math/bits.divideError", "math/bits.overflowError"], apart := false, narrowed := true }
def StageRatesUptoSaid : Prop := stageRatesUptoRow.holds Try.pinned (OpenSpec.upto stageRatesSpec)

/-- 'sheaflaw17.StageJoins', WHERE WHAT IT READS IS OF BULK AT MOST 1048576: true; the input reads as it did. -/
def stageJoinsUptoRow : OpenClaim := { program := "ytpabllcacdopdaa", sum := "b8c9e8fdce4d0a59ea42831d982206b2730485ad59d8f860717c0763bf18ed61", func := "sheaf/sheaflaw17.StageJoins", spec := "stageJoins", inPlace := ["math/bits.Sub64"], unfollowed := true, recurses := true, named := ["math/bits.divideError", "math/bits.overflowError"], apart := false, narrowed := true }
def StageJoinsUptoSaid : Prop := stageJoinsUptoRow.holds Try.pinned (OpenSpec.upto stageJoinsSpec)

/-- 'sheaflaw17.StageSimple', WHERE WHAT IT READS IS OF BULK AT MOST 1048576: true; the input reads as it did. -/
def stageSimpleUptoRow : OpenClaim := { program := "ytpabllcacdopdaa", sum := "b8c9e8fdce4d0a59ea42831d982206b2730485ad59d8f860717c0763bf18ed61", func := "sheaf/sheaflaw17.StageSimple", spec := "stageSimple", inPlace := ["math/bits.Sub64"], unfollowed := true, recurses := true, named := ["math/bits.divideError", "math/bits.overflowError"], apart := false, narrowed := true }
def StageSimpleUptoSaid : Prop := stageSimpleUptoRow.holds Try.pinned (OpenSpec.upto stageSimpleSpec)

/-- 'sheaflaw17.StageAll', WHERE WHAT IT READS IS OF BULK AT MOST 1048576: true; the input reads as it did. -/
def stageAllUptoRow : OpenClaim := { program := "ytpabllcacdopdaa", sum := "b8c9e8fdce4d0a59ea42831d982206b2730485ad59d8f860717c0763bf18ed61", func := "sheaf/sheaflaw17.StageAll", spec := "stageAll", inPlace := ["math/bits.Sub64"], unfollowed := true, recurses := true, named := ["math/bits.divideError", "math/bits.overflowError"], apart := false, narrowed := true }
def StageAllUptoSaid : Prop := stageAllUptoRow.holds Try.pinned (OpenSpec.upto stageAllSpec)

end Rows
end Go.Proofs.Ytpabllcacdopdaa
