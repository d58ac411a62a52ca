/-
  No cell of these rows narrows 'for every input' (looked for: loops, veiled, ifaces, maps, wideKeys, modest, calm, conditions, laid).
  DERIVED. THE GIVEN ROWS OF THIS SEAT. 11 by the template 'for every input the law returns true; each argument reads behind the call as it read before'; 0 by the template 'total and deterministic' (their statements: YtmgdmldmialiiaaTotals.lean).
  GIVEN WITH THE SEED: the statements are not yours to turn. If you find one false, say at which input.
  Laid BY PROGRAM, IN A SANDBOX (cutbox-rows.mjs): the forced cells as the released guide's own fill.sh prints them over the translation 961041995cdc92e4… (all of the seat's roots in one cut). By AI agents, Wed Nov 11 2026. No macro, syntax, notation, axiom, sorry.
-/
import Derived.Test.YtmgdmldmialiiaaChecked
import GoSem.Claim
import GoSem.ClaimJoined
import GoSem.ClaimMapViews
import Derived.JoinedTies
import Derived.KernelRfl
namespace Go.Proofs.Ytmgdmldmialiiaa
/- THE CELL 'sum', in the pinned program and in every row, IS THE sha256 OF THE DUMP (.gsa) THAT YtmgdmldmialiiaaProg.lean LOADS. Nothing in Lean hashes anything: it is a label: what it is worth is what the hold of that sum in a sandbox is worth. -/
noncomputable def Try.pinned : Pinned := { name := "ytmgdmldmialiiaa", sum := "961041995cdc92e4eac24ffd465bc24d35073b3b2ee63d2b33f28c4e577c7a72", checked := Try.checked }
namespace Rows
def none {H : Type} : Left H := { results := [], args := [] }

/-- 'sheaflaw1.WideRuns': WHATEVER THE INPUT: true; the input reads as it did. -/
def wideRunsSpec : ChangeSpec := { name := "wideRuns", fn := fun _ => fun
  | [] => { results := [.lit (.bool true)], args := [] }
  | _ => none }
def wideRunsRow : OpenClaim := { program := "ytmgdmldmialiiaa", sum := "961041995cdc92e4eac24ffd465bc24d35073b3b2ee63d2b33f28c4e577c7a72", func := "sheaf/sheaflaw1.WideRuns", spec := "wideRuns", inPlace := ["math/bits.Sub64"], named := ["math/bits.divideError", "math/bits.overflowError"], apart := false }
def WideRunsSaid : Prop := wideRunsRow.holds Try.pinned (OpenSpec.ofChange wideRunsSpec)

/-- ITS FALSE NEIGHBOUR: 'it returns false'. Refute it at one input. -/
def wideRunsWrong : ChangeSpec := { name := "wideRuns", fn := fun _ => fun
  | [] => { results := [.lit (.bool false)], args := [] }
  | _ => none }
def WideRunsWrongFalsely : Prop := wideRunsRow.holds Try.pinned (OpenSpec.ofChange wideRunsWrong)

/-- 'sheaflaw1.WideFits': WHATEVER THE INPUT: true; the input reads as it did. -/
def wideFitsSpec : ChangeSpec := { name := "wideFits", fn := fun _ => fun
  | [d1, d2] => { results := [.lit (.bool true)], args := [d1, d2] }
  | _ => none }
def wideFitsRow : OpenClaim := { program := "ytmgdmldmialiiaa", sum := "961041995cdc92e4eac24ffd465bc24d35073b3b2ee63d2b33f28c4e577c7a72", func := "sheaf/sheaflaw1.WideFits", spec := "wideFits", inPlace := ["math/bits.Sub64"], named := ["math/bits.divideError", "math/bits.overflowError"], apart := false }
def WideFitsSaid : Prop := wideFitsRow.holds Try.pinned (OpenSpec.ofChange wideFitsSpec)

/-- ITS FALSE NEIGHBOUR: 'it returns false'. Refute it at one input. -/
def wideFitsWrong : ChangeSpec := { name := "wideFits", fn := fun _ => fun
  | [d1, d2] => { results := [.lit (.bool false)], args := [d1, d2] }
  | _ => none }
def WideFitsWrongFalsely : Prop := wideFitsRow.holds Try.pinned (OpenSpec.ofChange wideFitsWrong)

/-- 'sheaflaw1.WideRing': WHATEVER THE INPUT: true; the input reads as it did. -/
def wideRingSpec : ChangeSpec := { name := "wideRing", fn := fun _ => fun
  | [d1, d2, d3, d4] => { results := [.lit (.bool true)], args := [d1, d2, d3, d4] }
  | _ => none }
def wideRingRow : OpenClaim := { program := "ytmgdmldmialiiaa", sum := "961041995cdc92e4eac24ffd465bc24d35073b3b2ee63d2b33f28c4e577c7a72", func := "sheaf/sheaflaw1.WideRing", spec := "wideRing", inPlace := ["math/bits.Add64", "math/bits.Sub64"], named := ["math/bits.divideError", "math/bits.overflowError"], apart := false }
def WideRingSaid : Prop := wideRingRow.holds Try.pinned (OpenSpec.ofChange wideRingSpec)

/-- ITS FALSE NEIGHBOUR: 'it returns false'. Refute it at one input. -/
def wideRingWrong : ChangeSpec := { name := "wideRing", fn := fun _ => fun
  | [d1, d2, d3, d4] => { results := [.lit (.bool false)], args := [d1, d2, d3, d4] }
  | _ => none }
def WideRingWrongFalsely : Prop := wideRingRow.holds Try.pinned (OpenSpec.ofChange wideRingWrong)

/-- 'sheaflaw2.MoneyRuns': WHATEVER THE INPUT: true; the input reads as it did. -/
def moneyRunsSpec : ChangeSpec := { name := "moneyRuns", fn := fun _ => fun
  | [] => { results := [.lit (.bool true)], args := [] }
  | _ => none }
def moneyRunsRow : OpenClaim := { program := "ytmgdmldmialiiaa", sum := "961041995cdc92e4eac24ffd465bc24d35073b3b2ee63d2b33f28c4e577c7a72", func := "sheaf/sheaflaw2.MoneyRuns", spec := "moneyRuns", inPlace := ["math/bits.Sub64", "math/bits.Add64"], named := ["math/bits.divideError", "math/bits.overflowError"], apart := false }
def MoneyRunsSaid : Prop := moneyRunsRow.holds Try.pinned (OpenSpec.ofChange moneyRunsSpec)

/-- ITS FALSE NEIGHBOUR: 'it returns false'. Refute it at one input. -/
def moneyRunsWrong : ChangeSpec := { name := "moneyRuns", fn := fun _ => fun
  | [] => { results := [.lit (.bool false)], args := [] }
  | _ => none }
def MoneyRunsWrongFalsely : Prop := moneyRunsRow.holds Try.pinned (OpenSpec.ofChange moneyRunsWrong)

/-- 'sheaflaw2.MoneySplits': WHATEVER THE INPUT: true; the input reads as it did. -/
def moneySplitsSpec : ChangeSpec := { name := "moneySplits", fn := fun _ => fun
  | [d1, d2] => { results := [.lit (.bool true)], args := [d1, d2] }
  | _ => none }
def moneySplitsRow : OpenClaim := { program := "ytmgdmldmialiiaa", sum := "961041995cdc92e4eac24ffd465bc24d35073b3b2ee63d2b33f28c4e577c7a72", func := "sheaf/sheaflaw2.MoneySplits", spec := "moneySplits", inPlace := ["math/bits.Sub64", "math/bits.Add64"], named := ["math/bits.divideError", "math/bits.overflowError"], apart := false }
def MoneySplitsSaid : Prop := moneySplitsRow.holds Try.pinned (OpenSpec.ofChange moneySplitsSpec)

/-- ITS FALSE NEIGHBOUR: 'it returns false'. Refute it at one input. -/
def moneySplitsWrong : ChangeSpec := { name := "moneySplits", fn := fun _ => fun
  | [d1, d2] => { results := [.lit (.bool false)], args := [d1, d2] }
  | _ => none }
def MoneySplitsWrongFalsely : Prop := moneySplitsRow.holds Try.pinned (OpenSpec.ofChange moneySplitsWrong)

/-- 'sheaflaw2.MoneyBack': WHATEVER THE INPUT: true; the input reads as it did. -/
def moneyBackSpec : ChangeSpec := { name := "moneyBack", fn := fun _ => fun
  | [d1, d2, d3] => { results := [.lit (.bool true)], args := [d1, d2, d3] }
  | _ => none }
def moneyBackRow : OpenClaim := { program := "ytmgdmldmialiiaa", sum := "961041995cdc92e4eac24ffd465bc24d35073b3b2ee63d2b33f28c4e577c7a72", func := "sheaf/sheaflaw2.MoneyBack", spec := "moneyBack", inPlace := ["math/bits.Sub64", "math/bits.Add64"], named := ["math/bits.divideError", "math/bits.overflowError"], apart := false }
def MoneyBackSaid : Prop := moneyBackRow.holds Try.pinned (OpenSpec.ofChange moneyBackSpec)

/-- ITS FALSE NEIGHBOUR: 'it returns false'. Refute it at one input. -/
def moneyBackWrong : ChangeSpec := { name := "moneyBack", fn := fun _ => fun
  | [d1, d2, d3] => { results := [.lit (.bool false)], args := [d1, d2, d3] }
  | _ => none }
def MoneyBackWrongFalsely : Prop := moneyBackRow.holds Try.pinned (OpenSpec.ofChange moneyBackWrong)

/-- 'sheaflaw2.MoneyTells': WHATEVER THE INPUT: true; the input reads as it did. -/
def moneyTellsSpec : ChangeSpec := { name := "moneyTells", fn := fun _ => fun
  | [d1, d2, d3, d4, d5] => { results := [.lit (.bool true)], args := [d1, d2, d3, d4, d5] }
  | _ => none }
def moneyTellsRow : OpenClaim := { program := "ytmgdmldmialiiaa", sum := "961041995cdc92e4eac24ffd465bc24d35073b3b2ee63d2b33f28c4e577c7a72", func := "sheaf/sheaflaw2.MoneyTells", spec := "moneyTells", inPlace := ["math/bits.Sub64", "math/bits.Add64"], named := ["math/bits.divideError", "math/bits.overflowError"], apart := false }
def MoneyTellsSaid : Prop := moneyTellsRow.holds Try.pinned (OpenSpec.ofChange moneyTellsSpec)

/-- ITS FALSE NEIGHBOUR: 'it returns false'. Refute it at one input. -/
def moneyTellsWrong : ChangeSpec := { name := "moneyTells", fn := fun _ => fun
  | [d1, d2, d3, d4, d5] => { results := [.lit (.bool false)], args := [d1, d2, d3, d4, d5] }
  | _ => none }
def MoneyTellsWrongFalsely : Prop := moneyTellsRow.holds Try.pinned (OpenSpec.ofChange moneyTellsWrong)

/-- 'sheaflaw2.MoneySums': WHATEVER THE INPUT: true; the input reads as it did. -/
def moneySumsSpec : ChangeSpec := { name := "moneySums", fn := fun _ => fun
  | [d1, d2] => { results := [.lit (.bool true)], args := [d1, d2] }
  | _ => none }
def moneySumsRow : OpenClaim := { program := "ytmgdmldmialiiaa", sum := "961041995cdc92e4eac24ffd465bc24d35073b3b2ee63d2b33f28c4e577c7a72", func := "sheaf/sheaflaw2.MoneySums", spec := "moneySums", inPlace := ["math/bits.Add64", "math/bits.Sub64"], named := ["math/bits.divideError", "math/bits.overflowError"], apart := false }
def MoneySumsSaid : Prop := moneySumsRow.holds Try.pinned (OpenSpec.ofChange moneySumsSpec)

/-- ITS FALSE NEIGHBOUR: 'it returns false'. Refute it at one input. -/
def moneySumsWrong : ChangeSpec := { name := "moneySums", fn := fun _ => fun
  | [d1, d2] => { results := [.lit (.bool false)], args := [d1, d2] }
  | _ => none }
def MoneySumsWrongFalsely : Prop := moneySumsRow.holds Try.pinned (OpenSpec.ofChange moneySumsWrong)

/-- 'sheaflaw1.WideOrder': WHATEVER THE INPUT: true; the input reads as it did. -/
def wideOrderSpec : ChangeSpec := { name := "wideOrder", fn := fun _ => fun
  | [d1, d2, d3, d4] => { results := [.lit (.bool true)], args := [d1, d2, d3, d4] }
  | _ => none }
def wideOrderRow : OpenClaim := { program := "ytmgdmldmialiiaa", sum := "961041995cdc92e4eac24ffd465bc24d35073b3b2ee63d2b33f28c4e577c7a72", func := "sheaf/sheaflaw1.WideOrder", spec := "wideOrder", inPlace := ["math/bits.Sub64"], named := ["math/bits.divideError", "math/bits.overflowError"], apart := false }
def WideOrderSaid : Prop := wideOrderRow.holds Try.pinned (OpenSpec.ofChange wideOrderSpec)

/-- ITS FALSE NEIGHBOUR: 'it returns false'. Refute it at one input. -/
def wideOrderWrong : ChangeSpec := { name := "wideOrder", fn := fun _ => fun
  | [d1, d2, d3, d4] => { results := [.lit (.bool false)], args := [d1, d2, d3, d4] }
  | _ => none }
def WideOrderWrongFalsely : Prop := wideOrderRow.holds Try.pinned (OpenSpec.ofChange wideOrderWrong)

/-- 'sheaflaw1.WideTells': WHATEVER THE INPUT: true; the input reads as it did. -/
def wideTellsSpec : ChangeSpec := { name := "wideTells", fn := fun _ => fun
  | [d1, d2, d3, d4] => { results := [.lit (.bool true)], args := [d1, d2, d3, d4] }
  | _ => none }
def wideTellsRow : OpenClaim := { program := "ytmgdmldmialiiaa", sum := "961041995cdc92e4eac24ffd465bc24d35073b3b2ee63d2b33f28c4e577c7a72", func := "sheaf/sheaflaw1.WideTells", spec := "wideTells", inPlace := ["math/bits.Add64", "math/bits.Sub64"], named := ["math/bits.divideError", "math/bits.overflowError"], apart := false }
def WideTellsSaid : Prop := wideTellsRow.holds Try.pinned (OpenSpec.ofChange wideTellsSpec)

/-- ITS FALSE NEIGHBOUR: 'it returns false'. Refute it at one input. -/
def wideTellsWrong : ChangeSpec := { name := "wideTells", fn := fun _ => fun
  | [d1, d2, d3, d4] => { results := [.lit (.bool false)], args := [d1, d2, d3, d4] }
  | _ => none }
def WideTellsWrongFalsely : Prop := wideTellsRow.holds Try.pinned (OpenSpec.ofChange wideTellsWrong)

/-- 'sheaflaw1.WideNearest': WHATEVER THE INPUT: true; the input reads as it did. -/
def wideNearestSpec : ChangeSpec := { name := "wideNearest", fn := fun _ => fun
  | [d1, d2, d3] => { results := [.lit (.bool true)], args := [d1, d2, d3] }
  | _ => none }
def wideNearestRow : OpenClaim := { program := "ytmgdmldmialiiaa", sum := "961041995cdc92e4eac24ffd465bc24d35073b3b2ee63d2b33f28c4e577c7a72", func := "sheaf/sheaflaw1.WideNearest", spec := "wideNearest", inPlace := ["math/bits.Sub64", "math/bits.Add64"], named := ["math/bits.divideError", "math/bits.overflowError"], apart := false }
def WideNearestSaid : Prop := wideNearestRow.holds Try.pinned (OpenSpec.ofChange wideNearestSpec)

/-- ITS FALSE NEIGHBOUR: 'it returns false'. Refute it at one input. -/
def wideNearestWrong : ChangeSpec := { name := "wideNearest", fn := fun _ => fun
  | [d1, d2, d3] => { results := [.lit (.bool false)], args := [d1, d2, d3] }
  | _ => none }
def WideNearestWrongFalsely : Prop := wideNearestRow.holds Try.pinned (OpenSpec.ofChange wideNearestWrong)

/- THE SECOND FORM. 'bulk': how many values and letters a reading holds, each counted each time it is reached (what is shared counts as often as it is met; a slice's spare places count too). A statement '..UptoSaid' is the law's where the arguments, and the package variables that the reading takes, are together of bulk at most 1048576: NARROWER than '..Said'. Prove '..Said' where nothing that the law and all that it calls make is longer than what came in: it says more and counts as full. Else prove '..UptoSaid'. A law counts once. -/
mutual
def uptoBulk {H : Type} : DataW H → Nat
  | .lit (.string bytes) => bytes.length + 1
  | .lit _ => 1
  | .nil => 1
  | .ptr d => uptoBulk d + 1
  | .slice elems spare => uptoBulkAll elems + uptoBulkAll spare + 1
  | .agg parts => uptoBulkAll parts + 1
  | .iface _ d => uptoBulk d + 1
  | .map entries => uptoBulkEntries entries + 1
  | .held _ => 1
def uptoBulkAll {H : Type} : List (DataW H) → Nat
  | [] => 0
  | d :: r => uptoBulk d + uptoBulkAll r
def uptoBulkEntries {H : Type} : List (Lit × DataW H) → Nat
  | [] => 0
  | x :: r => uptoBulkEntry x + uptoBulkEntries r
def uptoBulkEntry {H : Type} : Lit × DataW H → Nat
  | (.string bytes, d) => bytes.length + uptoBulk d + 1
  | (_, d) => uptoBulk d + 1
 end
def uptoSmall : (H : Type) → List (DataW H) → Bool := fun _ ds => decide (uptoBulkAll ds ≤ 1048576)
def OpenSpec.upto (s : _root_.Go.ChangeSpec) : _root_.Go.OpenSpec := { _root_.Go.OpenSpec.ofChange s with cond := some uptoSmall }

/-- 'sheaflaw1.WideRuns', WHERE WHAT IT READS IS OF BULK AT MOST 1048576: true; the input reads as it did. -/
def wideRunsUptoRow : OpenClaim := { program := "ytmgdmldmialiiaa", sum := "961041995cdc92e4eac24ffd465bc24d35073b3b2ee63d2b33f28c4e577c7a72", func := "sheaf/sheaflaw1.WideRuns", spec := "wideRuns", inPlace := ["math/bits.Sub64"], named := ["math/bits.divideError", "math/bits.overflowError"], apart := false, narrowed := true }
def WideRunsUptoSaid : Prop := wideRunsUptoRow.holds Try.pinned (OpenSpec.upto wideRunsSpec)

/-- 'sheaflaw1.WideFits', WHERE WHAT IT READS IS OF BULK AT MOST 1048576: true; the input reads as it did. -/
def wideFitsUptoRow : OpenClaim := { program := "ytmgdmldmialiiaa", sum := "961041995cdc92e4eac24ffd465bc24d35073b3b2ee63d2b33f28c4e577c7a72", func := "sheaf/sheaflaw1.WideFits", spec := "wideFits", inPlace := ["math/bits.Sub64"], named := ["math/bits.divideError", "math/bits.overflowError"], apart := false, narrowed := true }
def WideFitsUptoSaid : Prop := wideFitsUptoRow.holds Try.pinned (OpenSpec.upto wideFitsSpec)

/-- 'sheaflaw1.WideRing', WHERE WHAT IT READS IS OF BULK AT MOST 1048576: true; the input reads as it did. -/
def wideRingUptoRow : OpenClaim := { program := "ytmgdmldmialiiaa", sum := "961041995cdc92e4eac24ffd465bc24d35073b3b2ee63d2b33f28c4e577c7a72", func := "sheaf/sheaflaw1.WideRing", spec := "wideRing", inPlace := ["math/bits.Add64", "math/bits.Sub64"], named := ["math/bits.divideError", "math/bits.overflowError"], apart := false, narrowed := true }
def WideRingUptoSaid : Prop := wideRingUptoRow.holds Try.pinned (OpenSpec.upto wideRingSpec)

/-- 'sheaflaw2.MoneyRuns', WHERE WHAT IT READS IS OF BULK AT MOST 1048576: true; the input reads as it did. -/
def moneyRunsUptoRow : OpenClaim := { program := "ytmgdmldmialiiaa", sum := "961041995cdc92e4eac24ffd465bc24d35073b3b2ee63d2b33f28c4e577c7a72", func := "sheaf/sheaflaw2.MoneyRuns", spec := "moneyRuns", inPlace := ["math/bits.Sub64", "math/bits.Add64"], named := ["math/bits.divideError", "math/bits.overflowError"], apart := false, narrowed := true }
def MoneyRunsUptoSaid : Prop := moneyRunsUptoRow.holds Try.pinned (OpenSpec.upto moneyRunsSpec)

/-- 'sheaflaw2.MoneySplits', WHERE WHAT IT READS IS OF BULK AT MOST 1048576: true; the input reads as it did. -/
def moneySplitsUptoRow : OpenClaim := { program := "ytmgdmldmialiiaa", sum := "961041995cdc92e4eac24ffd465bc24d35073b3b2ee63d2b33f28c4e577c7a72", func := "sheaf/sheaflaw2.MoneySplits", spec := "moneySplits", inPlace := ["math/bits.Sub64", "math/bits.Add64"], named := ["math/bits.divideError", "math/bits.overflowError"], apart := false, narrowed := true }
def MoneySplitsUptoSaid : Prop := moneySplitsUptoRow.holds Try.pinned (OpenSpec.upto moneySplitsSpec)

/-- 'sheaflaw2.MoneyBack', WHERE WHAT IT READS IS OF BULK AT MOST 1048576: true; the input reads as it did. -/
def moneyBackUptoRow : OpenClaim := { program := "ytmgdmldmialiiaa", sum := "961041995cdc92e4eac24ffd465bc24d35073b3b2ee63d2b33f28c4e577c7a72", func := "sheaf/sheaflaw2.MoneyBack", spec := "moneyBack", inPlace := ["math/bits.Sub64", "math/bits.Add64"], named := ["math/bits.divideError", "math/bits.overflowError"], apart := false, narrowed := true }
def MoneyBackUptoSaid : Prop := moneyBackUptoRow.holds Try.pinned (OpenSpec.upto moneyBackSpec)

/-- 'sheaflaw2.MoneyTells', WHERE WHAT IT READS IS OF BULK AT MOST 1048576: true; the input reads as it did. -/
def moneyTellsUptoRow : OpenClaim := { program := "ytmgdmldmialiiaa", sum := "961041995cdc92e4eac24ffd465bc24d35073b3b2ee63d2b33f28c4e577c7a72", func := "sheaf/sheaflaw2.MoneyTells", spec := "moneyTells", inPlace := ["math/bits.Sub64", "math/bits.Add64"], named := ["math/bits.divideError", "math/bits.overflowError"], apart := false, narrowed := true }
def MoneyTellsUptoSaid : Prop := moneyTellsUptoRow.holds Try.pinned (OpenSpec.upto moneyTellsSpec)

/-- 'sheaflaw2.MoneySums', WHERE WHAT IT READS IS OF BULK AT MOST 1048576: true; the input reads as it did. -/
def moneySumsUptoRow : OpenClaim := { program := "ytmgdmldmialiiaa", sum := "961041995cdc92e4eac24ffd465bc24d35073b3b2ee63d2b33f28c4e577c7a72", func := "sheaf/sheaflaw2.MoneySums", spec := "moneySums", inPlace := ["math/bits.Add64", "math/bits.Sub64"], named := ["math/bits.divideError", "math/bits.overflowError"], apart := false, narrowed := true }
def MoneySumsUptoSaid : Prop := moneySumsUptoRow.holds Try.pinned (OpenSpec.upto moneySumsSpec)

/-- 'sheaflaw1.WideOrder', WHERE WHAT IT READS IS OF BULK AT MOST 1048576: true; the input reads as it did. -/
def wideOrderUptoRow : OpenClaim := { program := "ytmgdmldmialiiaa", sum := "961041995cdc92e4eac24ffd465bc24d35073b3b2ee63d2b33f28c4e577c7a72", func := "sheaf/sheaflaw1.WideOrder", spec := "wideOrder", inPlace := ["math/bits.Sub64"], named := ["math/bits.divideError", "math/bits.overflowError"], apart := false, narrowed := true }
def WideOrderUptoSaid : Prop := wideOrderUptoRow.holds Try.pinned (OpenSpec.upto wideOrderSpec)

/-- 'sheaflaw1.WideTells', WHERE WHAT IT READS IS OF BULK AT MOST 1048576: true; the input reads as it did. -/
def wideTellsUptoRow : OpenClaim := { program := "ytmgdmldmialiiaa", sum := "961041995cdc92e4eac24ffd465bc24d35073b3b2ee63d2b33f28c4e577c7a72", func := "sheaf/sheaflaw1.WideTells", spec := "wideTells", inPlace := ["math/bits.Add64", "math/bits.Sub64"], named := ["math/bits.divideError", "math/bits.overflowError"], apart := false, narrowed := true }
def WideTellsUptoSaid : Prop := wideTellsUptoRow.holds Try.pinned (OpenSpec.upto wideTellsSpec)

/-- 'sheaflaw1.WideNearest', WHERE WHAT IT READS IS OF BULK AT MOST 1048576: true; the input reads as it did. -/
def wideNearestUptoRow : OpenClaim := { program := "ytmgdmldmialiiaa", sum := "961041995cdc92e4eac24ffd465bc24d35073b3b2ee63d2b33f28c4e577c7a72", func := "sheaf/sheaflaw1.WideNearest", spec := "wideNearest", inPlace := ["math/bits.Sub64", "math/bits.Add64"], named := ["math/bits.divideError", "math/bits.overflowError"], apart := false, narrowed := true }
def WideNearestUptoSaid : Prop := wideNearestUptoRow.holds Try.pinned (OpenSpec.upto wideNearestSpec)

end Rows
end Go.Proofs.Ytmgdmldmialiiaa
