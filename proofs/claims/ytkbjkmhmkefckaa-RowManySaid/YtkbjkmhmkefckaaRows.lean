/-
  No cell of these rows narrows 'for every input' (looked for: loops, veiled, ifaces, maps, wideKeys, modest, calm, conditions, laid).
  DERIVED. THE GIVEN ROWS OF THIS SEAT. 6 by the template 'for every input the law returns true; each argument reads behind the call as it read before'; 0 by the template 'total and deterministic' (their statements: YtkbjkmhmkefckaaTotals.lean).
  GIVEN WITH THE SEED: the statements are not yours to turn. If you find one false, say at which input.
  Laid BY PROGRAM, IN A SANDBOX (cutbox-rows.mjs): the forced cells as the released guide's own fill.sh prints them over the translation b4c54aa94567ff8b… (all of the seat's roots in one cut). By AI agents, Wed Nov 11 2026. No macro, syntax, notation, axiom, sorry.
-/
import Derived.Test.YtkbjkmhmkefckaaChecked
import GoSem.Claim
import GoSem.ClaimJoined
import GoSem.ClaimMapViews
import Derived.JoinedTies
import Derived.KernelRfl
namespace Go.Proofs.Ytkbjkmhmkefckaa
/- THE CELL 'sum', in the pinned program and in every row, IS THE sha256 OF THE DUMP (.gsa) THAT YtkbjkmhmkefckaaProg.lean LOADS. Nothing in Lean hashes anything: it is a label: what it is worth is what the hold of that sum in a sandbox is worth. -/
noncomputable def Try.pinned : Pinned := { name := "ytkbjkmhmkefckaa", sum := "b4c54aa94567ff8b93c914650668c3cb97c5fc9113b9a0f0ba149b50dabf455d", checked := Try.checked }
namespace Rows
def none {H : Type} : Left H := { results := [], args := [] }

/-- 'sheaflaw13.RowRuns': WHATEVER THE INPUT: true; the input reads as it did. -/
def rowRunsSpec : ChangeSpec := { name := "rowRuns", fn := fun _ => fun
  | [] => { results := [.lit (.bool true)], args := [] }
  | _ => none }
def rowRunsRow : OpenClaim := { program := "ytkbjkmhmkefckaa", sum := "b4c54aa94567ff8b93c914650668c3cb97c5fc9113b9a0f0ba149b50dabf455d", func := "sheaf/sheaflaw13.RowRuns", spec := "rowRuns", apart := false }
def RowRunsSaid : Prop := rowRunsRow.holds Try.pinned (OpenSpec.ofChange rowRunsSpec)

/-- ITS FALSE NEIGHBOUR: 'it returns false'. Refute it at one input. -/
def rowRunsWrong : ChangeSpec := { name := "rowRuns", fn := fun _ => fun
  | [] => { results := [.lit (.bool false)], args := [] }
  | _ => none }
def RowRunsWrongFalsely : Prop := rowRunsRow.holds Try.pinned (OpenSpec.ofChange rowRunsWrong)

/-- 'sheaflaw13.RowTells': WHATEVER THE INPUT: true; the input reads as it did. -/
def rowTellsSpec : ChangeSpec := { name := "rowTells", fn := fun _ => fun
  | [d1, d2, d3, d4, d5, d6] => { results := [.lit (.bool true)], args := [d1, d2, d3, d4, d5, d6] }
  | _ => none }
def rowTellsRow : OpenClaim := { program := "ytkbjkmhmkefckaa", sum := "b4c54aa94567ff8b93c914650668c3cb97c5fc9113b9a0f0ba149b50dabf455d", func := "sheaf/sheaflaw13.RowTells", spec := "rowTells", apart := false }
def RowTellsSaid : Prop := rowTellsRow.holds Try.pinned (OpenSpec.ofChange rowTellsSpec)

/-- ITS FALSE NEIGHBOUR: 'it returns false'. Refute it at one input. -/
def rowTellsWrong : ChangeSpec := { name := "rowTells", fn := fun _ => fun
  | [d1, d2, d3, d4, d5, d6] => { results := [.lit (.bool false)], args := [d1, d2, d3, d4, d5, d6] }
  | _ => none }
def RowTellsWrongFalsely : Prop := rowTellsRow.holds Try.pinned (OpenSpec.ofChange rowTellsWrong)

/-- 'sheaflaw13.RowBack': WHATEVER THE INPUT: true; the input reads as it did. -/
def rowBackSpec : ChangeSpec := { name := "rowBack", fn := fun _ => fun
  | [d1, d2, d3] => { results := [.lit (.bool true)], args := [d1, d2, d3] }
  | _ => none }
def rowBackRow : OpenClaim := { program := "ytkbjkmhmkefckaa", sum := "b4c54aa94567ff8b93c914650668c3cb97c5fc9113b9a0f0ba149b50dabf455d", func := "sheaf/sheaflaw13.RowBack", spec := "rowBack", apart := false }
def RowBackSaid : Prop := rowBackRow.holds Try.pinned (OpenSpec.ofChange rowBackSpec)

/-- ITS FALSE NEIGHBOUR: 'it returns false'. Refute it at one input. -/
def rowBackWrong : ChangeSpec := { name := "rowBack", fn := fun _ => fun
  | [d1, d2, d3] => { results := [.lit (.bool false)], args := [d1, d2, d3] }
  | _ => none }
def RowBackWrongFalsely : Prop := rowBackRow.holds Try.pinned (OpenSpec.ofChange rowBackWrong)

/-- 'sheaflaw13.RowOrder': WHATEVER THE INPUT: true; the input reads as it did. -/
def rowOrderSpec : ChangeSpec := { name := "rowOrder", fn := fun _ => fun
  | [d1, d2, d3, d4] => { results := [.lit (.bool true)], args := [d1, d2, d3, d4] }
  | _ => none }
def rowOrderRow : OpenClaim := { program := "ytkbjkmhmkefckaa", sum := "b4c54aa94567ff8b93c914650668c3cb97c5fc9113b9a0f0ba149b50dabf455d", func := "sheaf/sheaflaw13.RowOrder", spec := "rowOrder", apart := false }
def RowOrderSaid : Prop := rowOrderRow.holds Try.pinned (OpenSpec.ofChange rowOrderSpec)

/-- ITS FALSE NEIGHBOUR: 'it returns false'. Refute it at one input. -/
def rowOrderWrong : ChangeSpec := { name := "rowOrder", fn := fun _ => fun
  | [d1, d2, d3, d4] => { results := [.lit (.bool false)], args := [d1, d2, d3, d4] }
  | _ => none }
def RowOrderWrongFalsely : Prop := rowOrderRow.holds Try.pinned (OpenSpec.ofChange rowOrderWrong)

/-- 'sheaflaw13.RowMany': WHATEVER THE INPUT: true; the input reads as it did. -/
def rowManySpec : ChangeSpec := { name := "rowMany", fn := fun _ => fun
  | [d] => { results := [.lit (.bool true)], args := [d] }
  | _ => none }
def rowManyRow : OpenClaim := { program := "ytkbjkmhmkefckaa", sum := "b4c54aa94567ff8b93c914650668c3cb97c5fc9113b9a0f0ba149b50dabf455d", func := "sheaf/sheaflaw13.RowMany", spec := "rowMany", apart := false }
def RowManySaid : Prop := rowManyRow.holds Try.pinned (OpenSpec.ofChange rowManySpec)

/-- ITS FALSE NEIGHBOUR: 'it returns false'. Refute it at one input. -/
def rowManyWrong : ChangeSpec := { name := "rowMany", fn := fun _ => fun
  | [d] => { results := [.lit (.bool false)], args := [d] }
  | _ => none }
def RowManyWrongFalsely : Prop := rowManyRow.holds Try.pinned (OpenSpec.ofChange rowManyWrong)

/-- 'sheaflaw13.RowAlone': WHATEVER THE INPUT: true; the input reads as it did. -/
def rowAloneSpec : ChangeSpec := { name := "rowAlone", fn := fun _ => fun
  | [d1, d2] => { results := [.lit (.bool true)], args := [d1, d2] }
  | _ => none }
def rowAloneRow : OpenClaim := { program := "ytkbjkmhmkefckaa", sum := "b4c54aa94567ff8b93c914650668c3cb97c5fc9113b9a0f0ba149b50dabf455d", func := "sheaf/sheaflaw13.RowAlone", spec := "rowAlone", apart := false }
def RowAloneSaid : Prop := rowAloneRow.holds Try.pinned (OpenSpec.ofChange rowAloneSpec)

/-- ITS FALSE NEIGHBOUR: 'it returns false'. Refute it at one input. -/
def rowAloneWrong : ChangeSpec := { name := "rowAlone", fn := fun _ => fun
  | [d1, d2] => { results := [.lit (.bool false)], args := [d1, d2] }
  | _ => none }
def RowAloneWrongFalsely : Prop := rowAloneRow.holds Try.pinned (OpenSpec.ofChange rowAloneWrong)

/- THE SECOND FORM. 'bulk': how many values and letters a reading holds, each counted each time it is reached (what is shared counts as often as it is met; a slice's spare places count too). A statement '..UptoSaid' is the law's where the arguments, and the package variables that the reading takes, are together of bulk at most 1048576: NARROWER than '..Said'. Prove '..Said' where nothing that the law and all that it calls make is longer than what came in: it says more and counts as full. Else prove '..UptoSaid'. A law counts once. -/
mutual
def uptoBulk {H : Type} : DataW H → Nat
  | .lit (.string bytes) => bytes.length + 1
  | .lit _ => 1
  | .nil => 1
  | .ptr d => uptoBulk d + 1
  | .slice elems spare => uptoBulkAll elems + uptoBulkAll spare + 1
  | .agg parts => uptoBulkAll parts + 1
  | .iface _ d => uptoBulk d + 1
  | .map entries => uptoBulkEntries entries + 1
  | .held _ => 1
def uptoBulkAll {H : Type} : List (DataW H) → Nat
  | [] => 0
  | d :: r => uptoBulk d + uptoBulkAll r
def uptoBulkEntries {H : Type} : List (Lit × DataW H) → Nat
  | [] => 0
  | x :: r => uptoBulkEntry x + uptoBulkEntries r
def uptoBulkEntry {H : Type} : Lit × DataW H → Nat
  | (.string bytes, d) => bytes.length + uptoBulk d + 1
  | (_, d) => uptoBulk d + 1
 end
def uptoSmall : (H : Type) → List (DataW H) → Bool := fun _ ds => decide (uptoBulkAll ds ≤ 1048576)
def OpenSpec.upto (s : _root_.Go.ChangeSpec) : _root_.Go.OpenSpec := { _root_.Go.OpenSpec.ofChange s with cond := some uptoSmall }

/-- 'sheaflaw13.RowRuns', WHERE WHAT IT READS IS OF BULK AT MOST 1048576: true; the input reads as it did. -/
def rowRunsUptoRow : OpenClaim := { program := "ytkbjkmhmkefckaa", sum := "b4c54aa94567ff8b93c914650668c3cb97c5fc9113b9a0f0ba149b50dabf455d", func := "sheaf/sheaflaw13.RowRuns", spec := "rowRuns", apart := false, narrowed := true }
def RowRunsUptoSaid : Prop := rowRunsUptoRow.holds Try.pinned (OpenSpec.upto rowRunsSpec)

/-- 'sheaflaw13.RowTells', WHERE WHAT IT READS IS OF BULK AT MOST 1048576: true; the input reads as it did. -/
def rowTellsUptoRow : OpenClaim := { program := "ytkbjkmhmkefckaa", sum := "b4c54aa94567ff8b93c914650668c3cb97c5fc9113b9a0f0ba149b50dabf455d", func := "sheaf/sheaflaw13.RowTells", spec := "rowTells", apart := false, narrowed := true }
def RowTellsUptoSaid : Prop := rowTellsUptoRow.holds Try.pinned (OpenSpec.upto rowTellsSpec)

/-- 'sheaflaw13.RowBack', WHERE WHAT IT READS IS OF BULK AT MOST 1048576: true; the input reads as it did. -/
def rowBackUptoRow : OpenClaim := { program := "ytkbjkmhmkefckaa", sum := "b4c54aa94567ff8b93c914650668c3cb97c5fc9113b9a0f0ba149b50dabf455d", func := "sheaf/sheaflaw13.RowBack", spec := "rowBack", apart := false, narrowed := true }
def RowBackUptoSaid : Prop := rowBackUptoRow.holds Try.pinned (OpenSpec.upto rowBackSpec)

/-- 'sheaflaw13.RowOrder', WHERE WHAT IT READS IS OF BULK AT MOST 1048576: true; the input reads as it did. -/
def rowOrderUptoRow : OpenClaim := { program := "ytkbjkmhmkefckaa", sum := "b4c54aa94567ff8b93c914650668c3cb97c5fc9113b9a0f0ba149b50dabf455d", func := "sheaf/sheaflaw13.RowOrder", spec := "rowOrder", apart := false, narrowed := true }
def RowOrderUptoSaid : Prop := rowOrderUptoRow.holds Try.pinned (OpenSpec.upto rowOrderSpec)

/-- 'sheaflaw13.RowMany', WHERE WHAT IT READS IS OF BULK AT MOST 1048576: true; the input reads as it did. -/
def rowManyUptoRow : OpenClaim := { program := "ytkbjkmhmkefckaa", sum := "b4c54aa94567ff8b93c914650668c3cb97c5fc9113b9a0f0ba149b50dabf455d", func := "sheaf/sheaflaw13.RowMany", spec := "rowMany", apart := false, narrowed := true }
def RowManyUptoSaid : Prop := rowManyUptoRow.holds Try.pinned (OpenSpec.upto rowManySpec)

/-- 'sheaflaw13.RowAlone', WHERE WHAT IT READS IS OF BULK AT MOST 1048576: true; the input reads as it did. -/
def rowAloneUptoRow : OpenClaim := { program := "ytkbjkmhmkefckaa", sum := "b4c54aa94567ff8b93c914650668c3cb97c5fc9113b9a0f0ba149b50dabf455d", func := "sheaf/sheaflaw13.RowAlone", spec := "rowAlone", apart := false, narrowed := true }
def RowAloneUptoSaid : Prop := rowAloneUptoRow.holds Try.pinned (OpenSpec.upto rowAloneSpec)

end Rows
end Go.Proofs.Ytkbjkmhmkefckaa
