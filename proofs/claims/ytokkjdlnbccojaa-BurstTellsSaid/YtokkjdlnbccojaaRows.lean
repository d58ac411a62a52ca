/-
  No cell of these rows narrows 'for every input' (looked for: loops, veiled, ifaces, maps, wideKeys, modest, calm, conditions, laid).
  DERIVED. THE GIVEN ROWS OF THIS SEAT. 5 by the template 'for every input the law returns true; each argument reads behind the call as it read before'; 0 by the template 'total and deterministic' (their statements: YtokkjdlnbccojaaTotals.lean).
  GIVEN WITH THE SEED: the statements are not yours to turn. If you find one false, say at which input.
  Laid BY PROGRAM, IN A SANDBOX (cutbox-rows.mjs): the forced cells as the released guide's own fill.sh prints them over the translation 1b406ae5f99dcfda… (all of the seat's roots in one cut). By AI agents, Wed Nov 11 2026. No macro, syntax, notation, axiom, sorry.
-/
import Derived.Test.YtokkjdlnbccojaaChecked
import GoSem.Claim
import GoSem.ClaimJoined
import GoSem.ClaimMapViews
import Derived.JoinedTies
import Derived.KernelRfl
namespace Go.Proofs.Ytokkjdlnbccojaa
/- THE CELL 'sum', in the pinned program and in every row, IS THE sha256 OF THE DUMP (.gsa) THAT YtokkjdlnbccojaaProg.lean LOADS. Nothing in Lean hashes anything: it is a label: what it is worth is what the hold of that sum in a sandbox is worth. -/
noncomputable def Try.pinned : Pinned := { name := "ytokkjdlnbccojaa", sum := "1b406ae5f99dcfdae849069055b6da0a9c5722dad36d637d0e35b2ca291439b5", checked := Try.checked }
namespace Rows
def none {H : Type} : Left H := { results := [], args := [] }

/-- 'sheaflaw3.BurstRuns': WHATEVER THE INPUT: true; the input reads as it did. -/
def burstRunsSpec : ChangeSpec := { name := "burstRuns", fn := fun _ => fun
  | [] => { results := [.lit (.bool true)], args := [] }
  | _ => none }
def burstRunsRow : OpenClaim := { program := "ytokkjdlnbccojaa", sum := "1b406ae5f99dcfdae849069055b6da0a9c5722dad36d637d0e35b2ca291439b5", func := "sheaf/sheaflaw3.BurstRuns", spec := "burstRuns", apart := false }
def BurstRunsSaid : Prop := burstRunsRow.holds Try.pinned (OpenSpec.ofChange burstRunsSpec)

/-- ITS FALSE NEIGHBOUR: 'it returns false'. Refute it at one input. -/
def burstRunsWrong : ChangeSpec := { name := "burstRuns", fn := fun _ => fun
  | [] => { results := [.lit (.bool false)], args := [] }
  | _ => none }
def BurstRunsWrongFalsely : Prop := burstRunsRow.holds Try.pinned (OpenSpec.ofChange burstRunsWrong)

/-- 'sheaflaw3.BurstTells': WHATEVER THE INPUT: true; the input reads as it did. -/
def burstTellsSpec : ChangeSpec := { name := "burstTells", fn := fun _ => fun
  | [d] => { results := [.lit (.bool true)], args := [d] }
  | _ => none }
def burstTellsRow : OpenClaim := { program := "ytokkjdlnbccojaa", sum := "1b406ae5f99dcfdae849069055b6da0a9c5722dad36d637d0e35b2ca291439b5", func := "sheaf/sheaflaw3.BurstTells", spec := "burstTells", apart := false }
def BurstTellsSaid : Prop := burstTellsRow.holds Try.pinned (OpenSpec.ofChange burstTellsSpec)

/-- ITS FALSE NEIGHBOUR: 'it returns false'. Refute it at one input. -/
def burstTellsWrong : ChangeSpec := { name := "burstTells", fn := fun _ => fun
  | [d] => { results := [.lit (.bool false)], args := [d] }
  | _ => none }
def BurstTellsWrongFalsely : Prop := burstTellsRow.holds Try.pinned (OpenSpec.ofChange burstTellsWrong)

/-- 'sheaflaw3.BurstFound': WHATEVER THE INPUT: true; the input reads as it did. -/
def burstFoundSpec : ChangeSpec := { name := "burstFound", fn := fun _ => fun
  | [d1, d2, d3] => { results := [.lit (.bool true)], args := [d1, d2, d3] }
  | _ => none }
def burstFoundRow : OpenClaim := { program := "ytokkjdlnbccojaa", sum := "1b406ae5f99dcfdae849069055b6da0a9c5722dad36d637d0e35b2ca291439b5", func := "sheaf/sheaflaw3.BurstFound", spec := "burstFound", unfollowed := true, recurses := true, apart := false }
def BurstFoundSaid : Prop := burstFoundRow.holds Try.pinned (OpenSpec.ofChange burstFoundSpec)

/-- ITS FALSE NEIGHBOUR: 'it returns false'. Refute it at one input. -/
def burstFoundWrong : ChangeSpec := { name := "burstFound", fn := fun _ => fun
  | [d1, d2, d3] => { results := [.lit (.bool false)], args := [d1, d2, d3] }
  | _ => none }
def BurstFoundWrongFalsely : Prop := burstFoundRow.holds Try.pinned (OpenSpec.ofChange burstFoundWrong)

/-- 'sheaflaw3.BurstApart': WHATEVER THE INPUT: true; the input reads as it did. -/
def burstApartSpec : ChangeSpec := { name := "burstApart", fn := fun _ => fun
  | [d1, d2, d3, d4, d5] => { results := [.lit (.bool true)], args := [d1, d2, d3, d4, d5] }
  | _ => none }
def burstApartRow : OpenClaim := { program := "ytokkjdlnbccojaa", sum := "1b406ae5f99dcfdae849069055b6da0a9c5722dad36d637d0e35b2ca291439b5", func := "sheaf/sheaflaw3.BurstApart", spec := "burstApart", apart := false }
def BurstApartSaid : Prop := burstApartRow.holds Try.pinned (OpenSpec.ofChange burstApartSpec)

/-- ITS FALSE NEIGHBOUR: 'it returns false'. Refute it at one input. -/
def burstApartWrong : ChangeSpec := { name := "burstApart", fn := fun _ => fun
  | [d1, d2, d3, d4, d5] => { results := [.lit (.bool false)], args := [d1, d2, d3, d4, d5] }
  | _ => none }
def BurstApartWrongFalsely : Prop := burstApartRow.holds Try.pinned (OpenSpec.ofChange burstApartWrong)

/-- 'sheaflaw3.BurstMoves': WHATEVER THE INPUT: true; the input reads as it did. -/
def burstMovesSpec : ChangeSpec := { name := "burstMoves", fn := fun _ => fun
  | [d1, d2, d3] => { results := [.lit (.bool true)], args := [d1, d2, d3] }
  | _ => none }
def burstMovesRow : OpenClaim := { program := "ytokkjdlnbccojaa", sum := "1b406ae5f99dcfdae849069055b6da0a9c5722dad36d637d0e35b2ca291439b5", func := "sheaf/sheaflaw3.BurstMoves", spec := "burstMoves", apart := false }
def BurstMovesSaid : Prop := burstMovesRow.holds Try.pinned (OpenSpec.ofChange burstMovesSpec)

/-- ITS FALSE NEIGHBOUR: 'it returns false'. Refute it at one input. -/
def burstMovesWrong : ChangeSpec := { name := "burstMoves", fn := fun _ => fun
  | [d1, d2, d3] => { results := [.lit (.bool false)], args := [d1, d2, d3] }
  | _ => none }
def BurstMovesWrongFalsely : Prop := burstMovesRow.holds Try.pinned (OpenSpec.ofChange burstMovesWrong)

/- THE SECOND FORM. 'bulk': how many values and letters a reading holds, each counted each time it is reached (what is shared counts as often as it is met; a slice's spare places count too). A statement '..UptoSaid' is the law's where the arguments, and the package variables that the reading takes, are together of bulk at most 1048576: NARROWER than '..Said'. Prove '..Said' where nothing that the law and all that it calls make is longer than what came in: it says more and counts as full. Else prove '..UptoSaid'. A law counts once. -/
mutual
def uptoBulk {H : Type} : DataW H → Nat
  | .lit (.string bytes) => bytes.length + 1
  | .lit _ => 1
  | .nil => 1
  | .ptr d => uptoBulk d + 1
  | .slice elems spare => uptoBulkAll elems + uptoBulkAll spare + 1
  | .agg parts => uptoBulkAll parts + 1
  | .iface _ d => uptoBulk d + 1
  | .map entries => uptoBulkEntries entries + 1
  | .held _ => 1
def uptoBulkAll {H : Type} : List (DataW H) → Nat
  | [] => 0
  | d :: r => uptoBulk d + uptoBulkAll r
def uptoBulkEntries {H : Type} : List (Lit × DataW H) → Nat
  | [] => 0
  | x :: r => uptoBulkEntry x + uptoBulkEntries r
def uptoBulkEntry {H : Type} : Lit × DataW H → Nat
  | (.string bytes, d) => bytes.length + uptoBulk d + 1
  | (_, d) => uptoBulk d + 1
 end
def uptoSmall : (H : Type) → List (DataW H) → Bool := fun _ ds => decide (uptoBulkAll ds ≤ 1048576)
def OpenSpec.upto (s : _root_.Go.ChangeSpec) : _root_.Go.OpenSpec := { _root_.Go.OpenSpec.ofChange s with cond := some uptoSmall }

/-- 'sheaflaw3.BurstRuns', WHERE WHAT IT READS IS OF BULK AT MOST 1048576: true; the input reads as it did. -/
def burstRunsUptoRow : OpenClaim := { program := "ytokkjdlnbccojaa", sum := "1b406ae5f99dcfdae849069055b6da0a9c5722dad36d637d0e35b2ca291439b5", func := "sheaf/sheaflaw3.BurstRuns", spec := "burstRuns", apart := false, narrowed := true }
def BurstRunsUptoSaid : Prop := burstRunsUptoRow.holds Try.pinned (OpenSpec.upto burstRunsSpec)

/-- 'sheaflaw3.BurstTells', WHERE WHAT IT READS IS OF BULK AT MOST 1048576: true; the input reads as it did. -/
def burstTellsUptoRow : OpenClaim := { program := "ytokkjdlnbccojaa", sum := "1b406ae5f99dcfdae849069055b6da0a9c5722dad36d637d0e35b2ca291439b5", func := "sheaf/sheaflaw3.BurstTells", spec := "burstTells", apart := false, narrowed := true }
def BurstTellsUptoSaid : Prop := burstTellsUptoRow.holds Try.pinned (OpenSpec.upto burstTellsSpec)

/-- 'sheaflaw3.BurstFound', WHERE WHAT IT READS IS OF BULK AT MOST 1048576: true; the input reads as it did. -/
def burstFoundUptoRow : OpenClaim := { program := "ytokkjdlnbccojaa", sum := "1b406ae5f99dcfdae849069055b6da0a9c5722dad36d637d0e35b2ca291439b5", func := "sheaf/sheaflaw3.BurstFound", spec := "burstFound", unfollowed := true, recurses := true, apart := false, narrowed := true }
def BurstFoundUptoSaid : Prop := burstFoundUptoRow.holds Try.pinned (OpenSpec.upto burstFoundSpec)

/-- 'sheaflaw3.BurstApart', WHERE WHAT IT READS IS OF BULK AT MOST 1048576: true; the input reads as it did. -/
def burstApartUptoRow : OpenClaim := { program := "ytokkjdlnbccojaa", sum := "1b406ae5f99dcfdae849069055b6da0a9c5722dad36d637d0e35b2ca291439b5", func := "sheaf/sheaflaw3.BurstApart", spec := "burstApart", apart := false, narrowed := true }
def BurstApartUptoSaid : Prop := burstApartUptoRow.holds Try.pinned (OpenSpec.upto burstApartSpec)

/-- 'sheaflaw3.BurstMoves', WHERE WHAT IT READS IS OF BULK AT MOST 1048576: true; the input reads as it did. -/
def burstMovesUptoRow : OpenClaim := { program := "ytokkjdlnbccojaa", sum := "1b406ae5f99dcfdae849069055b6da0a9c5722dad36d637d0e35b2ca291439b5", func := "sheaf/sheaflaw3.BurstMoves", spec := "burstMoves", apart := false, narrowed := true }
def BurstMovesUptoSaid : Prop := burstMovesUptoRow.holds Try.pinned (OpenSpec.upto burstMovesSpec)

end Rows
end Go.Proofs.Ytokkjdlnbccojaa
