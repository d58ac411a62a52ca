/-
  No cell of these rows narrows 'for every input' (looked for: loops, veiled, ifaces, maps, wideKeys, modest, calm, conditions, laid).
  DERIVED. THE GIVEN ROWS OF THIS SEAT. 12 by the template 'for every input the law returns true; each argument reads behind the call as it read before'; 0 by the template 'total and deterministic' (their statements: YtjmppooebppecaaTotals.lean).
  GIVEN WITH THE SEED: the statements are not yours to turn. If you find one false, say at which input.
  Laid BY PROGRAM, IN A SANDBOX (cutbox-rows.mjs): the forced cells as the released guide's own fill.sh prints them over the translation 2db87bc39e637d05… (all of the seat's roots in one cut). By AI agents, Wed Nov 11 2026. No macro, syntax, notation, axiom, sorry.
-/
import Derived.Test.YtjmppooebppecaaChecked
import GoSem.Claim
import GoSem.ClaimJoined
import GoSem.ClaimMapViews
import Derived.JoinedTies
import Derived.KernelRfl
namespace Go.Proofs.Ytjmppooebppecaa
/- THE CELL 'sum', in the pinned program and in every row, IS THE sha256 OF THE DUMP (.gsa) THAT YtjmppooebppecaaProg.lean LOADS. Nothing in Lean hashes anything: it is a label: what it is worth is what the hold of that sum in a sandbox is worth. -/
noncomputable def Try.pinned : Pinned := { name := "ytjmppooebppecaa", sum := "2db87bc39e637d0581d78f499999e32cc881a98ed0317652b5ccaf6e150196be", checked := Try.checked }
namespace Rows
def none {H : Type} : Left H := { results := [], args := [] }

/-- 'sheaflaw18.PairRuns': WHATEVER THE INPUT: true; the input reads as it did. -/
def pairRunsSpec : ChangeSpec := { name := "pairRuns", fn := fun _ => fun
  | [] => { results := [.lit (.bool true)], args := [] }
  | _ => none }
def pairRunsRow : OpenClaim := { program := "ytjmppooebppecaa", sum := "2db87bc39e637d0581d78f499999e32cc881a98ed0317652b5ccaf6e150196be", func := "sheaf/sheaflaw18.PairRuns", spec := "pairRuns", inPlace := ["math/bits.Add64"], apart := false }
def PairRunsSaid : Prop := pairRunsRow.holds Try.pinned (OpenSpec.ofChange pairRunsSpec)

/-- ITS FALSE NEIGHBOUR: 'it returns false'. Refute it at one input. -/
def pairRunsWrong : ChangeSpec := { name := "pairRuns", fn := fun _ => fun
  | [] => { results := [.lit (.bool false)], args := [] }
  | _ => none }
def PairRunsWrongFalsely : Prop := pairRunsRow.holds Try.pinned (OpenSpec.ofChange pairRunsWrong)

/-- 'sheaflaw18.PairKey': WHATEVER THE INPUT: true; the input reads as it did. -/
def pairKeySpec : ChangeSpec := { name := "pairKey", fn := fun _ => fun
  | [d1, d2] => { results := [.lit (.bool true)], args := [d1, d2] }
  | _ => none }
def pairKeyRow : OpenClaim := { program := "ytjmppooebppecaa", sum := "2db87bc39e637d0581d78f499999e32cc881a98ed0317652b5ccaf6e150196be", func := "sheaf/sheaflaw18.PairKey", spec := "pairKey", inPlace := ["math/bits.Add64"], apart := false }
def PairKeySaid : Prop := pairKeyRow.holds Try.pinned (OpenSpec.ofChange pairKeySpec)

/-- ITS FALSE NEIGHBOUR: 'it returns false'. Refute it at one input. -/
def pairKeyWrong : ChangeSpec := { name := "pairKey", fn := fun _ => fun
  | [d1, d2] => { results := [.lit (.bool false)], args := [d1, d2] }
  | _ => none }
def PairKeyWrongFalsely : Prop := pairKeyRow.holds Try.pinned (OpenSpec.ofChange pairKeyWrong)

/-- 'sheaflaw19.SumsRuns': WHATEVER THE INPUT: true; the input reads as it did. -/
def sumsRunsSpec : ChangeSpec := { name := "sumsRuns", fn := fun _ => fun
  | [] => { results := [.lit (.bool true)], args := [] }
  | _ => none }
def sumsRunsRow : OpenClaim := { program := "ytjmppooebppecaa", sum := "2db87bc39e637d0581d78f499999e32cc881a98ed0317652b5ccaf6e150196be", func := "sheaf/sheaflaw19.SumsRuns", spec := "sumsRuns", inPlace := ["math/bits.Add64"], unfollowed := true, recurses := true, apart := false }
def SumsRunsSaid : Prop := sumsRunsRow.holds Try.pinned (OpenSpec.ofChange sumsRunsSpec)

/-- ITS FALSE NEIGHBOUR: 'it returns false'. Refute it at one input. -/
def sumsRunsWrong : ChangeSpec := { name := "sumsRuns", fn := fun _ => fun
  | [] => { results := [.lit (.bool false)], args := [] }
  | _ => none }
def SumsRunsWrongFalsely : Prop := sumsRunsRow.holds Try.pinned (OpenSpec.ofChange sumsRunsWrong)

/-- 'sheaflaw19.SumsTotal': WHATEVER THE INPUT: true; the input reads as it did. -/
def sumsTotalSpec : ChangeSpec := { name := "sumsTotal", fn := fun _ => fun
  | [d1, d2] => { results := [.lit (.bool true)], args := [d1, d2] }
  | _ => none }
def sumsTotalRow : OpenClaim := { program := "ytjmppooebppecaa", sum := "2db87bc39e637d0581d78f499999e32cc881a98ed0317652b5ccaf6e150196be", func := "sheaf/sheaflaw19.SumsTotal", spec := "sumsTotal", inPlace := ["math/bits.Add64"], unfollowed := true, recurses := true, apart := false }
def SumsTotalSaid : Prop := sumsTotalRow.holds Try.pinned (OpenSpec.ofChange sumsTotalSpec)

/-- ITS FALSE NEIGHBOUR: 'it returns false'. Refute it at one input. -/
def sumsTotalWrong : ChangeSpec := { name := "sumsTotal", fn := fun _ => fun
  | [d1, d2] => { results := [.lit (.bool false)], args := [d1, d2] }
  | _ => none }
def SumsTotalWrongFalsely : Prop := sumsTotalRow.holds Try.pinned (OpenSpec.ofChange sumsTotalWrong)

/-- 'sheaflaw19.SumsOrder': WHATEVER THE INPUT: true; the input reads as it did. -/
def sumsOrderSpec : ChangeSpec := { name := "sumsOrder", fn := fun _ => fun
  | [d1, d2] => { results := [.lit (.bool true)], args := [d1, d2] }
  | _ => none }
def sumsOrderRow : OpenClaim := { program := "ytjmppooebppecaa", sum := "2db87bc39e637d0581d78f499999e32cc881a98ed0317652b5ccaf6e150196be", func := "sheaf/sheaflaw19.SumsOrder", spec := "sumsOrder", inPlace := ["math/bits.Add64"], unfollowed := true, recurses := true, apart := false }
def SumsOrderSaid : Prop := sumsOrderRow.holds Try.pinned (OpenSpec.ofChange sumsOrderSpec)

/-- ITS FALSE NEIGHBOUR: 'it returns false'. Refute it at one input. -/
def sumsOrderWrong : ChangeSpec := { name := "sumsOrder", fn := fun _ => fun
  | [d1, d2] => { results := [.lit (.bool false)], args := [d1, d2] }
  | _ => none }
def SumsOrderWrongFalsely : Prop := sumsOrderRow.holds Try.pinned (OpenSpec.ofChange sumsOrderWrong)

/-- 'sheaflaw19.SumsNest': WHATEVER THE INPUT: true; the input reads as it did. -/
def sumsNestSpec : ChangeSpec := { name := "sumsNest", fn := fun _ => fun
  | [d] => { results := [.lit (.bool true)], args := [d] }
  | _ => none }
def sumsNestRow : OpenClaim := { program := "ytjmppooebppecaa", sum := "2db87bc39e637d0581d78f499999e32cc881a98ed0317652b5ccaf6e150196be", func := "sheaf/sheaflaw19.SumsNest", spec := "sumsNest", inPlace := ["math/bits.Add64"], unfollowed := true, recurses := true, apart := false }
def SumsNestSaid : Prop := sumsNestRow.holds Try.pinned (OpenSpec.ofChange sumsNestSpec)

/-- ITS FALSE NEIGHBOUR: 'it returns false'. Refute it at one input. -/
def sumsNestWrong : ChangeSpec := { name := "sumsNest", fn := fun _ => fun
  | [d] => { results := [.lit (.bool false)], args := [d] }
  | _ => none }
def SumsNestWrongFalsely : Prop := sumsNestRow.holds Try.pinned (OpenSpec.ofChange sumsNestWrong)

/-- 'sheaflaw18.PairCancel': WHATEVER THE INPUT: true; the input reads as it did. -/
def pairCancelSpec : ChangeSpec := { name := "pairCancel", fn := fun _ => fun
  | [d1, d2, d3, d4] => { results := [.lit (.bool true)], args := [d1, d2, d3, d4] }
  | _ => none }
def pairCancelRow : OpenClaim := { program := "ytjmppooebppecaa", sum := "2db87bc39e637d0581d78f499999e32cc881a98ed0317652b5ccaf6e150196be", func := "sheaf/sheaflaw18.PairCancel", spec := "pairCancel", inPlace := ["math/bits.Add64"], apart := false }
def PairCancelSaid : Prop := pairCancelRow.holds Try.pinned (OpenSpec.ofChange pairCancelSpec)

/-- ITS FALSE NEIGHBOUR: 'it returns false'. Refute it at one input. -/
def pairCancelWrong : ChangeSpec := { name := "pairCancel", fn := fun _ => fun
  | [d1, d2, d3, d4] => { results := [.lit (.bool false)], args := [d1, d2, d3, d4] }
  | _ => none }
def PairCancelWrongFalsely : Prop := pairCancelRow.holds Try.pinned (OpenSpec.ofChange pairCancelWrong)

/-- 'sheaflaw19.SumsRound': WHATEVER THE INPUT: true; the input reads as it did. -/
def sumsRoundSpec : ChangeSpec := { name := "sumsRound", fn := fun _ => fun
  | [d1, d2] => { results := [.lit (.bool true)], args := [d1, d2] }
  | _ => none }
def sumsRoundRow : OpenClaim := { program := "ytjmppooebppecaa", sum := "2db87bc39e637d0581d78f499999e32cc881a98ed0317652b5ccaf6e150196be", func := "sheaf/sheaflaw19.SumsRound", spec := "sumsRound", inPlace := ["math/bits.Add64"], unfollowed := true, recurses := true, apart := false }
def SumsRoundSaid : Prop := sumsRoundRow.holds Try.pinned (OpenSpec.ofChange sumsRoundSpec)

/-- ITS FALSE NEIGHBOUR: 'it returns false'. Refute it at one input. -/
def sumsRoundWrong : ChangeSpec := { name := "sumsRound", fn := fun _ => fun
  | [d1, d2] => { results := [.lit (.bool false)], args := [d1, d2] }
  | _ => none }
def SumsRoundWrongFalsely : Prop := sumsRoundRow.holds Try.pinned (OpenSpec.ofChange sumsRoundWrong)

/-- 'sheaflaw19.SumsRounding': WHATEVER THE INPUT: true; the input reads as it did. -/
def sumsRoundingSpec : ChangeSpec := { name := "sumsRounding", fn := fun _ => fun
  | [d1, d2] => { results := [.lit (.bool true)], args := [d1, d2] }
  | _ => none }
def sumsRoundingRow : OpenClaim := { program := "ytjmppooebppecaa", sum := "2db87bc39e637d0581d78f499999e32cc881a98ed0317652b5ccaf6e150196be", func := "sheaf/sheaflaw19.SumsRounding", spec := "sumsRounding", inPlace := ["math/bits.Add64"], unfollowed := true, recurses := true, apart := false }
def SumsRoundingSaid : Prop := sumsRoundingRow.holds Try.pinned (OpenSpec.ofChange sumsRoundingSpec)

/-- ITS FALSE NEIGHBOUR: 'it returns false'. Refute it at one input. -/
def sumsRoundingWrong : ChangeSpec := { name := "sumsRounding", fn := fun _ => fun
  | [d1, d2] => { results := [.lit (.bool false)], args := [d1, d2] }
  | _ => none }
def SumsRoundingWrongFalsely : Prop := sumsRoundingRow.holds Try.pinned (OpenSpec.ofChange sumsRoundingWrong)

/-- 'sheaflaw18.PairParts': WHATEVER THE INPUT: true; the input reads as it did. -/
def pairPartsSpec : ChangeSpec := { name := "pairParts", fn := fun _ => fun
  | [d] => { results := [.lit (.bool true)], args := [d] }
  | _ => none }
def pairPartsRow : OpenClaim := { program := "ytjmppooebppecaa", sum := "2db87bc39e637d0581d78f499999e32cc881a98ed0317652b5ccaf6e150196be", func := "sheaf/sheaflaw18.PairParts", spec := "pairParts", inPlace := ["math/bits.Add64"], unfollowed := true, recurses := true, apart := false }
def PairPartsSaid : Prop := pairPartsRow.holds Try.pinned (OpenSpec.ofChange pairPartsSpec)

/-- ITS FALSE NEIGHBOUR: 'it returns false'. Refute it at one input. -/
def pairPartsWrong : ChangeSpec := { name := "pairParts", fn := fun _ => fun
  | [d] => { results := [.lit (.bool false)], args := [d] }
  | _ => none }
def PairPartsWrongFalsely : Prop := pairPartsRow.holds Try.pinned (OpenSpec.ofChange pairPartsWrong)

/-- 'sheaflaw18.PairSums': WHATEVER THE INPUT: true; the input reads as it did. -/
def pairSumsSpec : ChangeSpec := { name := "pairSums", fn := fun _ => fun
  | [d] => { results := [.lit (.bool true)], args := [d] }
  | _ => none }
def pairSumsRow : OpenClaim := { program := "ytjmppooebppecaa", sum := "2db87bc39e637d0581d78f499999e32cc881a98ed0317652b5ccaf6e150196be", func := "sheaf/sheaflaw18.PairSums", spec := "pairSums", inPlace := ["math/bits.Add64"], unfollowed := true, recurses := true, apart := false }
def PairSumsSaid : Prop := pairSumsRow.holds Try.pinned (OpenSpec.ofChange pairSumsSpec)

/-- ITS FALSE NEIGHBOUR: 'it returns false'. Refute it at one input. -/
def pairSumsWrong : ChangeSpec := { name := "pairSums", fn := fun _ => fun
  | [d] => { results := [.lit (.bool false)], args := [d] }
  | _ => none }
def PairSumsWrongFalsely : Prop := pairSumsRow.holds Try.pinned (OpenSpec.ofChange pairSumsWrong)

/-- 'sheaflaw18.PairTwice': WHATEVER THE INPUT: true; the input reads as it did. -/
def pairTwiceSpec : ChangeSpec := { name := "pairTwice", fn := fun _ => fun
  | [d1, d2, d3] => { results := [.lit (.bool true)], args := [d1, d2, d3] }
  | _ => none }
def pairTwiceRow : OpenClaim := { program := "ytjmppooebppecaa", sum := "2db87bc39e637d0581d78f499999e32cc881a98ed0317652b5ccaf6e150196be", func := "sheaf/sheaflaw18.PairTwice", spec := "pairTwice", inPlace := ["math/bits.Add64"], unfollowed := true, recurses := true, apart := false }
def PairTwiceSaid : Prop := pairTwiceRow.holds Try.pinned (OpenSpec.ofChange pairTwiceSpec)

/-- ITS FALSE NEIGHBOUR: 'it returns false'. Refute it at one input. -/
def pairTwiceWrong : ChangeSpec := { name := "pairTwice", fn := fun _ => fun
  | [d1, d2, d3] => { results := [.lit (.bool false)], args := [d1, d2, d3] }
  | _ => none }
def PairTwiceWrongFalsely : Prop := pairTwiceRow.holds Try.pinned (OpenSpec.ofChange pairTwiceWrong)

/- THE SECOND FORM. 'bulk': how many values and letters a reading holds, each counted each time it is reached (what is shared counts as often as it is met; a slice's spare places count too). A statement '..UptoSaid' is the law's where the arguments, and the package variables that the reading takes, are together of bulk at most 1048576: NARROWER than '..Said'. Prove '..Said' where nothing that the law and all that it calls make is longer than what came in: it says more and counts as full. Else prove '..UptoSaid'. A law counts once. -/
mutual
def uptoBulk {H : Type} : DataW H → Nat
  | .lit (.string bytes) => bytes.length + 1
  | .lit _ => 1
  | .nil => 1
  | .ptr d => uptoBulk d + 1
  | .slice elems spare => uptoBulkAll elems + uptoBulkAll spare + 1
  | .agg parts => uptoBulkAll parts + 1
  | .iface _ d => uptoBulk d + 1
  | .map entries => uptoBulkEntries entries + 1
  | .held _ => 1
def uptoBulkAll {H : Type} : List (DataW H) → Nat
  | [] => 0
  | d :: r => uptoBulk d + uptoBulkAll r
def uptoBulkEntries {H : Type} : List (Lit × DataW H) → Nat
  | [] => 0
  | x :: r => uptoBulkEntry x + uptoBulkEntries r
def uptoBulkEntry {H : Type} : Lit × DataW H → Nat
  | (.string bytes, d) => bytes.length + uptoBulk d + 1
  | (_, d) => uptoBulk d + 1
 end
def uptoSmall : (H : Type) → List (DataW H) → Bool := fun _ ds => decide (uptoBulkAll ds ≤ 1048576)
def OpenSpec.upto (s : _root_.Go.ChangeSpec) : _root_.Go.OpenSpec := { _root_.Go.OpenSpec.ofChange s with cond := some uptoSmall }

/-- 'sheaflaw18.PairRuns', WHERE WHAT IT READS IS OF BULK AT MOST 1048576: true; the input reads as it did. -/
def pairRunsUptoRow : OpenClaim := { program := "ytjmppooebppecaa", sum := "2db87bc39e637d0581d78f499999e32cc881a98ed0317652b5ccaf6e150196be", func := "sheaf/sheaflaw18.PairRuns", spec := "pairRuns", inPlace := ["math/bits.Add64"], apart := false, narrowed := true }
def PairRunsUptoSaid : Prop := pairRunsUptoRow.holds Try.pinned (OpenSpec.upto pairRunsSpec)

/-- 'sheaflaw18.PairKey', WHERE WHAT IT READS IS OF BULK AT MOST 1048576: true; the input reads as it did. -/
def pairKeyUptoRow : OpenClaim := { program := "ytjmppooebppecaa", sum := "2db87bc39e637d0581d78f499999e32cc881a98ed0317652b5ccaf6e150196be", func := "sheaf/sheaflaw18.PairKey", spec := "pairKey", inPlace := ["math/bits.Add64"], apart := false, narrowed := true }
def PairKeyUptoSaid : Prop := pairKeyUptoRow.holds Try.pinned (OpenSpec.upto pairKeySpec)

/-- 'sheaflaw19.SumsRuns', WHERE WHAT IT READS IS OF BULK AT MOST 1048576: true; the input reads as it did. -/
def sumsRunsUptoRow : OpenClaim := { program := "ytjmppooebppecaa", sum := "2db87bc39e637d0581d78f499999e32cc881a98ed0317652b5ccaf6e150196be", func := "sheaf/sheaflaw19.SumsRuns", spec := "sumsRuns", inPlace := ["math/bits.Add64"], unfollowed := true, recurses := true, apart := false, narrowed := true }
def SumsRunsUptoSaid : Prop := sumsRunsUptoRow.holds Try.pinned (OpenSpec.upto sumsRunsSpec)

/-- 'sheaflaw19.SumsTotal', WHERE WHAT IT READS IS OF BULK AT MOST 1048576: true; the input reads as it did. -/
def sumsTotalUptoRow : OpenClaim := { program := "ytjmppooebppecaa", sum := "2db87bc39e637d0581d78f499999e32cc881a98ed0317652b5ccaf6e150196be", func := "sheaf/sheaflaw19.SumsTotal", spec := "sumsTotal", inPlace := ["math/bits.Add64"], unfollowed := true, recurses := true, apart := false, narrowed := true }
def SumsTotalUptoSaid : Prop := sumsTotalUptoRow.holds Try.pinned (OpenSpec.upto sumsTotalSpec)

/-- 'sheaflaw19.SumsOrder', WHERE WHAT IT READS IS OF BULK AT MOST 1048576: true; the input reads as it did. -/
def sumsOrderUptoRow : OpenClaim := { program := "ytjmppooebppecaa", sum := "2db87bc39e637d0581d78f499999e32cc881a98ed0317652b5ccaf6e150196be", func := "sheaf/sheaflaw19.SumsOrder", spec := "sumsOrder", inPlace := ["math/bits.Add64"], unfollowed := true, recurses := true, apart := false, narrowed := true }
def SumsOrderUptoSaid : Prop := sumsOrderUptoRow.holds Try.pinned (OpenSpec.upto sumsOrderSpec)

/-- 'sheaflaw19.SumsNest', WHERE WHAT IT READS IS OF BULK AT MOST 1048576: true; the input reads as it did. -/
def sumsNestUptoRow : OpenClaim := { program := "ytjmppooebppecaa", sum := "2db87bc39e637d0581d78f499999e32cc881a98ed0317652b5ccaf6e150196be", func := "sheaf/sheaflaw19.SumsNest", spec := "sumsNest", inPlace := ["math/bits.Add64"], unfollowed := true, recurses := true, apart := false, narrowed := true }
def SumsNestUptoSaid : Prop := sumsNestUptoRow.holds Try.pinned (OpenSpec.upto sumsNestSpec)

/-- 'sheaflaw18.PairCancel', WHERE WHAT IT READS IS OF BULK AT MOST 1048576: true; the input reads as it did. -/
def pairCancelUptoRow : OpenClaim := { program := "ytjmppooebppecaa", sum := "2db87bc39e637d0581d78f499999e32cc881a98ed0317652b5ccaf6e150196be", func := "sheaf/sheaflaw18.PairCancel", spec := "pairCancel", inPlace := ["math/bits.Add64"], apart := false, narrowed := true }
def PairCancelUptoSaid : Prop := pairCancelUptoRow.holds Try.pinned (OpenSpec.upto pairCancelSpec)

/-- 'sheaflaw19.SumsRound', WHERE WHAT IT READS IS OF BULK AT MOST 1048576: true; the input reads as it did. -/
def sumsRoundUptoRow : OpenClaim := { program := "ytjmppooebppecaa", sum := "2db87bc39e637d0581d78f499999e32cc881a98ed0317652b5ccaf6e150196be", func := "sheaf/sheaflaw19.SumsRound", spec := "sumsRound", inPlace := ["math/bits.Add64"], unfollowed := true, recurses := true, apart := false, narrowed := true }
def SumsRoundUptoSaid : Prop := sumsRoundUptoRow.holds Try.pinned (OpenSpec.upto sumsRoundSpec)

/-- 'sheaflaw19.SumsRounding', WHERE WHAT IT READS IS OF BULK AT MOST 1048576: true; the input reads as it did. -/
def sumsRoundingUptoRow : OpenClaim := { program := "ytjmppooebppecaa", sum := "2db87bc39e637d0581d78f499999e32cc881a98ed0317652b5ccaf6e150196be", func := "sheaf/sheaflaw19.SumsRounding", spec := "sumsRounding", inPlace := ["math/bits.Add64"], unfollowed := true, recurses := true, apart := false, narrowed := true }
def SumsRoundingUptoSaid : Prop := sumsRoundingUptoRow.holds Try.pinned (OpenSpec.upto sumsRoundingSpec)

/-- 'sheaflaw18.PairParts', WHERE WHAT IT READS IS OF BULK AT MOST 1048576: true; the input reads as it did. -/
def pairPartsUptoRow : OpenClaim := { program := "ytjmppooebppecaa", sum := "2db87bc39e637d0581d78f499999e32cc881a98ed0317652b5ccaf6e150196be", func := "sheaf/sheaflaw18.PairParts", spec := "pairParts", inPlace := ["math/bits.Add64"], unfollowed := true, recurses := true, apart := false, narrowed := true }
def PairPartsUptoSaid : Prop := pairPartsUptoRow.holds Try.pinned (OpenSpec.upto pairPartsSpec)

/-- 'sheaflaw18.PairSums', WHERE WHAT IT READS IS OF BULK AT MOST 1048576: true; the input reads as it did. -/
def pairSumsUptoRow : OpenClaim := { program := "ytjmppooebppecaa", sum := "2db87bc39e637d0581d78f499999e32cc881a98ed0317652b5ccaf6e150196be", func := "sheaf/sheaflaw18.PairSums", spec := "pairSums", inPlace := ["math/bits.Add64"], unfollowed := true, recurses := true, apart := false, narrowed := true }
def PairSumsUptoSaid : Prop := pairSumsUptoRow.holds Try.pinned (OpenSpec.upto pairSumsSpec)

/-- 'sheaflaw18.PairTwice', WHERE WHAT IT READS IS OF BULK AT MOST 1048576: true; the input reads as it did. -/
def pairTwiceUptoRow : OpenClaim := { program := "ytjmppooebppecaa", sum := "2db87bc39e637d0581d78f499999e32cc881a98ed0317652b5ccaf6e150196be", func := "sheaf/sheaflaw18.PairTwice", spec := "pairTwice", inPlace := ["math/bits.Add64"], unfollowed := true, recurses := true, apart := false, narrowed := true }
def PairTwiceUptoSaid : Prop := pairTwiceUptoRow.holds Try.pinned (OpenSpec.upto pairTwiceSpec)

end Rows
end Go.Proofs.Ytjmppooebppecaa
