/-
  Clamp.
-/
import Derived.Test.YtmgdmldmialiiaaCodeBook
namespace Go.Proofs.Ytmgdmldmialiiaa.W
open Go.Abs
set_option linter.unusedSimpArgs false
set_option linter.unusedVariables false

set_option maxRecDepth 100000 in
theorem Clamp_ans (n lo hi : Int) : Ans E F_sheafbook_Clamp [.int .i64 n, .int .i64 lo, .int .i64 hi] (.int .i64 (if n < lo then lo else if hi < n then hi else n)) := by
  refine .of fn_sheafbook_Clamp (by simp) fun m => ?_
  simp (decide := true) (implicitDefEqProofs := false) (maxDischargeDepth := 20) only [go_sem, ↓reduceIte, true_implies, false_implies, decide_eq_true_eq, decide_eq_false_iff_not, gt_iff_lt]
  refine ⟨fun h => by rw [if_pos h], fun h => ⟨fun h2 => by rw [if_neg h, if_pos h2], fun h2 => by rw [if_neg h, if_neg h2]⟩⟩
end Go.Proofs.Ytmgdmldmialiiaa.W
