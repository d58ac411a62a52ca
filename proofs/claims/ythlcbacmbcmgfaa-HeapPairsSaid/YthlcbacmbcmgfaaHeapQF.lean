/-
  HeapPairs: the order, and pushing all.
-/
import Derived.Test.YthlcbacmbcmgfaaHeapQE
import Derived.Test.YthlcbacmbcmgfaaCodeLaw
namespace Go.Proofs.Ythlcbacmbcmgfaa.W
open Go.Abs
set_option linter.unusedSimpArgs false
set_option linter.unusedVariables false

def lessD (down : Bool) (a b : Int × Int) : Bool := if down then decide (a.1 > b.1) else decide (a.1 < b.1)
theorem lessD_ord (down : Bool) : Ord (lessD down) := by
  cases down
  · exact ⟨fun a b h => by simp [lessD] at h ⊢; omega, fun a b c h k => by simp [lessD] at h k ⊢; omega⟩
  · exact ⟨fun a b h => by simp [lessD] at h ⊢; omega, fun a b c h k => by simp [lessD] at h k ⊢; omega⟩

set_option maxRecDepth 100000 in
theorem lessD_ok {Z : Nat → Option Blk} {db : Nat} {down : Bool} (h : Z db = some (.cells false true [.bool down])) : LessP Z (.func (.func F_sheaflaw8_HeapPairs_1) #[] #[ptr db]) (lessD down) := by
  intro a b m z
  have r := frozen_at z h
  have lt := z.lt h
  have n1 : ¬ db = m.size := by omega
  have n2 : ¬ db = m.size + 1 := by omega
  rw [CallF_func]
  refine ⟨some21, ?_⟩
  have e : (#[] ++ [pV a, pV b].toArray ++ #[ptr db] : Array Value) = [pV a, pV b, ptr db].toArray := by simp
  rw [e]
  refine .enter fn_sheaflaw8_HeapPairs_1 (by simp) ?_
  cases down with
  | true =>
    cases h1 : decide (a.1 > b.1) <;>
    simp (decide := true) (implicitDefEqProofs := false) (maxDischargeDepth := 20) only [go_sem, pV, lessD, r, n1, n2, h1, ↓reduceIte, true_implies, false_implies]
  | false =>
    cases h1 : decide (a.1 < b.1) <;>
    simp (decide := true) (implicitDefEqProofs := false) (maxDischargeDepth := 20) only [go_sem, pV, lessD, r, n1, n2, h1, Bool.false_eq_true, ↓reduceIte, true_implies, false_implies]
end Go.Proofs.Ythlcbacmbcmgfaa.W
