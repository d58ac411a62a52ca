/-
  check: which rows may stand.
-/
import Derived.Test.YtpabllcacdopdaaCodeCk
namespace Go.Proofs.Ytpabllcacdopdaa.W
open Go.Abs
set_option linter.unusedSimpArgs false
set_option linter.unusedVariables false

/-- The spans of a file's numbers. -/
def spansL (name : Int) : List (Int × Int) :=
  if name = 2 then [(1, 9223372036854775807), (1, 9223372036854775807), (0, 10000)]
  else if name = 3 then [(1, 9223372036854775807), (1, 8999)]
  else if name = 4 then [(1, 9223372036854775807), (0, 1073741824), (1, 1099511627776), (1, 1099511627776)]
  else if name = 1 then [(1, 9223372036854775807), (1, 9223372036854775807), (1, 9223372036854775807), (0, 9223372036854775807), (-9223372036854775807, 9223372036854775807), (0, 9223372036854775807)]
  else []
def cells2 (S : List (Int × Int)) : List Value := S.flatMap fun p => [.int .i64 p.1, .int .i64 p.2]
def inside (xs : List Int) (S : List (Int × Int)) : Bool := (xs.zip S).all fun q => decide (q.2.1 ≤ q.1) && decide (q.1 ≤ q.2.2)
/-- May a row stand? -/
def goodL (name : Int) (xs : List Int) : Bool := decide (spansL name ≠ []) && (decide (xs.length = (spansL name).length) && (inside xs (spansL name) && (decide (name ≠ 1) || decide (xs.getD 5 0 ≠ xs.getD 1 0))))

set_option maxRecDepth 100000 in
set_option maxHeartbeats 1000000 in
theorem Spans_at {m : Mem} {name : Int} {K : Value → Mem → Prop} (hK : ∀ m' b, Old m m' → m.size ≤ b → Box m' b (cells2 (spansL name)) → spansL name ≠ [] → K (.slice (some ⟨b, 0, none⟩) (spansL name).length (spansL name).length) m') (hN : spansL name = [] → ∀ m', Old m m' → K (.slice none 0 0) m') : CallQ E F_check_spans [.int .i64 name].toArray m K := by
  refine .enter fn_check_spans (by simp) ?_
  have fin : ∀ (cs ds : List Value), Old m (((m.push (.cells false true [.int .i64 0, .int .i64 0])).put m.size (some (.cells false true cs))).push (.cells false true ds)) := by
    intro cs ds
    refine .of_get (by rw [size_push, size_put, size_push]; omega) fun i hi => ?_
    rw [getM_push, if_neg (by rw [size_put, size_push]; omega), getM_put, if_neg (by omega), getM_push, if_neg (by omega)]
  have fin0 : ∀ (cs : List Value), Old m ((m.push (.cells false true [.int .i64 0, .int .i64 0])).put m.size (some (.cells false true cs))) := by
    intro cs
    refine .of_get (by rw [size_put, size_push]; omega) fun i hi => ?_
    rw [getM_put, if_neg (by omega), getM_push, if_neg (by omega)]
  by_cases h2 : name = 2
  · subst h2
    simp (decide := true) (implicitDefEqProofs := false) (maxDischargeDepth := 20) only [go_sem, ↓reduceIte,  true_implies, false_implies]
    refine hK _ (m.size + 1) (fin _ _) (by omega) ?_ (by decide)
    refine ⟨true, ?_⟩
    rw [getM_push, if_pos (by rw [size_put, size_push])]
    rfl
  have e2 : (name == 2) = false := by simpa using h2
  by_cases h3 : name = 3
  · subst h3
    simp (decide := true) (implicitDefEqProofs := false) (maxDischargeDepth := 20) only [go_sem, ↓reduceIte,  true_implies, false_implies]
    refine hK _ (m.size + 1) (fin _ _) (by omega) ?_ (by decide)
    refine ⟨true, ?_⟩
    rw [getM_push, if_pos (by rw [size_put, size_push])]
    rfl
  have e3 : (name == 3) = false := by simpa using h3
  by_cases h4 : name = 4
  · subst h4
    simp (decide := true) (implicitDefEqProofs := false) (maxDischargeDepth := 20) only [go_sem, ↓reduceIte,  true_implies, false_implies]
    refine hK _ (m.size + 1) (fin _ _) (by omega) ?_ (by decide)
    refine ⟨true, ?_⟩
    rw [getM_push, if_pos (by rw [size_put, size_push])]
    rfl
  have e4 : (name == 4) = false := by simpa using h4
  by_cases h1 : name = 1
  · subst h1
    simp (decide := true) (implicitDefEqProofs := false) (maxDischargeDepth := 20) only [go_sem, ↓reduceIte,  true_implies, false_implies]
    refine hK _ (m.size + 1) (fin _ _) (by omega) ?_ (by decide)
    refine ⟨true, ?_⟩
    rw [getM_push, if_pos (by rw [size_put, size_push])]
    rfl
  have e1 : (name == 1) = false := by simpa using h1
  simp (decide := true) (implicitDefEqProofs := false) (maxDischargeDepth := 20) only [go_sem, ↓reduceIte, e1, e2, e3, e4, true_implies, false_implies]
  exact hN (by unfold spansL; rw [if_neg h2, if_neg h3, if_neg h4, if_neg h1]) _ (fin0 _)
end Go.Proofs.Ytpabllcacdopdaa.W
