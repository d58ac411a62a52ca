/-
  Within.
-/
import Derived.Test.YthlcbacmbcmgfaaCodeBook
namespace Go.Proofs.Ythlcbacmbcmgfaa.W
open Go.Abs
set_option linter.unusedSimpArgs false
set_option linter.unusedVariables false

set_option maxRecDepth 100000 in
theorem Within_ans (n lo hi : Int) (hn : -9223372036854775808 ≤ n) (hn' : n < 9223372036854775808) (h1 : lo ≤ hi) (h2 : hi - lo < 9223372036854775807) (h3 : -9223372036854775808 ≤ lo) (h4 : hi < 9223372036854775808) :
    Ans E F_sheafbook_Within [.int .i64 n, .int .i64 lo, .int .i64 hi] (.int .i64 (lo + n % (hi - lo + 1))) := by
  obtain ⟨k, hk⟩ : ∃ k, k = hi - lo + 1 := ⟨_, rfl⟩
  refine .of fn_sheafbook_Within (by simp) fun m => ?_
  have w1 : IntKind.wrap .i64 (IntKind.wrap .i64 (hi - lo) + 1) = k := by simp only [wrap_i64]; omega
  have k0 : ¬ k = 0 := by omega
  simp (decide := true) (implicitDefEqProofs := false) (maxDischargeDepth := 20) only [go_sem, ↓reduceIte, w1, k0, true_implies, false_implies]
  rw [← hk]
  have e1 := Int.emod_nonneg n k0
  have e2 := Int.emod_lt_of_pos n (show 0 < k by omega)
  simp only [decide_eq_true_eq, decide_eq_false_iff_not, not_false_eq_true, true_and]
  by_cases hp : 0 ≤ n ∨ k ∣ n
  · have e : n.tmod k = n % k := by rw [Int.tmod_eq_emod, if_pos hp]; omega
    rw [e]
    refine ⟨fun h => by omega, fun h => ?_⟩
    rw [wrap_i64_id _ (by omega) (by omega)]
  · have e : n.tmod k = n % k - k := by rw [Int.tmod_eq_emod, if_neg hp]; omega
    rw [e]
    refine ⟨fun h => ?_, fun h => by omega⟩
    congr 1
    simp only [wrap_i64]
    omega

set_option maxRecDepth 100000 in
/-- Bounds whose distance is no int. -/
theorem Within_62 (n : Int) (hn : -9223372036854775808 ≤ n) (hn' : n < 9223372036854775808) : ∃ x, -4611686018427387904 ≤ x ∧ x ≤ 4611686018427387904 ∧
    Ans E F_sheafbook_Within [.int .i64 n, .int .i64 (-4611686018427387904), .int .i64 4611686018427387904] (.int .i64 x) := by
  obtain ⟨r, hr⟩ : ∃ r, r = n.tmod (-9223372036854775807) := ⟨_, rfl⟩
  have hr2 : r = n % 9223372036854775807 ∧ (0 ≤ n ∨ r = 0) ∨ n < 0 ∧ r = n % 9223372036854775807 - 9223372036854775807 := by
    rw [hr, Int.tmod_neg, Int.tmod_eq_emod]
    by_cases hp : 0 ≤ n ∨ (9223372036854775807 : Int) ∣ n
    · rw [if_pos hp]
      left
      refine ⟨by omega, ?_⟩
      rcases hp with h | h
      · exact .inl h
      · have := Int.emod_eq_zero_of_dvd h
        exact .inr (by omega)
    · rw [if_neg hp]
      right
      have : ¬ 0 ≤ n := fun h => hp (.inl h)
      refine ⟨by omega, ?_⟩
      have e : ((9223372036854775807 : Int).natAbs : Int) = 9223372036854775807 := rfl
      omega
  refine ⟨IntKind.wrap .i64 (-4611686018427387904 + if r < 0 then IntKind.wrap .i64 (IntKind.wrap .i64 (IntKind.wrap .i64 (r + 4611686018427387904) - -4611686018427387904) + 1) else r), ?_, ?_, ?_⟩
  · simp only [wrap_i64]; split <;> omega
  · simp only [wrap_i64]; split <;> omega
  refine .of fn_sheafbook_Within (by simp) fun m => ?_
  have w1 : IntKind.wrap .i64 (IntKind.wrap .i64 (4611686018427387904 - -4611686018427387904) + 1) = -9223372036854775807 := by decide
  simp (decide := true) (implicitDefEqProofs := false) (maxDischargeDepth := 20) only [go_sem, ↓reduceIte, w1, ← hr, true_implies, false_implies]
  simp only [decide_eq_true_eq, decide_eq_false_iff_not, not_false_eq_true, true_and]
  exact ⟨fun h => by rw [if_pos h], fun h => by rw [if_neg h]⟩

end Go.Proofs.Ythlcbacmbcmgfaa.W
