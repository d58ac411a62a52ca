/-
  The document's own wide numbers: Of, Add, neg, Cmp, Int, size.
-/
import Derived.Test.YtmgdmldmialiiaaWideE
import Derived.Test.YtmgdmldmialiiaaCodeRef
import Derived.Test.YtmgdmldmialiiaaAbs26
namespace Go.Proofs.Ytmgdmldmialiiaa.W
open Go.Abs
set_option linter.unusedSimpArgs false
set_option linter.unusedVariables false

set_option maxRecDepth 100000 in
theorem rOf_ans (a : Int) (h1 : -9223372036854775808 ≤ a) (h2 : a < 9223372036854775808) : Ans E F_sheafref1_Of [.int .i64 a] (W a) := by
  refine .of fn_sheafref1_Of (by simp) fun m => ?_
  by_cases h : a < 0
  · have d : decide (a < 0) = true := by simpa using h
    simp (decide := true) (implicitDefEqProofs := false) (maxDischargeDepth := 20) only [go_sem, ↓reduceIte, d, W, true_implies, false_implies]
    simp only [wrap_i64, wrap_u64]
    exact pair_eq (by omega) (by omega)
  · have d : decide (a < 0) = false := by simpa using h
    simp (decide := true) (implicitDefEqProofs := false) (maxDischargeDepth := 20) only [go_sem, ↓reduceIte, d, W, true_implies, false_implies]
    simp only [wrap_i64, wrap_u64]
    exact pair_eq (by omega) (by omega)

set_option maxRecDepth 100000 in
theorem rsize_ans (a : Int) (h1 : -9223372036854775808 ≤ a) (h2 : a < 9223372036854775808) : Ans E F_sheafref1_size [.int .i64 a] (.int .u64 (a.natAbs : Int)) := by
  refine .of fn_sheafref1_size (by simp) fun m => ?_
  by_cases h : a < 0
  · have d : decide (a < 0) = true := by simpa using h
    have w1 : IntKind.wrap .u64 (IntKind.wrap .u64 (IntKind.wrap .i64 (0 - IntKind.wrap .i64 (a + 1))) + 1) = (a.natAbs : Int) := by simp only [wrap_i64, wrap_u64]; omega
    simp (decide := true) (implicitDefEqProofs := false) (maxDischargeDepth := 20) only [go_sem, ↓reduceIte, d, w1, true_implies, false_implies]
  · have d : decide (a < 0) = false := by simpa using h
    have w1 : IntKind.wrap .u64 a = (a.natAbs : Int) := by simp only [wrap_u64]; omega
    simp (decide := true) (implicitDefEqProofs := false) (maxDischargeDepth := 20) only [go_sem, ↓reduceIte, d, w1, true_implies, false_implies]

set_option maxRecDepth 100000 in
theorem rneg_ans (x : Int) : Ans E F_sheafref1_neg [W x] (W (-x)) := by
  refine .of fn_sheafref1_neg (by simp) fun m => ?_
  have n1 : ∀ n : Int, notI .i64 (IntKind.wrap .i64 n) = IntKind.wrap .i64 (-n - 1) := fun n => by
    rw [not_i64 _ (by rw [wrap_i64]; omega) (by rw [wrap_i64]; omega)]
    simp only [wrap_i64]; omega
  have n2 : notI .u64 (x % 18446744073709551616) = 18446744073709551615 - x % 18446744073709551616 := by
    obtain ⟨k, hk⟩ := Int.eq_ofNat_of_zero_le (Int.emod_nonneg x (show (18446744073709551616 : Int) ≠ 0 by decide))
    rw [hk]
    exact not_u64 k (by omega)
  by_cases h : x % 18446744073709551616 = 0
  · have w1 : IntKind.wrap .u64 (18446744073709551615 - x % 18446744073709551616 + 1) = 0 := by rw [wrap_u64]; omega
    simp (decide := true) (implicitDefEqProofs := false) (maxDischargeDepth := 20) only [go_sem, ↓reduceIte, W, n1, n2, w1, true_implies, false_implies]
    simp only [wrap_i64]
    exact pair_eq (by omega) (by omega)
  · have w1 : IntKind.wrap .u64 (18446744073709551615 - x % 18446744073709551616 + 1) = 18446744073709551616 - x % 18446744073709551616 := by rw [wrap_u64]; omega
    have d1 : (18446744073709551616 - x % 18446744073709551616 == 0) = false := by simp; omega
    simp (decide := true) (implicitDefEqProofs := false) (maxDischargeDepth := 20) only [go_sem, ↓reduceIte, W, n1, n2, w1, d1, true_implies, false_implies]
    simp only [wrap_i64]
    exact pair_eq (by omega) (by omega)

set_option maxRecDepth 100000 in
theorem rAdd_ans (x y : Int) : Ans E F_sheafref1_Add [W x, W y] (W (x + y)) := by
  refine .of fn_sheafref1_Add (by simp) fun m => ?_
  by_cases h : x % 18446744073709551616 + y % 18446744073709551616 < 18446744073709551616
  · have w1 : IntKind.wrap .u64 (x % 18446744073709551616 + y % 18446744073709551616) = x % 18446744073709551616 + y % 18446744073709551616 := by rw [wrap_u64]; omega
    have d1 : decide (x % 18446744073709551616 + y % 18446744073709551616 < x % 18446744073709551616) = false := by simp; omega
    simp (decide := true) (implicitDefEqProofs := false) (maxDischargeDepth := 20) only [go_sem, ↓reduceIte, W, w1, d1, true_implies, false_implies]
    simp only [wrap_i64]
    exact pair_eq (by omega) (by omega)
  · have w1 : IntKind.wrap .u64 (x % 18446744073709551616 + y % 18446744073709551616) = x % 18446744073709551616 + y % 18446744073709551616 - 18446744073709551616 := by rw [wrap_u64]; omega
    have d1 : decide (x % 18446744073709551616 + y % 18446744073709551616 - 18446744073709551616 < x % 18446744073709551616) = true := by simp; omega
    simp (decide := true) (implicitDefEqProofs := false) (maxDischargeDepth := 20) only [go_sem, ↓reduceIte, W, w1, d1, true_implies, false_implies]
    simp only [wrap_i64]
    exact pair_eq (by omega) (by omega)

set_option maxRecDepth 100000 in
theorem rCmp_ans (x y : Int) (hx : -170141183460469231731687303715884105728 ≤ x) (hx' : x < 170141183460469231731687303715884105728) (hy : -170141183460469231731687303715884105728 ≤ y) (hy' : y < 170141183460469231731687303715884105728) :
    Ans E F_sheafref1_Cmp [W x, W y] (.int .i64 (if x < y then -1 else if y < x then 1 else 0)) := by
  refine .of fn_sheafref1_Cmp (by simp) fun m => ?_
  have u1 := wrap_i64_id (x / 18446744073709551616) (by omega) (by omega)
  have u2 := wrap_i64_id (y / 18446744073709551616) (by omega) (by omega)
  by_cases h1 : x / 18446744073709551616 < y / 18446744073709551616
  · have d1 : decide (x / 18446744073709551616 < y / 18446744073709551616) = true := by simpa using h1
    rw [if_pos (by omega)]
    simp (decide := true) (implicitDefEqProofs := false) (maxDischargeDepth := 20) only [go_sem, ↓reduceIte, W, u1, u2, d1, true_implies, false_implies]
  · have d1 : decide (x / 18446744073709551616 < y / 18446744073709551616) = false := by simpa using h1
    by_cases h2 : x / 18446744073709551616 = y / 18446744073709551616
    · have d2 : (x / 18446744073709551616 == y / 18446744073709551616) = true := by simpa using h2
      by_cases h3 : x % 18446744073709551616 < y % 18446744073709551616
      · have d3 : decide (x % 18446744073709551616 < y % 18446744073709551616) = true := by simpa using h3
        rw [if_pos (by omega)]
        simp (decide := true) (implicitDefEqProofs := false) (maxDischargeDepth := 20) only [go_sem, ↓reduceIte, W, u1, u2, d1, d2, d3, true_implies, false_implies]
      · have d3 : decide (x % 18446744073709551616 < y % 18446744073709551616) = false := by simpa using h3
        by_cases h4 : x % 18446744073709551616 = y % 18446744073709551616
        · have d4 : (x % 18446744073709551616 == y % 18446744073709551616) = true := by simpa using h4
          rw [if_neg (by omega), if_neg (by omega)]
          simp (decide := true) (implicitDefEqProofs := false) (maxDischargeDepth := 20) only [go_sem, ↓reduceIte, W, u1, u2, d1, d2, d3, d4, true_implies, false_implies]
        · have d4 : (x % 18446744073709551616 == y % 18446744073709551616) = false := by simpa using h4
          rw [if_neg (by omega), if_pos (by omega)]
          simp (decide := true) (implicitDefEqProofs := false) (maxDischargeDepth := 20) only [go_sem, ↓reduceIte, W, u1, u2, d1, d2, d3, d4, true_implies, false_implies]
    · have d2 : (x / 18446744073709551616 == y / 18446744073709551616) = false := by simpa using h2
      rw [if_neg (by omega), if_pos (by omega)]
      simp (decide := true) (implicitDefEqProofs := false) (maxDischargeDepth := 20) only [go_sem, ↓reduceIte, W, u1, u2, d1, d2, Bool.false_and, true_implies, false_implies]

set_option maxRecDepth 100000 in
theorem rInt_ans (x : Int) (h : -170141183460469231731687303715884105728 ≤ x) (h' : x < 170141183460469231731687303715884105728) :
    Ans E F_sheafref1_Int [W x] (if -9223372036854775808 ≤ x ∧ x < 9223372036854775808 then .tuple #[.int .i64 x, .bool true] else .tuple #[.int .i64 0, .bool false]) := by
  have o := rOf_ans (IntKind.wrap .i64 (x % 18446744073709551616)) (by rw [wrap_i64]; omega) (by rw [wrap_i64]; omega)
  simp only [W] at o
  refine .of fn_sheafref1_Int (by simp) fun m => ?_
  have u1 := wrap_i64_id (x / 18446744073709551616) (by omega) (by omega)
  by_cases hr : -9223372036854775808 ≤ x ∧ x < 9223372036854775808
  · rw [if_pos hr]
    have e1 : IntKind.wrap .i64 (x % 18446744073709551616) = x := by rw [wrap_i64]; omega
    have d1 : (x / 18446744073709551616 == x / 18446744073709551616) = true := by simp
    rw [e1] at o
    rw [u1] at o
    simp (decide := true) (implicitDefEqProofs := false) (maxDischargeDepth := 20) only [go_sem, ↓reduceIte, W, u1, e1, o.eq, beq_self_eq_true, true_implies, false_implies]
  · rw [if_neg hr]
    obtain ⟨y, hy⟩ : ∃ y, y = IntKind.wrap .i64 (x % 18446744073709551616) := ⟨_, rfl⟩
    rw [← hy] at o
    have hy2 := hy
    rw [wrap_i64] at hy2
    have u2 := wrap_i64_id (y / 18446744073709551616) (by omega) (by omega)
    have d1 : (y / 18446744073709551616 == x / 18446744073709551616) = false := by simp; omega
    rw [u2] at o
    simp (decide := true) (implicitDefEqProofs := false) (maxDischargeDepth := 20) only [go_sem, ↓reduceIte, W, u1, ← hy, o.eq, d1, Bool.false_and, Bool.not_false, true_implies, false_implies]
end Go.Proofs.Ytmgdmldmialiiaa.W
