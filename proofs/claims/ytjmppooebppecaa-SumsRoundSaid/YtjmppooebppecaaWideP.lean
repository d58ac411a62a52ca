/-
  What the functions of the layer wide answer.
-/
import Derived.Test.YtjmppooebppecaaCodeWide
namespace Go.Proofs.Ytjmppooebppecaa.W
open Go.Abs
set_option linter.unusedSimpArgs false
set_option linter.unusedVariables false
set_option maxRecDepth 100000

theorem and_low32 (a : Int) (h : 0 ≤ a) (h' : a < 18446744073709551616) : andI .u64 a 4294967295 = a % 4294967296 := by
  unfold andI
  have : (BitVec.ofInt 64 a &&& BitVec.ofInt 64 4294967295).toNat = a.toNat % 4294967296 := by
    rw [BitVec.toNat_and, BitVec.toNat_ofInt, BitVec.toNat_ofInt]
    have e1 : ((a % (2 ^ 64 : Nat)).toNat) = a.toNat := by omega
    have e2 : (((4294967295 : Int) % (2 ^ 64 : Nat)).toNat) = 2 ^ 32 - 1 := by decide
    rw [e1, e2, Nat.and_two_pow_sub_one_eq_mod]
  show IntKind.wrap .u64 ((BitVec.ofInt 64 a &&& BitVec.ofInt 64 4294967295).toNat : Int) = _
  rw [this, wrap_u64]
  omega
set_option maxHeartbeats 400000 in
theorem Of_ans (a : Int) (h1 : -9223372036854775808 ≤ a) (h2 : a < 9223372036854775808) :
    Ans E F_wide_Of [.int .i64 a] (.agg #[.int .i64 (a / 18446744073709551616), .int .u64 (a % 18446744073709551616)]) := by
  refine .of fn_wide_Of (by simp) fun m => ?_
  simp (decide := true) (implicitDefEqProofs := false) only [go_sem, ↓reduceIte]
  have hs : shrI .i64 a 63 = a / 9223372036854775808 := shrI_eq .i64 a 63 (by decide)
  have e : a / 9223372036854775808 = a / 18446744073709551616 := by omega
  rw [hs, wrap_u64, e]
theorem Mul64_ans (a b : Int) (ha : 0 ≤ a) (ha' : a < 18446744073709551616) (hb : 0 ≤ b) (hb' : b < 18446744073709551616) :
    Ans E F_math_bits_Mul64 [.int .u64 a, .int .u64 b] (.tuple #[.int .u64 (a * b / 18446744073709551616), .int .u64 (a * b % 18446744073709551616)]) := by
  refine .of fn_math_bits_Mul64 (by simp) fun m => ?_
  simp (decide := true) (implicitDefEqProofs := false) only [go_sem, ↓reduceIte]
  have hs : ∀ x : Int, shrI .u64 x 32 = x / 4294967296 := fun x => shrI_eq .u64 x 32 (by decide)
  simp only [hs, wrap_u64]
  rw [and_low32 a ha ha', and_low32 b hb hb', and_low32 _ (by omega) (by omega)]
  -- halves
  obtain ⟨a1, a0, e1, k1, k2, k3, k4⟩ : ∃ a1 a0 : Int, a = a1 * 4294967296 + a0 ∧ 0 ≤ a0 ∧ a0 < 4294967296 ∧ 0 ≤ a1 ∧ a1 < 4294967296 := ⟨a / 4294967296, a % 4294967296, by omega, by omega, by omega, by omega, by omega⟩
  obtain ⟨b1, b0, e2, k5, k6, k7, k8⟩ : ∃ b1 b0 : Int, b = b1 * 4294967296 + b0 ∧ 0 ≤ b0 ∧ b0 < 4294967296 ∧ 0 ≤ b1 ∧ b1 < 4294967296 := ⟨b / 4294967296, b % 4294967296, by omega, by omega, by omega, by omega, by omega⟩
  have f1 : a / 4294967296 = a1 := by omega
  have f2 : a % 4294967296 = a0 := by omega
  have f3 : b / 4294967296 = b1 := by omega
  have f4 : b % 4294967296 = b0 := by omega
  rw [f1, f2, f3, f4]
  have bd : ∀ x y : Int, 0 ≤ x → x < 4294967296 → 0 ≤ y → y < 4294967296 → 0 ≤ x * y ∧ x * y ≤ 18446744065119617025 := by
    intro x y h1 h2 h3 h4
    refine ⟨Int.mul_nonneg h1 h3, ?_⟩
    have := Int.mul_le_mul (show x ≤ 4294967295 by omega) (show y ≤ 4294967295 by omega) h3 (by omega)
    omega
  obtain ⟨p1, p2⟩ := bd a0 b0 k1 k2 k5 k6
  obtain ⟨q1, q2⟩ := bd a1 b0 k3 k4 k5 k6
  obtain ⟨r1, r2⟩ := bd a0 b1 k1 k2 k7 k8
  obtain ⟨s1, s2⟩ := bd a1 b1 k3 k4 k7 k8
  have e : a * b = a1 * b1 * 18446744073709551616 + (a1 * b0 + a0 * b1) * 4294967296 + a0 * b0 := by
    rw [e1, e2, Int.add_mul, Int.mul_add, Int.mul_add, Int.add_mul]
    have t1 : a1 * 4294967296 * (b1 * 4294967296) = a1 * b1 * 18446744073709551616 := by
      rw [Int.mul_assoc, Int.mul_left_comm 4294967296 b1 4294967296, ← Int.mul_assoc]; rfl
    have t2 : a1 * 4294967296 * b0 = a1 * b0 * 4294967296 := by rw [Int.mul_right_comm]
    have t3 : a0 * (b1 * 4294967296) = a0 * b1 * 4294967296 := by rw [Int.mul_assoc]
    rw [t1, t2, t3]
    omega
  rw [e]
  generalize a0 * b0 = p at *
  generalize a1 * b0 = q at *
  generalize a0 * b1 = r at *
  generalize a1 * b1 = s at *
  congr 3
  · congr 1
    omega

def W (x : Int) : Value := .agg #[.int .i64 (IntKind.wrap .i64 (x / 18446744073709551616)), .int .u64 (x % 18446744073709551616)]
theorem pair_eq {a b c d : Int} (h : a = c) (k : b = d) : Value.agg #[.int .i64 a, .int .u64 b] = Value.agg #[.int .i64 c, .int .u64 d] := by rw [h, k]
set_option maxHeartbeats 400000 in
set_option maxRecDepth 100000 in
theorem Mul_ans (a b : Int) (ha : -9223372036854775808 ≤ a) (ha' : a < 9223372036854775808) (hb : -9223372036854775808 ≤ b) (hb' : b < 9223372036854775808) :
    Ans E F_wide_Mul [.int .i64 a, .int .i64 b] (W (a * b)) := by
  refine .of fn_wide_Mul (by simp) fun m => ?_
  simp (decide := true) (implicitDefEqProofs := false) only [go_sem, ↓reduceIte]
  refine (Mul64_ans (IntKind.wrap .u64 a) (IntKind.wrap .u64 b) (by rw [wrap_u64]; omega) (by rw [wrap_u64]; omega) (by rw [wrap_u64]; omega) (by rw [wrap_u64]; omega)).use fun l => ?_
  simp (decide := true) (implicitDefEqProofs := false) (maxDischargeDepth := 20) only [go_sem, ↓reduceIte]
  have key : ∀ x y : Int, (a + x) * (b + y) = a * b + a * y + x * b + x * y := by
    intro x y
    rw [Int.add_mul, Int.mul_add, Int.mul_add]
    omega
  have k0 := key 0 18446744073709551616
  have k1 := key 18446744073709551616 0
  have k2 := key 18446744073709551616 18446744073709551616
  rw [Int.add_zero] at k0 k1
  simp only [decide_eq_true_eq, decide_eq_false_iff_not, W, wrap_u64]
  refine ⟨fun h1 => ⟨fun h2 => ?_, fun h2 => ?_⟩, fun h1 => ⟨fun h2 => ?_, fun h2 => ?_⟩⟩
  · rw [show a % 18446744073709551616 = a + 18446744073709551616 by omega, show b % 18446744073709551616 = b + 18446744073709551616 by omega, k2]
    generalize a * b = p
    simp only [wrap_i64]
    exact pair_eq (by omega) (by omega)
  · rw [show a % 18446744073709551616 = a + 18446744073709551616 by omega, show b % 18446744073709551616 = b by omega, k1]
    generalize a * b = p
    simp only [wrap_i64]
    exact pair_eq (by omega) (by omega)
  · rw [show a % 18446744073709551616 = a by omega, show b % 18446744073709551616 = b + 18446744073709551616 by omega, k0]
    generalize a * b = p
    simp only [wrap_i64]
    exact pair_eq (by omega) (by omega)
  · rw [show a % 18446744073709551616 = a by omega, show b % 18446744073709551616 = b by omega]

set_option maxHeartbeats 400000 in
set_option maxRecDepth 100000 in
theorem Add_ans (x y : Int) : Ans E F_wide_Add [W x, W y] (W (x + y)) := by
  refine .of fn_wide_Add (by simp) fun m => ?_
  simp (decide := true) (implicitDefEqProofs := false) (maxDischargeDepth := 20) only [go_sem, ↓reduceIte, W, carryV]
  refine ⟨by omega, ?_⟩
  simp only [wrap_i64]
  exact pair_eq (by omega) (by omega)

set_option maxHeartbeats 400000 in
set_option maxRecDepth 100000 in
theorem Int_ans (x : Int) (h : -170141183460469231731687303715884105728 ≤ x) (h' : x < 170141183460469231731687303715884105728) :
    Ans E F_wide_Int [W x] (if -9223372036854775808 ≤ x ∧ x < 9223372036854775808 then .tuple #[.int .i64 x, .bool true] else .tuple #[.int .i64 0, .bool false]) := by
  refine .of fn_wide_Int (by simp) fun m => ?_
  simp (decide := true) (implicitDefEqProofs := false) (maxDischargeDepth := 20) only [go_sem, ↓reduceIte, W]
  refine (Of_ans (IntKind.wrap .i64 (x % 18446744073709551616)) (by rw [wrap_i64]; omega) (by rw [wrap_i64]; omega)).use fun l => ?_
  simp (decide := true) (implicitDefEqProofs := false) (maxDischargeDepth := 20) only [go_sem, ↓reduceIte, W]
  simp only [wrap_i64]
  refine ⟨fun e => ?_, fun e => ?_⟩
  · simp only [Bool.and_eq_true, beq_iff_eq] at e
    rw [if_pos (by omega)]
    have : (x % 18446744073709551616 + 9223372036854775808) % 18446744073709551616 - 9223372036854775808 = x := by omega
    rw [this]
  · simp only [Bool.and_eq_false_iff, beq_eq_false_iff_ne, ne_eq] at e
    rw [if_neg (by omega)]

set_option maxHeartbeats 400000 in
set_option maxRecDepth 100000 in
theorem isNaNi_ans (x : Int) : Ans E F_cmp_isNaN_int64 [.int .i64 x] (.bool false) := by
  refine .of fn_cmp_isNaN_int64 (by simp) fun m => ?_
  simp (decide := true) (implicitDefEqProofs := false) (maxDischargeDepth := 20) only [go_sem, ↓reduceIte, bne_self_eq_false]
set_option maxHeartbeats 400000 in
set_option maxRecDepth 100000 in
theorem isNaNu_ans (x : Int) : Ans E F_cmp_isNaN_uint64 [.int .u64 x] (.bool false) := by
  refine .of fn_cmp_isNaN_uint64 (by simp) fun m => ?_
  simp (decide := true) (implicitDefEqProofs := false) (maxDischargeDepth := 20) only [go_sem, ↓reduceIte, bne_self_eq_false]
set_option maxHeartbeats 400000 in
set_option maxRecDepth 100000 in
theorem Cmp64i_ans (x y : Int) : Ans E F_cmp_Compare_int64 [.int .i64 x, .int .i64 y] (.int .i64 (if x < y then -1 else if y < x then 1 else 0)) := by
  refine .of fn_cmp_Compare_int64 (by simp) fun m => ?_
  simp (decide := true) (implicitDefEqProofs := false) (maxDischargeDepth := 20) only [go_sem, ↓reduceIte]
  refine (isNaNi_ans x).use fun l => ?_
  simp (decide := true) (implicitDefEqProofs := false) (maxDischargeDepth := 20) only [go_sem, ↓reduceIte]
  refine (isNaNi_ans y).use fun l2 => ?_
  simp (decide := true) (implicitDefEqProofs := false) (maxDischargeDepth := 20) only [go_sem, ↓reduceIte, false_implies, true_implies, decide_eq_true_eq, decide_eq_false_iff_not, gt_iff_lt]
  refine ⟨fun h => by rw [if_pos h], fun h => ⟨fun h2 => by rw [if_neg h, if_pos h2], fun h2 => by rw [if_neg h, if_neg h2]⟩⟩
set_option maxHeartbeats 400000 in
set_option maxRecDepth 100000 in
theorem Cmp64u_ans (x y : Int) : Ans E F_cmp_Compare_uint64 [.int .u64 x, .int .u64 y] (.int .i64 (if x < y then -1 else if y < x then 1 else 0)) := by
  refine .of fn_cmp_Compare_uint64 (by simp) fun m => ?_
  simp (decide := true) (implicitDefEqProofs := false) (maxDischargeDepth := 20) only [go_sem, ↓reduceIte]
  refine (isNaNu_ans x).use fun l => ?_
  simp (decide := true) (implicitDefEqProofs := false) (maxDischargeDepth := 20) only [go_sem, ↓reduceIte]
  refine (isNaNu_ans y).use fun l2 => ?_
  simp (decide := true) (implicitDefEqProofs := false) (maxDischargeDepth := 20) only [go_sem, ↓reduceIte, false_implies, true_implies, decide_eq_true_eq, decide_eq_false_iff_not, gt_iff_lt]
  refine ⟨fun h => by rw [if_pos h], fun h => ⟨fun h2 => by rw [if_neg h, if_pos h2], fun h2 => by rw [if_neg h, if_neg h2]⟩⟩

set_option maxHeartbeats 400000 in
set_option maxRecDepth 100000 in
theorem Cmp_ans (x y : Int) (hx : -170141183460469231731687303715884105728 ≤ x) (hx' : x < 170141183460469231731687303715884105728) (hy : -170141183460469231731687303715884105728 ≤ y) (hy' : y < 170141183460469231731687303715884105728) :
    Ans E F_wide_Cmp [W x, W y] (.int .i64 (if x < y then -1 else if y < x then 1 else 0)) := by
  refine .of fn_wide_Cmp (by simp) fun m => ?_
  simp (decide := true) (implicitDefEqProofs := false) (maxDischargeDepth := 20) only [go_sem, ↓reduceIte, W]
  refine (Cmp64i_ans _ _).use fun l => ?_
  rw [wrap_i64_id (x / 18446744073709551616) (by omega) (by omega), wrap_i64_id (y / 18446744073709551616) (by omega) (by omega)]
  generalize hc : (if x / 18446744073709551616 < y / 18446744073709551616 then (-1 : Int) else if y / 18446744073709551616 < x / 18446744073709551616 then 1 else 0) = c
  simp (decide := true) (implicitDefEqProofs := false) (maxDischargeDepth := 20) only [go_sem, ↓reduceIte, false_implies, true_implies]
  refine ⟨fun h => ?_, fun h => ?_⟩
  · congr 1
    simp only [bne_iff_ne, ne_eq] at h
    subst hc
    split at h <;> (repeat' split) <;> omega
  · refine (Cmp64u_ans _ _).use fun l => ?_
    simp (decide := true) (implicitDefEqProofs := false) (maxDischargeDepth := 20) only [go_sem, ↓reduceIte, false_implies, true_implies]
    congr 1
    simp only [bne_eq_false_iff_eq] at h
    subst h
    repeat' split
    all_goals (repeat' split at hc) <;> omega

end Go.Proofs.Ytjmppooebppecaa.W
