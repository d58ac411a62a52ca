/-
  WideNearest.
-/
import Derived.Test.YtmgdmldmialiiaaLawMoney
namespace Go.Proofs.Ytmgdmldmialiiaa.W
open Go.Abs
set_option linter.unusedSimpArgs false
set_option linter.unusedVariables false

theorem Cmp_ws (x y : Int) (hx : -170141183460469231731687303715884105728 ≤ x) (hx' : x < 170141183460469231731687303715884105728) (hy : -170141183460469231731687303715884105728 ≤ y) (hy' : y < 170141183460469231731687303715884105728) :
    ∃ c, Ans E F_wide_Cmp [W x, W y] (.int .i64 c) ∧ (x < y ∧ c = -1 ∨ x = y ∧ c = 0 ∨ y < x ∧ c = 1) := by
  refine ⟨_, Cmp_ans x y hx hx' hy hy', ?_⟩
  split
  · omega
  · split <;> omega

set_option maxRecDepth 100000 in
set_option maxHeartbeats 8000000 in
theorem WideNearest_tru (a b d : Int) (hn : -9223372036854775808 ≤ a) (hn' : a < 9223372036854775808) (hb : -9223372036854775808 ≤ b) (hb' : b < 9223372036854775808) (hd : -9223372036854775808 ≤ d) (hd' : d < 9223372036854775808) :
    Tru E F_sheaflaw1_WideNearest [.int .i64 a, .int .i64 b, .int .i64 d] := by
  have x0 := Within_ans a (-1099511627776) 1099511627776 hn hn' (by decide) (by decide) (by decide) (by decide)
  have y0 := Within_ans b (-1048576) 1048576 hb hb' (by decide) (by decide) (by decide) (by decide)
  have k0 := Within_ans d 1 1099511627776 hd hd' (by decide) (by decide) (by decide) (by decide)
  obtain ⟨x, hx⟩ : ∃ x, x = -1099511627776 + a % (1099511627776 - -1099511627776 + 1) := ⟨_, rfl⟩
  obtain ⟨y, hy⟩ : ∃ y, y = -1048576 + b % (1048576 - -1048576 + 1) := ⟨_, rfl⟩
  obtain ⟨k, hk⟩ : ∃ k, k = 1 + d % (1099511627776 - 1 + 1) := ⟨_, rfl⟩
  rw [← hx] at x0
  rw [← hy] at y0
  rw [← hk] at k0
  rw [show (1099511627776 - -1099511627776 + 1 : Int) = 2199023255553 by decide] at hx
  rw [show (1048576 - -1048576 + 1 : Int) = 2097153 by decide] at hy
  have x1 : -1099511627776 ≤ x ∧ x ≤ 1099511627776 := by omega
  have y1 : -1048576 ≤ y ∧ y ≤ 1048576 := by omega
  have k1 : 1 ≤ k ∧ k ≤ 1099511627776 := by omega
  clear hx hy hk
  obtain ⟨K, rfl⟩ := Int.eq_ofNat_of_zero_le (show 0 ≤ k by omega)
  obtain ⟨p1, p2⟩ := mul_abs (a := 1099511627776) (b := 1048576) (x := x) (y := y) (by omega) (by omega) (by omega) (by omega) (by decide) (by decide)
  have m1 := Mul_ans x y (by omega) (by omega) (by omega) (by omega)
  have m2 := Mul_ans (-x) y (by omega) (by omega) (by omega) (by omega)
  rw [Int.neg_mul] at m2
  generalize x * y = w at *
  have q1 := Quo_ans w (by omega) (by omega) K (by omega) (by omega)
  have q2 := Quo_ans (-w) (by omega) (by omega) K (by omega) (by omega)
  unfold quoA at q1 q2
  rw [quoI_neg w K (by omega)] at q2
  obtain ⟨s1, s2, s3⟩ := quoI_spec w K (by omega)
  have s4 : -(1152921504606846976 + 1 : Int) ≤ quoI w K ∧ quoI w K ≤ 1152921504606846976 + 1 := by
    have h1 := near_le w.natAbs K
    have h2 := Nat.div_le_self w.natAbs K
    unfold quoI
    split <;> omega
  generalize quoI w K = q at *
  rw [if_pos (by omega)] at q1 q2
  have qk := Int.mul_comm q (K : Int)
  have m3 := Mul_ans (-2 * (K : Int)) q (by omega) (by omega) (by omega) (by omega)
  have e3 : -2 * (K : Int) * q = -(2 * (q * (K : Int))) := by rw [Int.mul_assoc, qk]; omega
  rw [e3] at m3
  generalize q * (K : Int) = qK at *
  have a1 := Add_ans w w
  have a2 := Add_ans (w + w) (-(2 * qK))
  have o1 := Of_W (-(K : Int)) (by omega) (by omega)
  have o2 := Of_W (K : Int) (by omega) (by omega)
  obtain ⟨lo, c1, l1⟩ := Cmp_ws (w + w + -(2 * qK)) (-(K : Int)) (by omega) (by omega) (by omega) (by omega)
  obtain ⟨hi, c2, l2⟩ := Cmp_ws (w + w + -(2 * qK)) (K : Int) (by omega) (by omega) (by omega) (by omega)
  have q3 := Quo_none w 0 (by decide)
  have q4 := Quo_none w (-(K : Int)) (by omega)
  have m4 := Mul_ans 4611686018427387904 4611686018427387904 (by decide) (by decide) (by decide) (by decide)
  have q5 := Quo_ans (4611686018427387904 * 4611686018427387904) (by decide) (by decide) K (by omega) (by omega)
  have b5 := (quoI_spec (4611686018427387904 * 4611686018427387904) K (by omega)).2.1
  unfold quoA at q5
  rw [if_neg (by
    intro h
    have h1 : quoI (4611686018427387904 * 4611686018427387904) K * (K : Int) ≤ 9223372036854775808 * 1099511627776 := by
      have := (mul_abs (x := quoI (4611686018427387904 * 4611686018427387904) K) (y := (K : Int)) (a := 9223372036854775808) (b := 1099511627776) (by omega) (by omega) (by omega) (by omega) (by decide) (by decide)).2
      omega
    omega)] at q5
  simp only [W] at m1 m2 m3 m4 q1 q2 q3 q4 q5 a1 a2 o1 o2 c1 c2
  have w1 : IntKind.wrap .i64 (0 - x) = -x := by rw [wrap_i64_id _ (by omega) (by omega)]; omega
  have w2 : IntKind.wrap .i64 (0 - q) = -q := by rw [wrap_i64_id _ (by omega) (by omega)]; omega
  have w3 : IntKind.wrap .i64 (0 - (K : Int)) = -(K : Int) := by rw [wrap_i64_id _ (by omega) (by omega)]; omega
  have w4 : IntKind.wrap .i64 (-2 * (K : Int)) = -2 * (K : Int) := wrap_i64_id _ (by omega) (by omega)
  have w5 : andI .i64 q 1 = q % 2 := and1 q
  have d1 : decide (lo < 0) = false := by simp; omega
  have d2 : decide (hi > 0) = false := by simp; omega
  refine Tru.of fn_sheaflaw1_WideNearest (by simp) fun m => ?_
  by_cases h1 : lo = 0
  · have d3 : (lo == 0) = true := by simpa using h1
    have d5 : (q % 2 != 0) = false := by simp; omega
    simp (decide := true) (implicitDefEqProofs := false) (maxDischargeDepth := 30) only [go_sem, ↓reduceIte, x0.eq, y0.eq, k0.eq, m1.eq, m2.eq, m3.eq, m4.eq, q1.eq, q2.eq, q3.eq, q4.eq, q5.eq, a1.eq, a2.eq, o1.eq, o2.eq, c1.eq, c2.eq, w1, w2, w3, w4, w5, d1, d2, d3, d5, bne_self_eq_false, beq_self_eq_true, true_implies, false_implies, Bool.not_true, Bool.not_false]
  · have d3 : (lo == 0) = false := by simpa using h1
    by_cases h2 : hi = 0
    · have d4 : (hi == 0) = true := by simpa using h2
      have d5 : (q % 2 != 0) = false := by simp; omega
      simp (decide := true) (implicitDefEqProofs := false) (maxDischargeDepth := 30) only [go_sem, ↓reduceIte, x0.eq, y0.eq, k0.eq, m1.eq, m2.eq, m3.eq, m4.eq, q1.eq, q2.eq, q3.eq, q4.eq, q5.eq, a1.eq, a2.eq, o1.eq, o2.eq, c1.eq, c2.eq, w1, w2, w3, w4, w5, d1, d2, d3, d4, d5, bne_self_eq_false, beq_self_eq_true, true_implies, false_implies, Bool.not_true, Bool.not_false]
    · have d4 : (hi == 0) = false := by simpa using h2
      simp (decide := true) (implicitDefEqProofs := false) (maxDischargeDepth := 30) only [go_sem, ↓reduceIte, x0.eq, y0.eq, k0.eq, m1.eq, m2.eq, m3.eq, m4.eq, q1.eq, q2.eq, q3.eq, q4.eq, q5.eq, a1.eq, a2.eq, o1.eq, o2.eq, c1.eq, c2.eq, w1, w2, w3, w4, w5, d1, d2, d3, d4, bne_self_eq_false, beq_self_eq_true, true_implies, false_implies, Bool.not_true, Bool.not_false]
end Go.Proofs.Ytmgdmldmialiiaa.W
