/-
  MoneySplits and MoneyBack.
-/
import Derived.Test.YtmgdmldmialiiaaMoneyA
import Derived.Test.YtmgdmldmialiiaaClamp
namespace Go.Proofs.Ytmgdmldmialiiaa.W
open Go.Abs
set_option linter.unusedSimpArgs false
set_option linter.unusedVariables false

set_option maxRecDepth 100000 in
set_option maxHeartbeats 4000000 in
theorem MoneySplits_tru (n p : Int) (hn : -9223372036854775808 ≤ n) (hn' : n < 9223372036854775808) (hp : -9223372036854775808 ≤ p) (hp' : p < 9223372036854775808) :
    Tru E F_sheaflaw2_MoneySplits [.int .i64 n, .int .i64 p] := by
  have s1 := Split_ans n p hn hn'
  have s2 := Split_ans n 0 hn hn'
  have s3 := Split_ans n 10000 hn hn'
  have z0 : part n 0 = 0 := by unfold part; rw [show n * max 0 (min 0 10000) = 0 * ((10000 : Nat) : Int) by rw [show max 0 (min 0 10000) = (0 : Int) by decide]; simp]; exact quoI_mul 0 10000 (by decide)
  have z1 : part n 10000 = n := by unfold part; exact quoI_mul n 10000 (by decide)
  have cl := Clamp_ans p 0 10000
  obtain ⟨c, hc⟩ : ∃ c, c = (if p < 0 then 0 else if 10000 < p then 10000 else p) := ⟨_, rfl⟩
  rw [← hc] at cl
  have c1 : 0 ≤ c ∧ c ≤ 10000 := by rw [hc]; split; omega; split <;> omega
  have c2 : max 0 (min p 10000) = c := by rw [hc]; split; omega; split <;> omega
  have s4 := Split_ans n (10000 - c) hn hn'
  obtain ⟨a1, a2, a3, a4⟩ := part_bounds n p
  obtain ⟨b1, b2, b3, b4⟩ := part_bounds n (10000 - c)
  rw [c2] at a3 a4
  rw [show max 0 (min (10000 - c) 10000) = 10000 - c by omega, Int.mul_sub] at b3 b4
  rw [z0] at s2
  rw [z1] at s3
  have y0 : n - 0 = n := by omega
  have y1 : n - n = 0 := by omega
  rw [y0] at s2
  rw [y1] at s3
  generalize part n p = a at *
  generalize part n (10000 - c) = g at *
  generalize n * c = nc at *
  have w0 : IntKind.wrap .i64 (10000 - c) = 10000 - c := wrap_i64_id _ (by omega) (by omega)
  have w1 : IntKind.wrap .i64 (a + (n - a)) = n := by rw [wrap_i64_id _ (by omega) (by omega)]; omega
  have w2 : IntKind.wrap .i64 (g - (n - a)) = g - (n - a) := wrap_i64_id _ (by omega) (by omega)
  have w3 : IntKind.wrap .i64 (n - g - a) = n - g - a := wrap_i64_id _ (by omega) (by omega)
  have d1 : decide (-1 ≤ g - (n - a)) = true := by simp; omega
  have d2 : decide (g - (n - a) ≤ 1) = true := by simp; omega
  have d3 : decide (-1 ≤ n - g - a) = true := by simp; omega
  have d4 : decide (n - g - a ≤ 1) = true := by simp; omega
  refine Tru.of fn_sheaflaw2_MoneySplits (by simp) fun m => ?_
  rcases Int.lt_trichotomy n 0 with h | h | h
  · have e1 : decide (0 ≤ n) = false := by simp; omega
    have e2 : decide (n ≤ 0) = true := by simp; omega
    have e3 : decide (a > 0) = false := by simp; omega
    have e4 : decide (n - a > 0) = false := by simp; omega
    simp (decide := true) (implicitDefEqProofs := false) (maxDischargeDepth := 20) only [go_sem, ↓reduceIte, s1.eq, s2.eq, s3.eq, s4.eq, cl.eq, w0, w1, w2, w3, d1, d2, d3, d4, e1, e2, e3, e4, bne_self_eq_false, true_implies, false_implies]
  · have e1 : decide (0 ≤ n) = true := by simp; omega
    have e2 : decide (n ≤ 0) = true := by simp; omega
    have e3 : decide (a > 0) = false := by simp; omega
    have e4 : decide (n - a > 0) = false := by simp; omega
    have e5 : decide (a < 0) = false := by simp; omega
    have e6 : decide (n - a < 0) = false := by simp; omega
    simp (decide := true) (implicitDefEqProofs := false) (maxDischargeDepth := 20) only [go_sem, ↓reduceIte, s1.eq, s2.eq, s3.eq, s4.eq, cl.eq, w0, w1, w2, w3, d1, d2, d3, d4, e1, e2, e3, e4, e5, e6, bne_self_eq_false, true_implies, false_implies]
  · have e1 : decide (0 ≤ n) = true := by simp; omega
    have e2 : decide (n ≤ 0) = false := by simp; omega
    have e5 : decide (a < 0) = false := by simp; omega
    have e6 : decide (n - a < 0) = false := by simp; omega
    simp (decide := true) (implicitDefEqProofs := false) (maxDischargeDepth := 20) only [go_sem, ↓reduceIte, s1.eq, s2.eq, s3.eq, s4.eq, cl.eq, w0, w1, w2, w3, d1, d2, d3, d4, e1, e2, e5, e6, bne_self_eq_false, true_implies, false_implies]
theorem mod_mask (x : Int) (j : Nat) (hj : j ≤ 62) : andI .i64 x (2 ^ j - 1 : Nat) = x % (2 ^ j : Nat) := by
  unfold andI
  have hp : (2 : Nat) ^ j ≤ 2 ^ 62 := Nat.pow_le_pow_right (by decide) hj
  have hp0 : 0 < (2 : Nat) ^ j := Nat.pow_pos (by decide)
  have e : (BitVec.ofInt 64 x &&& BitVec.ofInt 64 ((2 ^ j - 1 : Nat) : Int)).toNat = (x % (2 ^ j : Nat)).toNat := by
    rw [BitVec.toNat_and, BitVec.toNat_ofInt, BitVec.toNat_ofInt]
    have e2 : ((((2 ^ j - 1 : Nat) : Int) % (2 ^ 64 : Nat)).toNat) = 2 ^ j - 1 := by
      rw [Int.emod_eq_of_lt (by omega) (by omega), Int.toNat_natCast]
    rw [e2, Nat.and_two_pow_sub_one_eq_mod]
    have e3 : (((x % (2 ^ 64 : Nat)).toNat % 2 ^ j : Nat) : Int) = x % (2 ^ j : Nat) := by
      rw [Int.natCast_emod, Int.toNat_of_nonneg (Int.emod_nonneg _ (by decide))]
      refine Int.emod_emod_of_dvd x ?_
      exact Int.natCast_dvd_natCast.2 (Nat.pow_dvd_pow 2 (by omega))
    omega
  have h1 := Int.emod_nonneg x (show ((2 ^ j : Nat) : Int) ≠ 0 by omega)
  have h2 := Int.emod_lt_of_pos x (show (0 : Int) < ((2 ^ j : Nat) : Int) by omega)
  show IntKind.wrap .i64 ((BitVec.ofInt 64 x &&& BitVec.ofInt 64 ((2 ^ j - 1 : Nat) : Int)).toNat : Int) = _
  rw [e, Int.toNat_of_nonneg h1, wrap_i64_id _ (by omega) (by omega)]

theorem and1 (x : Int) : andI .i64 x 1 = x % 2 := mod_mask x 1 (by decide)
theorem and1023 (x : Int) : andI .i64 x 1023 = x % 1024 := mod_mask x 10 (by decide)

set_option maxRecDepth 100000 in
set_option maxHeartbeats 4000000 in
theorem MoneyBack_tru (n b d : Int) (hn : -9223372036854775808 ≤ n) (hn' : n < 9223372036854775808) (hb : -9223372036854775808 ≤ b) (hb' : b < 9223372036854775808) (hd : -9223372036854775808 ≤ d) (hd' : d < 9223372036854775808) :
    Tru E F_sheaflaw2_MoneyBack [.int .i64 n, .int .i64 b, .int .i64 d] := by
  have x0 := Within_ans n (-1099511627776) 1099511627776 hn hn' (by decide) (by decide) (by decide) (by decide)
  have k0 := Within_ans b 1 1048576 hb hb' (by decide) (by decide) (by decide) (by decide)
  have e0 := Within_ans d 0 99 hd hd' (by decide) (by decide) (by decide) (by decide)
  obtain ⟨x, hx⟩ : ∃ x, x = -1099511627776 + n % (1099511627776 - -1099511627776 + 1) := ⟨_, rfl⟩
  obtain ⟨k, hk⟩ : ∃ k, k = 1 + b % (1048576 - 1 + 1) := ⟨_, rfl⟩
  obtain ⟨e, he⟩ : ∃ e, e = 0 + d % (99 - 0 + 1) := ⟨_, rfl⟩
  rw [← hx] at x0
  rw [← hk] at k0
  rw [← he] at e0
  rw [show (1099511627776 - -1099511627776 + 1 : Int) = 2199023255553 by decide] at hx
  have x1 : -1099511627776 ≤ x ∧ x ≤ 1099511627776 := by omega
  have k1 : 1 ≤ k ∧ k ≤ 1048576 := by omega
  have e1 : 0 ≤ e ∧ e ≤ 99 := by omega
  clear hx hk he
  obtain ⟨K, rfl⟩ := Int.eq_ofNat_of_zero_le (show 0 ≤ k by omega)
  obtain ⟨p1, p2⟩ := mul_abs (a := 1099511627776) (b := 1048576) (x := x) (y := (K : Int)) (by omega) (by omega) (by omega) (by omega) (by decide) (by decide)
  have s1 : Ans E F_money_Scale [.int .i64 x, .int .i64 K, .int .i64 1] (quoA (x * K) 1) := Scale_ans x K (by omega) (by omega) (by omega) (by omega) 1 (by decide) (by decide)
  unfold quoA at s1
  rw [quoI_one, if_pos (by omega)] at s1
  have s2 := Scale_ans (x * K) 1 (by omega) (by omega) (by decide) (by decide) K (by omega) (by omega)
  unfold quoA at s2
  rw [Int.mul_one, quoI_mul x K (by omega), if_pos (by omega)] at s2
  have s3 := Scale_ans n K hn hn' (by omega) (by omega) K (by omega) (by omega)
  unfold quoA at s3
  rw [quoI_mul n K (by omega), if_pos (by omega)] at s3
  have s4 := Scale_none x K 0 (by omega) (by omega) (by omega) (by omega) (by decide)
  have s5 := Scale_none x K (-1 - e) (by omega) (by omega) (by omega) (by omega) (by omega)
  obtain ⟨q, hq⟩ : ∃ q : Nat, (q : Int) = (K : Int) % 1024 + 1 := ⟨((K : Int) % 1024 + 1).toNat, by omega⟩
  have s6 := Scale_ans 4611686018427387904 1048576 (by decide) (by decide) (by decide) (by decide) q (by omega) (by omega)
  have b6 := (quoI_spec (4611686018427387904 * 1048576) q (by omega)).2.1
  unfold quoA at s6
  rw [if_neg (by
    intro h
    have h1 : quoI (4611686018427387904 * 1048576) q * (q : Int) ≤ 9223372036854775808 * 1024 := by
      have := (mul_abs (x := quoI (4611686018427387904 * 1048576) q) (y := (q : Int)) (a := 9223372036854775808) (b := 1024) (by omega) (by omega) (by omega) (by omega) (by decide) (by decide)).2
      omega
    omega)] at s6
  have s7 : Ans E F_money_Scale [.int .i64 (2 * x + 1), .int .i64 1, .int .i64 2] (quoA ((2 * x + 1) * 1) 2) := Scale_ans (2 * x + 1) 1 (by omega) (by omega) (by decide) (by decide) 2 (by decide) (by decide)
  have b7 := quoI_spec ((2 * x + 1) * 1) 2 (by decide)
  unfold quoA at s7
  rw [Int.mul_one] at s7 b7
  generalize quoI (2 * x + 1) 2 = f at *
  rw [if_pos (by omega)] at s7
  have w1 : IntKind.wrap .i64 (x * K) = x * K := wrap_i64_id _ (by omega) (by omega)
  have w2 : IntKind.wrap .i64 (-1 - e) = -1 - e := wrap_i64_id _ (by omega) (by omega)
  have w3 : IntKind.wrap .i64 (IntKind.wrap .i64 (2 * x) + 1) = 2 * x + 1 := by simp only [wrap_i64]; omega
  have w4 : IntKind.wrap .i64 (andI .i64 (K : Int) 1023 + 1) = (q : Int) := by rw [and1023, wrap_i64_id _ (by omega) (by omega), hq]
  have w5 : andI .i64 f 1 = 0 := by rw [and1]; omega
  have w6 : IntKind.wrap .i64 (x + 1) = x + 1 := wrap_i64_id _ (by omega) (by omega)
  refine Tru.of fn_sheaflaw2_MoneyBack (by simp) fun m => ?_
  by_cases h : f = x
  · have d1 : (f == x) = true := by simpa using h
    simp (decide := true) (implicitDefEqProofs := false) (maxDischargeDepth := 20) only [go_sem, ↓reduceIte, x0.eq, k0.eq, e0.eq, s1.eq, s2.eq, s3.eq, s4.eq, s5.eq, s6.eq, s7.eq, w1, w2, w3, w4, w5, w6, d1, bne_self_eq_false, beq_self_eq_true, true_implies, false_implies]
  · have d1 : (f == x) = false := by simpa using h
    have d2 : (f == x + 1) = true := by simp; omega
    simp (decide := true) (implicitDefEqProofs := false) (maxDischargeDepth := 20) only [go_sem, ↓reduceIte, x0.eq, k0.eq, e0.eq, s1.eq, s2.eq, s3.eq, s4.eq, s5.eq, s6.eq, s7.eq, w1, w2, w3, w4, w5, w6, d1, d2, bne_self_eq_false, beq_self_eq_true, true_implies, false_implies]
end Go.Proofs.Ytmgdmldmialiiaa.W
