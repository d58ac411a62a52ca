/-
  Scale and Split; the nearest quotient's bounds.
-/
import Derived.Test.YtmgdmldmialiiaaLawWide
import Derived.Test.YtmgdmldmialiiaaCodeMoney
namespace Go.Proofs.Ytmgdmldmialiiaa.W
open Go.Abs
set_option linter.unusedSimpArgs false
set_option linter.unusedVariables false

theorem near_spec (a d : Nat) (hd : 0 < d) : 2 * a ≤ 2 * (near a d * d) + d ∧ 2 * (near a d * d) ≤ 2 * a + d ∧ ((2 * a = 2 * (near a d * d) + d ∨ 2 * (near a d * d) = 2 * a + d) → near a d % 2 = 0) := by
  have h1 := Nat.div_add_mod a d
  have h2 := Nat.mod_lt a hd
  rw [Nat.mul_comm] at h1
  unfold near
  split
  · rename_i h
    rw [Nat.add_mul]
    omega
  · rename_i h
    omega

theorem quoI_spec (x : Int) (d : Nat) (hd : 0 < d) : -(d : Int) ≤ 2 * x - 2 * (quoI x d * d) ∧ 2 * x - 2 * (quoI x d * d) ≤ d ∧ ((2 * x - 2 * (quoI x d * d) = -(d : Int) ∨ 2 * x - 2 * (quoI x d * d) = d) → quoI x d % 2 = 0) := by
  obtain ⟨h1, h2, h3⟩ := near_spec x.natAbs d hd
  unfold quoI
  generalize near x.natAbs d = n at *
  have e : ((n * d : Nat) : Int) = (n : Int) * (d : Int) := Int.natCast_mul n d
  generalize n * d = p at *
  split
  · have e2 : -(n : Int) * (d : Int) = -(p : Int) := by rw [Int.neg_mul, e]
    rw [e2]
    omega
  · rw [← e]
    omega

theorem quoI_neg (x : Int) (d : Nat) (hd : 0 < d) : quoI (-x) d = -quoI x d := by
  unfold quoI
  rw [Int.natAbs_neg]
  by_cases h : x = 0
  · subst h
    have : near (Int.natAbs 0) d = 0 := by
      have := near_mul 0 d hd
      rw [Nat.zero_mul] at this
      exact this
    rw [this]; rfl
  · by_cases h1 : x < 0
    · rw [if_pos h1, if_neg (by omega)]; omega
    · rw [if_neg h1, if_pos (by omega)]

set_option maxRecDepth 100000 in
theorem Scale_none (n num den : Int) (hn : -9223372036854775808 ≤ n) (hn' : n < 9223372036854775808) (hm : -9223372036854775808 ≤ num) (hm' : num < 9223372036854775808) (hd : den ≤ 0) :
    Ans E F_money_Scale [.int .i64 n, .int .i64 num, .int .i64 den] (.tuple #[.int .i64 0, .bool false]) := by
  have m1 := Mul_ans n num hn hn' hm hm'
  have q1 := Quo_none (n * num) den hd
  simp only [W] at m1 q1
  refine .of fn_money_Scale (by simp) fun m => ?_
  simp (decide := true) (implicitDefEqProofs := false) (maxDischargeDepth := 20) only [go_sem, ↓reduceIte, m1.eq, q1.eq]

set_option maxRecDepth 100000 in
theorem Scale_ans (n num : Int) (hn : -9223372036854775808 ≤ n) (hn' : n < 9223372036854775808) (hm : -9223372036854775808 ≤ num) (hm' : num < 9223372036854775808) (D : Nat) (hD : 0 < D) (hD' : (D : Int) < 9223372036854775808) :
    Ans E F_money_Scale [.int .i64 n, .int .i64 num, .int .i64 D] (quoA (n * num) D) := by
  have m1 := Mul_ans n num hn hn' hm hm'
  obtain ⟨b1, b2⟩ := mul_wide hn hn' hm hm'
  have q1 := Quo_ans (n * num) b1 b2 D hD hD'
  simp only [W] at m1 q1
  refine .of fn_money_Scale (by simp) fun m => ?_
  unfold quoA at q1 ⊢
  by_cases hr : -9223372036854775808 ≤ quoI (n * num) D ∧ quoI (n * num) D < 9223372036854775808
  · rw [if_pos hr] at q1
    rw [if_pos hr]
    simp (decide := true) (implicitDefEqProofs := false) (maxDischargeDepth := 20) only [go_sem, ↓reduceIte, m1.eq, q1.eq]
  · rw [if_neg hr] at q1
    rw [if_neg hr]
    simp (decide := true) (implicitDefEqProofs := false) (maxDischargeDepth := 20) only [go_sem, ↓reduceIte, m1.eq, q1.eq]

/-- A part of an amount. -/
def part (n p : Int) : Int := quoI (n * max 0 (min p 10000)) 10000

theorem part_bounds (n p : Int) : (0 ≤ n → 0 ≤ part n p ∧ part n p ≤ n) ∧ (n ≤ 0 → n ≤ part n p ∧ part n p ≤ 0) ∧ -10000 ≤ 2 * (n * max 0 (min p 10000)) - 20000 * part n p ∧ 2 * (n * max 0 (min p 10000)) - 20000 * part n p ≤ 10000 := by
  have h := quoI_spec (n * max 0 (min p 10000)) 10000 (by decide)
  have hp : 0 ≤ max 0 (min p 10000) ∧ max 0 (min p 10000) ≤ 10000 := by omega
  unfold part
  generalize max 0 (min p 10000) = c at *
  obtain ⟨h1, h2, _⟩ := h
  generalize quoI (n * c) 10000 = q at *
  refine ⟨fun hn => ?_, fun hn => ?_, by omega, by omega⟩
  · have a := Int.mul_nonneg hn hp.1
    have b := Int.mul_le_mul_of_nonneg_left hp.2 hn
    omega
  · have a := Int.mul_nonneg (show 0 ≤ -n by omega) hp.1
    have b := Int.mul_le_mul_of_nonneg_left hp.2 (show 0 ≤ -n by omega)
    rw [Int.neg_mul] at a b
    omega

set_option maxRecDepth 100000 in
theorem Split_ans (n p : Int) (hn : -9223372036854775808 ≤ n) (hn' : n < 9223372036854775808) :
    Ans E F_money_Split [.int .i64 n, .int .i64 p] (.tuple #[.int .i64 (part n p), .int .i64 (n - part n p)]) := by
  have s1 : Ans E F_money_Scale [.int .i64 n, .int .i64 (max 0 (min p 10000)), .int .i64 10000] (quoA (n * max 0 (min p 10000)) 10000) := Scale_ans n (max 0 (min p 10000)) hn hn' (by omega) (by omega) 10000 (by decide) (by decide)
  obtain ⟨h1, h2, h3, h4⟩ := part_bounds n p
  unfold quoA at s1
  rw [show quoI (n * max 0 (min p 10000)) 10000 = part n p from rfl, if_pos (by omega)] at s1
  have w1 : IntKind.wrap .i64 (n - part n p) = n - part n p := wrap_i64_id _ (by omega) (by omega)
  refine .of fn_money_Split (by simp) fun m => ?_
  simp (decide := true) (implicitDefEqProofs := false) (maxDischargeDepth := 20) only [go_sem, ↓reduceIte, s1.eq, w1]
end Go.Proofs.Ytmgdmldmialiiaa.W
