/-
  The laws of the layer wide: what they call answers so that they answer true.
-/
import Derived.Test.YtmgdmldmialiiaaWideE
import Derived.Test.YtmgdmldmialiiaaBook
import Derived.Test.YtmgdmldmialiiaaCodeLaw
namespace Go.Proofs.Ytmgdmldmialiiaa.W
open Go.Abs
set_option linter.unusedSimpArgs false
set_option linter.unusedVariables false

theorem Of_W (a : Int) (h1 : -9223372036854775808 ≤ a) (h2 : a < 9223372036854775808) : Ans E F_wide_Of [.int .i64 a] (W a) := by
  have := Of_ans a h1 h2
  unfold W
  rw [wrap_i64_id _ (by omega) (by omega)]
  exact this

theorem near_mul (a d : Nat) (hd : 0 < d) : near (a * d) d = a := by
  unfold near
  rw [Nat.mul_mod_left, Nat.mul_div_cancel _ hd, if_neg (by omega)]

theorem quoI_mul (x : Int) (d : Nat) (hd : 0 < d) : quoI (x * d) d = x := by
  unfold quoI
  have e : (x * (d : Int)).natAbs = x.natAbs * d := by rw [Int.natAbs_mul]; rfl
  rw [e, near_mul _ _ hd]
  have hd' : (0 : Int) < d := by omega
  split
  · rename_i h
    have : x < 0 := by
      rcases Int.lt_or_le x 0 with h1 | h1
      · exact h1
      · have := Int.mul_nonneg h1 (Int.le_of_lt hd'); omega
    omega
  · rename_i h
    have : 0 ≤ x := by
      rcases Int.lt_or_le x 0 with h1 | h1
      · have := Int.mul_neg_of_neg_of_pos h1 hd'; omega
      · exact h1
    omega

theorem quoI_one (x : Int) : quoI x 1 = x := by
  have := quoI_mul x 1 (by decide)
  rwa [show x * ((1 : Nat) : Int) = x by simp] at this

/-- Bounds of a product. -/
theorem mul_abs {x y a b : Int} (hx : -a ≤ x) (hx' : x ≤ a) (hy : -b ≤ y) (hy' : y ≤ b) (ha : 0 ≤ a) (hb : 0 ≤ b) : -(a * b) ≤ x * y ∧ x * y ≤ a * b := by
  have h1 : (x * y).natAbs = x.natAbs * y.natAbs := Int.natAbs_mul x y
  have h2 : x.natAbs ≤ a.natAbs := by omega
  have h3 : y.natAbs ≤ b.natAbs := by omega
  have h4 := Nat.mul_le_mul h2 h3
  have h5 : ((a.natAbs * b.natAbs : Nat) : Int) = a * b := by rw [Int.natCast_mul]; congr 1 <;> omega
  omega

/-- A product of two ints is in the bounds of a wide number. -/
theorem mul_wide {x y : Int} (hx : -9223372036854775808 ≤ x) (hx' : x < 9223372036854775808) (hy : -9223372036854775808 ≤ y) (hy' : y < 9223372036854775808) : -170141183460469231731687303715884105728 ≤ x * y ∧ x * y < 170141183460469231731687303715884105728 := by
  obtain ⟨h1, h2⟩ := mul_abs (a := 9223372036854775808) (b := 9223372036854775808) hx (by omega) hy (by omega) (by decide) (by decide)
  exact ⟨by omega, by omega⟩

set_option maxRecDepth 100000 in
set_option maxHeartbeats 1000000 in
theorem WideFits_ans (a b : Int) (ha : -9223372036854775808 ≤ a) (ha' : a < 9223372036854775808) (hb : -9223372036854775808 ≤ b) (hb' : b < 9223372036854775808) :
    Tru E F_sheaflaw1_WideFits [.int .i64 a, .int .i64 b] := by
  obtain ⟨x, x1, x2, x0⟩ := Within_62 a ha ha'
  have y0 := Within_ans b 1 4611686018427387904 hb hb' (by decide) (by decide) (by decide) (by decide)
  obtain ⟨y, hy⟩ : ∃ y, y = 1 + b % (4611686018427387904 - 1 + 1) := ⟨_, rfl⟩
  rw [← hy] at y0
  have y1 : 1 ≤ y := by omega
  have y2 : y ≤ 4611686018427387904 := by omega
  clear hy
  obtain ⟨Y, rfl⟩ := Int.eq_ofNat_of_zero_le (show 0 ≤ y by omega)
  have b1 := mul_wide (x := x) (y := (Y : Int)) (by omega) (by omega) (by omega) (by omega)
  have c1 := Mul_ans x Y (by omega) (by omega) (by omega) (by omega)
  have c2 := Quo_ans (x * Y) b1.1 b1.2 Y (by omega) (by omega)
  have c3 := Of_W a ha ha'
  have c4 : Ans E F_wide_Quo [W a, .int .i64 1] (quoA a 1) := Quo_ans a (by omega) (by omega) 1 (by decide) (by decide)
  have c5 := Int_ans (x * Y) b1.1 b1.2
  have c6 : Ans E F_wide_Quo [W (x * Y), .int .i64 1] (quoA (x * Y) 1) := Quo_ans (x * Y) b1.1 b1.2 1 (by decide) (by decide)
  unfold quoA at c2 c4 c6
  rw [quoI_mul x Y (by omega), if_pos (by omega)] at c2
  rw [quoI_one, if_pos (by omega)] at c4
  rw [quoI_one] at c6
  simp only [W] at c1 c2 c3 c4 c5 c6
  refine Tru.of fn_sheaflaw1_WideFits (by simp) fun m => ?_
  by_cases hr : -9223372036854775808 ≤ x * Y ∧ x * Y < 9223372036854775808
  · rw [if_pos hr] at c5 c6
    simp (decide := true) (implicitDefEqProofs := false) (maxDischargeDepth := 20) only [go_sem, ↓reduceIte, x0.eq, y0.eq, c1.eq, c2.eq, c3.eq, c4.eq, c5.eq, c6.eq, true_implies, false_implies, beq_self_eq_true]
  · rw [if_neg hr] at c5 c6
    simp (decide := true) (implicitDefEqProofs := false) (maxDischargeDepth := 20) only [go_sem, ↓reduceIte, x0.eq, y0.eq, c1.eq, c2.eq, c3.eq, c4.eq, c5.eq, c6.eq, true_implies, false_implies, beq_self_eq_true]
end Go.Proofs.Ytmgdmldmialiiaa.W
