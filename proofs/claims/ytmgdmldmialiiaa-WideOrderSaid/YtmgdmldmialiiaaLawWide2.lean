/-
  WideOrder.
-/
import Derived.Test.YtmgdmldmialiiaaLawWide
namespace Go.Proofs.Ytmgdmldmialiiaa.W
open Go.Abs
set_option linter.unusedSimpArgs false
set_option linter.unusedVariables false

/-- Below, equal, above. -/
def sg (x y : Int) : Int := if x < y then -1 else if y < x then 1 else 0

theorem Cmp_sg (x y : Int) (hx : -170141183460469231731687303715884105728 ≤ x) (hx' : x < 170141183460469231731687303715884105728) (hy : -170141183460469231731687303715884105728 ≤ y) (hy' : y < 170141183460469231731687303715884105728) :
    Ans E F_wide_Cmp [W x, W y] (.int .i64 (sg x y)) := Cmp_ans x y hx hx' hy hy'

theorem W_eq (x y : Int) (hx : -170141183460469231731687303715884105728 ≤ x) (hx' : x < 170141183460469231731687303715884105728) (hy : -170141183460469231731687303715884105728 ≤ y) (hy' : y < 170141183460469231731687303715884105728) :
    (IntKind.wrap .i64 (x / 18446744073709551616) == IntKind.wrap .i64 (y / 18446744073709551616) && x % 18446744073709551616 == y % 18446744073709551616) = decide (x = y) := by
  rw [wrap_i64_id _ (by omega) (by omega), wrap_i64_id _ (by omega) (by omega)]
  rw [Bool.eq_iff_iff]
  simp only [Bool.and_eq_true, beq_iff_eq, decide_eq_true_eq]
  omega

set_option maxRecDepth 100000 in
set_option maxHeartbeats 40000000 in
theorem WideOrder_ans (a b c d : Int) (ha : -9223372036854775808 ≤ a) (ha' : a < 9223372036854775808) (hb : -9223372036854775808 ≤ b) (hb' : b < 9223372036854775808)
    (hc : -9223372036854775808 ≤ c) (hc' : c < 9223372036854775808) (hd : -9223372036854775808 ≤ d) (hd' : d < 9223372036854775808) :
    Tru E F_sheaflaw1_WideOrder [.int .i64 a, .int .i64 b, .int .i64 c, .int .i64 d] := by
  have o1 := Of_W a ha ha'
  have o2 := Of_W b hb hb'
  have i1 := Int_ans a (by omega) (by omega)
  rw [if_pos (by omega)] at i1
  have m1 := Mul_ans a b ha ha' hb hb'
  have m2 := Mul_ans b c hb hb' hc hc'
  have m3 := Mul_ans c d hc hc' hd hd'
  obtain ⟨X1, X2⟩ := mul_wide ha ha' hb hb'
  obtain ⟨Y1, Y2⟩ := mul_wide hb hb' hc hc'
  obtain ⟨Z1, Z2⟩ := mul_wide hc hc' hd hd'
  generalize a * b = X at *
  generalize b * c = Y at *
  generalize c * d = Z at *
  have c0 := Cmp_sg a b (by omega) (by omega) (by omega) (by omega)
  have c1 := Cmp_sg X Y X1 X2 Y1 Y2
  have c2 := Cmp_sg Y X Y1 Y2 X1 X2
  have c3 := Cmp_sg X X X1 X2 X1 X2
  have c4 := Cmp_sg Y Z Y1 Y2 Z1 Z2
  have c5 := Cmp_sg X Z X1 X2 Z1 Z2
  have c6 := Cmp_sg X (-9223372036854775808) X1 X2 (by decide) (by decide)
  have c7 := Cmp_sg X 9223372036854775807 X1 X2 (by decide) (by decide)
  have o3 := Of_W (-9223372036854775808) (by decide) (by decide)
  have o4 := Of_W 9223372036854775807 (by decide) (by decide)
  have i2 := Int_ans X X1 X2
  have o5 : ∀ h : -9223372036854775808 ≤ X ∧ X < 9223372036854775808, Ans E F_wide_Of [.int .i64 X] (W X) := fun h => Of_W X h.1 h.2
  have wx := W_eq X X X1 X2 X1 X2
  have wy := W_eq X Y X1 X2 Y1 Y2
  simp only [W] at o1 o2 i1 m1 m2 m3 c0 c1 c2 c3 c4 c5 c6 c7 o3 o4 i2 o5
  have s0 : sg X X = 0 := by unfold sg; simp
  have s1 : IntKind.wrap .i64 (0 - sg Y X) = sg X Y := by
    unfold sg
    rcases Int.lt_trichotomy X Y with h | h | h
    · rw [if_neg (by omega), if_pos h, if_pos h]; rfl
    · rw [if_neg (by omega), if_neg (by omega), if_neg (by omega), if_neg (by omega)]; rfl
    · rw [if_pos h, if_neg (by omega), if_pos h]; rfl
  have s2 : (sg X Y == 0) = decide (X = Y) := by
    rw [Bool.eq_iff_iff]
    simp only [beq_iff_eq, decide_eq_true_eq]
    unfold sg
    repeat' split <;> omega
  -- a and b
  obtain ⟨k, u, v, e0, e1, e2, e3⟩ : ∃ (k : Int) (u v : Bool), sg a b = k ∧ decide (a < b) = u ∧ decide (a > b) = v ∧ (u = true ∧ k = -1 ∨ u = false ∧ v = true ∧ k = 1 ∨ u = false ∧ v = false ∧ k = 0) := by
    refine ⟨_, _, _, rfl, rfl, rfl, ?_⟩
    unfold sg
    simp only [decide_eq_true_eq, decide_eq_false_iff_not]
    repeat' split <;> omega
  -- the three
  obtain ⟨p, q, r, f0, f1, f2, f3⟩ : ∃ (p q r : Bool), decide (sg X Y ≤ 0) = p ∧ decide (sg Y Z ≤ 0) = q ∧ decide (sg X Z > 0) = r ∧ (p = false ∨ p = true ∧ q = false ∨ p = true ∧ q = true ∧ r = false) := by
    refine ⟨_, _, _, rfl, rfl, rfl, ?_⟩
    unfold sg
    simp only [decide_eq_true_eq, decide_eq_false_iff_not]
    repeat' split <;> omega
  -- the bounds
  obtain ⟨g, h, g1, g2, g3⟩ : ∃ (g h : Bool), decide (0 ≤ sg X (-9223372036854775808)) = g ∧ decide (sg X 9223372036854775807 ≤ 0) = h ∧ ((-9223372036854775808 ≤ X ∧ X < 9223372036854775808) ∧ g = true ∧ h = true ∨ ¬(-9223372036854775808 ≤ X ∧ X < 9223372036854775808) ∧ (g = false ∨ g = true ∧ h = false)) := by
    refine ⟨_, _, rfl, rfl, ?_⟩
    unfold sg
    simp only [decide_eq_true_eq, decide_eq_false_iff_not]
    repeat' split <;> omega
  refine Tru.of fn_sheaflaw1_WideOrder (by simp) fun m => ?_
  rcases g3 with ⟨hr, rfl, rfl⟩ | ⟨hr, g3⟩
  · rw [if_pos hr] at i2
    have o6 := o5 hr
    rcases e3 with ⟨rfl, rfl⟩ | ⟨rfl, rfl, rfl⟩ | ⟨rfl, rfl, rfl⟩ <;> rcases f3 with rfl | ⟨rfl, rfl⟩ | ⟨rfl, rfl, rfl⟩ <;>
    simp (decide := true) (implicitDefEqProofs := false) (maxDischargeDepth := 20) (maxSteps := 1000000) only [go_sem, ↓reduceIte, o1.eq, o2.eq, i1.eq, m1.eq, m2.eq, m3.eq, c0.eq, c1.eq, c2.eq, c3.eq, c4.eq, c5.eq, c6.eq, c7.eq, o3.eq, o4.eq, i2.eq, o6.eq, wx, wy, s0, s1, s2, e0, e1, e2, f0, f1, f2, g1, g2, true_implies, false_implies, beq_self_eq_true, bne_self_eq_false]
  · rw [if_neg hr] at i2
    rcases g3 with rfl | ⟨rfl, rfl⟩ <;>
    rcases e3 with ⟨rfl, rfl⟩ | ⟨rfl, rfl, rfl⟩ | ⟨rfl, rfl, rfl⟩ <;> rcases f3 with rfl | ⟨rfl, rfl⟩ | ⟨rfl, rfl, rfl⟩ <;>
    simp (decide := true) (implicitDefEqProofs := false) (maxDischargeDepth := 20) (maxSteps := 1000000) only [go_sem, ↓reduceIte, o1.eq, o2.eq, i1.eq, m1.eq, m2.eq, m3.eq, c0.eq, c1.eq, c2.eq, c3.eq, c4.eq, c5.eq, c6.eq, c7.eq, o3.eq, o4.eq, i2.eq, wx, wy, s0, s1, s2, e0, e1, e2, f0, f1, f2, g1, g2, true_implies, false_implies, beq_self_eq_true, bne_self_eq_false]
end Go.Proofs.Ytmgdmldmialiiaa.W
