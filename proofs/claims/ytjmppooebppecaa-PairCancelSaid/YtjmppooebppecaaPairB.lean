/-
  PairCancel, the law.
-/
import Derived.Test.YtjmppooebppecaaPairA
import Derived.Test.YtjmppooebppecaaCodeLaw
namespace Go.Proofs.Ytjmppooebppecaa.W
open Go.Abs
set_option linter.unusedSimpArgs false
set_option linter.unusedVariables false

/-- Bounds of a product. -/
theorem mul_abs {x y a b : Int} (hx : -a ≤ x) (hx' : x ≤ a) (hy : -b ≤ y) (hy' : y ≤ b) (ha : 0 ≤ a) (hb : 0 ≤ b) : -(a * b) ≤ x * y ∧ x * y ≤ a * b := by
  have h1 : (x * y).natAbs = x.natAbs * y.natAbs := Int.natAbs_mul x y
  have h2 : x.natAbs ≤ a.natAbs := by omega
  have h3 : y.natAbs ≤ b.natAbs := by omega
  have h4 := Nat.mul_le_mul h2 h3
  have h5 : ((a.natAbs * b.natAbs : Nat) : Int) = a * b := by rw [Int.natCast_mul]; congr 1 <;> omega
  omega

theorem sgs (x : Int) : (x < 0 → sg x 0 = -1) ∧ (0 < x → sg x 0 = 1) ∧ sg 0 0 = 0 := by
  unfold sg
  refine ⟨fun h => by rw [if_pos h], fun h => by rw [if_neg (by omega), if_pos h], by decide⟩

def Wc (x : Int) : List Value := [.int .i64 (IntKind.wrap .i64 (x / 18446744073709551616)), .int .u64 (x % 18446744073709551616)]

theorem opp (x y : Int) (h1 : ¬ 0 ≤ sg x 0 * sg y 0) : (sg x 0 = -1 ∧ x < 0 ∧ sg y 0 = 1 ∧ 0 < y) ∨ (sg x 0 = 1 ∧ 0 < x ∧ sg y 0 = -1 ∧ y < 0) := by
  rcases sg0 x with h | h | h <;> rcases sg0 y with k | k | k <;> rw [h.1, k.1] at h1 <;> first | exact absurd (by decide) h1 | omega
theorem sg_lt {x y : Int} (h : x < y) : sg x y = -1 := by unfold sg; rw [if_pos h]
theorem sg_gt {x y : Int} (h : y < x) : sg x y = 1 := by unfold sg; rw [if_neg (by omega), if_pos h]
theorem can_both (x y : Int) : canP y x = canQ x y ∧ canQ y x = canP x y ∧ canP x y + canQ x y = x + y := by
  unfold canP canQ
  have hm : sg y 0 * sg x 0 = sg x 0 * sg y 0 := Int.mul_comm _ _
  have ha : y + x = x + y := Int.add_comm _ _
  rw [hm, ha]
  by_cases h1 : 0 ≤ sg x 0 * sg y 0
  · simp only [if_pos h1]; exact ⟨trivial, trivial, trivial⟩
  · simp only [if_neg h1]
    rcases sg0 x with h | h | h <;> rcases sg0 y with k | k | k <;> rcases sg0 (x + y) with l | l | l <;> rw [h.1, k.1] at h1 <;> first | exact absurd (by decide) h1 | (rw [h.1, k.1, l.1]; simp; try omega)

/-- Two new boxes, and what is laid into them. -/
theorem two_boxes (P : Mem → Prop) (m : Mem) (z cs ds : List Value) (h : ∀ m', Box m' m.size cs → Box m' (m.size + 1) ds → Old m m' → P m') :
    P ((((m.push (.cells false true z)).push (.cells false true z)).put m.size (some (.cells false true cs))).put (m.size + 1) (some (.cells false true ds))) := by
  refine h _ ⟨true, ?_⟩ ⟨true, ?_⟩ (.put (.put (.push (.push (.refl m) _) _) _ _ (by omega)) _ _ (by omega))
  · rw [getM_put, if_neg (by omega), getM_put, if_pos ⟨rfl, by simp; omega⟩]
  · rw [getM_put, if_pos ⟨rfl, by simp⟩]
theorem three_boxes (P : Mem → Prop) (m : Mem) (z cs ds es : List Value) (h : ∀ m', Box m' m.size cs → Box m' (m.size + 1) ds → Box m' (m.size + (1 + 1)) es → Old m m' → P m') :
    P ((((((m.push (.cells false true z)).push (.cells false true z)).put m.size (some (.cells false true cs))).put (m.size + 1) (some (.cells false true ds))).push (.cells false true z)).put (m.size + (1 + 1)) (some (.cells false true es))) := by
  refine h _ ⟨true, ?_⟩ ⟨true, ?_⟩ ⟨true, ?_⟩ (.put (.push (.put (.put (.push (.push (.refl m) _) _) _ _ (by omega)) _ _ (by omega)) _) _ _ (by omega))
  · rw [getM_put, if_neg (by omega), getM_push, if_neg (by simp; omega), getM_put, if_neg (by omega), getM_put, if_pos ⟨rfl, by simp; omega⟩]
  · rw [getM_put, if_neg (by omega), getM_push, if_neg (by simp), getM_put, if_pos ⟨rfl, by simp⟩]
  · rw [getM_put, if_pos ⟨rfl, by simp⟩]

set_option maxRecDepth 100000 in
set_option maxHeartbeats 8000000 in
theorem PairCancel_law (m : Mem) (hro : ∀ i c, m.get i = some c → c.writable = false)
    (a : Int) (ha : -9223372036854775808 ≤ a) (ha' : a < 9223372036854775808) (b : Int) (hb : -9223372036854775808 ≤ b) (hb' : b < 9223372036854775808)
    (c : Int) (hc : -9223372036854775808 ≤ c) (hc' : c < 9223372036854775808) (d : Int) (hd : -9223372036854775808 ≤ d) (hd' : d < 9223372036854775808) :
    CallQ E F_sheaflaw18_PairCancel [.int .i64 a, .int .i64 b, .int .i64 c, .int .i64 d].toArray m fun v _ => v = .bool true := by
  have i1 := Within_ans c (-1099511627776) 1099511627776 hc hc' (by decide) (by decide) (by decide) (by decide)
  have i2 := Within_ans d (-1099511627776) 1099511627776 hd hd' (by decide) (by decide) (by decide) (by decide)
  obtain ⟨p, hp⟩ : ∃ p, p = -1099511627776 + c % (1099511627776 - -1099511627776 + 1) := ⟨_, rfl⟩
  obtain ⟨q, hq⟩ : ∃ q, q = -1099511627776 + d % (1099511627776 - -1099511627776 + 1) := ⟨_, rfl⟩
  rw [← hp] at i1
  rw [← hq] at i2
  rw [show (1099511627776 - -1099511627776 + 1 : Int) = 2199023255553 by decide] at hp hq
  have p1 : -1099511627776 ≤ p ∧ p ≤ 1099511627776 := by omega
  have q1 : -1099511627776 ≤ q ∧ q ≤ 1099511627776 := by omega
  clear hp hq
  have m1 := Mul_ans a p ha ha' (by omega) (by omega)
  have m2 := Mul_ans b q hb hb' (by omega) (by omega)
  obtain ⟨X1, X2⟩ := mul_abs (x := a) (y := p) (a := 9223372036854775808) (b := 1099511627776) (by omega) (by omega) p1.1 p1.2 (by decide) (by decide)
  obtain ⟨Y1, Y2⟩ := mul_abs (x := b) (y := q) (a := 9223372036854775808) (b := 1099511627776) (by omega) (by omega) q1.1 q1.2 (by decide) (by decide)
  rw [show (9223372036854775808 * 1099511627776 : Int) = 10141204801825835211973625643008 by decide] at X1 X2 Y1 Y2
  generalize a * p = x at *
  generalize b * q = y at *
  have k1 := Cancel_ans x y (by omega) (by omega) (by omega) (by omega)
  have k2 := Cancel_ans y x (by omega) (by omega) (by omega) (by omega)
  have wz : W 0 = .agg #[.int .i64 0, .int .u64 0] := rfl
  have wz' : Wc 0 = [.int .i64 0, .int .u64 0] := rfl
  have c1 := Cmp_sg x 0 (by omega) (by omega) (by decide) (by decide)
  have c2 := Cmp_sg y 0 (by omega) (by omega) (by decide) (by decide)
  have a1 := Add_ans x y
  obtain ⟨f1, f2, f3⟩ := can_both x y
  rw [f1, f2] at k2
  have a2 := Add_ans (canP x y) (canQ x y)
  rw [f3] at a2
  have hpq : (0 ≤ sg x 0 * sg y 0 ∧ canP x y = x ∧ canQ x y = y) ∨ (¬ 0 ≤ sg x 0 * sg y 0 ∧ sg (x + y) 0 = sg x 0 ∧ canP x y = x + y ∧ canQ x y = 0) ∨ (¬ 0 ≤ sg x 0 * sg y 0 ∧ ¬ sg (x + y) 0 = sg x 0 ∧ canP x y = 0 ∧ canQ x y = x + y) := by
    unfold canP canQ
    by_cases h1 : 0 ≤ sg x 0 * sg y 0
    · rw [if_pos h1, if_pos h1]; exact .inl ⟨h1, rfl, rfl⟩
    · rw [if_neg h1, if_neg h1]
      by_cases h2 : sg (x + y) 0 = sg x 0
      · rw [if_pos h2, if_pos h2]; exact .inr (.inl ⟨h1, h2, rfl, rfl⟩)
      · rw [if_neg h2, if_neg h2]; exact .inr (.inr ⟨h1, h2, rfl, rfl⟩)
  generalize canP x y = p' at *
  generalize canQ x y = q' at *
  have w1 : IntKind.wrap .i64 (sg x 0 * sg y 0) = sg x 0 * sg y 0 := by
    rcases sg0 x with h | h | h <;> rcases sg0 y with k | k | k <;> rw [h.1, k.1] <;> decide
  refine .enter fn_sheaflaw18_PairCancel (by simp) ?_
  rw [wz] at c1 c2
  simp only [W] at m1 m2 k1 k2 c1 c2 a1 a2
  simp (decide := true) (implicitDefEqProofs := false) (maxDischargeDepth := 20) only [go_sem, ↓reduceIte, i1.eq, i2.eq, m1.eq, true_implies, false_implies]
  refine (m2 _).mono ?_
  rintro w mA ⟨rfl, _⟩
  simp (decide := true) (implicitDefEqProofs := false) (maxDischargeDepth := 20) only [go_sem, ↓reduceIte, true_implies, false_implies]
  refine two_boxes (fun mm => CallQ E _ _ mm _) mA _ (Wc x) (Wc y) fun mB x9 x10 oB => ?_
  refine (k1 mB).mono ?_
  rintro w mC ⟨rfl, oC⟩
  have x9 := x9.old oC
  have x10 := x10.old oC
  have r9 := x9.rows
  have r10 := x10.rows
  simp only [Wc, List.length_cons, List.length_nil, Nat.zero_add] at r9 r10
  have l9 := x9.lt
  have l10 := x10.lt
  have s9 := oB.size
  obtain ⟨b9, hb9⟩ : ∃ b, b = mA.size := ⟨_, rfl⟩
  rw [← hb9] at r9 r10 l9 l10 x9 x10 s9 ⊢
  clear hb9
  have n1 : ¬ b9 = mC.size := by omega
  have n2 : ¬ b9 + 1 = mC.size := by omega
  have n3 : ¬ b9 = mC.size + 1 := by omega
  have n4 : ¬ b9 + 1 = mC.size + 1 := by omega
  simp (decide := true) (implicitDefEqProofs := false) (maxDischargeDepth := 20) only [go_sem, ↓reduceIte, r9, r10, l9, l10, n1, n2, n3, n4, true_implies, false_implies]
  refine two_boxes (fun mm => CallQ E _ _ mm _) mC _ (Wc p') (Wc q') fun mD x11 x12 oD => ?_
  have x9 := x9.old oD
  have x10 := x10.old oD
  refine (k2 mD).mono ?_
  rintro w mE ⟨rfl, oE⟩
  have x9 := x9.old oE
  have x10 := x10.old oE
  have x11 := x11.old oE
  have x12 := x12.old oE
  obtain ⟨b11, hb11⟩ : ∃ b, b = mC.size := ⟨_, rfl⟩
  rw [← hb11] at x11 x12 n1 n2 n3 n4 ⊢
  clear hb11
  have r9 := x9.rows
  have r10 := x10.rows
  have r11 := x11.rows
  have r12 := x12.rows
  simp only [Wc, List.length_cons, List.length_nil, Nat.zero_add] at r9 r10 r11 r12
  have l9 := x9.lt
  have l10 := x10.lt
  have l11 := x11.lt
  have l12 := x12.lt
  have n5 : ¬ b9 = mE.size := by omega
  have n6 : ¬ b9 + 1 = mE.size := by omega
  have n7 : ¬ b9 = mE.size + 1 := by omega
  have n8 : ¬ b9 + 1 = mE.size + 1 := by omega
  have n9 : ¬ b9 = mE.size + (1 + 1) := by omega
  have n10 : ¬ b9 + 1 = mE.size + (1 + 1) := by omega
  simp (decide := true) (implicitDefEqProofs := false) (maxDischargeDepth := 20) only [go_sem, ↓reduceIte, r9, r10, r11, r12, l9, l10, l11, l12, n1, n2, n3, n4, n5, n6, n7, n8, n9, n10, true_implies, false_implies]
  refine three_boxes (fun mm => CallQ E _ _ (mm.gm _) (contD E _ _ _ _ _ mm _)) mE _ (Wc q') (Wc p') (Wc 0) fun mF x13 x14 x15 oF => ?_
  have x9 := x9.old oF
  have x10 := x10.old oF
  have x11 := x11.old oF
  have x12 := x12.old oF
  obtain ⟨b13, hb13⟩ : ∃ b, b = mE.size := ⟨_, rfl⟩
  rw [← hb13] at x13 x14 x15 n5 n6 n7 n8 n9 n10 ⊢
  clear hb13
  have r9 := x9.rows
  have r10 := x10.rows
  have r11 := x11.rows
  have r12 := x12.rows
  have r13 := x13.rows
  have r14 := x14.rows
  have r15 := x15.rows
  have l9 := x9.lt
  have l10 := x10.lt
  have l11 := x11.lt
  have l12 := x12.lt
  have l13 := x13.lt
  have l14 := x14.lt
  have l15 := x15.lt
  simp only [Wc, List.length_cons, List.length_nil, Nat.zero_add] at r9 r10 r11 r12 r13 r14
  have r15 : mF.rows (b13 + (1 + 1)) 0 2 = some [.int .i64 0, .int .u64 0] := r15
  rcases hpq with ⟨h1, rfl, rfl⟩ | ⟨h1, h2, rfl, rfl⟩ | ⟨h1, h2, rfl, rfl⟩
  · have d1 : decide (sg p' 0 * sg q' 0 ≥ 0) = true := by simpa using h1
    simp (decide := true) (implicitDefEqProofs := false) (maxDischargeDepth := 20) only [go_sem, ↓reduceIte, r9, r10, r11, r12, r13, r14, r15, l9, l10, l11, l12, l13, l14, l15, n1, n2, n3, n4, n5, n6, n7, n8, n9, n10, c1.eq, c2.eq, a1.eq, a2.eq, w1, d1, beq_self_eq_true, bne_self_eq_false, true_implies, false_implies]
  · have z1 : IntKind.wrap .i64 ((0:Int) / 18446744073709551616) = 0 := by decide
    have z2 : (0:Int) % 18446744073709551616 = 0 := by decide
    simp only [z1, z2] at r12 r13 a2
    have hS := sg0 (x + y)
    generalize hS0 : x + y = S at *
    have S1 : -20282409603651670423947251286016 ≤ S ∧ S ≤ 20282409603651670423947251286016 := by omega
    have c3 := Cmp_sg S 0 (by omega) (by omega) (by decide) (by decide)
    have c4 := Cmp_sg S x (by omega) (by omega) (by omega) (by omega)
    rw [wz] at c3
    simp only [W] at c3 c4
    have dS := W_eq S 0 (by omega) (by omega) (by decide) (by decide)
    simp only [z1, z2] at dS
    have u1 : IntKind.wrap .i64 (0 - -1 : Int) = 1 := by decide
    have u2 : IntKind.wrap .i64 (0 - 1 : Int) = -1 := by decide
    have u3 : IntKind.wrap .i64 (-1 * 1 : Int) = -1 := by decide
    have u4 : IntKind.wrap .i64 (1 * -1 : Int) = -1 := by decide
    have u5 : decide ((-1 : Int) ≥ 0) = false := by decide
    have u6 : True := trivial
    rcases opp x y h1 with ⟨e1, e2, e3, e4⟩ | ⟨e1, e2, e3, e4⟩
    · rw [e1] at c1 h2
      rw [e3] at c2
      rw [h2] at c3
      have hs : S < 0 := by omega
      rw [sg_gt (show x < S by omega)] at c4
      rw [decide_eq_false (show ¬ S = 0 by omega)] at dS
      simp (decide := true) (implicitDefEqProofs := false) (maxDischargeDepth := 20) only [go_sem, ↓reduceIte, r9, r10, r11, r12, r13, r14, r15, l9, l10, l11, l12, l13, l14, l15, n1, n2, n3, n4, n5, n6, n7, n8, n9, n10, c1.eq, c2.eq, a1.eq, a2.eq, c3.eq, c4.eq, u1, u2, u3, u4, u5, u6, dS, beq_self_eq_true, bne_self_eq_false, true_implies, false_implies]
    · rw [e1] at c1 h2
      rw [e3] at c2
      rw [h2] at c3
      have hs : 0 < S := by omega
      rw [sg_lt (show S < x by omega)] at c4
      rw [decide_eq_false (show ¬ S = 0 by omega)] at dS
      simp (decide := true) (implicitDefEqProofs := false) (maxDischargeDepth := 20) only [go_sem, ↓reduceIte, r9, r10, r11, r12, r13, r14, r15, l9, l10, l11, l12, l13, l14, l15, n1, n2, n3, n4, n5, n6, n7, n8, n9, n10, c1.eq, c2.eq, a1.eq, a2.eq, c3.eq, c4.eq, u1, u2, u3, u4, u5, u6, dS, beq_self_eq_true, bne_self_eq_false, true_implies, false_implies]
  · have z1 : IntKind.wrap .i64 ((0:Int) / 18446744073709551616) = 0 := by decide
    have z2 : (0:Int) % 18446744073709551616 = 0 := by decide
    simp only [z1, z2] at r11 r14 a2
    have hS := sg0 (x + y)
    generalize hS0 : x + y = S at *
    have S1 : -20282409603651670423947251286016 ≤ S ∧ S ≤ 20282409603651670423947251286016 := by omega
    have c3 := Cmp_sg S 0 (by omega) (by omega) (by decide) (by decide)
    have c4 := Cmp_sg S y (by omega) (by omega) (by omega) (by omega)
    rw [wz] at c3
    simp only [W] at c3 c4
    have dS := W_eq S 0 (by omega) (by omega) (by decide) (by decide)
    simp only [z1, z2] at dS
    have u1 : IntKind.wrap .i64 (0 - -1 : Int) = 1 := by decide
    have u2 : IntKind.wrap .i64 (0 - 1 : Int) = -1 := by decide
    have u3 : IntKind.wrap .i64 (-1 * 1 : Int) = -1 := by decide
    have u4 : IntKind.wrap .i64 (1 * -1 : Int) = -1 := by decide
    have u5 : decide ((-1 : Int) ≥ 0) = false := by decide
    have u6 : True := trivial
    by_cases h0 : S = 0
    · rw [decide_eq_true h0] at dS
      rcases opp x y h1 with ⟨e1, e2, e3, e4⟩ | ⟨e1, e2, e3, e4⟩
      · rw [e1] at c1
        rw [e3] at c2
        simp (decide := true) (implicitDefEqProofs := false) (maxDischargeDepth := 20) only [go_sem, ↓reduceIte, r9, r10, r11, r12, r13, r14, r15, l9, l10, l11, l12, l13, l14, l15, n1, n2, n3, n4, n5, n6, n7, n8, n9, n10, c1.eq, c2.eq, a1.eq, a2.eq, c3.eq, c4.eq, u1, u2, u3, u4, u5, u6, dS, beq_self_eq_true, bne_self_eq_false, true_implies, false_implies]
      · rw [e1] at c1
        rw [e3] at c2
        simp (decide := true) (implicitDefEqProofs := false) (maxDischargeDepth := 20) only [go_sem, ↓reduceIte, r9, r10, r11, r12, r13, r14, r15, l9, l10, l11, l12, l13, l14, l15, n1, n2, n3, n4, n5, n6, n7, n8, n9, n10, c1.eq, c2.eq, a1.eq, a2.eq, c3.eq, c4.eq, u1, u2, u3, u4, u5, u6, dS, beq_self_eq_true, bne_self_eq_false, true_implies, false_implies]
    · rw [decide_eq_false h0] at dS
      rcases opp x y h1 with ⟨e1, e2, e3, e4⟩ | ⟨e1, e2, e3, e4⟩
      · rw [e1] at c1 h2
        rw [e3] at c2
        rw [show sg S 0 = 1 by omega] at c3
        rw [sg_lt (show S < y by omega)] at c4
        simp (decide := true) (implicitDefEqProofs := false) (maxDischargeDepth := 20) only [go_sem, ↓reduceIte, r9, r10, r11, r12, r13, r14, r15, l9, l10, l11, l12, l13, l14, l15, n1, n2, n3, n4, n5, n6, n7, n8, n9, n10, c1.eq, c2.eq, a1.eq, a2.eq, c3.eq, c4.eq, u1, u2, u3, u4, u5, u6, dS, beq_self_eq_true, bne_self_eq_false, true_implies, false_implies]
      · rw [e1] at c1 h2
        rw [e3] at c2
        rw [show sg S 0 = -1 by omega] at c3
        rw [sg_gt (show y < S by omega)] at c4
        simp (decide := true) (implicitDefEqProofs := false) (maxDischargeDepth := 20) only [go_sem, ↓reduceIte, r9, r10, r11, r12, r13, r14, r15, l9, l10, l11, l12, l13, l14, l15, n1, n2, n3, n4, n5, n6, n7, n8, n9, n10, c1.eq, c2.eq, a1.eq, a2.eq, c3.eq, c4.eq, u1, u2, u3, u4, u5, u6, dS, beq_self_eq_true, bne_self_eq_false, true_implies, false_implies]
end Go.Proofs.Ytjmppooebppecaa.W
