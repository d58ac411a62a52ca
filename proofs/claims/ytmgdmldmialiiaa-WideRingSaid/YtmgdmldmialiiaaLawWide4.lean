/-
  WideRing.
-/
import Derived.Test.YtmgdmldmialiiaaLawMoney2
import Derived.Test.YtmgdmldmialiiaaLawWide3
namespace Go.Proofs.Ytmgdmldmialiiaa.W
open Go.Abs
set_option linter.unusedSimpArgs false
set_option linter.unusedVariables false

set_option maxRecDepth 100000 in
set_option maxHeartbeats 4000000 in
theorem WideRing_loop (t : Fr) (m : Mem) (ad : Option Addr) (n c : Nat) (a : Int) (ha : -9223372036854775808 ≤ a) (ha' : a < 9223372036854775808) (xs : List Int) (hs : SlA m 1 ad n c (xs.map (.int .i64))) (hn : n ≤ 30) (hl : xs.length = n) (hx : ∀ x ∈ xs, -9223372036854775808 ≤ x ∧ x < 9223372036854775808)
    (b1 b2 : Nat) (h1 : Box m b1 (Wc 0)) (h2 : Box m b2 (Wc 0)) (ne12 : b1 ≠ b2)
    (hne : 0 < n → ∀ x, ad = some x → x.block ≠ b1 ∧ x.block ≠ b2)
    (t0 : t 0 = .int .i64 a) (t13 : t 13 = .slice ad n c) (t11 : t 11 = .pointer (some ⟨b1, 0, none⟩)) (t12 : t 12 = .pointer (some ⟨b2, 0, none⟩))
    (t74 : t 74 = .int .i64 n) (t75 : t 75 = .int .i64 0) (K : Post3)
    (hK : ∀ t' m', Agree (writes c_sheaflaw1_WideRing_14) t t' → Box m' b1 (Wc (xs.sum * a)) → Box m' b2 (Wc (xs.sum * a)) → K .normal t' m') :
    wpM E F_sheaflaw1_WideRing 105 none c_sheaflaw1_WideRing_14 K t m := by
  refine wpM_cut (fun t' m' => Box m' b1 (Wc (xs.sum * a)) ∧ Box m' b2 (Wc (xs.sum * a))) ?_ fun t' m' ha ⟨e1, e2⟩ => hK t' m' ha e1 e2
  simp only [c_sheaflaw1_WideRing_14_at, wpM_block, c_sheaflaw1_WideRing_13_at]
  refine wpM_loopA (fun j t' m' => ∃ i : Nat, i ≤ n ∧ j = n - i ∧ t' 75 = .int .i64 i ∧ SlA m' 1 ad n c (xs.map (.int .i64)) ∧ Box m' b1 (Wc ((xs.take i).sum * a)) ∧ Box m' b2 (Wc ((xs.drop (n - i)).sum * a))) n
    ⟨0, by omega, rfl, t75, hs, by simpa using h1, by rw [List.drop_eq_nil_of_le (by omega)]; simpa using h2⟩ ?_
  rintro j t' m' hag ⟨i, hi, rfl, e75, s, x1, x2⟩
  have a0 := (hag 0 (by decide +kernel)).trans t0
  have a13 := (hag 13 (by decide +kernel)).trans t13
  have a11 := (hag 11 (by decide +kernel)).trans t11
  have a12 := (hag 12 (by decide +kernel)).trans t12
  have a74 := (hag 74 (by decide +kernel)).trans t74
  by_cases hlt : i < n
  · have d1 : decide ((i : Int) < (n : Int)) = true := by simp; omega
    obtain ⟨b, o, sp, rfl⟩ := s.addr (by omega)
    obtain ⟨q1, q2⟩ := hne (by omega) _ rfl
    have r1 := s.at_map hlt
    have r2 := s.at_map (show n - 1 - i < n by omega)
    have l0 : b < m'.size := at_lt r1
    have hxi := hx xs[i] (List.getElem_mem _)
    have hxj := hx (xs[n - 1 - i]'(by omega)) (List.getElem_mem _)
    have z0 : (0 : Int) ≤ (i : Int) := by omega
    have z1 : (i : Int) < (n : Int) := by omega
    have w1 : IntKind.wrap .i64 (IntKind.wrap .i64 ((n : Int) - 1) - (i : Int)) = ((n - 1 - i : Nat) : Int) := by simp only [wrap_i64]; omega
    have z2 : (0 : Int) ≤ ((n - 1 - i : Nat) : Int) := by omega
    have z3 : ((n - 1 - i : Nat) : Int) < (n : Int) := by omega
    have w2 : IntKind.wrap .i64 ((i : Int) + 1) = ((i + 1 : Nat) : Int) := by rw [wrap_i64_id _ (by omega) (by omega)]; omega
    have p1 : (xs.take i).sum * a + xs[i] * a = (xs.take (i + 1)).sum * a := by rw [sum_take_succ xs i (by omega), Int.add_mul]
    have p2 : (xs.drop (n - i)).sum * a + xs[n - 1 - i] * a = (xs.drop (n - (i + 1))).sum * a := by
      rw [show n - (i + 1) = n - 1 - i by omega, sum_drop xs (n - 1 - i) (by omega), show n - 1 - i + 1 = n - i by omega, Int.add_mul, Int.add_comm]
    have m1 := Mul_ans xs[i] a hxi.1 hxi.2 ha ha'
    have m2 := Mul_ans (xs[n - 1 - i]'(by omega)) a hxj.1 hxj.2 ha ha'
    have k1 := Add_ans ((xs.take i).sum * a) (xs[i] * a)
    have k2 := Add_ans ((xs.drop (n - i)).sum * a) (xs[n - 1 - i] * a)
    rw [p1] at k1
    rw [p2] at k2
    simp only [W] at m1 m2 k1 k2
    have f1 := x1.rows
    have f2 := x2.rows
    have g1 := x1.lt
    have g2 := x2.lt
    obtain ⟨tg1, y1⟩ := x1
    obtain ⟨tg2, y2⟩ := x2
    simp only [Wc, List.length_cons, List.length_nil, Nat.zero_add] at f1 f2 y1 y2
    have ne1 : ¬ b2 = b1 := fun e => ne12 e.symm
    have ne2 : ¬ b1 = b2 := ne12
    have ne3 : ¬ b = b1 := q1
    have ne4 : ¬ b = b2 := q2
    simp (decide := true) (implicitDefEqProofs := false) (maxDischargeDepth := 20) only [go_sem, ↓reduceIte, a0, a13, a11, a12, a74, e75, d1, r1, r2, f1, f2, g1, g2, y1, y2, l0, ne1, ne2, ne3, ne4, m1.eq, m2.eq, k1.eq, k2.eq, z0, z1, z2, z3, w1, w2, Int.toNat_natCast, Nat.mul_one, true_implies, false_implies]
    refine ⟨n - (i + 1), by omega, i + 1, by omega, rfl, rfl, ?_, ?_, ?_⟩
    · exact SlA.put (SlA.ansM (SlA.ansM (SlA.put (SlA.ansM (SlA.ansM s)) _ fun x hx => by cases hx; exact q1))) _ fun x hx => by cases hx; exact q2
    · exact Box.putO (Box.ansM (Box.ansM (Box.put (by simp (decide := true) (maxDischargeDepth := 20) only [go_sem, g1])))) _ ne12
    · exact Box.put (by simp (decide := true) (maxDischargeDepth := 20) only [go_sem, g2])
  · have d1 : decide ((i : Int) < (n : Int)) = false := by simp; omega
    have hin : i = n := by omega
    subst hin
    rw [List.take_of_length_le (by omega)] at x1
    rw [Nat.sub_self, List.drop_zero] at x2
    simp (decide := true) (implicitDefEqProofs := false) (maxDischargeDepth := 20) only [go_sem, ↓reduceIte, a74, e75, d1, true_implies, false_implies]
    exact ⟨x1, x2⟩

set_option maxRecDepth 100000 in
set_option maxHeartbeats 8000000 in
theorem WideRing_law (m : Mem) (hro : ∀ i c, m.get i = some c → c.writable = false) (a : Int) (ha : -9223372036854775808 ≤ a) (ha' : a < 9223372036854775808) (b : Int) (hb : -9223372036854775808 ≤ b) (hb' : b < 9223372036854775808) (c : Int) (hc : -9223372036854775808 ≤ c) (hc' : c < 9223372036854775808)
    (ad : Option Addr) (l cc : Nat) (xs : List Int) (hs : SlA m 1 ad l cc (xs.map (.int .i64))) (hl : xs.length = l) (hx : ∀ x ∈ xs, -9223372036854775808 ≤ x ∧ x < 9223372036854775808) :
    CallQ E F_sheaflaw1_WideRing [.int .i64 a, .int .i64 b, .int .i64 c, .slice ad l cc].toArray m fun v _ => v = .bool true := by
  have h0 := Within_ans b (-2305843009213693952) 2305843009213693952 hb hb' (by decide) (by decide) (by decide) (by decide)
  have i0 := Within_ans c (-2305843009213693952) 2305843009213693952 hc hc' (by decide) (by decide) (by decide) (by decide)
  obtain ⟨h, hh⟩ : ∃ h, h = -2305843009213693952 + b % (2305843009213693952 - -2305843009213693952 + 1) := ⟨_, rfl⟩
  obtain ⟨k, hk⟩ : ∃ k, k = -2305843009213693952 + c % (2305843009213693952 - -2305843009213693952 + 1) := ⟨_, rfl⟩
  rw [← hh] at h0
  rw [← hk] at i0
  rw [show (2305843009213693952 - -2305843009213693952 + 1 : Int) = 4611686018427387905 by decide] at hh hk
  have h1 : -2305843009213693952 ≤ h ∧ h ≤ 2305843009213693952 := by omega
  have k1 : -2305843009213693952 ≤ k ∧ k ≤ 2305843009213693952 := by omega
  clear hh hk
  have m1 := Mul_ans a b ha ha' hb hb'
  have m2 := Mul_ans b a hb hb' ha ha'
  have m3 := Mul_ans a (h + k) ha ha' (by omega) (by omega)
  have m4 := Mul_ans a h ha ha' (by omega) (by omega)
  have m5 := Mul_ans a k ha ha' (by omega) (by omega)
  have a1 := Add_ans (a * h) (a * k)
  have m6 := Mul_ans a 1 ha ha' (by decide) (by decide)
  have o1 := Of_W a ha ha'
  have m7 := Mul_ans a 0 ha ha' (by decide) (by decide)
  have m8 : a ≠ -9223372036854775808 → Ans E F_wide_Mul [.int .i64 (-a), .int .i64 b] (W (-a * b)) := fun hne => Mul_ans (-a) b (by omega) (by omega) hb hb'
  have a2 : Ans E F_wide_Add [W (a * b), W (-a * b)] (W 0) := by
    have := Add_ans (a * b) (-a * b)
    rwa [show a * b + -a * b = 0 by rw [Int.neg_mul]; omega] at this
  rw [Int.mul_comm b a] at m2
  rw [Int.mul_add] at m3
  rw [Int.mul_one] at m6
  rw [Int.mul_zero] at m7
  have w1 : IntKind.wrap .i64 (h + k) = h + k := wrap_i64_id _ (by omega) (by omega)
  have z1 : IntKind.wrap .i64 (0 / 18446744073709551616) = 0 := by decide
  have z2 : (0 : Int) % 18446744073709551616 = 0 := by decide
  obtain ⟨n, hn⟩ : ∃ n, n = min l 30 := ⟨_, rfl⟩
  have e30 : min (l : Int) 30 = (n : Int) := by omega
  obtain ⟨sl, s2⟩ := hs.sliceTo (E := E) (k := .i64) (show n ≤ l by omega)
  rw [Nat.mul_one, ← List.map_take] at s2
  have hx2 : ∀ x ∈ xs.take n, -9223372036854775808 ≤ x ∧ x < 9223372036854775808 := fun x h => hx x (List.mem_of_mem_take h)
  have hl2 : (xs.take n).length = n := by simp; omega
  generalize xs.take n = ys at *
  -- the end, from the loop on
  have fin : ∀ (M : Mem) (t : Fr), Old m M → t 0 = .int .i64 a → t 13 = .slice ad n cc → t 11 = .pointer (some ⟨M.size, 0, none⟩) → t 12 = .pointer (some ⟨M.size + 1, 0, none⟩) → t 74 = .int .i64 n → t 75 = .int .i64 0 →
      wpM E F_sheaflaw1_WideRing 105 none c_sheaflaw1_WideRing_14 (seqK (wpM E F_sheaflaw1_WideRing 105 none c_sheaflaw1_WideRing_16 (retK (ResK E [.tmp 8] fun v _ => v = .bool true))) (retK (ResK E [.tmp 8] fun v _ => v = .bool true))) t ((M.push (Blk.cells false true [.int .i64 0, .int .u64 0])).push (Blk.cells false true [.int .i64 0, .int .u64 0])) := by
    intro M t hO t0 t13 t11 t12 t74 t75
    have sM := s2.old hO
    obtain ⟨M2, hM2⟩ : ∃ M2, M2 = (M.push (Blk.cells false true [.int .i64 0, .int .u64 0])).push (Blk.cells false true [.int .i64 0, .int .u64 0]) := ⟨_, rfl⟩
    have g0 : Old M M2 := by rw [hM2]; exact ((Old.refl M).push _).push _
    have g1 : M2.get M.size = some (Blk.cells false true [.int .i64 0, .int .u64 0]) := by rw [hM2]; simp [getM_push]
    have g2 : M2.get (M.size + 1) = some (Blk.cells false true [.int .i64 0, .int .u64 0]) := by rw [hM2]; simp [getM_push]
    rw [← hM2]
    refine WideRing_loop t M2 ad n cc a ha ha' ys (sM.old g0) (by omega) hl2 hx2 M.size (M.size + 1) ⟨true, g1⟩ ⟨true, g2⟩ (by omega) ?_ t0 t13 t11 t12 t74 t75 _ ?_
    · intro h0 x hx
      subst hx
      have hne : ys.map (Value.int .i64) ≠ [] := by
        intro e
        have : ys = [] := by simpa using e
        rw [this] at hl2
        simp at hl2
        omega
      have := sM.lt hne
      exact ⟨by omega, by omega⟩
    · intro t' m' hag x1 x2
      have e11 := (hag 11 (by decide +kernel)).trans t11
      have e12 := (hag 12 (by decide +kernel)).trans t12
      have f1 := x1.rows
      have f2 := x2.rows
      simp only [Wc, List.length_cons, List.length_nil, Nat.zero_add] at f1 f2
      simp (decide := true) (implicitDefEqProofs := false) (maxDischargeDepth := 20) only [go_sem, ↓reduceIte, e11, e12, f1, f2, beq_self_eq_true]
  simp only [W] at m1 m2 m3 m4 m5 m6 m7 m8 a1 a2 o1
  simp only [z1, z2] at m7 a2
  refine .enter fn_sheaflaw1_WideRing (by simp) ?_
  by_cases hne : a = -9223372036854775808
  · have d1 : (a != -9223372036854775808) = false := by simpa using hne
    simp (decide := true) (implicitDefEqProofs := false) (maxDischargeDepth := 20) only [go_sem, ↓reduceIte, h0.eq, i0.eq, m1.eq, m2.eq, m3.eq, m4.eq, m5.eq, m6.eq, m7.eq, a1.eq, a2.eq, o1.eq, w1, d1, e30, sl, beq_self_eq_true, Bool.not_true, true_implies, false_implies]
    exact fin _ _ (by simp (decide := true) (maxDischargeDepth := 20) only [go_sem]) (by simp (decide := true) only [go_sem, ↓reduceIte]) (by simp (decide := true) only [go_sem, ↓reduceIte]) (by simp (decide := true) only [go_sem, ↓reduceIte]) (by simp (decide := true) only [go_sem, ↓reduceIte]) (by simp (decide := true) only [go_sem, ↓reduceIte]) (by simp (decide := true) only [go_sem, ↓reduceIte])
  · have d1 : (a != -9223372036854775808) = true := by simpa using hne
    have m9 := m8 hne
    have w2 : IntKind.wrap .i64 (0 - a) = -a := by rw [wrap_i64_id _ (by omega) (by omega)]; omega
    simp (decide := true) (implicitDefEqProofs := false) (maxDischargeDepth := 20) only [go_sem, ↓reduceIte, h0.eq, i0.eq, m1.eq, m2.eq, m3.eq, m4.eq, m5.eq, m6.eq, m7.eq, m9.eq, a1.eq, a2.eq, o1.eq, w1, w2, d1, e30, sl, beq_self_eq_true, Bool.not_true, true_implies, false_implies]
    exact fin _ _ (by simp (decide := true) (maxDischargeDepth := 20) only [go_sem]) (by simp (decide := true) only [go_sem, ↓reduceIte]) (by simp (decide := true) only [go_sem, ↓reduceIte]) (by simp (decide := true) only [go_sem, ↓reduceIte]) (by simp (decide := true) only [go_sem, ↓reduceIte]) (by simp (decide := true) only [go_sem, ↓reduceIte]) (by simp (decide := true) only [go_sem, ↓reduceIte])
end Go.Proofs.Ytmgdmldmialiiaa.W
