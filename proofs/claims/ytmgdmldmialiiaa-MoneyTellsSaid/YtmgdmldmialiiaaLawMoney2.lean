/-
  MoneySums.
-/
import Derived.Test.YtmgdmldmialiiaaMoneyB
import Derived.Test.YtmgdmldmialiiaaBook
namespace Go.Proofs.Ytmgdmldmialiiaa.W
open Go.Abs
set_option linter.unusedSimpArgs false
set_option linter.unusedVariables false

theorem sum_take_succ (xs : List Int) (i : Nat) (hi : i < xs.length) : (xs.take (i + 1)).sum = (xs.take i).sum + xs[i] := by
  rw [List.take_succ_eq_append_getElem hi, List.sum_append]
  simp
theorem sum_drop (xs : List Int) (i : Nat) (hi : i < xs.length) : (xs.drop i).sum = xs[i] + (xs.drop (i + 1)).sum := by
  rw [List.drop_eq_getElem_cons hi, List.sum_cons]
theorem sum_split (xs : List Int) (k : Nat) : (xs.take k).sum + (xs.drop k).sum = xs.sum := by
  rw [← List.sum_append, List.take_append_drop]
theorem sum_bound (xs : List Int) (h : ∀ x ∈ xs, -9223372036854775808 ≤ x ∧ x < 9223372036854775808) : -9223372036854775808 * xs.length ≤ xs.sum ∧ xs.sum ≤ 9223372036854775808 * xs.length := by
  induction xs with
  | nil => simp
  | cons x xs ih =>
    have h1 := h x (by simp)
    have h2 := ih fun y hy => h y (by simp [hy])
    rw [List.sum_cons, List.length_cons]
    omega

set_option maxRecDepth 100000 in
set_option maxHeartbeats 4000000 in
theorem MoneySums_loop (t : Fr) (m : Mem) (ad : Option Addr) (n c k : Nat) (xs : List Int) (hs : SlA m 1 ad n c (xs.map (.int .i64))) (hn : n ≤ 40) (hl : xs.length = n) (hx : ∀ x ∈ xs, -9223372036854775808 ≤ x ∧ x < 9223372036854775808)
    (b1 b2 b3 b4 : Nat) (h1 : Box m b1 (Wc 0)) (h2 : Box m b2 (Wc 0)) (h3 : Box m b3 (Wc 0)) (h4 : Box m b4 (Wc 0)) (ne12 : b1 ≠ b2) (ne13 : b1 ≠ b3) (ne14 : b1 ≠ b4) (ne23 : b2 ≠ b3) (ne24 : b2 ≠ b4) (ne34 : b3 ≠ b4)
    (hne : 0 < n → ∀ x, ad = some x → x.block ≠ b1 ∧ x.block ≠ b2 ∧ x.block ≠ b3 ∧ x.block ≠ b4)
    (t5 : t 5 = .slice ad n c) (t6 : t 6 = .int .i64 k) (t7 : t 7 = .pointer (some ⟨b1, 0, none⟩)) (t8 : t 8 = .pointer (some ⟨b2, 0, none⟩)) (t9 : t 9 = .pointer (some ⟨b3, 0, none⟩)) (t10 : t 10 = .pointer (some ⟨b4, 0, none⟩))
    (t26 : t 26 = .int .i64 n) (t27 : t 27 = .int .i64 0) (K : Post3)
    (hK : ∀ t' m', Agree (writes c_sheaflaw2_MoneySums_11) t t' → Box m' b1 (Wc xs.sum) → Box m' b2 (Wc xs.sum) → Box m' b3 (Wc (xs.take k).sum) → Box m' b4 (Wc (xs.drop k).sum) → K .normal t' m') :
    wpM E F_sheaflaw2_MoneySums 89 none c_sheaflaw2_MoneySums_11 K t m := by
  refine wpM_cut (fun t' m' => Box m' b1 (Wc xs.sum) ∧ Box m' b2 (Wc xs.sum) ∧ Box m' b3 (Wc (xs.take k).sum) ∧ Box m' b4 (Wc (xs.drop k).sum)) ?_ fun t' m' ha ⟨e1, e2, e3, e4⟩ => hK t' m' ha e1 e2 e3 e4
  simp only [c_sheaflaw2_MoneySums_11_at, wpM_block, c_sheaflaw2_MoneySums_10_at]
  refine wpM_loopA (fun j t' m' => ∃ i : Nat, i ≤ n ∧ j = n - i ∧ t' 27 = .int .i64 i ∧ SlA m' 1 ad n c (xs.map (.int .i64)) ∧ Box m' b1 (Wc (xs.take i).sum) ∧ Box m' b2 (Wc (xs.drop (n - i)).sum) ∧ Box m' b3 (Wc ((xs.take i).take k).sum) ∧ Box m' b4 (Wc ((xs.take i).drop k).sum)) n
    ⟨0, by omega, rfl, t27, hs, by simpa using h1, by rw [List.drop_eq_nil_of_le (by omega)]; exact h2, by simpa using h3, by simpa using h4⟩ ?_
  rintro j t' m' ha ⟨i, hi, rfl, e27, s, x1, x2, x3, x4⟩
  have a5 := (ha 5 (by decide +kernel)).trans t5
  have a6 := (ha 6 (by decide +kernel)).trans t6
  have a7 := (ha 7 (by decide +kernel)).trans t7
  have a8 := (ha 8 (by decide +kernel)).trans t8
  have a9 := (ha 9 (by decide +kernel)).trans t9
  have a10 := (ha 10 (by decide +kernel)).trans t10
  have a26 := (ha 26 (by decide +kernel)).trans t26
  by_cases hlt : i < n
  · -- a round
    have d1 : decide ((i : Int) < (n : Int)) = true := by simp; omega
    obtain ⟨b, o, sp, rfl⟩ := s.addr (by omega)
    obtain ⟨q1, q2, q3, q4⟩ := hne (by omega) _ rfl
    have r1 := s.at_map hlt
    have l1 : b < m'.size := at_lt r1
    have d2 : decide ((i : Int) < (k : Int)) = decide (i < k) := by rw [decide_eq_decide]; omega
    have hxi := hx xs[i] (List.getElem_mem _)
    have hxj := hx (xs[n - 1 - i]'(by omega)) (List.getElem_mem _)
    have z0 : (0 : Int) ≤ (i : Int) := by omega
    have z1 : (i : Int) < (n : Int) := by omega
    have w1 : IntKind.wrap .i64 (IntKind.wrap .i64 ((n : Int) - 1) - (i : Int)) = ((n - 1 - i : Nat) : Int) := by simp only [wrap_i64]; omega
    have z2 : (0 : Int) ≤ ((n - 1 - i : Nat) : Int) := by omega
    have z3 : ((n - 1 - i : Nat) : Int) < (n : Int) := by omega
    have w2 : IntKind.wrap .i64 ((i : Int) + 1) = ((i + 1 : Nat) : Int) := by rw [wrap_i64_id _ (by omega) (by omega)]; omega
    simp (decide := true) (implicitDefEqProofs := false) (maxDischargeDepth := 20) only [go_sem, ↓reduceIte, a5, a6, a7, a8, a9, a10, a26, e27, d1, r1, z0, z1, Int.toNat_natCast, Nat.mul_one, true_implies, false_implies]
    refine SumAdd x1 hxi.1 hxi.2 fun m1 u1 y1 => ?_
    have s' := s.upd u1 fun x hx => by cases hx; exact q1
    have r2 := s'.at_map (show n - 1 - i < n by omega)
    simp (decide := true) (implicitDefEqProofs := false) (maxDischargeDepth := 20) only [go_sem, ↓reduceIte, a5, a6, a7, a8, a9, a10, a26, e27, w1, r2, z2, z3, Int.toNat_natCast, Nat.mul_one, true_implies, false_implies]
    refine SumAdd (x2.upd u1 ne12.symm) hxj.1 hxj.2 fun m2 u2 y2 => ?_
    have s'' := s'.upd u2 fun x hx => by cases hx; exact q2
    have r3 := s''.at_map hlt
    have p1 : (xs.take i).sum + xs[i] = (xs.take (i + 1)).sum := (sum_take_succ xs i (by omega)).symm
    have p2 : (xs.drop (n - i)).sum + xs[n - 1 - i] = (xs.drop (n - (i + 1))).sum := by
      rw [show n - (i + 1) = n - 1 - i by omega, sum_drop xs (n - 1 - i) (by omega), show n - 1 - i + 1 = n - i by omega, Int.add_comm]
    rw [p1] at y1
    rw [p2] at y2
    by_cases hk : i < k
    · have d3 : decide ((i : Int) < (k : Int)) = true := by simp; omega
      simp (decide := true) (implicitDefEqProofs := false) (maxDischargeDepth := 20) only [go_sem, ↓reduceIte, a5, a6, a7, a8, a9, a10, a26, e27, d3, r3, z0, z1, Int.toNat_natCast, Nat.mul_one, true_implies, false_implies]
      refine SumAdd ((x3.upd u1 ne13.symm).upd u2 ne23.symm) hxi.1 hxi.2 fun m3 u3 y3 => ?_
      have p3 : ((xs.take i).take k).sum + xs[i] = ((xs.take (i + 1)).take k).sum := by
        rw [List.take_take, List.take_take, Nat.min_eq_right (by omega), Nat.min_eq_right (by omega), sum_take_succ xs i (by omega)]
      have p4 : ((xs.take i).drop k).sum = ((xs.take (i + 1)).drop k).sum := by
        rw [List.drop_eq_nil_of_le (by simp; omega), List.drop_eq_nil_of_le (by simp; omega)]
      rw [p3] at y3
      rw [p4] at x4
      simp (decide := true) (implicitDefEqProofs := false) (maxDischargeDepth := 20) only [go_sem, ↓reduceIte, a5, a6, a7, a8, a9, a10, a26, e27, w2, true_implies, false_implies]
      exact ⟨n - (i + 1), by omega, i + 1, by omega, rfl, rfl, s''.upd u3 (fun x hx => by cases hx; exact q3), (y1.upd u2 ne12).upd u3 ne13, y2.upd u3 ne23, y3, ((x4.upd u1 ne14.symm).upd u2 ne24.symm).upd u3 ne34.symm⟩
    · have d3 : decide ((i : Int) < (k : Int)) = false := by simp; omega
      simp (decide := true) (implicitDefEqProofs := false) (maxDischargeDepth := 20) only [go_sem, ↓reduceIte, a5, a6, a7, a8, a9, a10, a26, e27, d3, r3, z0, z1, Int.toNat_natCast, Nat.mul_one, true_implies, false_implies]
      refine SumAdd ((x4.upd u1 ne14.symm).upd u2 ne24.symm) hxi.1 hxi.2 fun m3 u3 y3 => ?_
      have p3 : ((xs.take i).take k).sum = ((xs.take (i + 1)).take k).sum := by
        rw [List.take_take, List.take_take, Nat.min_eq_left (by omega), Nat.min_eq_left (by omega)]
      have p4 : ((xs.take i).drop k).sum + xs[i] = ((xs.take (i + 1)).drop k).sum := by
        have e1 := sum_split (xs.take i) k
        have e2 := sum_split (xs.take (i + 1)) k
        rw [sum_take_succ xs i (by omega)] at e2
        omega
      rw [p4] at y3
      rw [p3] at x3
      simp (decide := true) (implicitDefEqProofs := false) (maxDischargeDepth := 20) only [go_sem, ↓reduceIte, a5, a6, a7, a8, a9, a10, a26, e27, w2, true_implies, false_implies]
      exact ⟨n - (i + 1), by omega, i + 1, by omega, rfl, rfl, s''.upd u3 (fun x hx => by cases hx; exact q4), (y1.upd u2 ne12).upd u3 ne14, y2.upd u3 ne24, ((x3.upd u1 ne13.symm).upd u2 ne23.symm).upd u3 ne34, y3⟩
  · -- the end
    have d1 : decide ((i : Int) < (n : Int)) = false := by simp; omega
    have hin : i = n := by omega
    subst hin
    have e1 : xs.take i = xs := List.take_of_length_le (by omega)
    rw [e1] at x1 x3 x4
    rw [Nat.sub_self, List.drop_zero] at x2
    simp (decide := true) (implicitDefEqProofs := false) (maxDischargeDepth := 20) only [go_sem, ↓reduceIte, a26, e27, d1, true_implies, false_implies]
    exact ⟨x1, x2, x3, x4⟩

set_option maxRecDepth 100000 in
set_option maxHeartbeats 4000000 in
theorem MoneySums_law (m : Mem) (hro : ∀ i c, m.get i = some c → c.writable = false) (ad : Option Addr) (l c : Nat) (xs : List Int) (hs : SlA m 1 ad l c (xs.map (.int .i64))) (hl : xs.length = l) (hx : ∀ x ∈ xs, -9223372036854775808 ≤ x ∧ x < 9223372036854775808)
    (cut : Int) (hc : -9223372036854775808 ≤ cut) (hc' : cut < 9223372036854775808) : CallQ E F_sheaflaw2_MoneySums [.slice ad l c, .int .i64 cut].toArray m fun v _ => v = .bool true := by
  obtain ⟨n, hn⟩ : ∃ n, n = min l 40 := ⟨_, rfl⟩
  have e40 : min (l : Int) 40 = (n : Int) := by omega
  obtain ⟨sl, s2⟩ := hs.sliceTo (E := E) (k := .i64) (show n ≤ l by omega)
  rw [Nat.mul_one, ← List.map_take] at s2
  have hx2 : ∀ x ∈ xs.take n, -9223372036854775808 ≤ x ∧ x < 9223372036854775808 := fun x h => hx x (List.mem_of_mem_take h)
  have hl2 : (xs.take n).length = n := by simp; omega
  generalize xs.take n = ys at *
  have wi := Within_ans cut 0 n hc hc' (by omega) (by omega) (by omega) (by omega)
  obtain ⟨k, hk⟩ : ∃ k : Nat, (k : Int) = 0 + cut % ((n : Int) - 0 + 1) := ⟨(0 + cut % ((n : Int) - 0 + 1)).toNat, by have := Int.emod_nonneg cut (show (n : Int) - 0 + 1 ≠ 0 by omega); omega⟩
  rw [← hk] at wi
  have hkn : k ≤ n := by have := Int.emod_lt_of_pos cut (show 0 < (n : Int) - 0 + 1 by omega); omega
  refine .enter fn_sheaflaw2_MoneySums (by simp) ?_
  simp (decide := true) (implicitDefEqProofs := false) (maxDischargeDepth := 20) only [go_sem, ↓reduceIte, e40, sl, wi.eq]
  generalize hM : ansM E F_sheafbook_Within _ [] m = M
  have hO : Old m M := by rw [← hM]; exact .ansM (.refl m)
  have sM := (s2.old hO)
  obtain ⟨M4, hM4⟩ : ∃ M4, M4 = (((M.push (Blk.cells false true [.int .i64 0, .int .u64 0])).push (Blk.cells false true [.int .i64 0, .int .u64 0])).push (Blk.cells false true [.int .i64 0, .int .u64 0])).push (Blk.cells false true [.int .i64 0, .int .u64 0]) := ⟨_, rfl⟩
  have g : ∀ i, i < 4 → M4.get (M.size + i) = some (Blk.cells false true [.int .i64 0, .int .u64 0]) := by
    intro i hi
    rw [hM4]
    have : i = 0 ∨ i = 1 ∨ i = 2 ∨ i = 3 := by omega
    rcases this with rfl | rfl | rfl | rfl <;> simp [getM_push, Nat.add_assoc]
  have g0 : Old M M4 := by rw [hM4]; exact (((Old.refl M).push _).push _).push _ |>.push _
  rw [← hM4]
  have hB : ∀ i, i < 4 → Box M4 (M.size + i) (Wc 0) := fun i hi => ⟨true, g i hi⟩
  refine MoneySums_loop _ _ ad n c k ys (sM.old g0) (by omega) hl2 hx2 M.size (M.size + 1) (M.size + 2) (M.size + 3) (hB 0 (by omega)) (hB 1 (by omega)) (hB 2 (by omega)) (hB 3 (by omega)) (by omega) (by omega) (by omega) (by omega) (by omega) (by omega) ?_
    (by simp (decide := true) only [go_sem, ↓reduceIte]) (by simp (decide := true) only [go_sem, ↓reduceIte]) (by simp (decide := true) only [go_sem, ↓reduceIte]) (by simp (decide := true) only [go_sem, ↓reduceIte]) (by simp (decide := true) only [go_sem, ↓reduceIte]) (by simp (decide := true) only [go_sem, ↓reduceIte]) (by simp (decide := true) only [go_sem, ↓reduceIte]) (by simp (decide := true) only [go_sem, ↓reduceIte]) _ ?_
  · intro h0 x hx
    subst hx
    have hne : ys.map (Value.int .i64) ≠ [] := by
      intro e
      have : ys = [] := by simpa using e
      rw [this] at hl2
      simp at hl2
      omega
    have := sM.lt hne
    exact ⟨by omega, by omega, by omega, by omega⟩
  · intro t' m' ha x1 x2 x3 x4
    have e7 := ha 7 (by decide +kernel)
    have e8 := ha 8 (by decide +kernel)
    have e9 := ha 9 (by decide +kernel)
    have e10 := ha 10 (by decide +kernel)
    simp (decide := true) only [go_sem, ↓reduceIte] at e7 e8 e9 e10
    clear ha
    have hS := sum_split ys k
    have hb := sum_bound ys hx2
    rw [hl2] at hb
    generalize M.size = B at *
    have r3 := x3.rows
    simp only [Wc, List.length_cons, List.length_nil, Nat.zero_add] at r3
    simp (decide := true) (implicitDefEqProofs := false) (maxDischargeDepth := 20) only [go_sem, ↓reduceIte, e7, e8, e9, e10, r3]
    refine SumJoin (y := (ys.take k).sum) x4 fun m2 u2 y4 => ?_
    rw [Int.add_comm, hS] at y4
    have y1 := x1.upd u2 (by omega)
    have y2 := x2.upd u2 (by omega)
    have l1 := y1.lt
    have l2 := y2.lt
    have l4 := y4.lt
    obtain ⟨tg1, g1⟩ := y1
    obtain ⟨tg2, g2⟩ := y2
    obtain ⟨tg4, g4⟩ := y4
    have v : ∀ (b : Nat) (tg : Bool) (m3 : Mem) (K : Value → Mem → Prop), m3.get b = some (.cells false tg (Wc ys.sum)) → CallQ E F_money_Sum_Value [.pointer (some ⟨b, 0, none⟩)].toArray m3 K = K (intA ys.sum) (ansM E F_money_Sum_Value [Value.pointer (some ⟨b, 0, none⟩)].toArray [] m3) :=
      fun b tg m3 K h => callQ_eq (SumValue ⟨tg, h⟩ (by omega) (by omega)) K
    have w : ∀ (b : Nat) (tg : Bool) (m3 : Mem) (K : Value → Mem → Prop), m3.get b = some (.cells false tg (Wc ys.sum)) → CallQ E F_money_Sum_Wide [.pointer (some ⟨b, 0, none⟩)].toArray m3 K = K (W ys.sum) (ansM E F_money_Sum_Wide [Value.pointer (some ⟨b, 0, none⟩)].toArray [] m3) :=
      fun b tg m3 K h => callQ_eq (SumWide ⟨tg, h⟩) K
    have v1 := v B tg1
    have v4 := v (B + 3) tg4
    have w1 := w B tg1
    have w2 := w (B + 1) tg2
    have w4 := w (B + 3) tg4
    clear v w
    unfold intA at v1 v4
    simp only [W] at w1 w2 w4
    by_cases hr : -9223372036854775808 ≤ ys.sum ∧ ys.sum < 9223372036854775808
    · rw [if_pos hr] at v1 v4
      simp (decide := true) (implicitDefEqProofs := false) (maxDischargeDepth := 20) only [go_sem, ↓reduceIte, e7, e8, e9, e10, v1, v4, w1, w2, w4, g1, g2, g4, l1, l2, l4, beq_self_eq_true]
    · rw [if_neg hr] at v1 v4
      simp (decide := true) (implicitDefEqProofs := false) (maxDischargeDepth := 20) only [go_sem, ↓reduceIte, e7, e8, e9, e10, v1, v4, w1, w2, w4, g1, g2, g4, l1, l2, l4, beq_self_eq_true]
end Go.Proofs.Ytmgdmldmialiiaa.W
