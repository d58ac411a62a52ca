/-
  FlowJoins, the law.
-/
import Derived.Test.YtgbpgkfmmhlkoaaFlowT
namespace Go.Proofs.Ytgbpgkfmmhlkoaa.W
open Go.Abs
set_option linter.unusedSimpArgs false
set_option linter.unusedVariables false

theorem foundL_at0 (cmp : Int → Int → Int) (l xs : List Int) : ∀ (n k : Nat), k < n → (foundL cmp l xs n).getD (2 * k) 0 = xs.getD k 0 ∧ (foundL cmp l xs n).getD (2 * k + 1) 0 = (if (hitJ cmp (stJ cmp l (xs.take (k + 1))) (xs.getD k 0)).isSome then 1 else 0)
  | 0, k, h => by omega
  | n + 1, k, h => by
    have hl := foundL_len cmp l xs n
    rw [foundL_succ]
    simp only [List.getD_eq_getElem?_getD]
    by_cases hk : k < n
    · rw [List.getElem?_append_left (by omega), List.getElem?_append_left (by omega)]
      have := foundL_at0 cmp l xs n k hk
      simpa only [List.getD_eq_getElem?_getD] using this
    · have e : k = n := by omega
      subst e
      rw [List.getElem?_append_right (by omega), List.getElem?_append_right (by omega), hl, Nat.sub_self, show 2 * k + 1 - 2 * k = 1 by omega]
      exact ⟨by simp [foundK, List.getD_eq_getElem?_getD], by simp [foundK, List.getD_eq_getElem?_getD]⟩

set_option maxRecDepth 100000 in
set_option maxHeartbeats 8000000 in
theorem FlowJoins_law (m : Mem) (hro : ∀ i c, m.get i = some c → c.writable = false)
    (a0 : Option Addr) (l0 c0 : Nat) (xs0 : List Int) (hs0 : SlA m 1 a0 l0 c0 (xs0.map (.int .i64))) (hl0 : xs0.length = l0) (hx0 : ∀ x ∈ xs0, -9223372036854775808 ≤ x ∧ x < 9223372036854775808)
    (a1 : Option Addr) (l1 c1 : Nat) (xs1 : List Int) (hs1 : SlA m 1 a1 l1 c1 (xs1.map (.int .i64))) (hl1 : xs1.length = l1) (hx1 : ∀ x ∈ xs1, -9223372036854775808 ≤ x ∧ x < 9223372036854775808) :
    CallQ E F_sheaflaw10_FlowJoins [.slice a0 l0 c0, .slice a1 l1 c1].toArray m fun v _ => v = .bool true := by
  refine .enter fn_sheaflaw10_FlowJoins (by simp) ?_
  simp (decide := true) (implicitDefEqProofs := false) (maxDischargeDepth := 20) only [go_sem, ↓reduceIte, true_implies, false_implies]
  refine Joins_a hs0 hx0 (.refl m) (by simp (decide := true) only [go_sem, ↓reduceIte]) (by simp (decide := true) only [go_sem, ↓reduceIte]) (by simp (decide := true) only [go_sem, ↓reduceIte]) (by simp (decide := true) only [go_sem, ↓reduceIte]) fun t1 m1 p1 hag1 f5 V1 o1 => ?_
  have f0 := hag1 0 (by decide +kernel)
  have f1 := hag1 1 (by decide +kernel)
  have f6 := hag1 6 (by decide +kernel)
  have f8 := hag1 8 (by decide +kernel)
  simp (decide := true) only [go_sem, ↓reduceIte] at f0 f1 f6 f8
  obtain ⟨n, hn⟩ : ∃ n, n = min l0 25 := ⟨_, rfl⟩
  obtain ⟨k, hk⟩ : ∃ k, k = min l1 25 := ⟨_, rfl⟩
  rw [← hn] at f5 V1
  obtain ⟨xs, hxs⟩ : ∃ xs, xs = rises ((xs0.take 25).map fun x => withinI x 0 3) n := ⟨_, rfl⟩
  obtain ⟨ys, hys⟩ : ∃ ys, ys = rises ((xs1.take 25).map fun x => withinI x 1 3) k := ⟨_, rfl⟩
  rw [← hxs] at V1
  have lx : xs.length = n := by rw [hxs, rises_len]
  have ly : ys.length = k := by rw [hys, rises_len]
  have dl0 : ((xs0.take 25).map fun x => withinI x 0 3).length = n := by rw [List.length_map, List.length_take, hl0]; omega
  have dl1 : ((xs1.take 25).map fun x => withinI x 1 3).length = k := by rw [List.length_map, List.length_take, hl1]; omega
  have hr : ∀ j, j + 1 < xs.length → xs.getD j 0 ≤ xs.getD (j + 1) 0 := by
    intro j hj
    rw [hxs, rises_at _ (by omega), rises_at _ (by omega)]
    exact sumT_mono _ (fun d hd => by
      obtain ⟨x, _, rfl⟩ := List.mem_map.1 hd
      exact (withinI_bd x 0 3 (by omega)).1) (by omega) (by omega)
  have hst : ys.Pairwise (· < ·) := by
    rw [hys]
    exact rises_strict _ (fun d hd => by
      obtain ⟨x, _, rfl⟩ := List.mem_map.1 hd
      exact (withinI_bd x 1 3 (by omega)).1) k (by omega)
  have hit := hit_mem ys xs hst hr
  simp (decide := true) (implicitDefEqProofs := false) (maxDischargeDepth := 20) only [go_sem, ↓reduceIte, true_implies, false_implies]
  refine Joins_b (hs1.old o1) hx1 (.refl m1) (by simp (decide := true) only [go_sem, f1, ↓reduceIte]) (by simp (decide := true) only [go_sem, f6, ↓reduceIte]) (by simp (decide := true) only [go_sem, f8, ↓reduceIte]) (by simp (decide := true) only [go_sem, ↓reduceIte]) fun t2 m2 p2 hag2 g6 V2 o2 => ?_
  have g5 := hag2 5 (by decide +kernel)
  simp (decide := true) only [go_sem, f5, ↓reduceIte] at g5
  rw [← hk, ← hys] at V2
  rw [← hk] at g6
  simp (decide := true) (implicitDefEqProofs := false) (maxDischargeDepth := 20) only [go_sem, g5, g6, ↓reduceIte, true_implies, false_implies]
  refine (Found_at (V1.sl.old o2) V2.sl (by omega) (by omega)).mono ?_
  rintro w m3 ⟨p3, rfl, V3, o3⟩
  have w0 : IntKind.wrap .i64 (2 * (n : Int)) = ((2 * n : Nat) : Int) := by rw [wrap_i64_id _ (by omega) (by omega)]; omega
  have d0 : (((2 * n : Nat) : Int) != ((2 * n : Nat) : Int)) = false := by simp
  simp (decide := true) (implicitDefEqProofs := false) (maxDischargeDepth := 20) only [go_sem, g5, g6, w0, d0, ↓reduceIte, true_implies, false_implies]
  have X := V1.sl.old (o2.trans o3)
  have Y := V2.sl.old o3
  obtain ⟨fs, hfs⟩ : ∃ fs, fs = foundL belowI ys xs n := ⟨_, rfl⟩
  have lf : fs.length = 2 * n := by rw [hfs, foundL_len]
  rw [← hfs] at V3
  simp only [c_sheaflaw10_FlowJoins_44_at, wpM_block, c_sheaflaw10_FlowJoins_43_at]
  refine wpM_loopA (fun j t' m' => m' = m3 ∧ ∃ i, i ≤ n ∧ j = n - i ∧ t' 70 = .int .i64 (i : Nat)) n ⟨rfl, 0, by omega, rfl, by simp (decide := true) only [go_sem, ↓reduceIte]; try rfl⟩ ?_
  rintro j t' m' hag ⟨rfl, i, hi, rfl, e70⟩
  have e6 := hag 6 (by decide +kernel)
  have e11 := hag 11 (by decide +kernel)
  have e68 := hag 68 (by decide +kernel)
  have e69 := hag 69 (by decide +kernel)
  simp (decide := true) only [go_sem, g5, g6, ↓reduceIte] at e6 e11 e68 e69
  by_cases hlt : i < n
  · have d1 : decide ((i : Int) < (n : Int)) = true := by simp; omega
    have w1 : IntKind.wrap .i64 ((i : Int) + 1) = ((i + 1 : Nat) : Int) := by rw [wrap_i64_id _ (by omega) (by omega)]; omega
    have z0 : (0 : Int) ≤ (i : Int) := by omega
    have z1 : (i : Int) < (n : Int) := by omega
    obtain ⟨xb, xo, xsp, rfl⟩ := X.addr (by omega)
    have rx := X.at_map hlt
    have hi0 := hit i (by omega)
    have hiff := hit_iff ys hst _ _ hi0
    obtain ⟨f0', f1'⟩ := foundL_at0 belowI ys xs n i hlt
    rw [← hfs] at f0' f1'
    rw [hiff] at f1'
    have ex : xs.getD i 0 = xs[i]'(by omega) := by simp [List.getD_eq_getElem?_getD, show i < xs.length by omega]
    rw [ex] at f0' f1'
    generalize xs[i]'(by omega) = x at *
    simp (decide := true) (implicitDefEqProofs := false) (maxDischargeDepth := 20) only [go_sem, e6, e11, e68, e69, e70, d1, z0, z1, rx, Int.toNat_natCast, ↓reduceIte, true_implies, false_implies]
    simp only [c_sheaflaw10_FlowJoins_31_at, wpM_block, c_sheaflaw10_FlowJoins_30_at]
    refine wpM_loopA (fun j t' m2 => m2 = m' ∧ ∃ q, q ≤ k ∧ j = k - q ∧ t' 77 = .int .i64 (q : Nat) ∧ t' 14 = .int .i64 (if x ∈ ys.take q then 1 else 0)) k ⟨rfl, 0, by omega, rfl, by simp (decide := true) only [go_sem, ↓reduceIte]; try rfl, by simp (decide := true) only [go_sem, ↓reduceIte, List.take_zero, List.not_mem_nil]; try rfl⟩ ?_
    rintro j t3 m4 hag3 ⟨rfl, q, hq, rfl, e77, e14⟩
    have b11 := hag3 11 (by decide +kernel)
    have b12 := hag3 12 (by decide +kernel)
    have b13 := hag3 13 (by decide +kernel)
    have b70 := hag3 70 (by decide +kernel)
    have b75 := hag3 75 (by decide +kernel)
    have b76 := hag3 76 (by decide +kernel)
    simp (decide := true) only [go_sem, e6, e11, e68, e69, e70, ↓reduceIte] at b11 b12 b13 b70 b75 b76
    by_cases hlq : q < k
    · have d2 : decide ((q : Int) < (k : Int)) = true := by simp; omega
      have w2 : IntKind.wrap .i64 ((q : Int) + 1) = ((q + 1 : Nat) : Int) := by rw [wrap_i64_id _ (by omega) (by omega)]; omega
      have y0 : (0 : Int) ≤ (q : Int) := by omega
      have y1 : (q : Int) < (k : Int) := by omega
      obtain ⟨yb, yo, ysp, rfl⟩ := Y.addr (by omega)
      have ry := Y.at_map hlq
      have ht : ys.take (q + 1) = ys.take q ++ [ys[q]'(by omega)] := List.take_succ_eq_append_getElem (by omega)
      generalize ys[q]'(by omega) = y at *
      by_cases he : y = x
      · have d3 : (y == x) = true := by simpa using he
        simp (decide := true) (implicitDefEqProofs := false) (maxDischargeDepth := 20) only [go_sem, b13, b75, b76, e77, d2, d3, y0, y1, ry, w2, Int.toNat_natCast, ↓reduceIte, true_implies, false_implies]
        exact ⟨k - (q + 1), by omega, q + 1, by omega, rfl, rfl, by rw [ht, he]; simp⟩
      · have d3 : (y == x) = false := by simpa using he
        simp (decide := true) (implicitDefEqProofs := false) (maxDischargeDepth := 20) only [go_sem, b13, b75, b76, e77, e14, d2, d3, y0, y1, ry, w2, Int.toNat_natCast, ↓reduceIte, true_implies, false_implies]
        refine ⟨k - (q + 1), by omega, q + 1, by omega, rfl, rfl, ?_⟩
        rw [ht]
        congr 1
        have : (x ∈ ys.take q ++ [y]) ↔ x ∈ ys.take q := by simp; intro h; exact absurd h.symm he
        simp only [this]
    · have d2 : decide ((q : Int) < (k : Int)) = false := by simp; omega
      have hqk : q = k := by omega
      rw [hqk, ← ly, List.take_length] at e14
      have w3 : IntKind.wrap .i64 (2 * (i : Int)) = ((2 * i : Nat) : Int) := by rw [wrap_i64_id _ (by omega) (by omega)]; omega
      have w4 : IntKind.wrap .i64 (((2 * i : Nat) : Int) + 1) = ((2 * i + 1 : Nat) : Int) := by rw [wrap_i64_id _ (by omega) (by omega)]; omega
      have x0 : (0 : Int) ≤ ((2 * i : Nat) : Int) := by omega
      have x1 : ((2 * i : Nat) : Int) < ((2 * n : Nat) : Int) := by omega
      have x2 : (0 : Int) ≤ ((2 * i + 1 : Nat) : Int) := by omega
      have x3 : ((2 * i + 1 : Nat) : Int) < ((2 * n : Nat) : Int) := by omega
      obtain ⟨fb, fo, fsp, rfl⟩ := V3.sl.addr (by omega)
      have q0 := V3.sl.at_map (show 2 * i < 2 * n by omega)
      have q1 := V3.sl.at_map (show 2 * i + 1 < 2 * n by omega)
      have q0' : fs[2 * i]'(by omega) = x := by rw [← f0']; simp [List.getD_eq_getElem?_getD, show 2 * i < fs.length by omega]
      have q1' : fs[2 * i + 1]'(by omega) = if x ∈ ys then 1 else 0 := by
        have : fs.getD (2 * i + 1) 0 = fs[2 * i + 1]'(by omega) := by simp [List.getD_eq_getElem?_getD, show 2 * i + 1 < fs.length by omega]
        rw [← this, f1']
        simp
      rw [q0'] at q0
      rw [q1'] at q1
      have d4 : (x != x) = false := by simp
      generalize hih : (if x ∈ ys then (1 : Int) else 0) = hh at *
      have d5 : (hh != hh) = false := by simp
      simp (decide := true) (implicitDefEqProofs := false) (maxDischargeDepth := 20) only [go_sem, b11, b12, b13, b70, b75, b76, e77, e14, d2, d4, d5, w1, w3, w4, x0, x1, x2, x3, q0, q1, Int.toNat_natCast, ↓reduceIte, true_implies, false_implies]
      exact ⟨n - (i + 1), by omega, i + 1, by omega, rfl, rfl⟩
  · have d1 : decide ((i : Int) < (n : Int)) = false := by simp; omega
    simp (decide := true) (implicitDefEqProofs := false) (maxDischargeDepth := 20) only [go_sem, e6, e11, e68, e69, e70, d1, ↓reduceIte, true_implies, false_implies]
end Go.Proofs.Ytgbpgkfmmhlkoaa.W
