/-
  The document's own rows: zig, zag, column, Compare.
-/
import Derived.Test.YtkbjkmhmkefckaaRowG
import Derived.Test.YtkbjkmhmkefckaaCodeRef
namespace Go.Proofs.Ytkbjkmhmkefckaa.W
open Go.Abs
set_option linter.unusedSimpArgs false
set_option linter.unusedVariables false

theorem xor_u64_zero (a : Nat) (h : a < 18446744073709551616) : xorI .u64 (a : Int) 0 = (a : Int) := by
  unfold xorI
  show IntKind.wrap .u64 (((BitVec.ofInt 64 (a : Int) ^^^ BitVec.ofInt 64 ((0 : Nat) : Int)).toNat : Nat) : Int) = _
  rw [BitVec.toNat_xor, ofInt_nat a h, ofInt_nat 0 (by decide), Nat.xor_zero]
  exact wrap_u64_id _ (by omega) (by omega)
theorem xor_u64_ones (a : Nat) (h : a < 18446744073709551616) : xorI .u64 (a : Int) 18446744073709551615 = 18446744073709551615 - (a : Int) := by
  unfold xorI
  show IntKind.wrap .u64 (((BitVec.ofInt 64 (a : Int) ^^^ BitVec.ofInt 64 ((18446744073709551615 : Nat) : Int)).toNat : Nat) : Int) = _
  rw [BitVec.toNat_xor, ofInt_nat a h, ofInt_nat _ (by decide), Nat.xor_comm, xor_ones a h, wrap_u64_id _ (by omega) (by omega)]
  omega
theorem xor_i64_zero (a : Nat) (h : a < 9223372036854775808) : xorI .i64 (a : Int) 0 = (a : Int) := by
  unfold xorI
  show IntKind.wrap .i64 (((BitVec.ofInt 64 (a : Int) ^^^ BitVec.ofInt 64 ((0 : Nat) : Int)).toNat : Nat) : Int) = _
  rw [BitVec.toNat_xor, ofInt_nat a (by omega), ofInt_nat 0 (by decide), Nat.xor_zero]
  exact wrap_i64_id _ (by omega) (by omega)
theorem xor_i64_ones (a : Nat) (h : a < 9223372036854775808) : xorI .i64 (a : Int) (-1) = -(a : Int) - 1 := by
  unfold xorI
  show IntKind.wrap .i64 (((BitVec.ofInt 64 (a : Int) ^^^ BitVec.ofInt 64 (-1)).toNat : Nat) : Int) = _
  rw [BitVec.toNat_xor, ofInt_nat a (by omega), show (BitVec.ofInt 64 (-1)).toNat = 18446744073709551615 by decide, Nat.xor_comm, xor_ones a (by omega), wrap_i64]
  omega

set_option maxRecDepth 100000 in
theorem rzig_ans (n : Int) (h : -9223372036854775808 ≤ n) (h' : n < 9223372036854775808) : Ans E F_sheafref12_zig [.int .i64 n] (.int .u64 (zig n : Nat)) := by
  refine .of fn_sheafref12_zig (by simp) fun m => ?_
  have s1 : shrI .i64 n 63 = n / 9223372036854775808 := shrI_eq .i64 n 63 (by decide)
  by_cases hn : n < 0
  · have w2 : shlI .u64 (IntKind.wrap .u64 n) 1 = ((18446744073709551616 + 2 * n).toNat : Int) := by
      unfold shlI
      rw [show min (Int.toNat 1) (IntKind.bits .u64) = 1 by decide, wrap_u64, wrap_u64]; omega
    have s2 : n / 9223372036854775808 = -1 := by omega
    have s3 : IntKind.wrap .u64 (-1) = 18446744073709551615 := by decide
    have x1 := xor_u64_ones (18446744073709551616 + 2 * n).toNat (by omega)
    have x2 : 18446744073709551615 - (((18446744073709551616 + 2 * n).toNat : Nat) : Int) = ((zig n : Nat) : Int) := by unfold zig; rw [if_pos hn]; omega
    rw [x2] at x1
    simp (decide := true) (implicitDefEqProofs := false) (maxDischargeDepth := 20) only [go_sem, ↓reduceIte, s1, s2, s3, w2, x1, true_implies, false_implies]
  · have w2 : shlI .u64 (IntKind.wrap .u64 n) 1 = ((zig n : Nat) : Int) := by
      unfold shlI zig
      rw [if_neg hn, show min (Int.toNat 1) (IntKind.bits .u64) = 1 by decide, wrap_u64, wrap_u64]; omega
    have s2 : n / 9223372036854775808 = 0 := by omega
    have s3 : IntKind.wrap .u64 0 = 0 := by decide
    have x1 := xor_u64_zero (zig n) (zig_lt n h h')
    simp (decide := true) (implicitDefEqProofs := false) (maxDischargeDepth := 20) only [go_sem, ↓reduceIte, s1, s2, s3, w2, x1, true_implies, false_implies]

theorem and_u64_one (n : Nat) : andI .u64 (n : Int) 1 = ((n % 2 : Nat) : Int) := by
  unfold andI
  have : (BitVec.ofInt 64 (n : Int) &&& BitVec.ofInt 64 1).toNat = n % 2 := by
    rw [BitVec.toNat_and, BitVec.toNat_ofInt, BitVec.toNat_ofInt]
    have e2 : (((1 : Int) % (2 ^ 64 : Nat)).toNat) = 2 ^ 1 - 1 := by decide
    rw [e2, Nat.and_two_pow_sub_one_eq_mod]
    omega
  show IntKind.wrap .u64 ((BitVec.ofInt 64 (n : Int) &&& BitVec.ofInt 64 1).toNat : Int) = _
  rw [this, wrap_u64]
  omega
set_option maxRecDepth 100000 in
theorem rzag_ans (u : Nat) (h : u < 18446744073709551616) : Ans E F_sheafref12_zag [.int .u64 u] (.int .i64 (zag u)) := by
  refine .of fn_sheafref12_zag (by simp) fun m => ?_
  have s1 : shrI .u64 (u : Int) 1 = ((u / 2 : Nat) : Int) := shrI_eq .u64 (u : Int) 1 (by decide)
  have w1 : IntKind.wrap .i64 ((u / 2 : Nat) : Int) = ((u / 2 : Nat) : Int) := wrap_i64_id _ (by omega) (by omega)
  have a1 := and_u64_one u
  by_cases hu : u % 2 = 1
  · have w2 : IntKind.wrap .i64 ((u % 2 : Nat) : Int) = 1 := by rw [hu]; rfl
    have w3 : IntKind.wrap .i64 (0 - 1) = -1 := by decide
    have x1 := xor_i64_ones (u / 2) (by omega)
    have z1 : zag u = -((u / 2 : Nat) : Int) - 1 := by unfold zag; rw [if_pos hu]
    rw [← z1] at x1
    simp (decide := true) (implicitDefEqProofs := false) (maxDischargeDepth := 20) only [go_sem, ↓reduceIte, s1, w1, a1, w2, w3, x1, true_implies, false_implies]
  · have w2 : IntKind.wrap .i64 ((u % 2 : Nat) : Int) = 0 := by rw [show u % 2 = 0 by omega]; rfl
    have w3 : IntKind.wrap .i64 (0 - 0) = 0 := by decide
    have x1 := xor_i64_zero (u / 2) (by omega)
    have z1 : zag u = ((u / 2 : Nat) : Int) := by unfold zag; rw [if_neg hu]
    rw [z1]
    simp (decide := true) (implicitDefEqProofs := false) (maxDischargeDepth := 20) only [go_sem, ↓reduceIte, s1, w1, a1, w2, w3, x1, true_implies, false_implies]

set_option maxRecDepth 100000 in
set_option maxHeartbeats 4000000 in
theorem rColumn_at {m : Mem} {a b : Option Addr} {n n' c c' : Nat} {xs ys : List Int} (k : Int) (h : SlA m 1 a n c (xs.map (.int .i64))) (h' : SlA m 1 b n' c' (ys.map (.int .i64))) :
    CallQ E F_sheafref12_column [.slice a n c, .slice b n' c', .int .i64 k].toArray m fun w m' => w = .int .i64 (colL xs ys k) ∧ Old m m' := by
  have hl : xs.length = n := by have := h.len; simpa using this
  have hl' : ys.length = n' := by have := h'.len; simpa using this
  refine .enter fn_sheafref12_column (by simp) ?_
  by_cases h0 : 0 ≤ k
  · have d0 : decide (k ≥ 0) = true := by simpa using h0
    obtain ⟨i, rfl⟩ : ∃ i : Nat, k = i := ⟨k.toNat, by omega⟩
    have cx : ∀ zs : List Int, cell zs (i : Int) = zs[i]? := fun zs => by unfold cell; rw [if_pos h0, Int.toNat_natCast]
    unfold colL
    rw [cx, cx]
    by_cases h1 : i < n
    · have d1 : decide ((i : Int) < (n : Int)) = true := by simp; omega
      obtain ⟨ab, ao, asp, rfl⟩ := h.addr (by omega)
      have r1 := h.at_map h1
      have z1 : (i : Int) < (n : Int) := by omega
      rw [List.getElem?_eq_getElem (show i < xs.length by omega)]
      by_cases h2 : i < n'
      · have d2 : decide ((i : Int) < (n' : Int)) = true := by simp; omega
        obtain ⟨bb, bo, bsp, rfl⟩ := h'.addr (by omega)
        have r2 := h'.at_map h2
        have z2 : (i : Int) < (n' : Int) := by omega
        rw [List.getElem?_eq_getElem (show i < ys.length by omega)]
        have e0 : cmpO (some (xs[i]'(by omega))) (some (ys[i]'(by omega))) = cmpI (xs[i]'(by omega)) (ys[i]'(by omega)) := rfl
        rw [e0]
        generalize xs[i]'(by omega) = x at *
        generalize ys[i]'(by omega) = y at *
        unfold cmpI
        by_cases h3 : x < y
        · have d3 : decide (x < y) = true := by simpa using h3
          rw [if_pos h3]
          simp (decide := true) (implicitDefEqProofs := false) (maxDischargeDepth := 20) only [go_sem, ↓reduceIte, d0, d1, d2, d3, h0, z1, z2, r1, r2, Int.toNat_natCast, true_implies, false_implies]
          first | done | exact ⟨rfl, .refl m⟩ | exact rfl
        · have d3 : decide (x < y) = false := by simpa using h3
          rw [if_neg h3]
          by_cases h4 : y < x
          · have d4 : decide (x > y) = true := by simpa using h4
            rw [if_pos h4]
            simp (decide := true) (implicitDefEqProofs := false) (maxDischargeDepth := 20) only [go_sem, ↓reduceIte, d0, d1, d2, d3, d4, h0, z1, z2, r1, r2, Int.toNat_natCast, true_implies, false_implies]
            first | done | exact ⟨rfl, .refl m⟩ | exact rfl
          · have d4 : decide (x > y) = false := by simpa using h4
            rw [if_neg h4]
            simp (decide := true) (implicitDefEqProofs := false) (maxDischargeDepth := 20) only [go_sem, ↓reduceIte, d0, d1, d2, d3, d4, h0, z1, z2, r1, r2, Int.toNat_natCast, true_implies, false_implies]
            first | done | exact ⟨rfl, .refl m⟩ | exact rfl
      · have d2 : decide ((i : Int) < (n' : Int)) = false := by simp; omega
        rw [List.getElem?_eq_none (show ys.length ≤ i by omega)]
        simp (decide := true) (implicitDefEqProofs := false) (maxDischargeDepth := 20) only [go_sem, ↓reduceIte, d0, d1, d2, true_implies, false_implies]
        first | done | exact ⟨rfl, .refl m⟩ | exact rfl
    · have d1 : decide ((i : Int) < (n : Int)) = false := by simp; omega
      rw [List.getElem?_eq_none (show xs.length ≤ i by omega)]
      by_cases h2 : i < n'
      · have d2 : decide ((i : Int) < (n' : Int)) = true := by simp; omega
        rw [List.getElem?_eq_getElem (show i < ys.length by omega)]
        simp (decide := true) (implicitDefEqProofs := false) (maxDischargeDepth := 20) only [go_sem, ↓reduceIte, d0, d1, d2, true_implies, false_implies]
        first | done | exact ⟨rfl, .refl m⟩ | exact rfl
      · have d2 : decide ((i : Int) < (n' : Int)) = false := by simp; omega
        rw [List.getElem?_eq_none (show ys.length ≤ i by omega)]
        simp (decide := true) (implicitDefEqProofs := false) (maxDischargeDepth := 20) only [go_sem, ↓reduceIte, d0, d1, d2, true_implies, false_implies]
        first | done | exact ⟨rfl, .refl m⟩ | exact rfl
  · have d0 : decide (k ≥ 0) = false := by simpa using h0
    have e : colL xs ys k = 0 := by unfold colL cell; rw [if_neg h0, if_neg h0]; rfl
    rw [e]
    simp (decide := true) (implicitDefEqProofs := false) (maxDischargeDepth := 20) only [go_sem, ↓reduceIte, d0, true_implies, false_implies]
    first | done | exact ⟨rfl, .refl m⟩ | exact .refl m
set_option maxRecDepth 100000 in
set_option maxHeartbeats 4000000 in
theorem rCompare_at {m : Mem} {a b d : Option Addr} {n n' q c c' c'' : Nat} {xs ys cols : List Int} (h : SlA m 1 a n c (xs.map (.int .i64))) (h' : SlA m 1 b n' c' (ys.map (.int .i64))) (hc : SlA m 1 d q c'' (cols.map (.int .i64))) (hn : n ≤ 1000000) (hn' : n' ≤ 1000000) (hq : q ≤ 1000000) :
    CallQ E F_sheafref12_Compare [.slice a n c, .slice b n' c', .slice d q c''].toArray m fun w m' => w = .int .i64 (cmpL xs ys cols) ∧ Old m m' := by
  have hl : xs.length = n := by have := h.len; simpa using this
  have hl' : ys.length = n' := by have := h'.len; simpa using this
  have hlc : cols.length = q := by have := hc.len; simpa using this
  show CallQ E F_sheafref12_Compare [.slice a n c, .slice b n' c', .slice d q c''].toArray m fun w m' => w = .int .i64 (firstN (colsL xs ys cols)) ∧ Old m m'
  have LL := colsL_length xs ys cols
  refine .enter fn_sheafref12_Compare (by simp) ?_
  simp (decide := true) (implicitDefEqProofs := false) (maxDischargeDepth := 20) only [go_sem, ↓reduceIte]
  simp only [c_sheafref12_Compare_11_at, wpM_block, c_sheafref12_Compare_10_at]
  refine wpM_loopA (fun j t' m' => ∃ i : Nat, i ≤ q ∧ j = q - i ∧ t' 14 = .int .i64 i ∧ Old m m' ∧ firstN ((colsL xs ys cols).drop i) = firstN (colsL xs ys cols)) q ⟨0, by omega, rfl, by simp (decide := true) only [go_sem, ↓reduceIte]; try rfl, .refl m, rfl⟩ ?_
  rintro j t' m' ha ⟨i, hi, rfl, e14, o1, hf⟩
  have a0 := ha 0 (by decide +kernel)
  have a1 := ha 1 (by decide +kernel)
  have a12 := ha 12 (by decide +kernel)
  have a13 := ha 13 (by decide +kernel)
  simp (decide := true) only [go_sem, ↓reduceIte] at a0 a1 a12 a13
  have h1 := h.old o1
  have h1' := h'.old o1
  have hc1 := hc.old o1
  by_cases hlt : i < q
  · have d1 : decide ((i : Int) < (q : Int)) = true := by simp; omega
    have w1 : IntKind.wrap .i64 ((i : Int) + 1) = ((i + 1 : Nat) : Int) := by rw [wrap_i64_id _ (by omega) (by omega)]; omega
    have z0 : (0 : Int) ≤ (i : Int) := by omega
    have z1 : (i : Int) < (q : Int) := by omega
    obtain ⟨db, dof, dsp, rfl⟩ := hc1.addr (by omega)
    have R := fun K => callQ_eq (rColumn_at (cols[i]'(by omega)) h1 h1') K
    have s := firstN_drop (colsL xs ys cols) i (by omega)
    rw [colsL_1 xs ys cols i (by omega)] at s
    have r := hc1.at_map hlt
    by_cases hz : colL xs ys (cols[i]'(by omega)) = 0
    · rw [if_pos hz, hf] at s
      rw [hz] at R
      simp (decide := true) (implicitDefEqProofs := false) (maxDischargeDepth := 20) only [go_sem, ↓reduceIte, a0, a1, a12, a13, e14, d1, w1, z0, z1, r, R, Int.toNat_natCast, true_implies, false_implies]
      exact ⟨q - (i + 1), by omega, i + 1, by omega, rfl, rfl, o1.trans (.ansM (.refl _)), s.symm⟩
    · rw [if_neg hz, hf] at s
      have nz : (colL xs ys (cols[i]'(by omega)) != 0) = true := by simpa using hz
      rw [s]
      simp (decide := true) (implicitDefEqProofs := false) (maxDischargeDepth := 20) only [go_sem, ↓reduceIte, a0, a1, a12, a13, e14, d1, w1, z0, z1, r, R, nz, Int.toNat_natCast, true_implies, false_implies]
      exact o1.trans (.ansM (.refl _))
  · have d1 : decide ((i : Int) < (q : Int)) = false := by simp; omega
    have hiq : i = q := by omega
    subst hiq
    have mx : max (n : Int) (n' : Int) = ((max n n' : Nat) : Int) := by omega
    simp (decide := true) (implicitDefEqProofs := false) (maxDischargeDepth := 20) only [go_sem, ↓reduceIte, a0, a1, a12, a13, e14, d1, mx, true_implies, false_implies]
    simp only [c_sheafref12_Compare_23_at, wpM_block, c_sheafref12_Compare_22_at]
    refine wpM_loopA (fun j t' m' => ∃ k : Nat, k ≤ max n n' ∧ j = max n n' - k ∧ t' 10 = .int .i64 k ∧ Old m m' ∧ firstN ((colsL xs ys cols).drop (i + k)) = firstN (colsL xs ys cols)) (max n n') ⟨0, by omega, rfl, by simp (decide := true) only [go_sem, ↓reduceIte]; try rfl, o1, hf⟩ ?_
    rintro j t2 m2 hb ⟨k, hk, rfl, e10, o2, hf2⟩
    have b0 := hb 0 (by decide +kernel)
    have b1 := hb 1 (by decide +kernel)
    simp (decide := true) only [go_sem, ↓reduceIte, a0, a1] at b0 b1
    have h2 := h.old o2
    have h2' := h'.old o2
    by_cases hlt2 : k < max n n'
    · by_cases hA : k < n
      · have d2 : decide ((k : Int) < (n : Int)) = true := by simp; omega
        have w1 : IntKind.wrap .i64 ((k : Int) + 1) = ((k + 1 : Nat) : Int) := by rw [wrap_i64_id _ (by omega) (by omega)]; omega
        have R := fun K => callQ_eq (rColumn_at (k : Int) h2 h2') K
        have s := firstN_drop (colsL xs ys cols) (i + k) (by omega)
        have s2 := colsL_2 xs ys cols k (by omega)
        simp only [hlc] at s2
        rw [s2] at s
        by_cases hz : colL xs ys (k : Int) = 0
        · rw [if_pos hz, hf2] at s
          rw [hz] at R
          simp (decide := true) (implicitDefEqProofs := false) (maxDischargeDepth := 20) only [go_sem, ↓reduceIte, b0, b1, e10, d2, w1, R, true_implies, false_implies]
          exact ⟨max n n' - (k + 1), by omega, k + 1, by omega, rfl, rfl, o2.trans (.ansM (.refl _)), s.symm⟩
        · rw [if_neg hz, hf2] at s
          have nz : (colL xs ys (k : Int) != 0) = true := by simpa using hz
          rw [s]
          simp (decide := true) (implicitDefEqProofs := false) (maxDischargeDepth := 20) only [go_sem, ↓reduceIte, b0, b1, e10, d2, w1, R, nz, true_implies, false_implies]
          exact o2.trans (.ansM (.refl _))
      · have d2 : decide ((k : Int) < (n : Int)) = false := by simp; omega
        have d3 : decide ((k : Int) < (n' : Int)) = true := by simp; omega
        have w1 : IntKind.wrap .i64 ((k : Int) + 1) = ((k + 1 : Nat) : Int) := by rw [wrap_i64_id _ (by omega) (by omega)]; omega
        have R := fun K => callQ_eq (rColumn_at (k : Int) h2 h2') K
        have s := firstN_drop (colsL xs ys cols) (i + k) (by omega)
        have s2 := colsL_2 xs ys cols k (by omega)
        simp only [hlc] at s2
        rw [s2] at s
        by_cases hz : colL xs ys (k : Int) = 0
        · rw [if_pos hz, hf2] at s
          rw [hz] at R
          simp (decide := true) (implicitDefEqProofs := false) (maxDischargeDepth := 20) only [go_sem, ↓reduceIte, b0, b1, e10, d2, d3, w1, R, true_implies, false_implies]
          exact ⟨max n n' - (k + 1), by omega, k + 1, by omega, rfl, rfl, o2.trans (.ansM (.refl _)), s.symm⟩
        · rw [if_neg hz, hf2] at s
          have nz : (colL xs ys (k : Int) != 0) = true := by simpa using hz
          rw [s]
          simp (decide := true) (implicitDefEqProofs := false) (maxDischargeDepth := 20) only [go_sem, ↓reduceIte, b0, b1, e10, d2, d3, w1, R, nz, true_implies, false_implies]
          exact o2.trans (.ansM (.refl _))
    · have d2 : decide ((k : Int) < (n : Int)) = false := by simp; omega
      have d3 : decide ((k : Int) < (n' : Int)) = false := by simp; omega
      rw [List.drop_of_length_le (by omega)] at hf2
      rw [← hf2]
      simp (decide := true) (implicitDefEqProofs := false) (maxDischargeDepth := 20) only [go_sem, ↓reduceIte, b0, b1, e10, d2, d3, true_implies, false_implies]
      first | done | exact ⟨rfl, o2⟩ | exact o2
end Go.Proofs.Ytkbjkmhmkefckaa.W
