/-
  Compare.
-/
import Derived.Test.YtkbjkmhmkefckaaRowA
namespace Go.Proofs.Ytkbjkmhmkefckaa.W
open Go.Abs
set_option linter.unusedSimpArgs false
set_option linter.unusedVariables false

theorem firstN_drop (L : List Int) (i : Nat) (h : i < L.length) : firstN (L.drop i) = if L[i] = 0 then firstN (L.drop (i + 1)) else L[i] := by
  rw [List.drop_eq_getElem_cons h]; rfl

def colsL (xs ys cols : List Int) : List Int := (cols ++ (List.range (max xs.length ys.length)).map (fun i : Nat => (i : Int))).map (colL xs ys)
theorem colsL_length (xs ys cols : List Int) : (colsL xs ys cols).length = cols.length + max xs.length ys.length := by simp [colsL]
theorem colsL_1 (xs ys cols : List Int) (i : Nat) (h : i < cols.length) : (colsL xs ys cols)[i]'(by rw [colsL_length]; omega) = colL xs ys cols[i] := by
  unfold colsL
  rw [List.getElem_map, List.getElem_append_left h]
theorem colsL_2 (xs ys cols : List Int) (i : Nat) (h : i < max xs.length ys.length) : (colsL xs ys cols)[cols.length + i]'(by rw [colsL_length]; omega) = colL xs ys i := by
  unfold colsL
  rw [List.getElem_map, List.getElem_append_right (by omega)]
  simp

set_option maxRecDepth 100000 in
set_option maxHeartbeats 4000000 in
theorem Compare_at {m : Mem} {a b d : Option Addr} {n n' q c c' c'' : Nat} {xs ys cols : List Int} (h : SlA m 1 a n c (xs.map (.int .i64))) (h' : SlA m 1 b n' c' (ys.map (.int .i64))) (hc : SlA m 1 d q c'' (cols.map (.int .i64))) (hn : n ≤ 1000000) (hn' : n' ≤ 1000000) (hq : q ≤ 1000000) :
    CallQ E F_row_Compare [.slice a n c, .slice b n' c', .slice d q c''].toArray m fun w m' => w = .int .i64 (cmpL xs ys cols) ∧ Old m m' := by
  have hl : xs.length = n := by have := h.len; simpa using this
  have hl' : ys.length = n' := by have := h'.len; simpa using this
  have hlc : cols.length = q := by have := hc.len; simpa using this
  show CallQ E F_row_Compare [.slice a n c, .slice b n' c', .slice d q c''].toArray m fun w m' => w = .int .i64 (firstN (colsL xs ys cols)) ∧ Old m m'
  have LL := colsL_length xs ys cols
  refine .enter fn_row_Compare (by simp) ?_
  simp (decide := true) (implicitDefEqProofs := false) (maxDischargeDepth := 20) only [go_sem, ↓reduceIte]
  simp only [c_row_Compare_11_at, wpM_block, c_row_Compare_10_at]
  refine wpM_loopA (fun j t' m' => ∃ i : Nat, i ≤ q ∧ j = q - i ∧ t' 14 = .int .i64 i ∧ Old m m' ∧ firstN ((colsL xs ys cols).drop i) = firstN (colsL xs ys cols)) q ⟨0, by omega, rfl, by simp (decide := true) only [go_sem, ↓reduceIte]; try rfl, .refl m, rfl⟩ ?_
  rintro j t' m' ha ⟨i, hi, rfl, e14, o1, hf⟩
  have a0 := ha 0 (by decide +kernel)
  have a1 := ha 1 (by decide +kernel)
  have a12 := ha 12 (by decide +kernel)
  have a13 := ha 13 (by decide +kernel)
  simp (decide := true) only [go_sem, ↓reduceIte] at a0 a1 a12 a13
  have h1 := h.old o1
  have h1' := h'.old o1
  have hc1 := hc.old o1
  by_cases hlt : i < q
  · have d1 : decide ((i : Int) < (q : Int)) = true := by simp; omega
    have w1 : IntKind.wrap .i64 ((i : Int) + 1) = ((i + 1 : Nat) : Int) := by rw [wrap_i64_id _ (by omega) (by omega)]; omega
    have z0 : (0 : Int) ≤ (i : Int) := by omega
    have z1 : (i : Int) < (q : Int) := by omega
    obtain ⟨db, dof, dsp, rfl⟩ := hc1.addr (by omega)
    have R := fun K => callQ_eq (Column_at (cols[i]'(by omega)) h1 h1') K
    have s := firstN_drop (colsL xs ys cols) i (by omega)
    rw [colsL_1 xs ys cols i (by omega)] at s
    have r := hc1.at_map hlt
    by_cases hz : colL xs ys (cols[i]'(by omega)) = 0
    · rw [if_pos hz, hf] at s
      rw [hz] at R
      simp (decide := true) (implicitDefEqProofs := false) (maxDischargeDepth := 20) only [go_sem, ↓reduceIte, a0, a1, a12, a13, e14, d1, w1, z0, z1, r, R, Int.toNat_natCast, true_implies, false_implies]
      exact ⟨q - (i + 1), by omega, i + 1, by omega, rfl, rfl, o1.trans (.ansM (.refl _)), s.symm⟩
    · rw [if_neg hz, hf] at s
      have nz : (colL xs ys (cols[i]'(by omega)) != 0) = true := by simpa using hz
      rw [s]
      simp (decide := true) (implicitDefEqProofs := false) (maxDischargeDepth := 20) only [go_sem, ↓reduceIte, a0, a1, a12, a13, e14, d1, w1, z0, z1, r, R, nz, Int.toNat_natCast, true_implies, false_implies]
      exact o1.trans (.ansM (.refl _))
  · have d1 : decide ((i : Int) < (q : Int)) = false := by simp; omega
    have hiq : i = q := by omega
    subst hiq
    have mx : max (n : Int) (n' : Int) = ((max n n' : Nat) : Int) := by omega
    simp (decide := true) (implicitDefEqProofs := false) (maxDischargeDepth := 20) only [go_sem, ↓reduceIte, a0, a1, a12, a13, e14, d1, mx, true_implies, false_implies]
    simp only [c_row_Compare_24_at, wpM_block, c_row_Compare_23_at]
    refine wpM_loopA (fun j t' m' => ∃ k : Nat, k ≤ max n n' ∧ j = max n n' - k ∧ t' 31 = .int .i64 k ∧ Old m m' ∧ firstN ((colsL xs ys cols).drop (i + k)) = firstN (colsL xs ys cols)) (max n n') ⟨0, by omega, rfl, by simp (decide := true) only [go_sem, ↓reduceIte]; try rfl, o1, hf⟩ ?_
    rintro j t2 m2 hb ⟨k, hk, rfl, e31, o2, hf2⟩
    have b0 := hb 0 (by decide +kernel)
    have b1 := hb 1 (by decide +kernel)
    have b30 := hb 30 (by decide +kernel)
    simp (decide := true) only [go_sem, ↓reduceIte, a0, a1] at b0 b1 b30
    have h2 := h.old o2
    have h2' := h'.old o2
    by_cases hlt2 : k < max n n'
    · have d2 : decide ((k : Int) < ((max n n' : Nat) : Int)) = true := by simp only [decide_eq_true_eq]; omega
      have w1 : IntKind.wrap .i64 ((k : Int) + 1) = ((k + 1 : Nat) : Int) := by rw [wrap_i64_id _ (by omega) (by omega)]; omega
      have R := fun K => callQ_eq (Column_at (k : Int) h2 h2') K
      have s := firstN_drop (colsL xs ys cols) (i + k) (by omega)
      have s2 := colsL_2 xs ys cols k (by omega)
      simp only [hlc] at s2
      rw [s2] at s
      by_cases hz : colL xs ys (k : Int) = 0
      · rw [if_pos hz, hf2] at s
        rw [hz] at R
        simp (decide := true) (implicitDefEqProofs := false) (maxDischargeDepth := 20) only [go_sem, ↓reduceIte, b0, b1, b30, e31, d2, w1, R, true_implies, false_implies]
        exact ⟨max n n' - (k + 1), by omega, k + 1, by omega, rfl, rfl, o2.trans (.ansM (.refl _)), s.symm⟩
      · rw [if_neg hz, hf2] at s
        have nz : (colL xs ys (k : Int) != 0) = true := by simpa using hz
        rw [s]
        simp (decide := true) (implicitDefEqProofs := false) (maxDischargeDepth := 20) only [go_sem, ↓reduceIte, b0, b1, b30, e31, d2, w1, R, nz, true_implies, false_implies]
        exact o2.trans (.ansM (.refl _))
    · have d2 : decide ((k : Int) < ((max n n' : Nat) : Int)) = false := by simp only [decide_eq_false_iff_not]; omega
      rw [List.drop_of_length_le (by omega)] at hf2
      rw [← hf2]
      simp (decide := true) (implicitDefEqProofs := false) (maxDischargeDepth := 20) only [go_sem, ↓reduceIte, b0, b1, b30, e31, d2, true_implies, false_implies]
      first | done | exact ⟨rfl, o2⟩ | exact o2
end Go.Proofs.Ytkbjkmhmkefckaa.W
