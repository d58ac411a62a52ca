/-
  Alike, both; the law CheckTells.
-/
import Derived.Test.YtgbpgkfmmhlkoaaCheckC
import Derived.Test.YtgbpgkfmmhlkoaaCodeCkL
namespace Go.Proofs.Ytgbpgkfmmhlkoaa.W
open Go.Abs
set_option linter.unusedSimpArgs false
set_option linter.unusedVariables false

set_option maxRecDepth 100000 in
set_option maxHeartbeats 4000000 in
theorem Equal_at {m : Mem} {a b : Option Addr} {n c c' : Nat} {xs ys : List Int} (h : SlA m 1 a n c (xs.map (.int .i64))) (k : SlA m 1 b n c' (ys.map (.int .i64))) (hn : n ≤ 1073741824) :
    CallQ E F_slices_Equal_Sint_int [.slice a n c, .slice b n c'].toArray m fun w m' => w = .bool (decide (xs = ys)) ∧ Old m m' := by
  refine .enter fn_slices_Equal_Sint_int (by simp) ?_
  have hl : xs.length = n := by have := h.len; simpa using this
  have kl : ys.length = n := by have := k.len; simpa using this
  simp (decide := true) (implicitDefEqProofs := false) (maxDischargeDepth := 20) only [go_sem, ↓reduceIte, bne_self_eq_false, true_implies, false_implies]
  simp only [c_slices_Equal_Sint_int_13_at, wpM_block, c_slices_Equal_Sint_int_12_at]
  refine wpM_loopA (fun j t' m' => m' = m ∧ ∃ i : Nat, i ≤ n ∧ j = n - i ∧ t' 13 = .int .i64 i ∧ xs.take i = ys.take i) n ⟨rfl, 0, by omega, rfl, by simp (decide := true) only [go_sem, ↓reduceIte]; rfl, by simp⟩ ?_
  rintro j t' m' ha ⟨rfl, i, hi, rfl, e13, hp⟩
  have a0 := ha 0 (by decide +kernel)
  have a1 := ha 1 (by decide +kernel)
  have a12 := ha 12 (by decide +kernel)
  simp (decide := true) only [go_sem, ↓reduceIte] at a0 a1 a12
  by_cases hlt : i < n
  · have d1 : decide ((i : Int) < (n : Int)) = true := by simp; omega
    have w1 : IntKind.wrap .i64 ((i : Int) + 1) = ((i + 1 : Nat) : Int) := by rw [wrap_i64_id _ (by omega) (by omega)]; omega
    obtain ⟨b1, o1, s1, rfl⟩ := h.addr (by omega)
    obtain ⟨b2, o2, s2, rfl⟩ := k.addr (by omega)
    have r1 := h.at_map hlt
    have r2 := k.at_map hlt
    have z0 : (0 : Int) ≤ (i : Int) := by omega
    have z1 : (i : Int) < (n : Int) := by omega
    have hx : ∀ zs : List Int, (hz : i < zs.length) → zs.take (i + 1) = zs.take i ++ [zs[i]] := fun zs hz => List.take_succ_eq_append_getElem hz
    by_cases he : xs[i]'(by omega) = ys[i]'(by omega)
    · have d2 : (xs[i]'(by omega) != ys[i]'(by omega)) = false := by simpa using he
      simp (decide := true) (implicitDefEqProofs := false) (maxDischargeDepth := 20) only [go_sem, ↓reduceIte, a0, a1, a12, e13, d1, d2, r1, r2, z0, z1, w1, Int.toNat_natCast, Nat.mul_one, true_implies, false_implies]
      exact ⟨n - (i + 1), by omega, i + 1, by omega, rfl, rfl, by rw [hx xs (by omega), hx ys (by omega), hp, he]⟩
    · have d2 : (xs[i]'(by omega) != ys[i]'(by omega)) = true := by simpa using he
      have hne : decide (xs = ys) = false := by simp; rintro rfl; exact he rfl
      simp (decide := true) (implicitDefEqProofs := false) (maxDischargeDepth := 20) only [go_sem, ↓reduceIte, a0, a1, a12, e13, d1, d2, r1, r2, z0, z1, w1, hne, Int.toNat_natCast, Nat.mul_one, true_implies, false_implies]
  · have d1 : decide ((i : Int) < (n : Int)) = false := by simp; omega
    have hin : i = n := by omega
    rw [List.take_of_length_le (by omega), List.take_of_length_le (by omega)] at hp
    have he : decide (xs = ys) = true := by simpa using hp
    simp (decide := true) (implicitDefEqProofs := false) (maxDischargeDepth := 20) only [go_sem, ↓reduceIte, a0, a1, a12, e13, d1, he, true_implies, false_implies]

def keyN (name : Int) : Nat := if name = 4 then 2 else 1
def alikeL (name : Int) (xs ys : List Int) : Bool := decide (keyN name ≤ xs.length) && (decide (keyN name ≤ ys.length) && decide (xs.take (keyN name) = ys.take (keyN name)))

set_option maxRecDepth 100000 in
set_option maxHeartbeats 4000000 in
theorem CAlike_at {m : Mem} {a b : Option Addr} {n n' c c' : Nat} {xs ys : List Int} (name : Int) (h : SlA m 1 a n c (xs.map (.int .i64))) (k : SlA m 1 b n' c' (ys.map (.int .i64))) :
    CallQ E F_check_Alike [.int .i64 name, .slice a n c, .slice b n' c'].toArray m fun w m' => w = .bool (alikeL name xs ys) ∧ Old m m' := by
  refine .enter fn_check_Alike (by simp) ?_
  have hl : xs.length = n := by have := h.len; simpa using this
  have kl : ys.length = n' := by have := k.len; simpa using this
  obtain ⟨q, hq⟩ : ∃ q, q = keyN name := ⟨_, rfl⟩
  unfold alikeL
  rw [← hq, hl, kl]
  have dq : decide ((q : Int) ≤ (n : Int)) = decide (q ≤ n) := by rw [decide_eq_decide]; omega
  have dq' : decide ((q : Int) ≤ (n' : Int)) = decide (q ≤ n') := by rw [decide_eq_decide]; omega
  by_cases h4 : name = 4
  · have e4 : (name == 4) = true := by simpa using h4
    have q2 : q = 2 := by rw [hq, h4]; rfl
    subst q2
    by_cases l1 : 2 ≤ n
    · rw [decide_eq_true l1] at dq ⊢
      by_cases l2 : 2 ≤ n'
      · rw [decide_eq_true l2] at dq' ⊢
        obtain ⟨s1, v1⟩ := h.sliceTo (E := E) (k := .i64) l1
        obtain ⟨s2, v2⟩ := k.sliceTo (E := E) (k := .i64) l2
        rw [Nat.mul_one, ← List.map_take] at v1 v2
        have R := fun K => callQ_eq (Equal_at v1 v2 (by omega)) K
        replace dq : decide ((2 : Int) ≤ (n : Int)) = true := dq
        replace dq' : decide ((2 : Int) ≤ (n' : Int)) = true := dq'
        replace s1 : ∀ t, isSl E t 1 = true → sliceV E t (.slice a n c) none (some (.int .i64 2)) = some (.slice a 2 c) := s1
        replace s2 : ∀ t, isSl E t 1 = true → sliceV E t (.slice b n' c') none (some (.int .i64 2)) = some (.slice b 2 c') := s2
        simp (decide := true) (implicitDefEqProofs := false) (maxDischargeDepth := 20) only [go_sem, ↓reduceIte, e4, dq, dq', s1, s2, R, Bool.true_and, true_implies, false_implies]
      · rw [decide_eq_false l2] at dq' ⊢
        replace dq : decide ((2 : Int) ≤ (n : Int)) = true := dq
        replace dq' : decide ((2 : Int) ≤ (n' : Int)) = false := dq'
        simp (decide := true) (implicitDefEqProofs := false) (maxDischargeDepth := 20) only [go_sem, ↓reduceIte, e4, dq, dq', Bool.true_and, Bool.false_and, true_implies, false_implies]
    · rw [decide_eq_false l1] at dq ⊢
      replace dq : decide ((2 : Int) ≤ (n : Int)) = false := dq
      simp (decide := true) (implicitDefEqProofs := false) (maxDischargeDepth := 20) only [go_sem, ↓reduceIte, e4, dq, Bool.true_and, Bool.false_and, true_implies, false_implies]
  · have e4 : (name == 4) = false := by simpa using h4
    have q2 : q = 1 := by rw [hq]; unfold keyN; rw [if_neg h4]
    subst q2
    by_cases l1 : 1 ≤ n
    · rw [decide_eq_true l1] at dq ⊢
      by_cases l2 : 1 ≤ n'
      · rw [decide_eq_true l2] at dq' ⊢
        obtain ⟨s1, v1⟩ := h.sliceTo (E := E) (k := .i64) l1
        obtain ⟨s2, v2⟩ := k.sliceTo (E := E) (k := .i64) l2
        rw [Nat.mul_one, ← List.map_take] at v1 v2
        have R := fun K => callQ_eq (Equal_at v1 v2 (by omega)) K
        replace dq : decide ((1 : Int) ≤ (n : Int)) = true := dq
        replace dq' : decide ((1 : Int) ≤ (n' : Int)) = true := dq'
        replace s1 : ∀ t, isSl E t 1 = true → sliceV E t (.slice a n c) none (some (.int .i64 1)) = some (.slice a 1 c) := s1
        replace s2 : ∀ t, isSl E t 1 = true → sliceV E t (.slice b n' c') none (some (.int .i64 1)) = some (.slice b 1 c') := s2
        simp (decide := true) (implicitDefEqProofs := false) (maxDischargeDepth := 20) only [go_sem, ↓reduceIte, e4, dq, dq', s1, s2, R, Bool.true_and, true_implies, false_implies]
      · rw [decide_eq_false l2] at dq' ⊢
        replace dq : decide ((1 : Int) ≤ (n : Int)) = true := dq
        replace dq' : decide ((1 : Int) ≤ (n' : Int)) = false := dq'
        simp (decide := true) (implicitDefEqProofs := false) (maxDischargeDepth := 20) only [go_sem, ↓reduceIte, e4, dq, dq', Bool.true_and, Bool.false_and, true_implies, false_implies]
    · rw [decide_eq_false l1] at dq ⊢
      replace dq : decide ((1 : Int) ≤ (n : Int)) = false := dq
      simp (decide := true) (implicitDefEqProofs := false) (maxDischargeDepth := 20) only [go_sem, ↓reduceIte, e4, dq, Bool.true_and, Bool.false_and, true_implies, false_implies]
end Go.Proofs.Ytgbpgkfmmhlkoaa.W
