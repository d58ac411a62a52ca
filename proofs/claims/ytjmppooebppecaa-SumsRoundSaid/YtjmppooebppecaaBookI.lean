/-
  Same, Intact and Roomy for bytes.
-/
import Derived.Test.YtjmppooebppecaaBook
namespace Go.Proofs.Ytjmppooebppecaa.W
open Go.Abs
set_option linter.unusedSimpArgs false
set_option linter.unusedVariables false

set_option maxRecDepth 100000 in
theorem SameI {m : Mem} {a b : Option Addr} {n n' c c' : Nat} {xs ys : List Int} (h : SlA m 1 a n c (xs.map (.int .i64))) (k : SlA m 1 b n' c' (ys.map (.int .i64))) (hn : n ≤ 1073741824) (hn' : n' ≤ 1073741824) :
    CallQ E F_sheafbook_Same_int [.slice a n c, .slice b n' c'].toArray m fun w m' => w = .bool (decide (xs = ys)) ∧ Old m m' := by
  refine .enter fn_sheafbook_Same_int (by simp) ?_
  have hl : xs.length = n := by have := h.len; simpa using this
  have kl : ys.length = n' := by have := k.len; simpa using this
  by_cases hnn : n = n'
  · subst hnn
    simp (decide := true) (implicitDefEqProofs := false) (maxDischargeDepth := 20) only [go_sem, ↓reduceIte, bne_self_eq_false, true_implies, false_implies]
    simp only [c_sheafbook_Same_int_12_at, wpM_block, c_sheafbook_Same_int_11_at]
    refine wpM_loopA (fun j t' m' => m' = m ∧ ∃ i : Nat, i ≤ n ∧ j = n - i ∧ t' 5 = .int .i64 i ∧ xs.take i = ys.take i) n ⟨rfl, 0, by omega, rfl, by simp (decide := true) only [go_sem, ↓reduceIte]; rfl, by simp⟩ ?_
    rintro j t' m' ha ⟨rfl, i, hi, rfl, e5, hp⟩
    have a0 := ha 0 (by decide +kernel)
    have a1 := ha 1 (by decide +kernel)
    simp (decide := true) only [go_sem, ↓reduceIte] at a0 a1
    by_cases hlt : i < n
    · have d1 : decide ((i : Int) < (n : Int)) = true := by simp; omega
      have w1 : IntKind.wrap .i64 ((i : Int) + 1) = ((i + 1 : Nat) : Int) := by rw [wrap_i64_id _ (by omega) (by omega)]; omega
      obtain ⟨b1, o1, s1, rfl⟩ := h.addr (by omega)
      obtain ⟨b2, o2, s2, rfl⟩ := k.addr (by omega)
      have r1 := h.at_map hlt
      have r2 := k.at_map hlt
      have z0 : (0 : Int) ≤ (i : Int) := by omega
      have z1 : (i : Int) < (n : Int) := by omega
      have hx : ∀ zs : List Int, (hz : i < zs.length) → zs.take (i + 1) = zs.take i ++ [zs[i]] := fun zs hz => List.take_succ_eq_append_getElem hz
      by_cases he : xs[i]'(by omega) = ys[i]'(by omega)
      · have d2 : (xs[i]'(by omega) != ys[i]'(by omega)) = false := by simpa using he
        simp (decide := true) (implicitDefEqProofs := false) (maxDischargeDepth := 20) only [go_sem, ↓reduceIte, a0, a1, e5, d1, d2, r1, r2, z0, z1, w1, Int.toNat_natCast, Nat.mul_one, true_implies, false_implies]
        exact ⟨n - (i + 1), by omega, i + 1, by omega, rfl, rfl, by rw [hx xs (by omega), hx ys (by omega), hp, he]⟩
      · have d2 : (xs[i]'(by omega) != ys[i]'(by omega)) = true := by simpa using he
        have hne : decide (xs = ys) = false := by simp; rintro rfl; exact he rfl
        simp (decide := true) (implicitDefEqProofs := false) (maxDischargeDepth := 20) only [go_sem, ↓reduceIte, a0, a1, e5, d1, d2, r1, r2, z0, z1, w1, hne, Int.toNat_natCast, Nat.mul_one, true_implies, false_implies]
    · have d1 : decide ((i : Int) < (n : Int)) = false := by simp; omega
      have hin : i = n := by omega
      rw [List.take_of_length_le (by omega), List.take_of_length_le (by omega)] at hp
      have he : decide (xs = ys) = true := by simpa using hp
      simp (decide := true) (implicitDefEqProofs := false) (maxDischargeDepth := 20) only [go_sem, ↓reduceIte, a0, a1, e5, d1, he, true_implies, false_implies]
  · have d0 : ((n : Int) != (n' : Int)) = true := by simp; omega
    have hne : decide (xs = ys) = false := by simp; rintro rfl; omega
    simp (decide := true) (implicitDefEqProofs := false) (maxDischargeDepth := 20) only [go_sem, ↓reduceIte, d0, hne, true_implies, false_implies]
end Go.Proofs.Ytjmppooebppecaa.W
