/-
  HeapPlays: the least so far.
-/
import Derived.Test.YthlcbacmbcmgfaaHeapE
import Derived.Test.YthlcbacmbcmgfaaAbs26
namespace Go.Proofs.Ythlcbacmbcmgfaa.W
open Go.Abs
set_option linter.unusedSimpArgs false
set_option linter.unusedVariables false

/-- An index of a least one. -/
def LeastAt (l : List Int) (q : Nat) (a : Int) : Prop := (q = 0 ∧ a = -1) ∨ (0 < q ∧ ∃ i : Nat, a = i ∧ i < q ∧ ∀ j, j < q → gt l i ≤ gt l j)

set_option maxRecDepth 100000 in
set_option maxHeartbeats 4000000 in
theorem Plays_least {m : Mem} {t : Fr} {p : Option Addr} {k : Nat} {l : List Int} (S : SlA m 1 p k k (l.map vI)) (hk : k ≤ 1000000) (t4 : t 4 = .slice p k k) (t7 : t 7 = .int .i64 (-1)) (t31 : t 31 = .int .i64 k) (t32 : t 32 = .int .i64 0) {K : Post3}
    (hK : ∀ t' a, Agree (writes c_sheaflaw8_HeapPlays_14) t t' → t' 7 = .int .i64 a → LeastAt l k a → K .normal t' m) :
    wpM E F_sheaflaw8_HeapPlays 130 none c_sheaflaw8_HeapPlays_14 K t m := by
  have hl : l.length = k := by have := S.len; simpa using this
  refine wpM_cut (fun t' m' => m' = m ∧ ∃ a, t' 7 = .int .i64 a ∧ LeastAt l k a) ?_ fun t' m' hag ⟨h0, a, h1, h2⟩ => by subst h0; exact hK t' a hag h1 h2
  simp only [c_sheaflaw8_HeapPlays_14_at, wpM_block, c_sheaflaw8_HeapPlays_13_at]
  refine wpM_loopA (fun j t' m' => m' = m ∧ ∃ q a, q ≤ k ∧ j = k - q ∧ t' 32 = .int .i64 (q : Nat) ∧ t' 7 = .int .i64 a ∧ LeastAt l q a) k ⟨rfl, 0, -1, by omega, rfl, t32, t7, .inl ⟨rfl, rfl⟩⟩ ?_
  rintro j t' m' hag ⟨rfl, q, a, hq, rfl, e32, e7, hL⟩
  have a4 := (hag 4 (by decide +kernel)).trans t4
  have a31 := (hag 31 (by decide +kernel)).trans t31
  by_cases hlt : q < k
  · have d1 : decide ((q : Int) < (k : Int)) = true := by simp; omega
    have w1 : IntKind.wrap .i64 ((q : Int) + 1) = ((q + 1 : Nat) : Int) := by rw [wrap_i64_id _ (by omega) (by omega)]; omega
    have z0 : (0 : Int) ≤ (q : Int) := by omega
    have z1 : (q : Int) < (k : Int) := by omega
    obtain ⟨b, o, s, rfl⟩ := S.addr (by omega)
    have rq := S.at_map hlt
    have gq : gt l q = l[q]'(by omega) := gt_getElem l (by omega)
    rw [← gq] at rq
    rcases hL with ⟨rfl, rfl⟩ | ⟨h0, i, rfl, hi, hm⟩
    · have d2 : decide ((-1 : Int) < 0) = true := by decide
      simp (decide := true) (implicitDefEqProofs := false) (maxDischargeDepth := 20) only [go_sem, a4, a31, e32, e7, d1, d2, w1, z0, z1, rq, Int.toNat_natCast, ↓reduceIte, true_implies, false_implies]
      exact ⟨k - 1, by omega, 1, _, by omega, rfl, rfl, rfl, .inr ⟨by omega, 0, rfl, by omega, fun j hj => by rw [show j = 0 by omega]; exact Int.le_refl _⟩⟩
    · have d2 : decide ((i : Int) < 0) = false := by simp
      have ri := S.at_map (show i < k by omega)
      have gi : gt l i = l[i]'(by omega) := gt_getElem l (by omega)
      rw [← gi] at ri
      have y0 : (0 : Int) ≤ (i : Int) := by omega
      have y1 : (i : Int) < (k : Int) := by omega
      by_cases hc : gt l q < gt l i
      · have d3 : decide (gt l q < gt l i) = true := by simpa using hc
        simp (decide := true) (implicitDefEqProofs := false) (maxDischargeDepth := 20) only [go_sem, a4, a31, e32, e7, d1, d2, d3, w1, z0, z1, y0, y1, rq, ri, Int.toNat_natCast, ↓reduceIte, true_implies, false_implies]
        refine ⟨k - (q + 1), by omega, q + 1, _, by omega, rfl, rfl, rfl, .inr ⟨by omega, q, rfl, by omega, fun j hj => ?_⟩⟩
        by_cases hjq : j < q
        · have := hm j hjq; omega
        · rw [show j = q by omega]; exact Int.le_refl _
      · have d3 : decide (gt l q < gt l i) = false := by simpa using hc
        simp (decide := true) (implicitDefEqProofs := false) (maxDischargeDepth := 20) only [go_sem, a4, a31, e32, e7, d1, d2, d3, w1, z0, z1, y0, y1, rq, ri, Int.toNat_natCast, ↓reduceIte, true_implies, false_implies]
        refine ⟨k - (q + 1), by omega, q + 1, _, by omega, rfl, rfl, rfl, .inr ⟨by omega, i, rfl, by omega, fun j hj => ?_⟩⟩
        by_cases hjq : j < q
        · exact hm j hjq
        · rw [show j = q by omega]; omega
  · have d1 : decide ((q : Int) < (k : Int)) = false := by simp; omega
    have hqk : q = k := by omega
    subst hqk
    simp (decide := true) (implicitDefEqProofs := false) (maxDischargeDepth := 20) only [go_sem, a4, a31, e32, e7, d1, ↓reduceIte, true_implies, false_implies]
    exact ⟨a, rfl, hL⟩
end Go.Proofs.Ythlcbacmbcmgfaa.W
