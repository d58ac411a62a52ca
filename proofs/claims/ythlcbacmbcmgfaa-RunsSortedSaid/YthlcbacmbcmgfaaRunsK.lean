/-
  RunsPlays: the least of a list of items.
-/
import Derived.Test.YthlcbacmbcmgfaaRunsH
namespace Go.Proofs.Ythlcbacmbcmgfaa.W
open Go.Abs
set_option linter.unusedSimpArgs false
set_option linter.unusedVariables false

theorem fillR_heap (xs : List Int) : IsHeap ltR (fillR xs) := by
  induction xs using snocInd with
  | h0 => exact heap_nil
  | h1 xs x ih => rw [fillR_snoc]; exact pushL_heap ltR_ord _ _ ih
theorem heapR_heap (xs : List Int) (b : Nat) : ∀ k, IsHeap ltR (heapR xs b k)
  | 0 => fillR_heap _
  | k + 1 => by
    rw [heapR_succ]
    split
    · exact pushL_heap ltR_ord _ _ (popL_heap ltR_ord _ (heapR_heap xs b k))
    · exact popL_heap ltR_ord _ (heapR_heap xs b k)
/-- The least of the same things is the same. -/
theorem least_same {l h : List (Int × Int)} (hp : l.Perm h) (hh : IsHeap ltR h) {i : Nat} (hi : i < l.length) (hm : ∀ j, j < l.length → ltR (gt l j) (gt l i) = false) : gt l i = gt h 0 := by
  have hl := hp.length_eq
  have m1 : gt l i ∈ h := hp.subset (by rw [gt_getElem l hi]; exact List.getElem_mem _)
  have m2 : gt h 0 ∈ l := hp.symm.subset (by rw [gt_getElem h (by omega)]; exact List.getElem_mem _)
  obtain ⟨j, hj, ej⟩ := gt_mem h m1
  obtain ⟨q, hq, eq⟩ := gt_mem l m2
  have h1 := heap_top ltR_ord h hh j hj
  have h2 := hm q hq
  rw [ej] at h1
  rw [eq] at h2
  exact ltR_total h1 h2
/-- Without the one at a place. -/
theorem erase_perm {l h : List (Int × Int)} (hp : l.Perm h) {i : Nat} (hi : i < l.length) (e : gt l i = gt h 0) : (l.take i ++ l.drop (i + 1)).Perm (popL ltR h) := by
  have hne : h ≠ [] := by rintro rfl; have := hp.length_eq; rw [List.length_nil] at this; omega
  have h1 : (gt l i :: (l.take i ++ l.drop (i + 1))).Perm l := by
    have e2 : l = l.take i ++ (gt l i :: l.drop (i + 1)) := by
      conv => lhs; rw [← List.take_append_drop i l, List.drop_eq_getElem_cons hi, ← gt_getElem l hi]
    conv => rhs; rw [e2]
    exact List.perm_middle.symm
  have h2 := h1.trans (hp.trans (popL_perm (lt := ltR) h hne).symm)
  rw [e] at h2
  exact (List.perm_cons _).1 h2

/-- Cells of a list of items in memory. -/
theorem vecRowR {B n : Nat} {m : Mem} {b : Nat} {s : Option Nat} {l : List (Int × Int)} (h : Vec B m 2 (some ⟨b, 0, s⟩) n (pC l)) {i : Nat} (hi : i < l.length) : m.rows b (i * 2) 2 = some [vI (gt l i).1, vI (gt l i).2] ∧ m.at b (i * 2) = some (vI (gt l i).1) ∧ m.at b (i * 2 + 1) = some (vI (gt l i).2) := by
  have hne : pC l ≠ [] := by intro e; have h0 : l.length * 2 = 0 := (by rw [← pC_len l, e]; rfl); omega
  have r := (h.sl.rows _ rfl hne).sub (i := i * 2) (n := 2) (by rw [pC_len]; omega)
  rw [pC_row l i hi] at r
  have r : Rw m b (0 + i * 2) [vI (gt l i).1, vI (gt l i).2] := r
  rw [Nat.zero_add] at r
  exact ⟨r, r.at (i := 0) (by simp), r.at (i := 1) (by simp)⟩

theorem pC_drop (l : List (Int × Int)) (n : Nat) (h : n ≤ l.length) : (pC l).drop (n * 2) = pC (l.drop n) := by
  conv => lhs; rw [← List.take_append_drop n l, pC_append]
  rw [List.drop_left' (by rw [pC_len, List.length_take]; omega)]
theorem pC_cell : ∀ l : List (Int × Int), (pC l).all oneCell = true
  | [] => rfl
  | p :: l => by rw [pC_cons, List.all_cons, List.all_cons, pC_cell l]; rfl
def LeastR (l : List (Int × Int)) (q a : Nat) : Prop := (q = 0 ∧ a = 0) ∨ (a < q ∧ ∀ j, j < q → ltR (gt l j) (gt l a) = false)

set_option maxRecDepth 100000 in
set_option maxHeartbeats 4000000 in
theorem Plays_leastR {B : Nat} {m : Mem} {t : Fr} {b k : Nat} {s : Option Nat} {l : List (Int × Int)} (V : Vec B m 2 (some ⟨b, 0, s⟩) k (pC l)) (hl : l.length = k) (hk0 : 0 < k) (hk : k ≤ 1000) (t9 : t 9 = .slice (some ⟨b, 0, s⟩) k k) (t11 : t 11 = .int .i64 0) (t53 : t 53 = .slice (some ⟨b, 0, s⟩) k k) (t54 : t 54 = .int .i64 k) (t55 : t 55 = .int .i64 0) {rd : Option Nat} {K : Post3}
    (hK : ∀ t' m' a, Agree (writes c_sheaflaw11_RunsPlays_18) t t' → t' 11 = .int .i64 (a : Nat) → a < k → (∀ j, j < k → ltR (gt l j) (gt l a) = false) → Old m m' → K .normal t' m') : wpM E F_sheaflaw11_RunsPlays 163 rd c_sheaflaw11_RunsPlays_18 K t m := by
  refine wpM_cut (fun t' m' => ∃ a : Nat, t' 11 = .int .i64 a ∧ a < k ∧ (∀ j, j < k → ltR (gt l j) (gt l a) = false) ∧ Old m m') ?_ fun t' m' ha ⟨a, h1, h2, h3, h4⟩ => hK t' m' a ha h1 h2 h3 h4
  simp only [c_sheaflaw11_RunsPlays_18_at, wpM_block, c_sheaflaw11_RunsPlays_17_at]
  refine wpM_loopA (fun j t' m' => ∃ q a : Nat, q ≤ k ∧ j = k - q ∧ t' 55 = .int .i64 q ∧ t' 11 = .int .i64 a ∧ LeastR l q a ∧ Old m m') k ⟨0, 0, by omega, rfl, t55, t11, .inl ⟨rfl, rfl⟩, .refl m⟩ ?_
  rintro j t' m' ha ⟨q, a, hq, rfl, e55, e11, hL, o⟩
  have a9 := (ha 9 (by decide +kernel)).trans t9
  have a53 := (ha 53 (by decide +kernel)).trans t53
  have a54 := (ha 54 (by decide +kernel)).trans t54
  by_cases hlt : q < k
  · have d1 : decide ((q : Int) < (k : Int)) = true := by simp; omega
    have w1 : IntKind.wrap .i64 ((q : Int) + 1) = ((q + 1 : Nat) : Int) := by rw [wrap_i64_id _ (by omega) (by omega)]; omega
    have V' := V.old o
    have hak : a < k := by rcases hL with ⟨h1, h2⟩ | ⟨h1, _⟩ <;> omega
    obtain ⟨r1, r2, r3⟩ := vecRowR V' (i := q) (by omega)
    obtain ⟨u1, u2, u3⟩ := vecRowR V' (i := a) (by omega)
    have hbl := V'.lt rfl
    have hbl : b < m'.size := hbl
    have nb : ¬ b = m'.size := by omega
    have z0 : (0 : Int) ≤ (q : Int) := by omega
    have z1 : (q : Int) < (k : Int) := by omega
    have z2 : (0 : Int) ≤ (a : Int) := by omega
    have z3 : (a : Int) < (k : Int) := by omega
    obtain ⟨x1, hx1⟩ : ∃ x, x = (gt l q).1 := ⟨_, rfl⟩
    obtain ⟨x2, hx2⟩ : ∃ x, x = (gt l q).2 := ⟨_, rfl⟩
    obtain ⟨y1, hy1⟩ : ∃ x, x = (gt l a).1 := ⟨_, rfl⟩
    obtain ⟨y2, hy2⟩ : ∃ x, x = (gt l a).2 := ⟨_, rfl⟩
    rw [← hx1, ← hx2] at r1
    rw [← hx1] at r2
    rw [← hx2] at r3
    rw [← hy1] at u2
    rw [← hy2] at u3
    have up : ltR (gt l q) (gt l a) = true → LeastR l (q + 1) q := fun h => by
      refine .inr ⟨by omega, fun j hj => ?_⟩
      have h' := ltR_ord.asym _ _ h
      by_cases hjq : j = q
      · subst hjq; exact ltR_ord.irr _
      · rcases hL with ⟨h1, _⟩ | ⟨_, h2⟩
        · omega
        · exact ltR_ord.trans _ _ _ (h2 j (by omega)) h'
    have stay : ltR (gt l q) (gt l a) = false → LeastR l (q + 1) a := fun h => by
      rcases hL with ⟨h1, h2⟩ | ⟨h1, h2⟩
      · exact .inr ⟨by omega, fun j hj => by rw [show j = q by omega]; exact h⟩
      · exact .inr ⟨by omega, fun j hj => by
          by_cases hjq : j = q
          · rw [hjq]; exact h
          · exact h2 j (by omega)⟩
    by_cases h1 : x1 < y1
    · have e1 : decide (x1 < y1) = true := by simpa using h1
      have hlt' : ltR (gt l q) (gt l a) = true := by rw [ltR_iff]; omega
      simp (decide := true) (implicitDefEqProofs := false) (maxDischargeDepth := 20) only [go_sem, ↓reduceIte, a9, a53, a54, e55, e11, d1, w1, r1, r2, r3, u1, u2, u3, nb, z0, z1, z2, z3, e1, Int.toNat_natCast, true_implies, false_implies]
      exact ⟨k - (q + 1), by omega, q + 1, q, by omega, rfl, rfl, rfl, up hlt', (o.push _).put _ _ o.size⟩
    · have e1 : decide (x1 < y1) = false := by simpa using h1
      by_cases h2 : x1 = y1
      · have e2 : (x1 == y1) = true := by simpa using h2
        by_cases h3 : x2 < y2
        · have e3 : decide (x2 < y2) = true := by simpa using h3
          have hlt' : ltR (gt l q) (gt l a) = true := by rw [ltR_iff]; omega
          simp (decide := true) (implicitDefEqProofs := false) (maxDischargeDepth := 20) only [go_sem, ↓reduceIte, a9, a53, a54, e55, e11, d1, w1, r1, r2, r3, u1, u2, u3, nb, z0, z1, z2, z3, e1, e2, e3, Int.toNat_natCast, true_implies, false_implies]
          exact ⟨k - (q + 1), by omega, q + 1, q, by omega, rfl, rfl, rfl, up hlt', (o.push _).put _ _ o.size⟩
        · have e3 : decide (x2 < y2) = false := by simpa using h3
          have hlt' : ltR (gt l q) (gt l a) = false := by rw [ltR_false]; omega
          simp (decide := true) (implicitDefEqProofs := false) (maxDischargeDepth := 20) only [go_sem, ↓reduceIte, a9, a53, a54, e55, e11, d1, w1, r1, r2, r3, u1, u2, u3, nb, z0, z1, z2, z3, e1, e2, e3, Int.toNat_natCast, true_implies, false_implies]
          exact ⟨k - (q + 1), by omega, q + 1, a, by omega, rfl, rfl, rfl, stay hlt', (o.push _).put _ _ o.size⟩
      · have e2 : (x1 == y1) = false := by simpa using h2
        have hlt' : ltR (gt l q) (gt l a) = false := by rw [ltR_false]; omega
        simp (decide := true) (implicitDefEqProofs := false) (maxDischargeDepth := 20) only [go_sem, ↓reduceIte, a9, a53, a54, e55, e11, d1, w1, r1, r2, r3, u1, u2, u3, nb, z0, z1, z2, z3, e1, e2, Int.toNat_natCast, true_implies, false_implies]
        exact ⟨k - (q + 1), by omega, q + 1, a, by omega, rfl, rfl, rfl, stay hlt', (o.push _).put _ _ o.size⟩
  · have d1 : decide ((q : Int) < (k : Int)) = false := by simp; omega
    simp (decide := true) (implicitDefEqProofs := false) (maxDischargeDepth := 20) only [go_sem, ↓reduceIte, a54, e55, d1, true_implies, false_implies]
    rcases hL with ⟨h1, _⟩ | ⟨h1, h2⟩
    · omega
    · exact ⟨a, e11, by omega, fun j hj => h2 j (by omega), o⟩
end Go.Proofs.Ythlcbacmbcmgfaa.W
