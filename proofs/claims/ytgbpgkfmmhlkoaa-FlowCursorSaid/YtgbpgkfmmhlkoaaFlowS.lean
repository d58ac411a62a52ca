/-
  A join of rising rows finds what is there.
-/
import Derived.Test.YtgbpgkfmmhlkoaaFlowR
namespace Go.Proofs.Ytgbpgkfmmhlkoaa.W
open Go.Abs
set_option linter.unusedSimpArgs false
set_option linter.unusedVariables false

theorem belowI_gt (a b : Int) : belowI a b > 0 ↔ b < a := by unfold belowI; split <;> (try split) <;> constructor <;> intro h <;> omega
theorem belowI_eq (a b : Int) : belowI a b = 0 ↔ a = b := by unfold belowI; split <;> (try split) <;> constructor <;> intro h <;> omega

/-- What was passed is behind; what is at hand is not. -/
def InvJ (ys : List Int) (s : JS) (x : Int) : Prop := s.asked = true ∧ ((s.there = true ∧ ∃ pre, ys = pre ++ s.last :: s.left ∧ (∀ z ∈ pre, z < x) ∧ x ≤ s.last) ∨ (s.there = false ∧ s.left = [] ∧ ∀ z ∈ ys, z < x))

theorem skip_inv (ys : List Int) (x : Int) : ∀ (left pre : List Int), ys = pre ++ left → (∀ z ∈ pre, z < x) → InvJ ys ⟨true, (skipL belowI x left).2.2, (skipL belowI x left).1, (skipL belowI x left).2.1⟩ x
  | [], pre, h, hp => ⟨rfl, .inr ⟨rfl, rfl, by rw [h, List.append_nil]; exact hp⟩⟩
  | y :: left, pre, h, hp => by
    unfold skipL
    by_cases hc : belowI x y > 0
    · rw [if_pos hc]
      rw [belowI_gt] at hc
      exact skip_inv ys x left (pre ++ [y]) (by rw [h]; simp) fun z hz => by
        rcases List.mem_append.1 hz with hz | hz
        · exact hp z hz
        · simp at hz; omega
    · rw [if_neg hc]
      rw [belowI_gt] at hc
      exact ⟨rfl, .inl ⟨rfl, pre, h, hp, by show x ≤ y; omega⟩⟩

theorem step_inv (ys : List Int) (s : JS) (x x' : Int) (hx : x ≤ x') (h : InvJ ys s x) : InvJ ys (stepJ belowI s x') x' := by
  obtain ⟨ha, h⟩ := h
  unfold stepJ
  rcases h with ⟨ht, pre, hy, hp, hl⟩ | ⟨ht, hl, hy⟩
  · by_cases hc : belowI x' s.last > 0
    · rw [if_pos (.inr ⟨ht, hc⟩)]
      rw [belowI_gt] at hc
      exact skip_inv ys x' s.left (pre ++ [s.last]) (by rw [hy]; simp) fun z hz => by
        rcases List.mem_append.1 hz with hz | hz
        · have := hp z hz; omega
        · simp at hz; omega
    · rw [if_neg (by rintro (h | h); rw [ha] at h; cases h; exact hc h.2)]
      rw [belowI_gt] at hc
      exact ⟨ha, .inl ⟨ht, pre, hy, fun z hz => by have := hp z hz; omega, by omega⟩⟩
  · rw [if_neg (by rintro (h | h); rw [ha] at h; cases h; rw [ht] at h; cases h.1)]
    exact ⟨ha, .inr ⟨ht, hl, fun z hz => by have := hy z hz; omega⟩⟩

theorem hit_iff (ys : List Int) (hs : ys.Pairwise (· < ·)) (s : JS) (x : Int) (h : InvJ ys s x) : (hitJ belowI s x).isSome = decide (x ∈ ys) := by
  obtain ⟨ha, h⟩ := h
  unfold hitJ
  rcases h with ⟨ht, pre, hy, hp, hl⟩ | ⟨ht, hl, hy⟩
  · by_cases hc : x = s.last
    · rw [if_pos ⟨ht, (belowI_eq _ _).2 hc⟩]
      have : x ∈ ys := by rw [hy, hc]; simp
      simp [this]
    · rw [if_neg (fun h => hc ((belowI_eq _ _).1 h.2))]
      have : x ∉ ys := by
        intro hm
        rw [hy] at hm hs
        rcases List.mem_append.1 hm with hm | hm
        · have := hp x hm; omega
        · rcases List.mem_cons.1 hm with hm | hm
          · exact hc hm
          · have := (List.pairwise_cons.1 (List.pairwise_append.1 hs).2.1).1 x hm
            omega
      simp [this]
  · rw [if_neg (fun h => by rw [ht] at h; cases h.1)]
    have : x ∉ ys := fun hm => by have := hy x hm; omega
    simp [this]

theorem hit_mem (ys xs : List Int) (hs : ys.Pairwise (· < ·)) (hr : ∀ j, j + 1 < xs.length → xs.getD j 0 ≤ xs.getD (j + 1) 0) : ∀ k, k < xs.length → InvJ ys (stJ belowI ys (xs.take (k + 1))) (xs.getD k 0) := by
  intro k
  induction k with
  | zero =>
    intro hk
    rw [List.take_succ_eq_append_getElem hk, stJ_snoc]
    have e : xs.getD 0 0 = xs[0] := by simp [List.getD_eq_getElem?_getD, hk]
    rw [e]
    show InvJ ys (stepJ belowI ⟨false, false, 0, ys⟩ xs[0]) xs[0]
    unfold stepJ
    rw [if_pos (.inl rfl)]
    exact skip_inv ys _ ys [] rfl fun z hz => by simp at hz
  | succ k ih =>
    intro hk
    rw [List.take_succ_eq_append_getElem hk, stJ_snoc]
    have e : xs.getD (k + 1) 0 = xs[k + 1] := by simp [List.getD_eq_getElem?_getD, hk]
    rw [← e]
    exact step_inv ys _ _ _ (hr k hk) (ih (by omega))

/-- Sums of the first ones. -/
def sumT (ds : List Int) (j : Nat) : Int := (ds.take j).sum
def rises (ds : List Int) (k : Nat) : List Int := (List.range k).map fun j => sumT ds (j + 1)
theorem sumT_succ (ds : List Int) (j : Nat) (h : j < ds.length) : sumT ds (j + 1) = sumT ds j + ds[j] := by
  unfold sumT
  rw [List.take_succ_eq_append_getElem h, List.sum_append]
  simp
theorem rises_succ (ds : List Int) (k : Nat) : rises ds (k + 1) = rises ds k ++ [sumT ds (k + 1)] := by
  unfold rises
  rw [List.range_succ, List.map_append]
  rfl
theorem rises_len (ds : List Int) (k : Nat) : (rises ds k).length = k := by simp [rises]
theorem rises_at (ds : List Int) {k j : Nat} (h : j < k) : (rises ds k).getD j 0 = sumT ds (j + 1) := by simp [rises, List.getD_eq_getElem?_getD, h]
theorem sumT_mono (ds : List Int) (hd : ∀ d ∈ ds, 0 ≤ d) {i j : Nat} (h : i ≤ j) (hj : j ≤ ds.length) : sumT ds i ≤ sumT ds j := by
  induction j with
  | zero => have : i = 0 := by omega
            subst this; exact Int.le_refl _
  | succ j ih =>
    by_cases e : i = j + 1
    · subst e; exact Int.le_refl _
    · have := ih (by omega) (by omega)
      rw [sumT_succ ds j (by omega)]
      have := hd ds[j] (List.getElem_mem _)
      omega
theorem sumT_bd (ds : List Int) (hd : ∀ d ∈ ds, 0 ≤ d ∧ d ≤ 3) (j : Nat) (hj : j ≤ ds.length) : 0 ≤ sumT ds j ∧ sumT ds j ≤ 3 * j := by
  induction j with
  | zero => exact ⟨Int.le_refl _, Int.le_refl _⟩
  | succ j ih =>
    have := ih (by omega)
    rw [sumT_succ ds j (by omega)]
    have := hd ds[j] (List.getElem_mem _)
    omega
theorem rises_strict (ds : List Int) (hd : ∀ d ∈ ds, 1 ≤ d) (k : Nat) (hk : k ≤ ds.length) : (rises ds k).Pairwise (· < ·) := by
  induction k with
  | zero => exact List.Pairwise.nil
  | succ k ih =>
    rw [rises_succ]
    refine List.pairwise_append.2 ⟨ih (by omega), by simp, fun a ha b hb => ?_⟩
    simp at hb
    rw [hb, sumT_succ ds k (by omega)]
    unfold rises at ha
    obtain ⟨j, hj, rfl⟩ := List.mem_map.1 ha
    rw [List.mem_range] at hj
    have := sumT_mono ds (fun d h => by have := hd d h; omega) (show j + 1 ≤ k by omega) (by omega)
    have := hd ds[k] (List.getElem_mem _)
    omega
end Go.Proofs.Ytgbpgkfmmhlkoaa.W
