/-
  Heaps as lists: pushing and popping, without memory.
-/
import Derived.Test.YthlcbacmbcmgfaaAbs25
namespace Go.Proofs.Ythlcbacmbcmgfaa.W
open Go.Abs

section heap
variable {α : Type} [Inhabited α] (lt : α → α → Bool)

abbrev gt (l : List α) (i : Nat) : α := l.getD i default
def swp (l : List α) (i j : Nat) : List α := (l.set i (gt l j)).set j (gt l i)

/-- Up to its place. -/
def upL : Nat → List α → Nat → List α
  | 0, l, _ => l
  | k + 1, l, i => if i = 0 then l else if lt (gt l i) (gt l ((i - 1) / 2)) then upL k (swp l i ((i - 1) / 2)) ((i - 1) / 2) else l
def pushL (l : List α) (x : α) : List α := upL lt (l.length + 1) (l ++ [x]) l.length

/-- The least of one and its two below. -/
def leastL (l : List α) (i : Nat) : Nat :=
  let a := if 2 * i + 1 < l.length ∧ lt (gt l (2 * i + 1)) (gt l i) = true then 2 * i + 1 else i
  if 2 * i + 2 < l.length ∧ lt (gt l (2 * i + 2)) (gt l a) = true then 2 * i + 2 else a
/-- Down to its place. -/
def downL : Nat → List α → Nat → List α
  | 0, l, _ => l
  | k + 1, l, i => if leastL lt l i = i then l else downL k (swp l i (leastL lt l i)) (leastL lt l i)
def popL (l : List α) : List α := downL lt (l.length - 1) ((l.set 0 (gt l (l.length - 1))).take (l.length - 1)) 0

theorem swp_length (l : List α) (i j : Nat) : (swp l i j).length = l.length := by simp [swp]
theorem upL_length : ∀ (k : Nat) (l : List α) (i : Nat), (upL lt k l i).length = l.length
  | 0, _, _ => rfl
  | k + 1, l, i => by
    simp only [upL]
    split
    · rfl
    · split
      · rw [upL_length k, swp_length]
      · rfl
theorem downL_length : ∀ (k : Nat) (l : List α) (i : Nat), (downL lt k l i).length = l.length
  | 0, _, _ => rfl
  | k + 1, l, i => by
    simp only [downL]
    split
    · rfl
    · rw [downL_length k, swp_length]
theorem pushL_length (l : List α) (x : α) : (pushL lt l x).length = l.length + 1 := by simp [pushL, upL_length]
theorem popL_length (l : List α) : (popL lt l).length = l.length - 1 := by simp [popL, downL_length]

theorem gt_swp (l : List α) {i j : Nat} (hi : i < l.length) (hj : j < l.length) (k : Nat) : gt (swp l i j) k = if k = j then gt l i else if k = i then gt l j else gt l k := by
  unfold swp gt
  simp only [List.getD_eq_getElem?_getD, List.getElem?_set, List.length_set]
  by_cases h1 : k = j
  · subst h1; simp [hj]
  · rw [if_neg (fun e => h1 e.symm), if_neg h1]
    by_cases h2 : k = i
    · subst h2; simp [hi]
    · rw [if_neg (fun e => h2 e.symm), if_neg h2]

theorem swp_perm (l : List α) {i j : Nat} (hi : i < l.length) (hj : j < l.length) : (swp l i j).Perm l := by
  unfold swp gt
  simp only [List.getD_eq_getElem?_getD, List.getElem?_eq_getElem hi, List.getElem?_eq_getElem hj, Option.getD_some]
  exact List.set_set_perm hi hj

/-- Nothing is below what is above it. -/
def IsHeap (l : List α) : Prop := ∀ i, 0 < i → i < l.length → lt (gt l i) (gt l ((i - 1) / 2)) = false

/-- A strict order: what is not below goes on. -/
structure Ord : Prop where
  asym : ∀ a b, lt a b = true → lt b a = false
  trans : ∀ a b c, lt a b = false → lt b c = false → lt a c = false
variable {lt}

omit [Inhabited α] in
theorem Ord.irr (o : Ord lt) (a : α) : lt a a = false := by
  cases h : lt a a with
  | false => rfl
  | true => have := o.asym a a h; rw [h] at this; exact this

theorem upL_perm : ∀ (k : Nat) (l : List α) (i : Nat), i < l.length → (upL lt k l i).Perm l
  | 0, l, _, _ => List.Perm.refl l
  | k + 1, l, i, hi => by
    simp only [upL]
    split
    · exact List.Perm.refl l
    · split
      · exact (upL_perm k _ _ (by rw [swp_length]; omega)).trans (swp_perm l hi (by omega))
      · exact List.Perm.refl l

theorem upL_heap (o : Ord lt) : ∀ (k : Nat) (l : List α) (i : Nat), i < l.length → i < k → (∀ j, 0 < j → j < l.length → j ≠ i → lt (gt l j) (gt l ((j - 1) / 2)) = false) →
    (∀ j, 0 < j → j < l.length → (j - 1) / 2 = i → 0 < i → lt (gt l j) (gt l ((i - 1) / 2)) = false) → IsHeap lt (upL lt k l i)
  | 0, l, i, _, hk, _, _ => by omega
  | k + 1, l, i, hi, hk, h1, h2 => by
    simp only [upL]
    split
    · rename_i h0
      intro j hj hjl
      exact h1 j hj hjl (by omega)
    · rename_i h0
      split
      · rename_i hlt
        obtain ⟨p, hp⟩ : ∃ p, p = (i - 1) / 2 := ⟨_, rfl⟩
        rw [← hp] at hlt ⊢
        have hpl : p < l.length := by omega
        have hpi : p ≠ i := by omega
        have as := o.asym _ _ hlt
        refine upL_heap o k _ _ (by rw [swp_length]; omega) (by omega) (fun j hj hjl hne => ?_) (fun j hj hjl hpar hp0 => ?_)
        · rw [swp_length] at hjl
          rw [gt_swp l hi hpl, gt_swp l hi hpl, if_neg hne]
          by_cases hji : j = i
          · subst hji
            rw [if_pos rfl, if_pos hp.symm]
            exact as
          · rw [if_neg hji]
            by_cases hq : (j - 1) / 2 = p
            · rw [if_pos hq]
              have := h1 j hj hjl hji
              rw [hq] at this
              exact o.trans _ _ _ this as
            · rw [if_neg hq]
              by_cases hq2 : (j - 1) / 2 = i
              · rw [if_pos hq2]
                have := h2 j hj hjl hq2 (by omega)
                rwa [← hp] at this
              · rw [if_neg hq2]
                exact h1 j hj hjl hji
        · rw [swp_length] at hjl
          rw [gt_swp l hi hpl, gt_swp l hi hpl, if_neg (show j ≠ p by omega), if_neg (show (p - 1) / 2 ≠ p by omega), if_neg (show (p - 1) / 2 ≠ i by omega)]
          have hpp := h1 p hp0 hpl hpi
          by_cases hji : j = i
          · rw [if_pos hji]
            exact hpp
          · rw [if_neg hji]
            have := h1 j hj hjl hji
            rw [hpar] at this
            exact o.trans _ _ _ this hpp
      · rename_i hlt
        intro j hj hjl
        by_cases hji : j = i
        · subst hji
          exact Bool.eq_false_iff.2 hlt
        · exact h1 j hj hjl hji

theorem gt_append (l : List α) (x : α) (i : Nat) : gt (l ++ [x]) i = if i < l.length then gt l i else if i = l.length then x else default := by
  unfold gt
  simp only [List.getD_eq_getElem?_getD]
  by_cases h : i < l.length
  · rw [if_pos h, List.getElem?_append_left h]
  · rw [if_neg h, List.getElem?_append_right (by omega)]
    by_cases h2 : i = l.length
    · rw [if_pos h2, h2]; simp
    · rw [if_neg h2, List.getElem?_eq_none (by simp; omega)]
      rfl
theorem pushL_perm (l : List α) (x : α) : (pushL lt l x).Perm (x :: l) := (upL_perm _ _ _ (by simp)).trans (List.perm_append_singleton x l)
theorem pushL_heap (o : Ord lt) (l : List α) (x : α) (h : IsHeap lt l) : IsHeap lt (pushL lt l x) := by
  refine upL_heap o _ _ _ (by simp) (by omega) (fun j hj hjl hne => ?_) (fun j hj hjl hpar h0 => ?_)
  · simp at hjl
    rw [gt_append, gt_append, if_pos (by omega), if_pos (by omega)]
    exact h j hj (by omega)
  · simp at hjl
    omega

theorem leastL_spec (o : Ord lt) (l : List α) (i : Nat) : (leastL lt l i = i ∨ (leastL lt l i = 2 * i + 1 ∨ leastL lt l i = 2 * i + 2) ∧ leastL lt l i < l.length ∧ lt (gt l (leastL lt l i)) (gt l i) = true) ∧
    (∀ j, 0 < j → j < l.length → (j - 1) / 2 = i → lt (gt l j) (gt l (leastL lt l i)) = false) := by
  have nl : ∀ a b c : α, lt a b = true → lt c b = false → lt c a = false := fun a b c h1 h2 => o.trans _ _ _ h2 (o.asym _ _ h1)
  have tr : ∀ a b c : α, lt a b = true → lt b c = true → lt a c = true := fun a b c h1 h2 => by
    cases h : lt a c with
    | true => rfl
    | false => have := o.trans _ _ _ h (o.asym _ _ h2); rw [h1] at this; cases this
  unfold leastL
  simp only
  by_cases h1 : 2 * i + 1 < l.length ∧ lt (gt l (2 * i + 1)) (gt l i) = true
  · rw [if_pos h1]
    by_cases h2 : 2 * i + 2 < l.length ∧ lt (gt l (2 * i + 2)) (gt l (2 * i + 1)) = true
    · rw [if_pos h2]
      refine ⟨.inr ⟨.inr rfl, h2.1, tr _ _ _ h2.2 h1.2⟩, fun j hj hjl hp => ?_⟩
      rcases (show j = 2 * i + 1 ∨ j = 2 * i + 2 by omega) with rfl | rfl
      · exact o.asym _ _ h2.2
      · exact o.irr _
    · rw [if_neg h2]
      refine ⟨.inr ⟨.inl rfl, h1.1, h1.2⟩, fun j hj hjl hp => ?_⟩
      rcases (show j = 2 * i + 1 ∨ j = 2 * i + 2 by omega) with rfl | rfl
      · exact o.irr _
      · exact Bool.eq_false_iff.2 fun e => h2 ⟨hjl, e⟩
  · rw [if_neg h1]
    by_cases h2 : 2 * i + 2 < l.length ∧ lt (gt l (2 * i + 2)) (gt l i) = true
    · rw [if_pos h2]
      refine ⟨.inr ⟨.inr rfl, h2.1, h2.2⟩, fun j hj hjl hp => ?_⟩
      rcases (show j = 2 * i + 1 ∨ j = 2 * i + 2 by omega) with rfl | rfl
      · exact nl _ _ _ h2.2 (Bool.eq_false_iff.2 fun e => h1 ⟨hjl, e⟩)
      · exact o.irr _
    · rw [if_neg h2]
      refine ⟨.inl rfl, fun j hj hjl hp => ?_⟩
      rcases (show j = 2 * i + 1 ∨ j = 2 * i + 2 by omega) with rfl | rfl
      · exact Bool.eq_false_iff.2 fun e => h1 ⟨hjl, e⟩
      · exact Bool.eq_false_iff.2 fun e => h2 ⟨hjl, e⟩

theorem leastL_bd (l : List α) (i : Nat) : leastL lt l i = i ∨ i < leastL lt l i ∧ leastL lt l i < l.length := by
  unfold leastL
  simp only
  by_cases h1 : 2 * i + 1 < l.length ∧ lt (gt l (2 * i + 1)) (gt l i) = true
  · rw [if_pos h1]
    split
    · rename_i h; omega
    · omega
  · rw [if_neg h1]
    split
    · rename_i h; omega
    · exact .inl rfl

theorem downL_perm : ∀ (k : Nat) (l : List α) (i : Nat), (downL lt k l i).Perm l
  | 0, l, _ => List.Perm.refl l
  | k + 1, l, i => by
    simp only [downL]
    split
    · exact List.Perm.refl l
    · rename_i h
      rcases leastL_bd (lt := lt) l i with e | e
      · exact absurd e h
      · exact (downL_perm k _ _).trans (swp_perm l (by omega) e.2)

theorem downL_heap (o : Ord lt) : ∀ (k : Nat) (l : List α) (i : Nat), l.length ≤ i + k → (∀ j, 0 < j → j < l.length → (j - 1) / 2 ≠ i → lt (gt l j) (gt l ((j - 1) / 2)) = false) →
    (∀ j, 0 < j → j < l.length → (j - 1) / 2 = i → 0 < i → lt (gt l j) (gt l ((i - 1) / 2)) = false) → IsHeap lt (downL lt k l i)
  | 0, l, i, hk, h1, _ => fun j hj hjl => h1 j hj hjl (by simp only [downL] at hjl; omega)
  | k + 1, l, i, hk, h1, h2 => by
    obtain ⟨s1, s2⟩ := leastL_spec o l i
    simp only [downL]
    split
    · rename_i he
      rw [he] at s2
      intro j hj hjl
      by_cases hq : (j - 1) / 2 = i
      · rw [hq]; exact s2 j hj hjl hq
      · exact h1 j hj hjl hq
    · rename_i he
      rcases s1 with e | ⟨hc, hcl, hlt⟩
      · exact absurd e he
      generalize leastL lt l i = c at *
      have hci : c ≠ i := by omega
      have hil : i < l.length := by omega
      have hpc : (c - 1) / 2 = i := by omega
      refine downL_heap o k _ _ (by rw [swp_length]; omega) (fun j hj hjl hne => ?_) (fun j hj hjl hpar h0 => ?_)
      · rw [swp_length] at hjl
        rw [gt_swp l hil hcl, gt_swp l hil hcl, if_neg (show (j - 1) / 2 ≠ c from hne)]
        by_cases hjc : j = c
        · subst hjc
          rw [if_pos rfl, if_pos hpc]
          exact o.asym _ _ hlt
        · rw [if_neg hjc]
          by_cases hji : j = i
          · subst hji
            rw [if_pos rfl, if_neg (show (j - 1) / 2 ≠ j by omega)]
            exact h2 c (by omega) hcl hpc hj
          · rw [if_neg hji]
            by_cases hq : (j - 1) / 2 = i
            · rw [if_pos hq]
              exact s2 j hj hjl hq
            · rw [if_neg hq]
              exact h1 j hj hjl hq
      · rw [swp_length] at hjl
        rw [gt_swp l hil hcl, gt_swp l hil hcl, hpc, if_neg (show j ≠ c by omega), if_neg (show j ≠ i by omega), if_neg hci.symm, if_pos rfl]
        have := h1 j hj hjl (by omega)
        rwa [hpar] at this

/-- What is left ahead of sinking. -/
def cutL (l : List α) : List α := (l.set 0 (gt l (l.length - 1))).take (l.length - 1)
theorem cutL_length (l : List α) : (cutL l).length = l.length - 1 := by simp [cutL]
theorem gt_cut (l : List α) (i : Nat) (hi : i < l.length - 1) : gt (cutL l) i = if i = 0 then gt l (l.length - 1) else gt l i := by
  unfold cutL gt
  simp only [List.getD_eq_getElem?_getD, List.getElem?_take, hi, if_true, List.getElem?_set]
  by_cases h : i = 0
  · subst h
    rw [if_pos rfl, if_pos (by omega), if_pos rfl]
    rfl
  · rw [if_neg h, if_neg (fun e => h e.symm)]
theorem popL_heap (o : Ord lt) (l : List α) (h : IsHeap lt l) : IsHeap lt (popL lt l) := by
  refine downL_heap o _ (cutL l) 0 (by rw [cutL_length]; omega) (fun j hj hjl hne => ?_) (fun j _ _ _ h0 => by omega)
  rw [cutL_length] at hjl
  rw [gt_cut l j hjl, gt_cut l _ (by omega), if_neg (by omega), if_neg hne]
  exact h j hj (by omega)
theorem popL_perm (l : List α) (h : l ≠ []) : (gt l 0 :: popL lt l).Perm l := by
  have h1 : (popL lt l).Perm (cutL l) := downL_perm _ _ _
  refine (h1.cons _).trans ?_
  cases l with
  | nil => exact absurd rfl h
  | cons a t =>
    rcases List.eq_nil_or_concat t with rfl | ⟨t', x, rfl⟩
    · exact List.Perm.refl _
    · have e : cutL (a :: t'.concat x) = x :: t' := by
        unfold cutL gt
        simp [List.getD_eq_getElem?_getD]
      rw [e, List.concat_eq_append]
      exact ((List.perm_append_singleton x t').symm).cons a
theorem heap_top (o : Ord lt) (l : List α) (h : IsHeap lt l) : ∀ j, j < l.length → lt (gt l j) (gt l 0) = false := by
  intro j
  induction j using Nat.strongRecOn with
  | _ j ih =>
    intro hj
    rcases Nat.eq_zero_or_pos j with rfl | h0
    · exact o.irr _
    · exact o.trans _ _ _ (h j h0 hj) (ih _ (by omega) (by omega))
theorem heap_nil : IsHeap lt ([] : List α) := fun i _ h => by simp at h
theorem gt_mem (l : List α) {x : α} (h : x ∈ l) : ∃ i, i < l.length ∧ gt l i = x := by
  obtain ⟨i, hi, e⟩ := List.getElem_of_mem h
  exact ⟨i, hi, by unfold gt; simp [List.getD_eq_getElem?_getD, hi, e]⟩
theorem gt_getElem (l : List α) {i : Nat} (h : i < l.length) : gt l i = l[i] := by unfold gt; simp [List.getD_eq_getElem?_getD, h]
end heap
end Go.Proofs.Ythlcbacmbcmgfaa.W
