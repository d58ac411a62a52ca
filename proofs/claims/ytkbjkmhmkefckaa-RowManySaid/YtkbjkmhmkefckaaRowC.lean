/-
  The order is total.
-/
import Derived.Test.YtkbjkmhmkefckaaRowB
namespace Go.Proofs.Ytkbjkmhmkefckaa.W
open Go.Abs
set_option linter.unusedSimpArgs false
set_option linter.unusedVariables false

/-- What three comparisons owe each other. -/
def Tri (f g h : Int) : Prop := ¬ (f = 0 ∧ g = 0 ∧ h ≠ 0) ∧ ¬ (f ≤ 0 ∧ g ≤ 0 ∧ (f ≠ 0 ∨ g ≠ 0) ∧ 0 ≤ h)

theorem cmpO_neg (p q : Option Int) : cmpO q p = -cmpO p q := by
  cases p <;> cases q <;> simp [cmpO]
  unfold cmpI
  split <;> split <;> (try split) <;> omega
theorem cmpO_tri (p q r : Option Int) : Tri (cmpO p q) (cmpO q r) (cmpO p r) := by
  unfold Tri
  cases p <;> cases q <;> cases r <;> simp [cmpO] <;> unfold cmpI <;> (repeat' split) <;> omega
theorem cmpO_zero (p q : Option Int) : cmpO p q = 0 ↔ p = q := by
  cases p <;> cases q <;> simp [cmpO]
  unfold cmpI
  split
  · simp; omega
  · split
    · simp; omega
    · simp; omega

theorem firstN_neg : ∀ (L : List Int), firstN (L.map fun x => -x) = -firstN L
  | [] => rfl
  | x :: L => by
    simp only [List.map_cons, firstN]
    by_cases h : x = 0
    · rw [if_pos (by omega), if_pos h, firstN_neg L]
    · rw [if_neg (by omega), if_neg h]
theorem firstN_zero : ∀ (L : List Int), firstN L = 0 ↔ ∀ x ∈ L, x = 0
  | [] => by simp [firstN]
  | x :: L => by
    simp only [firstN, List.mem_cons, forall_eq_or_imp]
    by_cases h : x = 0
    · rw [if_pos h, firstN_zero L]; simp [h]
    · rw [if_neg h]; simp [h]
theorem tri_ite (f0 g0 h0 f1 g1 h1 : Int) (t : Tri f0 g0 h0) (i : Tri f1 g1 h1) : Tri (if f0 = 0 then f1 else f0) (if g0 = 0 then g1 else g0) (if h0 = 0 then h1 else h0) := by
  unfold Tri at *
  by_cases hf : f0 = 0
  · rw [if_pos hf]
    by_cases hg : g0 = 0
    · rw [if_pos hg]
      by_cases hh : h0 = 0
      · rw [if_pos hh]; exact i
      · exfalso; omega
    · rw [if_neg hg]
      by_cases hh : h0 = 0
      · rw [if_pos hh]
        constructor
        · rintro ⟨_, h, _⟩; exact hg h
        · rintro ⟨_, h, _⟩; omega
      · rw [if_neg hh]
        constructor
        · rintro ⟨_, h, _⟩; exact hg h
        · rintro ⟨_, h, _⟩; omega
  · rw [if_neg hf]
    constructor
    · rintro ⟨h, _⟩; exact hf h
    · rintro ⟨ha, hb, hc, hd⟩
      by_cases hh : h0 = 0
      · rw [if_pos hh] at hd
        by_cases hg : g0 = 0
        · omega
        · rw [if_neg hg] at hb; omega
      · rw [if_neg hh] at hd
        by_cases hg : g0 = 0
        · omega
        · rw [if_neg hg] at hb; omega
theorem firstN_tri (F G H : Int → Int) (T : ∀ c, Tri (F c) (G c) (H c)) : ∀ (L : List Int), Tri (firstN (L.map F)) (firstN (L.map G)) (firstN (L.map H))
  | [] => by unfold Tri; simp [firstN]
  | c :: L => tri_ite _ _ _ _ _ _ (T c) (firstN_tri F G H T L)

theorem firstN_append_zero (L R : List Int) (h : ∀ x ∈ R, x = 0) : firstN (L ++ R) = firstN L := by
  induction L with
  | nil => rw [List.nil_append]; exact (firstN_zero R).2 h
  | cons x L ih => simp only [List.cons_append, firstN, ih]

/-- More columns change nothing. -/
theorem cmpL_more (xs ys cols : List Int) (N : Nat) (h : max xs.length ys.length ≤ N) : cmpL xs ys cols = firstN ((cols ++ (List.range N).map (fun i : Nat => (i : Int))).map (colL xs ys)) := by
  unfold cmpL
  obtain ⟨k, rfl⟩ : ∃ k, N = max xs.length ys.length + k := ⟨N - max xs.length ys.length, by omega⟩
  have e0 : (cols ++ (List.range (max xs.length ys.length + k)).map (fun i : Nat => (i : Int))).map (colL xs ys) = (cols ++ (List.range (max xs.length ys.length)).map (fun i : Nat => (i : Int))).map (colL xs ys) ++ (((List.range k).map (fun i => max xs.length ys.length + i)).map (fun i : Nat => (i : Int))).map (colL xs ys) := by
    rw [List.range_add]
    simp only [List.map_append, List.append_assoc]
  rw [e0, firstN_append_zero]
  intro x hx
  simp only [List.map_map, List.mem_map, List.mem_range, Function.comp_apply] at hx
  obtain ⟨i, _, rfl⟩ := hx
  have e : ∀ zs : List Int, zs.length ≤ max xs.length ys.length → cell zs ((max xs.length ys.length + i : Nat) : Int) = none := by
    intro zs hz
    unfold cell
    rw [if_pos (by omega), Int.toNat_natCast, List.getElem?_eq_none (by omega)]
  unfold colL
  rw [e xs (by omega), e ys (by omega)]
  rfl

theorem cmpL_neg (xs ys cols : List Int) : cmpL ys xs cols = -cmpL xs ys cols := by
  unfold cmpL
  rw [← firstN_neg, List.map_map, Nat.max_comm]
  congr 1
  apply List.map_congr_left
  intro c _
  exact cmpO_neg _ _
theorem cmpL_tri (xs ys zs cols : List Int) : Tri (cmpL xs ys cols) (cmpL ys zs cols) (cmpL xs zs cols) := by
  rw [cmpL_more xs ys cols (xs.length + ys.length + zs.length) (by omega), cmpL_more ys zs cols (xs.length + ys.length + zs.length) (by omega), cmpL_more xs zs cols (xs.length + ys.length + zs.length) (by omega)]
  exact firstN_tri _ _ _ (fun c => cmpO_tri _ _ _) _
theorem cmpL_zero (xs ys cols : List Int) : cmpL xs ys cols = 0 ↔ xs = ys := by
  unfold cmpL
  rw [firstN_zero]
  constructor
  · intro h
    apply List.ext_getElem?
    intro i
    by_cases hi : i < max xs.length ys.length
    · have := h (colL xs ys (i : Int)) (List.mem_map.2 ⟨(i : Int), List.mem_append_right _ (List.mem_map.2 ⟨i, List.mem_range.2 hi, rfl⟩), rfl⟩)
      have := (cmpO_zero _ _).1 this
      unfold cell at this
      rwa [if_pos (by omega), if_pos (by omega), Int.toNat_natCast] at this
    · rw [List.getElem?_eq_none (by omega), List.getElem?_eq_none (by omega)]
  · rintro rfl x hx
    obtain ⟨c, _, rfl⟩ := List.mem_map.1 hx
    exact (cmpO_zero _ _).2 rfl
end Go.Proofs.Ytkbjkmhmkefckaa.W
