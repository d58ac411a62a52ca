/-
  Groups, without memory.
-/
import Derived.Test.YtgbpgkfmmhlkoaaAbs25
namespace Go.Proofs.Ytgbpgkfmmhlkoaa.W
open Go.Abs

theorem snocInd {α : Type} {P : List α → Prop} (h0 : P []) (h1 : ∀ xs x, P xs → P (xs ++ [x])) (xs : List α) : P xs := by
  have : ∀ (n : Nat) (l : List α), l.length = n → P l := by
    intro n
    induction n with
    | zero => intro l hl; rw [List.eq_nil_of_length_eq_zero hl]; exact h0
    | succ n ih =>
      intro l hl
      rcases List.eq_nil_or_concat l with rfl | ⟨t, x, rfl⟩
      · exact h0
      · rw [List.concat_eq_append]
        exact h1 t x (ih t (by simp at hl; omega))
  exact this _ xs rfl

section groups
variable (same : Int → Int → Bool)

def stepG (s : List (List Int) × List Int) (x : Int) : List (List Int) × List Int :=
  match s.2 with
  | [] => (s.1, [x])
  | y :: r => if same y x then (s.1, y :: r ++ [x]) else (s.1 ++ [y :: r], [x])
/-- Behind so many: the groups that are full, and the one under way. -/
def stG (xs : List Int) : List (List Int) × List Int := xs.foldl (stepG same) ([], [])
def groupsL (xs : List Int) : List (List Int) := if (stG same xs).2 = [] then (stG same xs).1 else (stG same xs).1 ++ [(stG same xs).2]

theorem stG_nil : stG same [] = ([], []) := rfl
theorem stG_snoc (xs : List Int) (x : Int) : stG same (xs ++ [x]) = stepG same (stG same xs) x := by
  unfold stG
  rw [List.foldl_append]
  rfl
theorem stG_ne (xs : List Int) (x : Int) : (stG same (xs ++ [x])).2 ≠ [] := by
  rw [stG_snoc]
  unfold stepG
  split
  · simp
  · split <;> simp
theorem stG_grow (xs ys : List Int) : ∃ r, (stG same (xs ++ ys)).1 = (stG same xs).1 ++ r := by
  induction ys generalizing xs with
  | nil => exact ⟨[], by simp⟩
  | cons y ys ih =>
    obtain ⟨r, hr⟩ := ih (xs ++ [y])
    rw [List.append_assoc] at hr
    rw [show xs ++ y :: ys = xs ++ ([y] ++ ys) from rfl, hr, stG_snoc]
    unfold stepG
    split
    · exact ⟨r, rfl⟩
    · rename_i z t hz
      split
      · exact ⟨r, rfl⟩
      · exact ⟨[z :: t] ++ r, by rw [List.append_assoc]⟩
theorem groupsL_grow (xs : List Int) (k : Nat) : ∃ r, groupsL same xs = (stG same (xs.take k)).1 ++ r := by
  obtain ⟨r, hr⟩ := stG_grow same (xs.take k) (xs.drop k)
  rw [List.take_append_drop] at hr
  unfold groupsL
  split
  · exact ⟨r, hr⟩
  · exact ⟨r ++ [(stG same xs).2], by rw [hr, List.append_assoc]⟩

/-- What is put together is what went in. -/
theorem stG_flat (xs : List Int) : (stG same xs).1.flatten ++ (stG same xs).2 = xs := by
  refine snocInd (P := fun xs => (stG same xs).1.flatten ++ (stG same xs).2 = xs) rfl (fun xs x ih => ?_) xs
  · rw [stG_snoc]
    unfold stepG
    split
    · rename_i h
      rw [h, List.append_nil] at ih
      rw [ih]
    · rename_i y r h
      rw [h] at ih
      split
      · simp only
        rw [← List.append_assoc, ih]
      · simp only [List.flatten_append, List.flatten_cons, List.flatten_nil, List.append_nil]
        rw [ih]
theorem groupsL_flat (xs : List Int) : (groupsL same xs).flatten = xs := by
  have h := stG_flat same xs
  unfold groupsL
  split
  · rename_i e; rw [e, List.append_nil] at h; exact h
  · rw [List.flatten_append, List.flatten_cons, List.flatten_nil, List.append_nil]; exact h

/-- Each group is of one kind. -/
def OneKind (g : List Int) : Prop := ∀ y r, g = y :: r → ∀ x ∈ r, same y x = true
/-- Full groups: none is empty, each of one kind, the next one's first is of another. -/
def Cut : List (List Int) → Prop
  | [] => True
  | g :: l => g ≠ [] ∧ OneKind same g ∧ Cut l ∧ ∀ h t, l = h :: t → ∀ y r z q, g = y :: r → h = z :: q → same y z = false

theorem cut_snoc : ∀ (l : List (List Int)) (g : List Int), Cut same l → g ≠ [] → OneKind same g → (∀ y r z q, l.getLast? = some (y :: r) → g = z :: q → same y z = false) → Cut same (l ++ [g])
  | [], g, _, h1, h2, _ => ⟨h1, h2, trivial, fun _ _ h => by cases h⟩
  | a :: l, g, h, h1, h2, h3 => by
    obtain ⟨c1, c2, c3, c4⟩ := h
    refine ⟨c1, c2, cut_snoc l g c3 h1 h2 (fun y r z q hl hg => h3 y r z q (by rw [List.getLast?_cons, hl]; rfl) hg), ?_⟩
    intro b t hb y r z q hy hz
    cases l with
    | nil =>
      simp at hb
      refine h3 y r z q (by simp [hy]) (by rw [hb.1, hz])
    | cons b' t' =>
      simp at hb
      exact c4 b' t' rfl y r z q hy (by rw [hb.1, hz])

theorem stG_cut (xs : List Int) : Cut same (stG same xs).1 ∧ OneKind same (stG same xs).2 ∧ ((stG same xs).2 = [] → (stG same xs).1 = []) ∧ (∀ y r z q, (stG same xs).1.getLast? = some (y :: r) → (stG same xs).2 = z :: q → same y z = false) := by
  refine snocInd (P := fun xs => Cut same (stG same xs).1 ∧ OneKind same (stG same xs).2 ∧ ((stG same xs).2 = [] → (stG same xs).1 = []) ∧ (∀ y r z q, (stG same xs).1.getLast? = some (y :: r) → (stG same xs).2 = z :: q → same y z = false)) (by rw [stG_nil]; exact ⟨trivial, fun _ _ h => (by cases h), fun _ => rfl, fun _ _ _ _ h => (by cases h)⟩) (fun xs x ih => ?_) xs
  · obtain ⟨i1, i2, i3, i4⟩ := ih
    rw [stG_snoc]
    unfold stepG
    split
    · rename_i h
      rw [i3 h]
      refine ⟨trivial, fun y r e z hz => ?_, fun e => by simp at e, fun _ _ _ _ e => by cases e⟩
      simp at e
      rw [e.2] at hz
      simp at hz
    · rename_i y r h
      rw [h] at i2 i4
      split
      · rename_i hs
        refine ⟨i1, fun y' r' e z hz => ?_, fun e => by simp at e, fun y' r' z q e1 e2 => ?_⟩
        · simp only [List.cons_append, List.cons.injEq] at e
          rw [← e.1]
          rw [← e.2, List.mem_append, List.mem_singleton] at hz
          rcases hz with hz | rfl
          · exact i2 y r rfl z hz
          · exact hs
        · simp only [List.cons_append, List.cons.injEq] at e2
          rw [← e2.1]
          exact i4 y' r' y r e1 rfl
      · rename_i hs
        have hs' : same y x = false := by simpa using hs
        refine ⟨cut_snoc same _ _ i1 (by simp) i2 (fun y' r' z q e1 e2 => by
          simp only [List.cons.injEq] at e2
          rw [← e2.1]
          exact i4 y' r' y r e1 rfl), fun y' r' e z hz => ?_, fun e => by simp at e, fun y' r' z q e1 e2 => ?_⟩
        · simp at e
          rw [e.2] at hz
          simp at hz
        · simp at e1 e2
          rw [← e1.1, ← e2.1]
          exact hs'

theorem groupsL_cut (xs : List Int) : Cut same (groupsL same xs) := by
  obtain ⟨i1, i2, i3, i4⟩ := stG_cut same xs
  unfold groupsL
  split
  · exact i1
  · rename_i h
    exact cut_snoc same _ _ i1 h i2 i4
theorem cut_mem : ∀ {l : List (List Int)}, Cut same l → ∀ g ∈ l, g ≠ [] ∧ OneKind same g
  | [], _, g, h => by simp at h
  | a :: l, h, g, hg => by
    rcases List.mem_cons.1 hg with rfl | hg
    · exact ⟨h.1, h.2.1⟩
    · exact cut_mem h.2.2.1 g hg
theorem cut_next : ∀ {l : List (List Int)}, Cut same l → ∀ (i : Nat) g h y r z q, l[i]? = some g → l[i + 1]? = some h → g = y :: r → h = z :: q → same y z = false
  | [], _, i, g, h, y, r, z, q, e, _, _, _ => by simp at e
  | a :: l, c, 0, g, h, y, r, z, q, e1, e2, e3, e4 => by
    simp at e1 e2
    cases l with
    | nil => simp at e2
    | cons b t =>
      simp at e2
      exact c.2.2.2 b t rfl y r z q (e1.trans e3) (e2.trans e4)
  | a :: l, c, i + 1, g, h, y, r, z, q, e1, e2, e3, e4 => cut_next c.2.2.1 i g h y r z q (by simpa using e1) (by simpa using e2) e3 e4
end groups
end Go.Proofs.Ytgbpgkfmmhlkoaa.W
