/-
  What a cut yields: the heap ahead of each yield.
-/
import Derived.Test.YthlcbacmbcmgfaaHeapIE
import Derived.Test.YthlcbacmbcmgfaaAbs28
import Derived.Test.YthlcbacmbcmgfaaCodeRuns
namespace Go.Proofs.Ythlcbacmbcmgfaa.W
open Go.Abs
set_option linter.unusedSimpArgs false
set_option linter.unusedVariables false

/-- Below: by the run, then by the number. -/
def ltR (a b : Int × Int) : Bool := decide (a.1 < b.1) || (a.1 == b.1 && decide (a.2 < b.2))
theorem ltR_iff (a b : Int × Int) : ltR a b = true ↔ a.1 < b.1 ∨ (a.1 = b.1 ∧ a.2 < b.2) := by unfold ltR; simp
theorem ltR_false (a b : Int × Int) : ltR a b = false ↔ b.1 < a.1 ∨ (a.1 = b.1 ∧ b.2 ≤ a.2) := by
  rw [← Bool.not_eq_true, ltR_iff]; omega
theorem ltR_ord : Ord ltR := ⟨fun a b h => by rw [ltR_iff] at h; rw [ltR_false]; omega, fun a b c h k => by rw [ltR_false] at *; omega⟩
theorem ltR_total {a b : Int × Int} (h : ltR a b = false) (k : ltR b a = false) : a = b := by
  rw [ltR_false] at *
  exact Prod.ext (by omega) (by omega)

/-- The heap when so many were taken and none went out. -/
def fillR (xs : List Int) : List (Int × Int) := xs.foldl (fun h x => pushL ltR h (0, x)) []
theorem fillR_snoc (xs : List Int) (x : Int) : fillR (xs ++ [x]) = pushL ltR (fillR xs) (0, x) := by unfold fillR; rw [List.foldl_append]; rfl
/-- What is put in for what went out. -/
def nextR (o : Int × Int) (x : Int) : Int × Int := (if x < o.2 then o.1 + 1 else o.1, x)
/-- The heap ahead of the k-th yield. -/
def heapR (xs : List Int) (b : Nat) : Nat → List (Int × Int)
  | 0 => fillR (xs.take b)
  | k + 1 => if b + k < xs.length then pushL ltR (popL ltR (heapR xs b k)) (nextR (gt (heapR xs b k) 0) (xs.getD (b + k) 0)) else popL ltR (heapR xs b k)
/-- What is yielded. -/
def yieldR (xs : List Int) (b k : Nat) : Int × Int := gt (heapR xs b k) 0

theorem heapR_succ (xs : List Int) (b k : Nat) : heapR xs b (k + 1) = if b + k < xs.length then pushL ltR (popL ltR (heapR xs b k)) (nextR (yieldR xs b k) (xs.getD (b + k) 0)) else popL ltR (heapR xs b k) := rfl
theorem snocInd {α : Type} {P : List α → Prop} (h0 : P []) (h1 : ∀ l x, P l → P (l ++ [x])) (l : List α) : P l := by
  have : ∀ n (l : List α), l.length = n → P l := by
    intro n
    induction n with
    | zero => intro l hl; rw [List.eq_nil_of_length_eq_zero hl]; exact h0
    | succ n ih =>
      intro l hl
      have e := List.dropLast_concat_getLast (l := l) (by intro e; rw [e] at hl; cases hl)
      rw [← e]
      exact h1 _ _ (ih _ (by simp; omega))
  exact this _ l rfl

theorem fillR_len (xs : List Int) : (fillR xs).length = xs.length := by
  induction xs using snocInd with
  | h0 => rfl
  | h1 xs x ih => rw [fillR_snoc, pushL_length, ih]; simp
theorem heapR_len (xs : List Int) (b : Nat) (hb : 0 < b) : ∀ k, k ≤ xs.length → (heapR xs b k).length = min b (xs.length - k)
  | 0, _ => by unfold heapR; rw [fillR_len, List.length_take]; rfl
  | k + 1, h => by
    have ih := heapR_len xs b hb k (by omega)
    unfold heapR
    split
    · rw [pushL_length, popL_length, ih]; omega
    · rw [popL_length, ih]; omega
theorem fillR_mem (xs : List Int) : ∀ p ∈ fillR xs, p.1 = 0 := by
  induction xs using snocInd with
  | h0 => intro p hp; cases hp
  | h1 xs x ih =>
    intro p hp
    rw [fillR_snoc] at hp
    rcases List.mem_cons.1 ((pushL_perm _ _).subset hp) with rfl | h
    · rfl
    · exact ih p h
theorem popL_sub {l : List (Int × Int)} {p : Int × Int} (h : p ∈ popL ltR l) : p ∈ l := by
  by_cases e : l = []
  · subst e
    have := popL_length (lt := ltR) ([] : List (Int × Int))
    rw [List.eq_nil_of_length_eq_zero (l := popL ltR []) (by simpa using this)] at h
    exact h
  · exact (popL_perm (lt := ltR) l e).subset (List.mem_cons_of_mem _ h)
theorem heapR_run (xs : List Int) (b : Nat) (hb : 0 < b) : ∀ k, k ≤ xs.length → ∀ p ∈ heapR xs b k, 0 ≤ p.1 ∧ p.1 ≤ k
  | 0, _, p, hp => by
    have := fillR_mem _ p hp
    omega
  | k + 1, h, p, hp => by
    have ih := heapR_run xs b hb k (by omega)
    have hl := heapR_len xs b hb k (by omega)
    unfold heapR at hp
    split at hp
    · rcases List.mem_cons.1 ((pushL_perm _ _).subset hp) with rfl | h2
      · have h3 := ih (gt (heapR xs b k) 0) (by rw [gt_getElem _ (by omega)]; exact List.getElem_mem _)
        unfold nextR
        simp only
        split <;> omega
      · have := ih p (popL_sub h2)
        omega
    · have := ih p (popL_sub hp)
      omega
theorem yieldR_run (xs : List Int) (b : Nat) (hb : 0 < b) (k : Nat) (h : k < xs.length) : 0 ≤ (yieldR xs b k).1 ∧ (yieldR xs b k).1 ≤ k :=
  heapR_run xs b hb k (by omega) _ (by
    have hl := heapR_len xs b hb k (by omega)
    unfold yieldR
    rw [gt_getElem _ (by omega)]
    exact List.getElem_mem _)
/-- The heap when k numbers were taken. -/
def inR (xs : List Int) (b k : Nat) : List (Int × Int) := if k ≤ b then fillR (xs.take k) else heapR xs b (k - b)
theorem inR_len (xs : List Int) (b k : Nat) (hb : 0 < b) (h : k ≤ xs.length) : (inR xs b k).length = min b k := by
  unfold inR
  split
  · rw [fillR_len, List.length_take]; omega
  · rw [heapR_len _ _ hb _ (by omega)]; omega
theorem inR_lt (xs : List Int) (b k : Nat) (h : k < xs.length) (hk : k < b) : inR xs b (k + 1) = pushL ltR (inR xs b k) (0, xs.getD k 0) := by
  unfold inR
  rw [if_pos (by omega), if_pos (by omega), List.take_succ_eq_append_getElem h, fillR_snoc, List.getD_eq_getElem?_getD, List.getElem?_eq_getElem h]
  rfl
theorem inR_heap (xs : List Int) (b k : Nat) (hk : b ≤ k) : inR xs b k = heapR xs b (k - b) := by
  unfold inR
  split
  · rw [show k = b by omega, Nat.sub_self]; rfl
  · rfl
theorem inR_ge (xs : List Int) (b k : Nat) (h : k < xs.length) (hk : b ≤ k) : inR xs b (k + 1) = pushL ltR (popL ltR (heapR xs b (k - b))) (nextR (yieldR xs b (k - b)) (xs.getD k 0)) := by
  unfold inR
  rw [if_neg (by omega), show k + 1 - b = (k - b) + 1 by omega]
  rw [heapR_succ, if_pos (by omega), show b + (k - b) = k by omega]
theorem heapR_out (xs : List Int) (b k : Nat) (h : xs.length ≤ b + k) : heapR xs b (k + 1) = popL ltR (heapR xs b k) := by
  show (if b + k < xs.length then _ else _) = _
  rw [if_neg (by omega)]
theorem inR_end (xs : List Int) (b : Nat) : inR xs b xs.length = heapR xs b (xs.length - b) := by
  by_cases h : xs.length ≤ b
  · unfold inR
    rw [if_pos h, Nat.sub_eq_zero_of_le h]
    show _ = fillR (xs.take b)
    rw [List.take_of_length_le (Nat.le_refl _), List.take_of_length_le h]
  · exact inR_heap xs b _ (by omega)
end Go.Proofs.Ythlcbacmbcmgfaa.W
