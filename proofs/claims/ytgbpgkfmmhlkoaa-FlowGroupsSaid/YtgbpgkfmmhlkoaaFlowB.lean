/-
  A list of what is yielded.
-/
import Derived.Test.YtgbpgkfmmhlkoaaFlowA
namespace Go.Proofs.Ytgbpgkfmmhlkoaa.W
open Go.Abs
set_option linter.unusedSimpArgs false
set_option linter.unusedVariables false

def takeF (f : Nat → Value) (k : Nat) : List Value := (List.range k).map f
theorem takeF_succ (f : Nat → Value) (k : Nat) : takeF f (k + 1) = takeF f k ++ [f k] := by unfold takeF; rw [List.range_succ, List.map_append]; rfl
theorem takeF_ints (xs : List Int) (n : Nat) (h : xs.length = n) : takeF (fun k => .int .i64 (xs.getD k 0)) n = xs.map (.int .i64) := by
  unfold takeF
  apply List.ext_getElem?
  intro i
  by_cases hi : i < n
  · simp [hi, h, List.getElem?_eq_getElem (show i < xs.length by omega)]
  · rw [List.getElem?_eq_none (by simp; omega), List.getElem?_eq_none (by simp; omega)]

/-- The slice in a box that grows. -/
def GrowJ (B : Nat) (f : Nat → Value) (k : Nat) (m : Mem) (A : Set') : Prop := ∃ a, Box m B [.slice a k k] ∧ Vec (B + 1) m 1 a k (takeF f k) ∧ ∀ i, A i ↔ i = B ∨ ∃ x, a = some x ∧ i = x.block
theorem GrowJ.loc (B : Nat) (f : Nat → Value) (k : Nat) : LocP (GrowJ B f k) := by
  rintro m m' A ⟨a, ⟨tg, h1⟩, h2, h3⟩ hk hs
  exact ⟨a, ⟨tg, by rw [hk B ((h3 B).2 (.inl rfl))]; exact h1⟩, h2.keep fun x hx => hk _ ((h3 _).2 (.inr ⟨x, hx, rfl⟩)), h3⟩

def noD : Nat → Exit → Mem → Set' → Prop := fun _ _ _ _ => False
theorem noD_loc (k : Nat) (x : Exit) : LocP (noD k x) := fun _ _ _ h _ _ => h

set_option maxRecDepth 100000 in
theorem AppendSeqI {Z : Nat → Option Blk} {F : Set'} {s : Value} {n : Nat} {Own : Nat → Mem → Prop} {g : Nat → Int} (hs : Iter E Z F s n Own (pureEl fun k => [.int .i64 (g k)])) (hn : n ≤ 1000000)
    {m : Mem} (z : Frozen Z m) (hF : ∀ i, F i → i < m.size ∧ Z i = none) (own0 : Own 0 m) :
    CallQ E F_slices_AppendSeq_Sint_int [.slice none 0 0, s].toArray m fun w m' => ∃ a, w = .slice a n n ∧ Vec m.size m' 1 a n (takeF (fun k => .int .i64 (g k)) n) ∧ ChgS F m m' ∧ Own (n + 1) m' := by
  refine .enter fn_slices_AppendSeq_Sint_int (by simp) ?_
  simp (decide := true) (implicitDefEqProofs := false) (maxDischargeDepth := 20) only [go_sem, ↓reduceIte, true_implies, false_implies]
  simp only [c_slices_AppendSeq_Sint_int_2_at, wpM_block, c_slices_AppendSeq_Sint_int_1_at]
  have hbx : Box (m.push (.cells false true [.slice none 0 0])) m.size [.slice none 0 0] := .new m true _
  refine wpM_rangeP (A := fun i => i = m.size) hs (fun t => upd t 5 (t 7)) (by simp (decide := true) only [go_sem, ↓reduceIte]) rfl asg_slices_AppendSeq_Sint_int_0 body_slices_AppendSeq_Sint_int_0 (by decide) (fun K l t m h => by simp (decide := true) only [go_sem, ↓reduceIte]; exact h)
    (GrowJ m.size fun k => .int .i64 (g k)) noD (GrowJ.loc _ _) noD_loc (z.chg ((Old.push (.refl m) _).chg none') fun _ h => h.elim) (fun i hi => ⟨by rw [hi, size_push]; omega, by rw [hi]; exact z.free (Nat.le_refl _), fun h => by have := (hF i h).1; omega⟩) (fun i hi => ⟨by rw [size_push]; have := (hF i hi).1; omega, (hF i hi).2⟩)
    (hs.locO 0 m _ own0 fun i hi => by rw [getM_push, if_neg (by have := (hF i hi).1; omega)]) ⟨none, hbx, .nil _ _ _, fun i => by simp⟩ ?_ ?_ ?_
  · rintro k vs m1 A B l hk z1 o1 o2 dis ow ⟨a, ⟨tg, hb⟩, hv, hA⟩ hel hin hms
    subst hel
    refine ⟨rfl, ?_⟩
    have r0 : m1.at m.size 0 = some (.slice a k k) := Box.at0 ⟨tg, hb⟩
    have hBl : m.size < m1.size := getM_lt hb
    simp (decide := true) (implicitDefEqProofs := false) (maxDischargeDepth := 20) only [go_sem, ↓reduceIte, r0, true_implies, false_implies]
    refine hv.append1' (by omega) rfl (by decide) (by decide +kernel) (by decide +kernel) rfl (by omega) fun m2 b s v2 k2 hb2 => ?_
    have g2 : m2.get m.size = some (.cells false tg [.slice a k k]) := by
      rw [k2.2 m.size hBl fun x hx e => by
        have := (hv.blk x hx).1
        omega]
      exact hb
    simp (decide := true) (implicitDefEqProofs := false) (maxDischargeDepth := 20) only [go_sem, ↓reduceIte, g2, true_implies, false_implies]
    have hb2' : b < m2.size := v2.lt rfl
    refine ⟨fun i => i = m.size ∨ i = b, ⟨by rw [size_put]; exact k2.1, fun i hi hna => ?_⟩, fun i hi => ?_, some ⟨b, 0, s⟩, .put (Nat.lt_of_lt_of_le hBl k2.1), ?_, fun i => ?_⟩
    · have hne : i ≠ m.size := fun e => hna (.inl ((hA i).2 (.inl e)))
      rw [getM_put, if_neg (fun e => hne e.1)]
      exact k2.2 i hi fun x hx e => hna (.inl ((hA i).2 (.inr ⟨x, hx, e⟩)))
    · rw [size_put]
      rcases hi with rfl | rfl
      · exact ⟨by omega, .inl (.inl ((hA _).2 (.inl rfl)))⟩
      · exact ⟨hb2', .inr hb2⟩
    · rw [takeF_succ]
      refine v2.keep fun x hx => ?_
      cases hx
      rw [getM_put, if_neg (fun e => by have := e.1; simp at this; omega)]
    · simp
  · rintro m' A' z' o' ow ⟨a, hb, hv, hA⟩ c1 c2
    have r0 := Box.at0 hb
    simp (decide := true) (implicitDefEqProofs := false) (maxDischargeDepth := 20) only [go_sem, ↓reduceIte, r0, true_implies, false_implies]
    refine ⟨a, rfl, hv.mono (by omega), ⟨by have := c1.size; rw [size_push] at this; omega, fun i hi hna => ?_⟩, ow⟩
    rw [c1.get i (by rw [size_push]; omega) (fun e => e.elim (fun e => by omega) hna), getM_push, if_neg (by omega)]
  · rintro k x m' A' _ _ _ _ _ h
    exact h.elim

set_option maxRecDepth 100000 in
theorem ListI {Z : Nat → Option Blk} {F : Set'} {s : Value} {n : Nat} {Own : Nat → Mem → Prop} {g : Nat → Int} (hs : Iter E Z F s n Own (pureEl fun k => [.int .i64 (g k)])) (hn : n ≤ 1000000)
    {m : Mem} (z : Frozen Z m) (hF : ∀ i, F i → i < m.size ∧ Z i = none) (own0 : Own 0 m) :
    CallQ E F_flow_List_int [s].toArray m fun w m' => ∃ a, w = .slice a n n ∧ Vec m.size m' 1 a n (takeF (fun k => .int .i64 (g k)) n) ∧ ChgS F m m' ∧ Own (n + 1) m' := by
  refine .enter fn_flow_List_int (by simp) ?_
  simp (decide := true) (implicitDefEqProofs := false) (maxDischargeDepth := 20) only [go_sem, ↓reduceIte, true_implies, false_implies]
  refine .enter fn_slices_Collect_int (by simp) ?_
  simp (decide := true) (implicitDefEqProofs := false) (maxDischargeDepth := 20) only [go_sem, ↓reduceIte, true_implies, false_implies]
  refine (AppendSeqI hs hn z hF own0).mono ?_
  rintro w m' ⟨a, rfl, h⟩
  simp (decide := true) (implicitDefEqProofs := false) (maxDischargeDepth := 20) only [go_sem, ↓reduceIte, true_implies, false_implies]
  exact ⟨a, rfl, h⟩
end Go.Proofs.Ytgbpgkfmmhlkoaa.W
