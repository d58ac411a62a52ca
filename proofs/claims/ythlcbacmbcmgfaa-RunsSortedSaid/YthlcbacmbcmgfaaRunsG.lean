/-
  A list of what a cut yields.
-/
import Derived.Test.YthlcbacmbcmgfaaRunsE
import Derived.Test.YthlcbacmbcmgfaaCodeLaw2
namespace Go.Proofs.Ythlcbacmbcmgfaa.W
open Go.Abs
set_option linter.unusedSimpArgs false
set_option linter.unusedVariables false

def takeR (f : Nat → Int × Int) (k : Nat) : List (Int × Int) := (List.range k).map f
theorem takeR_succ (f : Nat → Int × Int) (k : Nat) : takeR f (k + 1) = takeR f k ++ [f k] := by unfold takeR; rw [List.range_succ, List.map_append]; rfl
theorem takeR_len (f : Nat → Int × Int) (k : Nat) : (takeR f k).length = k := by simp [takeR]
theorem pC_snoc (l : List (Int × Int)) (p : Int × Int) : pC (l ++ [p]) = pC l ++ [vI p.1, vI p.2] := by rw [pC_append]; rfl

/-- The slice in a box that grows. -/
def GrowR (B : Nat) (f : Nat → Int × Int) (k : Nat) (m : Mem) (A : Set') : Prop := ∃ a, Box m B [.slice a k k] ∧ Vec (B + 1) m 2 a k (pC (takeR f k)) ∧ ∀ i, A i ↔ i = B ∨ ∃ x, a = some x ∧ i = x.block
theorem GrowR.loc (B : Nat) (f : Nat → Int × Int) (k : Nat) : LocP (GrowR B f k) := by
  rintro m m' A ⟨a, ⟨tg, h1⟩, h2, h3⟩ hk hs
  exact ⟨a, ⟨tg, by rw [hk B ((h3 B).2 (.inl rfl))]; exact h1⟩, h2.keep fun x hx => hk _ ((h3 _).2 (.inr ⟨x, hx, rfl⟩)), h3⟩
def noDR : Nat → Exit → Mem → Set' → Prop := fun _ _ _ _ => False
theorem noDR_loc (k : Nat) (x : Exit) : LocP (noDR k x) := fun _ _ _ h _ _ => h

set_option maxRecDepth 100000 in
set_option maxHeartbeats 4000000 in
theorem AppendSeqR {Z : Nat → Option Blk} {F : Set'} {s : Value} {n : Nat} {Own OwD : Nat → Mem → Prop} {f : Nat → Int × Int} (hs : IterD E Z F s n Own OwD (pureEl fun k => [pV (f k)])) (hn : n ≤ 1000000)
    {m : Mem} (z : Frozen Z m) (hF : ∀ i, F i → i < m.size ∧ Z i = none) (own0 : Own 0 m) :
    CallQ E F_slices_AppendSeq_Sruns_Item_int_runs_Item_int [.slice none 0 0, s].toArray m fun w m' => ∃ a, w = .slice a n n ∧ Vec m.size m' 2 a n (pC (takeR f n)) ∧ ChgS F m m' ∧ Own (n + 1) m' := by
  refine .enter fn_slices_AppendSeq_Sruns_Item_int_runs_Item_int (by simp) ?_
  simp (decide := true) (implicitDefEqProofs := false) (maxDischargeDepth := 20) only [go_sem, ↓reduceIte, true_implies, false_implies]
  simp only [c_slices_AppendSeq_Sruns_Item_int_runs_Item_int_2_at, wpM_block, c_slices_AppendSeq_Sruns_Item_int_runs_Item_int_1_at]
  have hbx : Box (m.push (.cells false true [.slice none 0 0])) m.size [.slice none 0 0] := .new m true _
  refine wpM_rangeD (A := fun i => i = m.size) hs (by simp (decide := true) only [go_sem, ↓reduceIte]) rfl asg_slices_AppendSeq_Sruns_Item_int_runs_Item_int_0 body_slices_AppendSeq_Sruns_Item_int_runs_Item_int_0 (by decide)
    (GrowR m.size f) noDR (GrowR.loc _ _) noDR_loc (z.chg ((Old.push (.refl m) _).chg none') fun _ h => h.elim) (fun i hi => ⟨by rw [hi, size_push]; omega, by rw [hi]; exact z.free (Nat.le_refl _), fun h => by have := (hF i h).1; omega⟩) (fun i hi => ⟨by rw [size_push]; have := (hF i hi).1; omega, (hF i hi).2⟩)
    (hs.locO 0 m _ own0 fun i hi => by rw [getM_push, if_neg (by have := (hF i hi).1; omega)]) ⟨none, hbx, .nil _ _ _, fun i => by simp⟩ ?_ ?_ ?_
  · rintro k vs m1 A B l hk z1 o1 o2 dis hF1 ow ⟨a, ⟨tg, hb⟩, hv, hA⟩ hel hl hZl hFl hAl hBl hin hml
    have hel : vs = [pV (f k)] := hel
    subst hel
    refine ⟨rfl, ?_⟩
    simp (decide := true) (implicitDefEqProofs := false) (maxDischargeDepth := 20) only [go_sem, pV, ↓reduceIte, true_implies, false_implies]
    have nl : l ≠ m1.size := by omega
    refine ⟨by rw [if_neg nl, if_neg nl], fun m3 s3 g3 hin3 => ?_⟩
    have hBl : m.size < m1.size := getM_lt hb
    have e3 : ∀ i, i < m1.size → i ≠ l → m3.get i = m1.get i := fun i hi hne => by rw [g3 i hne, if_neg (by omega), if_neg (by omega)]
    have nBl : m.size ≠ l := fun e => hAl (e ▸ (hA _).2 (.inl rfl))
    have hb3 : m3.get m.size = some (.cells false tg [.slice a k k]) := (e3 _ hBl nBl).trans hb
    have gx : m3.get m1.size = some (.cells false true [vI (f k).1, vI (f k).2]) := by rw [g3 _ nl.symm, if_pos rfl]
    have rx : m3.rows m1.size 0 2 = some [vI (f k).1, vI (f k).2] := by unfold Mem.rows; rw [gx]; rfl
    have r0 : m3.at m.size 0 = some (.slice a k k) := Box.at0 ⟨tg, hb3⟩
    have hv3 : Vec (m.size + 1) m3 2 a k (pC (takeR f k)) := hv.keep fun x hx => e3 _ (hv.lt hx) fun e => hAl (e ▸ (hA _).2 (.inr ⟨x, hx, rfl⟩))
    simp (decide := true) (implicitDefEqProofs := false) (maxDischargeDepth := 20) only [go_sem, r0, rx, ↓reduceIte, true_implies, false_implies]
    refine hv3.append1' (by omega) rfl (by decide) (by decide +kernel) (by decide +kernel) rfl (by omega) fun m4 b s v4 k4 hb4 => ?_
    have g4 : m4.get m.size = some (.cells false tg [.slice a k k]) := by
      rw [k4.2 m.size (by omega) fun x hx e => by
        have := (hv3.blk x hx).1
        omega]
      exact hb3
    have s4 := k4.1
    have l4 := getM_lt g4
    have hb4' : b < m4.size := v4.lt rfl
    simp (decide := true) (implicitDefEqProofs := false) (maxDischargeDepth := 20) only [go_sem, g4, l4, ↓reduceIte, true_implies, false_implies]
    have k5 : ∀ i, i < m3.size → i ≠ m.size → (∀ x, a = some x → i ≠ x.block) → (m4.put m.size (some (.cells false tg [.slice (some ⟨b, 0, s⟩) (k + 1) (k + 1)]))).get i = m3.get i := fun i hi h1 h2 => by
      rw [getM_put, if_neg (fun e => h1 e.1), k4.2 i hi h2]
    refine ⟨k5 l (by omega) nBl.symm fun x hx e => hAl (e ▸ (hA _).2 (.inr ⟨x, hx, rfl⟩)), by rw [size_put]; omega, fun i hi hne hna => ?_, fun i => i = m.size ∨ i = b, fun i hi => ?_, some ⟨b, 0, s⟩, .put (by omega), ?_, fun i => ?_⟩
    · rw [k5 i (by omega) (fun e => hna (.inl ((hA i).2 (.inl e)))) (fun x hx e => hna (.inl ((hA i).2 (.inr ⟨x, hx, e⟩)))), e3 i hi hne]
    · rw [size_put]
      rcases hi with rfl | rfl
      · exact ⟨by omega, .inl (.inl ((hA _).2 (.inl rfl)))⟩
      · exact ⟨hb4', .inr (by omega)⟩
    · rw [takeR_succ, pC_snoc]
      refine v4.keep fun x hx => ?_
      cases hx
      rw [getM_put, if_neg (fun e => by have := e.1; simp at this; omega)]
    · simp
  · rintro m' A' z' o' ow ⟨a, hb, hv, hA⟩ c1 c2
    have r0 := Box.at0 hb
    simp (decide := true) (implicitDefEqProofs := false) (maxDischargeDepth := 20) only [go_sem, ↓reduceIte, r0, true_implies, false_implies]
    refine ⟨a, rfl, hv.mono (by omega), ⟨by have := c1.size; rw [size_push] at this; omega, fun i hi hna => ?_⟩, ow⟩
    rw [c1.get i (by rw [size_push]; omega) (fun e => e.elim (fun e => by omega) hna), getM_push, if_neg (by omega)]
  · rintro k x m' A' _ _ _ _ _ h
    exact h.elim

set_option maxRecDepth 100000 in
theorem ListR {Z : Nat → Option Blk} {F : Set'} {s : Value} {n : Nat} {Own OwD : Nat → Mem → Prop} {f : Nat → Int × Int} (hs : IterD E Z F s n Own OwD (pureEl fun k => [pV (f k)])) (hn : n ≤ 1000000)
    {m : Mem} (z : Frozen Z m) (hF : ∀ i, F i → i < m.size ∧ Z i = none) (own0 : Own 0 m) :
    CallQ E F_flow_List_runs_Item_int [s].toArray m fun w m' => ∃ a, w = .slice a n n ∧ Vec m.size m' 2 a n (pC (takeR f n)) ∧ ChgS F m m' ∧ Own (n + 1) m' := by
  refine .enter fn_flow_List_runs_Item_int (by simp) ?_
  simp (decide := true) (implicitDefEqProofs := false) (maxDischargeDepth := 20) only [go_sem, ↓reduceIte, true_implies, false_implies]
  refine .enter fn_slices_Collect_runs_Item_int (by simp) ?_
  simp (decide := true) (implicitDefEqProofs := false) (maxDischargeDepth := 20) only [go_sem, ↓reduceIte, true_implies, false_implies]
  refine (AppendSeqR hs hn z hF own0).mono ?_
  rintro w m' ⟨a, rfl, h⟩
  simp (decide := true) (implicitDefEqProofs := false) (maxDischargeDepth := 20) only [go_sem, ↓reduceIte, true_implies, false_implies]
  exact ⟨a, rfl, h⟩

/-! ### Cut -/
theorem From_at {m : Mem} {a : Option Addr} {n c : Nat} : CallQ E F_flow_From_int [.slice a n c].toArray m fun w m' => ∃ b, w = .func (.func F_slices_Values_Sint_int_1) #[] #[ptr b] ∧ m'.get b = some (.cells false true [.slice a n c]) ∧ Old m m' ∧ m.size ≤ b := by
  refine .enter fn_flow_From_int (by simp) ?_
  simp (decide := true) (implicitDefEqProofs := false) (maxDischargeDepth := 20) only [go_sem, ↓reduceIte, true_implies, false_implies]
  refine .enter fn_slices_Values_Sint_int (by simp) ?_
  simp (decide := true) (implicitDefEqProofs := false) (maxDischargeDepth := 20) only [go_sem, ↓reduceIte, true_implies, false_implies]
  exact ⟨m.size, rfl, by simp, Nat.le_refl _⟩

abbrev lessRV : Value := .func (.func F_sheaflaw11_less) #[] #[]
theorem lessR_ok : LessN lessRV := by
  intro a b m
  rw [CallF_func]
  refine ⟨some34, ?_⟩
  have e : (#[] ++ [vI a, vI b].toArray ++ #[] : Array Value) = [vI a, vI b].toArray := by simp
  rw [e]
  refine .enter fn_sheaflaw11_less (by simp) ?_
  simp (decide := true) (implicitDefEqProofs := false) (maxDischargeDepth := 20) only [go_sem, ↓reduceIte, true_implies, false_implies]

set_option maxRecDepth 100000 in
theorem Cut_at {m : Mem} {sf lf : Fn} {sa sb la lb : Array Value} {bd : Int} {mb : Nat} : CallQ E F_runs_Cut_int [.func sf sa sb, vI bd, .func lf la lb, ptr mb].toArray m fun w m' =>
    w = .func (.func F_runs_Cut_int_1) #[] #[ptr (m.size + 2), ptr (m.size + 3), ptr m.size, ptr (m.size + 1)] ∧ m'.get (m.size + 2) = some (.cells false true [.func lf la lb]) ∧ m'.get (m.size + 3) = some (.cells false true [ptr mb]) ∧ m'.get m.size = some (.cells false true [.func sf sa sb]) ∧ m'.get (m.size + 1) = some (.cells false true [vI (max bd 1)]) ∧ Old m m' := by
  refine .enter fn_runs_Cut_int (by simp) ?_
  simp (decide := true) (implicitDefEqProofs := false) (maxDischargeDepth := 20) only [go_sem, ↓reduceIte, true_implies, false_implies]
end Go.Proofs.Ythlcbacmbcmgfaa.W
