/-
  A list of groups.
-/
import Derived.Test.YtgbpgkfmmhlkoaaFlowM
namespace Go.Proofs.Ytgbpgkfmmhlkoaa.W
open Go.Abs
set_option linter.unusedSimpArgs false
set_option linter.unusedVariables false

/-- A group at hand: its block, what its address bears, its numbers. -/
structure Gr where
  b : Nat
  s : Option Nat
  g : List Int
def Gr.v (e : Gr) : Value := .slice (some ⟨e.b, 0, e.s⟩) e.g.length e.g.length
/-- Groups that lie in blocks of their own. -/
structure GsAt (Z : Nat → Option Blk) (m : Mem) (es : List Gr) : Prop where
  at_ : ∀ e ∈ es, ∃ tg, m.get e.b = some (.cells false tg (e.g.map vI))
  loose : ∀ e ∈ es, looseOk ⟨e.b, 0, e.s⟩ 1 = true
  dis : (es.map Gr.b).Nodup
  new : ∀ e ∈ es, Z e.b = none
theorem GsAt.keep {Z : Nat → Option Blk} {m m' : Mem} {es : List Gr} (h : GsAt Z m es) (k : ∀ e ∈ es, m'.get e.b = m.get e.b) : GsAt Z m' es :=
  ⟨fun e he => by rw [k e he]; exact h.at_ e he, h.loose, h.dis, h.new⟩
theorem GsAt.lt {Z : Nat → Option Blk} {m : Mem} {es : List Gr} (h : GsAt Z m es) : ∀ e ∈ es, e.b < m.size := fun e he => by
  obtain ⟨tg, h⟩ := h.at_ e he
  exact getM_lt h
theorem GsAt.old {Z : Nat → Option Blk} {m m' : Mem} {es : List Gr} (h : GsAt Z m es) (o : Old m m') : GsAt Z m' es := h.keep fun e he => o.get (h.lt e he)
theorem GsAt.snoc {Z : Nat → Option Blk} {m : Mem} {es : List Gr} (h : GsAt Z m es) (e : Gr) {tg : Bool} (he : m.get e.b = some (.cells false tg (e.g.map vI))) (hl : looseOk ⟨e.b, 0, e.s⟩ 1 = true) (hB : Z e.b = none) (hn : ∀ x ∈ es, x.b ≠ e.b) : GsAt Z m (es ++ [e]) where
  at_ := fun x hx => by
    rcases List.mem_append.1 hx with hx | hx
    · exact h.at_ x hx
    · simp at hx; rw [hx]; exact ⟨tg, he⟩
  loose := fun x hx => by
    rcases List.mem_append.1 hx with hx | hx
    · exact h.loose x hx
    · simp at hx; rw [hx]; exact hl
  dis := by
    rw [List.map_append, List.map_cons, List.map_nil, List.nodup_append]
    refine ⟨h.dis, by simp, fun a ha b hb => ?_⟩
    simp at hb
    obtain ⟨x, hx, rfl⟩ := List.mem_map.1 ha
    rw [hb]
    exact hn x hx
  new := fun x hx => by
    rcases List.mem_append.1 hx with hx | hx
    · exact h.new x hx
    · simp at hx; rw [hx]; exact hB

/-- The slice of groups in a box that grows. -/
def GrowG (Z : Nat → Option Blk) (B : Nat) (gs : List (List Int)) (k : Nat) (m : Mem) (A : Set') : Prop := ∃ a es, es.map Gr.g = gs.take k ∧ es.length = k ∧ Box m B [.slice a k k] ∧ Vec (B + 1) m 1 a k (es.map Gr.v) ∧ GsAt Z m es ∧ (∀ e ∈ es, e.b ≠ B ∧ ∀ x, a = some x → e.b ≠ x.block) ∧
  ∀ i, A i ↔ i = B ∨ (∃ x, a = some x ∧ i = x.block) ∨ ∃ e ∈ es, i = e.b
theorem GrowG.loc (Z : Nat → Option Blk) (B : Nat) (gs : List (List Int)) (k : Nat) : LocP (GrowG Z B gs k) := by
  rintro m m' A ⟨a, es, h0, h0', ⟨tg, h1⟩, h2, h3, h4, h5⟩ hk hs
  exact ⟨a, es, h0, h0', ⟨tg, by rw [hk B ((h5 B).2 (.inl rfl))]; exact h1⟩, h2.keep fun x hx => hk _ ((h5 _).2 (.inr (.inl ⟨x, hx, rfl⟩))), h3.keep fun e he => hk _ ((h5 _).2 (.inr (.inr ⟨e, he, rfl⟩))), h4, h5⟩

set_option maxRecDepth 100000 in
set_option maxHeartbeats 4000000 in
theorem AppendSeqG {Z : Nat → Option Blk} {F : Set'} {s : Value} {gs : List (List Int)} {n : Nat} {Own : Nat → Mem → Prop} (hs : Iter E Z F s n Own (grEl gs)) (hgs : gs.length = n) (hn : n ≤ 1000000)
    {m : Mem} (z : Frozen Z m) (hF : ∀ i, F i → i < m.size ∧ Z i = none) (own0 : Own 0 m) :
    CallQ E F_slices_AppendSeq_SSint_Sint [.slice none 0 0, s].toArray m fun w m' => ∃ a es, w = .slice a n n ∧ es.map Gr.g = gs ∧ Vec m.size m' 1 a n (es.map Gr.v) ∧ GsAt Z m' es ∧ (∀ e ∈ es, ∀ x, a = some x → e.b ≠ x.block) ∧ ChgS F m m' ∧ Own (n + 1) m' := by
  refine .enter fn_slices_AppendSeq_SSint_Sint (by simp) ?_
  simp (decide := true) (implicitDefEqProofs := false) (maxDischargeDepth := 20) only [go_sem, ↓reduceIte, true_implies, false_implies]
  simp only [c_slices_AppendSeq_SSint_Sint_2_at, wpM_block, c_slices_AppendSeq_SSint_Sint_1_at]
  have hbx : Box (m.push (.cells false true [.slice none 0 0])) m.size [.slice none 0 0] := .new m true _
  refine wpM_rangeP (A := fun i => i = m.size) hs (fun t => upd t 5 (t 7)) (by simp (decide := true) only [go_sem, ↓reduceIte]) rfl asg_slices_AppendSeq_SSint_Sint_0 body_slices_AppendSeq_SSint_Sint_0 (by decide) (fun K l t m h => by simp (decide := true) only [go_sem, ↓reduceIte]; exact h)
    (GrowG Z m.size gs) noD (GrowG.loc _ _ _) noD_loc (z.chg ((Old.push (.refl m) _).chg none') fun _ h => h.elim) (fun i hi => ⟨by rw [hi, size_push]; omega, by rw [hi]; exact z.free (Nat.le_refl _), fun h => by have := (hF i h).1; omega⟩) (fun i hi => ⟨by rw [size_push]; have := (hF i hi).1; omega, (hF i hi).2⟩)
    (hs.locO 0 m _ own0 fun i hi => by rw [getM_push, if_neg (by have := (hF i hi).1; omega)]) ⟨none, [], by simp, rfl, hbx, .nil _ _ _, ⟨fun e h => by simp at h, fun e h => by simp at h, by simp, fun e h => by simp at h⟩, fun e h => by simp at h, fun i => by simp⟩ ?_ ?_ ?_
  · rintro k vs m1 A B l hk z1 o1 o2 dis ow ⟨a, es, he1, he2, ⟨tg, hb⟩, hv, hG, hne, hA⟩ ⟨b0, s0, tg0, rfl, hb0, hl0, hB0⟩ hin hms
    refine ⟨rfl, ?_⟩
    have r0 : m1.at m.size 0 = some (.slice a k k) := Box.at0 ⟨tg, hb⟩
    have hBl : m.size < m1.size := getM_lt hb
    have B0 : B b0 := (hB0 b0).2 rfl
    have nb0 : ∀ i, A i → i ≠ b0 := fun i hi e => dis i hi (e ▸ B0)
    simp (decide := true) (implicitDefEqProofs := false) (maxDischargeDepth := 20) only [go_sem, ↓reduceIte, r0, true_implies, false_implies]
    refine hv.append1' (by omega) rfl (by decide) (by decide +kernel) (by decide +kernel) rfl (by omega) fun m2 b s v2 k2 hb2 => ?_
    have hBA : A m.size := (hA _).2 (.inl rfl)
    have g2 : m2.get m.size = some (.cells false tg [.slice a k k]) := by
      rw [k2.2 m.size hBl fun x hx e => by
        have := (hv.blk x hx).1
        omega]
      exact hb
    have hb2' : b < m2.size := v2.lt rfl
    have hbl0 := getM_lt hb0
    obtain ⟨m3, hm3⟩ : ∃ m3, m3 = m2.put m.size (some (.cells false tg [.slice (some ⟨b, 0, s⟩) (k + 1) (k + 1)])) := ⟨_, rfl⟩
    have s3 : m3.size = m2.size := by rw [hm3, size_put]
    have g3 : ∀ i, i < m1.size → i ≠ m.size → (∀ x, a = some x → i ≠ x.block) → m3.get i = m1.get i := fun i hi h1 h2 => by
      rw [hm3, getM_put, if_neg (fun e => h1 e.1), k2.2 i hi h2]
    have gb0 : m3.get b0 = m1.get b0 := g3 b0 hbl0 (fun e => nb0 _ hBA e.symm) (fun x hx e => nb0 x.block ((hA _).2 (.inr (.inl ⟨x, hx, rfl⟩))) e.symm)
    have ges : ∀ e ∈ es, m3.get e.b = m1.get e.b := fun e he => g3 e.b (hG.lt e he) (hne e he).1 (hne e he).2
    simp (decide := true) (implicitDefEqProofs := false) (maxDischargeDepth := 20) only [go_sem, ↓reduceIte, g2, ← hm3, true_implies, false_implies]
    refine ⟨fun i => i = m.size ∨ i = b ∨ (∃ e ∈ es, i = e.b) ∨ i = b0, ⟨by rw [s3]; exact k2.1, fun i hi hna => ?_⟩, fun i hi => ?_, some ⟨b, 0, s⟩, es ++ [⟨b0, s0, gs.getD k []⟩], ?_, by simp [he2], ⟨tg, by rw [hm3, getM_put, if_pos ⟨rfl, getM_lt g2⟩]⟩, ?_, ?_, ?_, fun i => ?_⟩
    · refine g3 i hi (fun e => hna (.inl (e ▸ hBA))) fun x hx e => hna (.inl ((hA i).2 (.inr (.inl ⟨x, hx, e⟩))))
    · rw [s3]
      rcases hi with rfl | rfl | ⟨e, he, rfl⟩ | rfl
      · exact ⟨getM_lt g2, .inl (.inl hBA)⟩
      · exact ⟨hb2', .inr hb2⟩
      · exact ⟨Nat.lt_of_lt_of_le (hG.lt e he) k2.1, .inl (.inl ((hA _).2 (.inr (.inr ⟨e, he, rfl⟩))))⟩
      · exact ⟨Nat.lt_of_lt_of_le hbl0 k2.1, .inl (.inr B0)⟩
    · rw [List.map_append, he1, List.take_succ_eq_append_getElem (by omega)]
      simp [List.getD_eq_getElem?_getD, show k < gs.length by omega]
    · rw [List.map_append]
      refine v2.keep fun x hx => ?_
      cases hx
      rw [hm3, getM_put, if_neg (fun e => by have := e.1; simp at this; omega)]
    · refine (hG.keep ges).snoc ⟨b0, s0, gs.getD k []⟩ (tg := tg0) (by rw [gb0]; exact hb0) hl0 (o2 b0 B0).2.1 fun x hx e => nb0 x.b ((hA _).2 (.inr (.inr ⟨x, hx, rfl⟩))) e
    · intro e he
      rcases List.mem_append.1 he with he | he
      · refine ⟨(hne e he).1, fun x hx => ?_⟩
        cases hx
        have := hG.lt e he
        show e.b ≠ b
        omega
      · simp at he
        rw [he]
        refine ⟨fun e => nb0 _ hBA e.symm, fun x hx => ?_⟩
        cases hx
        show b0 ≠ b
        omega
    · simp only [Option.some.injEq, List.mem_append, List.mem_singleton]
      constructor
      · rintro (h | h | ⟨e, he, h⟩ | h)
        · exact .inl h
        · exact .inr (.inl ⟨_, rfl, h⟩)
        · exact .inr (.inr ⟨e, .inl he, h⟩)
        · exact .inr (.inr ⟨_, .inr rfl, h⟩)
      · rintro (h | ⟨x, rfl, h⟩ | ⟨e, he | rfl, h⟩)
        · exact .inl h
        · exact .inr (.inl h)
        · exact .inr (.inr (.inl ⟨e, he, h⟩))
        · exact .inr (.inr (.inr h))
  · rintro m' A' z' o' ow ⟨a, es, he1, he2, hb, hv, hG, hne, hA⟩ c1 c2
    have r0 := Box.at0 hb
    simp (decide := true) (implicitDefEqProofs := false) (maxDischargeDepth := 20) only [go_sem, ↓reduceIte, r0, true_implies, false_implies]
    refine ⟨a, es, rfl, by rw [he1, ← hgs, List.take_length], hv.mono (by omega), hG, fun e he => (hne e he).2, ⟨by have := c1.size; rw [size_push] at this; omega, fun i hi hna => ?_⟩, ow⟩
    rw [c1.get i (by rw [size_push]; omega) (fun e => e.elim (fun e => by omega) hna), getM_push, if_neg (by omega)]
  · rintro k x m' A' _ _ _ _ _ h
    exact h.elim
end Go.Proofs.Ytgbpgkfmmhlkoaa.W

