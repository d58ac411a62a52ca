/-
  What makes iterators.
-/
import Derived.Test.YtgbpgkfmmhlkoaaFlowF
import Derived.Test.YtgbpgkfmmhlkoaaBook
import Derived.Test.YtgbpgkfmmhlkoaaBookI
namespace Go.Proofs.Ytgbpgkfmmhlkoaa.W
open Go.Abs
set_option linter.unusedSimpArgs false
set_option linter.unusedVariables false

/-- A pointer to a block's beginning. -/
abbrev ptr (b : Nat) : Value := .pointer (some ⟨b, 0, none⟩)
/-- One captured variable. -/
abbrev cap1 (m : Mem) (b : Nat) (v : Value) : Prop := m.get b = some (.cells false true [v])

theorem From_at {m : Mem} {a : Option Addr} {n c : Nat} : CallQ E F_flow_From_int [.slice a n c].toArray m fun w m' => ∃ b, w = .func (.func F_slices_Values_Sint_int_1) #[] #[ptr b] ∧ cap1 m' b (.slice a n c) ∧ Old m m' ∧ m.size ≤ b := by
  refine .enter fn_flow_From_int (by simp) ?_
  simp (decide := true) (implicitDefEqProofs := false) (maxDischargeDepth := 20) only [go_sem, ↓reduceIte, true_implies, false_implies]
  refine .enter fn_slices_Values_Sint_int (by simp) ?_
  simp (decide := true) (implicitDefEqProofs := false) (maxDischargeDepth := 20) only [go_sem, ↓reduceIte, true_implies, false_implies]
  exact ⟨m.size, rfl, by unfold cap1; rw [getM_push, if_pos rfl], Nat.le_refl _⟩

theorem MapII_at {m : Mem} {f g : Fn} {fa fb ga gb : Array Value} : CallQ E F_flow_Map_int_int [.func f fa fb, .func g ga gb].toArray m fun w m' => ∃ b1 b2, w = .func (.func F_flow_Map_int_int_1) #[] #[ptr b1, ptr b2] ∧ cap1 m' b1 (.func f fa fb) ∧ cap1 m' b2 (.func g ga gb) ∧ Old m m' := by
  refine .enter fn_flow_Map_int_int (by simp) ?_
  simp (decide := true) (implicitDefEqProofs := false) (maxDischargeDepth := 20) only [go_sem, ↓reduceIte, true_implies, false_implies]
  exact ⟨m.size, m.size + 1, rfl, by unfold cap1; rw [getM_push, if_neg (by simp), getM_push, if_pos rfl], by unfold cap1; rw [getM_push, if_pos (by simp)]⟩

theorem MapIS_at {m : Mem} {f g : Fn} {fa fb ga gb : Array Value} : CallQ E F_flow_Map_int_string [.func f fa fb, .func g ga gb].toArray m fun w m' => ∃ b1 b2, w = .func (.func F_flow_Map_int_string_1) #[] #[ptr b1, ptr b2] ∧ cap1 m' b1 (.func f fa fb) ∧ cap1 m' b2 (.func g ga gb) ∧ Old m m' := by
  refine .enter fn_flow_Map_int_string (by simp) ?_
  simp (decide := true) (implicitDefEqProofs := false) (maxDischargeDepth := 20) only [go_sem, ↓reduceIte, true_implies, false_implies]
  exact ⟨m.size, m.size + 1, rfl, by unfold cap1; rw [getM_push, if_neg (by simp), getM_push, if_pos rfl], by unfold cap1; rw [getM_push, if_pos (by simp)]⟩

theorem Keep_at {m : Mem} {f g : Fn} {fa fb ga gb : Array Value} : CallQ E F_flow_Keep_int [.func f fa fb, .func g ga gb].toArray m fun w m' => ∃ b1 b2, w = .func (.func F_flow_Keep_int_1) #[] #[ptr b1, ptr b2] ∧ cap1 m' b1 (.func f fa fb) ∧ cap1 m' b2 (.func g ga gb) ∧ Old m m' := by
  refine .enter fn_flow_Keep_int (by simp) ?_
  simp (decide := true) (implicitDefEqProofs := false) (maxDischargeDepth := 20) only [go_sem, ↓reduceIte, true_implies, false_implies]
  exact ⟨m.size, m.size + 1, rfl, by unfold cap1; rw [getM_push, if_neg (by simp), getM_push, if_pos rfl], by unfold cap1; rw [getM_push, if_pos (by simp)]⟩

theorem cap1.old {m m' : Mem} {b : Nat} {v : Value} (h : cap1 m b v) (o : Old m m') : cap1 m' b v := (o.get (getM_lt h)).trans h
end Go.Proofs.Ytgbpgkfmmhlkoaa.W
