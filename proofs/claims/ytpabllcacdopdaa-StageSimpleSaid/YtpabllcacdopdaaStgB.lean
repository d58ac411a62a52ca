/-
  stage: Shape, Days, Reject.
-/
import Derived.Test.YtpabllcacdopdaaStgA
import Derived.Test.YtpabllcacdopdaaCheckC
namespace Go.Proofs.Ytpabllcacdopdaa.W
open Go.Abs
set_option linter.unusedSimpArgs false
set_option linter.unusedVariables false

theorem clip_eq {m : Mem} {a : Option Addr} {n c sz : Nat} {xs : List Value} (h : SlA m sz a n c xs) {k k' : IntKind} : (∀ t, isSl E t sz = true → slice3V E t (.slice a n c) none (.int k (n : Int)) (.int k' (n : Int)) = some (.slice a n n)) ∧ SlA m sz a n n xs := by
  have hc := h.cap
  refine ⟨fun t ht => ?_, h.len, Nat.le_refl _, h.loose, h.rows, fun e => by have := h.nil e; omega⟩
  obtain ⟨e, i, h1, h2, h3, _⟩ := isSl_spec ht
  unfold slice3V
  simp only [h1, h2, bound_nat k' 0 c n hc, bound_nat k 0 n n (Nat.le_refl _), bound_none, h3, h.all, if_true, Option.map_some]
  simp [map_off]

set_option maxRecDepth 100000 in
theorem Each_at {m : Mem} {sf hf : Fn} {sa sb ha hb : Array Value} {why : Int} : CallQ E F_stage_each [.func sf sa sb, vI why, .func hf ha hb].toArray m fun w m' => ∃ b1 b2 b3, w = .func (.func F_stage_each_1) #[] #[ptr b1, ptr b2, ptr b3] ∧ cap1 m' b1 (.func sf sa sb) ∧ cap1 m' b2 (vI why) ∧ cap1 m' b3 (.func hf ha hb) ∧ m.size ≤ b1 ∧ m.size ≤ b2 ∧ m.size ≤ b3 ∧ Old m m' := by
  refine .enter fn_stage_each (by simp) ?_
  simp (decide := true) (implicitDefEqProofs := false) (maxDischargeDepth := 20) only [go_sem, ↓reduceIte, true_implies, false_implies]
  refine ⟨m.size, m.size + 1, m.size + (1 + 1), rfl, ?_, ?_, ?_, by omega, by omega, by omega⟩
  · unfold cap1; rw [getM_push, if_neg (by simp; omega), getM_push, if_neg (by simp), getM_push, if_pos rfl]
  · unfold cap1; rw [getM_push, if_neg (by simp), getM_push, if_pos (by simp)]
  · unfold cap1; rw [getM_push, if_pos (by simp)]

set_option maxRecDepth 100000 in
theorem Shape_at {m : Mem} {sf : Fn} {sa sb : Array Value} : CallQ E F_stage_Shape [.func sf sa sb].toArray m fun w m' => ∃ b1 b2 b3, w = .func (.func F_stage_each_1) #[] #[ptr b1, ptr b2, ptr b3] ∧ cap1 m' b1 (.func sf sa sb) ∧ cap1 m' b2 (vI 1) ∧ cap1 m' b3 (.func (.func F_stage_Shape_1) #[] #[]) ∧ m.size ≤ b1 ∧ m.size ≤ b2 ∧ m.size ≤ b3 ∧ Old m m' := by
  refine .enter fn_stage_Shape (by simp) ?_
  simp (decide := true) (implicitDefEqProofs := false) (maxDischargeDepth := 20) only [go_sem, ↓reduceIte, true_implies, false_implies]
  refine (Each_at).mono ?_
  rintro w m' ⟨b1, b2, b3, rfl, c1, c2, c3, h1, h2, h3, o⟩
  simp (decide := true) (implicitDefEqProofs := false) (maxDischargeDepth := 20) only [go_sem, ↓reduceIte, true_implies, false_implies]
  exact ⟨b1, b2, b3, rfl, c1, c2, c3, h1, h2, h3, o⟩

set_option maxRecDepth 100000 in
theorem Days_at {m : Mem} {sf : Fn} {sa sb : Array Value} {x y : Int} : CallQ E F_stage_Days [.func sf sa sb, .agg #[vI x, vI y, vI 0, vI 0]].toArray m fun w m' => ∃ b1 b2 b3 bc, w = .func (.func F_stage_each_1) #[] #[ptr b1, ptr b2, ptr b3] ∧ cap1 m' b1 (.func sf sa sb) ∧ cap1 m' b2 (vI 3) ∧ cap1 m' b3 (.func (.func F_stage_Days_1) #[] #[ptr bc]) ∧ m'.get bc = some (.cells false true [vI x, vI y, vI 0, vI 0]) ∧ m.size ≤ b1 ∧ m.size ≤ b2 ∧ m.size ≤ b3 ∧ m.size ≤ bc ∧ Old m m' := by
  refine .enter fn_stage_Days (by simp) ?_
  simp (decide := true) (implicitDefEqProofs := false) (maxDischargeDepth := 20) only [go_sem, ↓reduceIte, true_implies, false_implies]
  have g : (m.push (.cells false true [vI x, vI y, vI 0, vI 0])).get m.size = some (.cells false true [vI x, vI y, vI 0, vI 0]) := by rw [getM_push, if_pos rfl]
  refine (Each_at).mono ?_
  rintro w m' ⟨b1, b2, b3, rfl, c1, c2, c3, h1, h2, h3, o⟩
  rw [size_push] at h1 h2 h3
  simp (decide := true) (implicitDefEqProofs := false) (maxDischargeDepth := 20) only [go_sem, ↓reduceIte, true_implies, false_implies]
  exact ⟨b1, b2, b3, m.size, rfl, c1, c2, c3, (o.get (getM_lt g)).trans g, by omega, by omega, by omega, Nat.le_refl _, (Old.push (.refl m) _).trans o⟩

set_option maxRecDepth 100000 in
theorem Shape_ok {m : Mem} {r : HRow} (h : r.At m) : CallF E (.func (.func F_stage_Shape_1) #[] #[]) [r.v] m fun w m' => w = .bool (goodL 1 r.xs) ∧ Old m m' := by
  obtain ⟨rad, rn, rc, rxs⟩ := r
  rw [CallF_func]
  refine ⟨by simp only [go_sem], ?_⟩
  have e : (#[] ++ [(⟨rad, rn, rc, rxs⟩ : HRow).v].toArray ++ #[] : Array Value) = [.slice rad rn rc].toArray := by simp [HRow.v]
  rw [e]
  refine .enter fn_stage_Shape_1 (by simp) ?_
  simp (decide := true) (implicitDefEqProofs := false) (maxDischargeDepth := 20) only [go_sem, ↓reduceIte, true_implies, false_implies]
  refine (CGood_at 1 h.sl).mono ?_
  rintro w m' ⟨rfl, o⟩
  simp (decide := true) (implicitDefEqProofs := false) (maxDischargeDepth := 20) only [go_sem, ↓reduceIte, true_implies, false_implies]
  exact o

set_option maxRecDepth 100000 in
theorem Days_ok {m : Mem} {r : HRow} (h : r.At m) {bc : Nat} {x y : Int} (hb : m.get bc = some (.cells false true [vI x, vI y, vI 0, vI 0])) : CallF E (.func (.func F_stage_Days_1) #[] #[ptr bc]) [r.v] m fun w m' => w = .bool (decide (x ≤ r.xs.getD 3 0) && decide (r.xs.getD 3 0 ≤ y)) ∧ Old m m' := by
  obtain ⟨rad, rn, rc, rxs⟩ := r
  rw [CallF_func]
  refine ⟨by simp only [go_sem], ?_⟩
  have e : (#[] ++ [(⟨rad, rn, rc, rxs⟩ : HRow).v].toArray ++ #[ptr bc] : Array Value) = [.slice rad rn rc, ptr bc].toArray := by simp [HRow.v]
  rw [e]
  refine .enter fn_stage_Days_1 (by simp) ?_
  simp (decide := true) (implicitDefEqProofs := false) (maxDischargeDepth := 20) only [go_sem, ↓reduceIte, true_implies, false_implies]
  refine (At_at 3 h.sl (by omega)).mono ?_
  rintro w m' ⟨rfl, o⟩
  have g := (o.get (getM_lt hb)).trans hb
  have r0 : m'.at bc 0 = some (vI x) := get_at0 g
  have r1 : m'.at bc 1 = some (vI y) := by unfold Mem.at; rw [g]; rfl
  generalize rxs.getD 3 0 = d at *
  have e1 : decide (d ≥ x) = decide (x ≤ d) := rfl
  by_cases h1 : x ≤ d
  · have d1 : decide (x ≤ d) = true := by simpa using h1
    simp (decide := true) (implicitDefEqProofs := false) (maxDischargeDepth := 20) only [go_sem, ↓reduceIte, r0, r1, e1, d1, Bool.true_and, true_implies, false_implies]
    exact o
  · have d1 : decide (x ≤ d) = false := by simpa using h1
    simp (decide := true) (implicitDefEqProofs := false) (maxDischargeDepth := 20) only [go_sem, ↓reduceIte, r0, r1, e1, d1, Bool.false_and, true_implies, false_implies]
    exact o

set_option maxRecDepth 100000 in
theorem Reject_at {m : Mem} {a : Option Addr} {n c : Nat} {xs : List Int} (why : Int) (h : SlA m 1 a n c (xs.map (.int .i64))) (hn : n ≤ 1000000) :
    CallQ E F_stage_Reject [.int .i64 why, .slice a n c].toArray m fun w m' => ∃ a', w = .slice a' (min (n + 1) 10) (min (n + 1) 10) ∧ SlA m' 1 a' (min (n + 1) 10) (min (n + 1) 10) (((why :: xs).take 10).map (.int .i64)) ∧ Old m m' := by
  refine .enter fn_stage_Reject (by simp) ?_
  have hl : xs.length = n := by have := h.len; simpa using this
  simp (decide := true) (implicitDefEqProofs := false) (maxDischargeDepth := 20) only [go_sem, ↓reduceIte, true_implies, false_implies]
  have v0 : Vec m.size (m.push (.cells false true [.int .i64 why])) 1 (some ⟨m.size, 0, none⟩) 1 [.int .i64 why] := .built (Nat.le_refl _) rfl
  refine v0.append (by simp) ((h.push _).appended' (by decide +kernel) (by decide)) (by simp; omega) (by decide +kernel) (ints_all xs) (by omega) fun q2 b2 v1 k1 _ => ?_
  have o2 : Old m q2 := v0.keepOld k1 (.push (.refl _) _)
  have e0 : [Value.int .i64 why] ++ xs.map (.int .i64) = (why :: xs).map (.int .i64) := rfl
  rw [e0] at v1
  have mn : min ((1 + n : Nat) : Int) 10 = ((min (n + 1) 10 : Nat) : Int) := by omega
  obtain ⟨s1, O⟩ := v1.sl.sliceTo (E := E) (k := .i64) (show min (n + 1) 10 ≤ 1 + n by omega)
  have s1' := s1 22 (by decide +kernel)
  rw [Nat.mul_one, ← List.map_take] at O
  have et : (why :: xs).take (min (n + 1) 10) = (why :: xs).take 10 := by
    rw [show n + 1 = (why :: xs).length by simp [hl], Nat.min_comm, ← List.take_eq_take_min]
  rw [et] at O
  simp (decide := true) (implicitDefEqProofs := false) (maxDischargeDepth := 20) only [go_sem, ↓reduceIte, mn, s1', true_implies, false_implies]
  obtain ⟨s2, Q⟩ := clip_eq (k := .i64) (k' := .i64) O
  have s2' := s2 22 (by decide +kernel)
  refine .enter fn_slices_Clip_Sint_int (by simp) ?_
  simp (decide := true) (implicitDefEqProofs := false) (maxDischargeDepth := 20) only [go_sem, ↓reduceIte, s2', true_implies, false_implies]
  exact ⟨b2, rfl, Q, o2⟩
end Go.Proofs.Ytpabllcacdopdaa.W
