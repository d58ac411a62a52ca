/-
  Fold.
-/
import Derived.Test.YtgbpgkfmmhlkoaaFlowE
namespace Go.Proofs.Ytgbpgkfmmhlkoaa.W
open Go.Abs
set_option linter.unusedSimpArgs false
set_option linter.unusedVariables false

def FoldJ (B : Nat) (fv : Value) (acc : Nat → Int) (k : Nat) (m : Mem) (A : Set') : Prop := m.get B = some (.cells false true [.int .i64 (acc k)]) ∧ m.get (B + 1) = some (.cells false true [fv]) ∧ ∀ i, A i ↔ i = B ∨ i = B + 1
theorem FoldJ.loc (B : Nat) (fv : Value) (acc : Nat → Int) (k : Nat) : LocP (FoldJ B fv acc k) := fun m m' A ⟨h1, h2, h3⟩ hk hs => ⟨by rw [hk B ((h3 B).2 (.inl rfl))]; exact h1, by rw [hk _ ((h3 _).2 (.inr rfl))]; exact h2, h3⟩

set_option maxRecDepth 100000 in
theorem FoldI {Z : Nat → Option Blk} {F : Set'} {s : Value} {n : Nat} {Own : Nat → Mem → Prop} {g : Nat → Int} (hs : Iter E Z F s n Own (pureEl fun k => [.int .i64 (g k)])) {yf : Fn} {ya yb : Array Value} (acc : Nat → Int)
    (hf : ∀ k, k < n → PureF E Z (.func yf ya yb) [.int .i64 (acc k), .int .i64 (g k)] (.int .i64 (acc (k + 1))))
    {m : Mem} (z : Frozen Z m) (hF : ∀ i, F i → i < m.size ∧ Z i = none) (own0 : Own 0 m) :
    CallQ E F_flow_Fold_int_int [s, .int .i64 (acc 0), .func yf ya yb].toArray m fun w m' => w = .int .i64 (acc n) ∧ ChgS F m m' ∧ Own (n + 1) m' := by
  refine .enter fn_flow_Fold_int_int (by simp) ?_
  simp (decide := true) (implicitDefEqProofs := false) (maxDischargeDepth := 20) only [go_sem, ↓reduceIte, true_implies, false_implies]
  simp only [c_flow_Fold_int_int_2_at, wpM_block, c_flow_Fold_int_int_1_at]
  generalize hm1 : (m.push (.cells false true [.int .i64 (acc 0)])).push (.cells false true [Value.func yf ya yb]) = m1
  have ho : Old m m1 := by rw [← hm1]; exact .push (.push (.refl m) _) _
  have hs1 : m1.size = m.size + 2 := by rw [← hm1]; simp
  have q0 : m1.get m.size = some (.cells false true [.int .i64 (acc 0)]) := by rw [← hm1, getM_push, if_neg (by simp), getM_push, if_pos rfl]
  have q1 : m1.get (m.size + 1) = some (.cells false true [Value.func yf ya yb]) := by rw [← hm1, getM_push, if_pos (by simp)]
  refine wpM_rangeP (A := fun i => i = m.size ∨ i = m.size + 1) hs (fun t => upd t 7 (t 9)) (by simp (decide := true) only [go_sem, ↓reduceIte]) rfl asg_flow_Fold_int_int_0 body_flow_Fold_int_int_0 (by decide) (fun K l t m h => by simp (decide := true) only [go_sem, ↓reduceIte]; exact h)
    (FoldJ m.size (.func yf ya yb) acc) noD (FoldJ.loc _ _ _) noD_loc (z.old ho) (fun i hi => ⟨by omega, z.free (by omega), fun h => by have := (hF i h).1; omega⟩) (fun i hi => ⟨by have := (hF i hi).1; omega, (hF i hi).2⟩)
    (hs.locO 0 m _ own0 fun i hi => ho.get (hF i hi).1) ⟨q0, q1, fun _ => Iff.rfl⟩ ?_ ?_ ?_
  · rintro k vs m2 A B l hk z1 o1 o2 dis ow ⟨h1, h2, hA⟩ hel hin hms
    subst hel
    refine ⟨rfl, ?_⟩
    have r1 := get_at0 h1
    have r2 := get_at0 h2
    simp (decide := true) (implicitDefEqProofs := false) (maxDischargeDepth := 20) only [go_sem, ↓reduceIte, r1, r2, hm1, true_implies, false_implies]
    refine CallF.step ((hf k hk _ z1).mono ?_)
    rintro w m3 ⟨rfl, o3⟩
    have g1 : m3.get m.size = some (.cells false true [.int .i64 (acc k)]) := (o3.get (getM_lt h1)).trans h1
    have g2 : m3.get (m.size + 1) = some (.cells false true [Value.func yf ya yb]) := (o3.get (getM_lt h2)).trans h2
    simp (decide := true) (implicitDefEqProofs := false) (maxDischargeDepth := 20) only [go_sem, ↓reduceIte, g1, true_implies, false_implies]
    refine ⟨A, ((o3.chg _).put _ _ (.inl (.inl ((hA _).2 (.inl rfl))))), fun i hi => ⟨by rw [size_put]; exact Nat.lt_of_lt_of_le (o1 i hi).1 o3.size, .inl (.inl hi)⟩, ?_, ?_, hA⟩
    · rw [getM_put, if_pos ⟨rfl, getM_lt g1⟩]
    · rw [getM_put, if_neg (by simp)]; exact g2
  · rintro m' A' z' o' ow ⟨h1, h2, hA⟩ c1 c2
    have r1 := get_at0 h1
    simp (decide := true) (implicitDefEqProofs := false) (maxDischargeDepth := 20) only [go_sem, ↓reduceIte, r1, true_implies, false_implies]
    refine ⟨⟨by have := c1.size; omega, fun i hi hna => ?_⟩, ow⟩
    rw [c1.get i (by omega) (fun e => e.elim (fun e => by omega) hna), ho.get hi]
  · rintro k x m' A' _ _ _ _ _ h
    exact h.elim
end Go.Proofs.Ytgbpgkfmmhlkoaa.W
