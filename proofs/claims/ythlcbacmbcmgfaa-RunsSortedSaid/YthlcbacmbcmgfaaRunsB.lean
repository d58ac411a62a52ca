/-
  The meter, the order of a cut, and what it takes in.
-/
import Derived.Test.YthlcbacmbcmgfaaRunsA
namespace Go.Proofs.Ythlcbacmbcmgfaa.W
open Go.Abs
set_option linter.unusedSimpArgs false
set_option linter.unusedVariables false

def MeterAt (m : Mem) (b : Nat) (x y : Int) : Prop := m.get b = some (.cells false true [vI x, vI y])

set_option maxRecDepth 100000 in
theorem Meter_at {m : Mem} {b : Nat} {x y n : Int} (h : MeterAt m b x y) (hx : -1000000 ≤ x + n ∧ x + n ≤ 1000000) : CallQ E F_runs_Meter_Add [ptr b, vI n].toArray m fun _ m' => MeterAt m' b (x + n) (max y (x + n)) ∧ ChgS (fun i => i = b) m m' := by
  refine .enter fn_runs_Meter_Add (by simp) ?_
  unfold MeterAt at h
  have l := getM_lt h
  have r0 : m.at b 0 = some (vI x) := by unfold Mem.at; rw [h]; rfl
  have r1 : m.at b 1 = some (vI y) := by unfold Mem.at; rw [h]; rfl
  have w1 : IntKind.wrap .i64 (x + n) = x + n := wrap_i64_id _ (by omega) (by omega)
  simp (decide := true) (implicitDefEqProofs := false) (maxDischargeDepth := 20) only [go_sem, nilOk, r0, r1, h, l, w1, ↓reduceIte, true_implies, false_implies]
  refine ⟨?_, ⟨by simp, fun i hi hna => ?_⟩⟩
  · unfold MeterAt
    rw [getM_put, if_pos ⟨rfl, by simpa using l⟩]
  · have hna : ¬ i = b := hna
    rw [getM_put, if_neg (fun e => hna e.1), getM_put, if_neg (fun e => hna e.1)]

set_option maxRecDepth 100000 in
theorem LenR_at {m : Mem} {h : Nat} {fv : Value} {l : List (Int × Int)} {A : Set'} (H : HeapAtP m h fv l A) : CallQ E F_heap_Heap_runs_Item_int_Len [ptr h].toArray m fun w m' => w = vI l.length ∧ Old m m' := by
  obtain ⟨⟨a, c, g⟩, hAh⟩ := H.slice
  have r : m.at h (0 + 1) = some (.slice a l.length c) := by unfold Mem.at; rw [g]; rfl
  have lh := getM_lt g
  refine .enter fn_heap_Heap_runs_Item_int_Len (by simp) ?_
  simp (decide := true) (implicitDefEqProofs := false) (maxDischargeDepth := 20) only [go_sem, nilOk, r, lh, ↓reduceIte, true_implies, false_implies]

/-- A function value that compares numbers, and leaves all as it is. -/
def LessN (fv : Value) : Prop := ∀ x y m, CallF E fv [vI x, vI y] m fun w m' => w = .bool (decide (x < y)) ∧ Old m m'

set_option maxRecDepth 100000 in
set_option maxHeartbeats 1000000 in
theorem ltR_ok {Z : Nat → Option Blk} {L : Nat} {lf : Fn} {la lb : Array Value} (hL : Z L = some (.cells false true [.func lf la lb])) (hless : LessN (.func lf la lb)) : LessP Z (.func (.func F_runs_Cut_int_1_1) #[] #[ptr L]) ltR := by
  intro a b m z
  rw [CallF_func]
  refine ⟨some49, ?_⟩
  have e : (#[] ++ [pV a, pV b].toArray ++ #[ptr L] : Array Value) = [pV a, pV b, ptr L].toArray := by simp
  rw [e]
  refine .enter fn_runs_Cut_int_1_1 (by simp [pV]) ?_
  have rL := frozen_at z hL
  have lL := z.lt hL
  have n1 : ¬ L = m.size := by omega
  have n2 : ¬ L = m.size + 1 := by omega
  obtain ⟨a1, a2⟩ := a
  obtain ⟨b1, b2⟩ := b
  by_cases h1 : a1 < b1
  · have d1 : decide (a1 < b1) = true := by simpa using h1
    have d0 : ltR (a1, a2) (b1, b2) = true := by rw [ltR_iff]; exact .inl h1
    simp (decide := true) (implicitDefEqProofs := false) (maxDischargeDepth := 20) only [go_sem, pV, d0, d1, n1, n2, ↓reduceIte, true_implies, false_implies]
  · have d1 : decide (a1 < b1) = false := by simpa using h1
    by_cases h2 : a1 = b1
    · have d2 : (a1 == b1) = true := by simpa using h2
      have d0 : ltR (a1, a2) (b1, b2) = decide (a2 < b2) := by unfold ltR; simp only [d1, d2, Bool.false_or, Bool.true_and]
      simp (decide := true) (implicitDefEqProofs := false) (maxDischargeDepth := 20) only [go_sem, pV, d0, d1, d2, n1, n2, rL, ↓reduceIte, true_implies, false_implies]
      refine CallF.step ((hless _ _ _).mono ?_)
      rintro w m' ⟨rfl, o⟩
      simp (decide := true) (implicitDefEqProofs := false) (maxDischargeDepth := 20) only [go_sem, ↓reduceIte, true_implies, false_implies]
      first
        | done
        | exact ((Old.refl m).push _ |>.push _).trans o
    · have d2 : (a1 == b1) = false := by simpa using h2
      have d0 : ltR (a1, a2) (b1, b2) = false := by unfold ltR; simp only [d1, d2, Bool.false_or, Bool.false_and]
      simp (decide := true) (implicitDefEqProofs := false) (maxDischargeDepth := 20) only [go_sem, pV, d0, d1, d2, n1, n2, ↓reduceIte, true_implies, false_implies]

/-- A cut's heap and meter. -/
structure CutS (Z : Nat → Option Blk) (m : Mem) (h mb : Nat) (fv : Value) (l : List (Int × Int)) (x y : Int) (A : Set') : Prop where
  heap : ∃ Ah, HeapAtP m h fv l Ah ∧ ¬ Ah mb ∧ ∀ i, A i ↔ Ah i ∨ i = mb
  met : MeterAt m mb x y
  z : ∀ i, A i → Z i = none
theorem CutS.lt {Z : Nat → Option Blk} {m : Mem} {h mb : Nat} {fv : Value} {l : List (Int × Int)} {x y : Int} {A : Set'} (S : CutS Z m h mb fv l x y A) : ∀ i, A i → i < m.size := by
  obtain ⟨Ah, H, n, hA⟩ := S.heap
  intro i hi
  rcases (hA i).1 hi with hi | rfl
  · exact H.lt i hi
  · exact getM_lt S.met
theorem CutS.keep {Z : Nat → Option Blk} {m m' : Mem} {h mb : Nat} {fv : Value} {l : List (Int × Int)} {x y : Int} {A : Set'} (S : CutS Z m h mb fv l x y A) (k : ∀ i, A i → m'.get i = m.get i) (hs : m.size ≤ m'.size) : CutS Z m' h mb fv l x y A := by
  obtain ⟨Ah, H, n, hA⟩ := S.heap
  exact ⟨⟨Ah, HeapAtP.loc h fv l m m' Ah H (fun i hi => k i ((hA i).2 (.inl hi))) hs, n, hA⟩, (k mb ((hA mb).2 (.inr rfl))).trans S.met, S.z⟩
theorem CutS.old {Z : Nat → Option Blk} {m m' : Mem} {h mb : Nat} {fv : Value} {l : List (Int × Int)} {x y : Int} {A : Set'} (S : CutS Z m h mb fv l x y A) (o : Old m m') : CutS Z m' h mb fv l x y A := S.keep (fun i hi => o.get (S.lt i hi)) o.size

set_option maxRecDepth 100000 in
set_option maxHeartbeats 1000000 in
theorem Take_at {Z : Nat → Option Blk} {m : Mem} {h mb b6 M : Nat} {fv : Value} {l : List (Int × Int)} {x y : Int} {A : Set'} (S : CutS Z m h mb fv l x y A) (hf : LessP Z fv ltR) (z : Frozen Z m) (h6 : Z b6 = some (.cells false true [ptr h])) (hM : Z M = some (.cells false true [ptr mb]))
    (hn : l.length ≤ 1000) (hx : 0 ≤ x ∧ x ≤ 1000) (r v : Int) : CallQ E F_runs_Cut_int_1_2 [vI r, vI v, ptr b6, ptr M].toArray m fun _ m' => ∃ A', CutS Z m' h mb fv (pushL ltR l (r, v)) (x + 1) (max y (x + 1)) A' ∧ Trs A m m' A' := by
  refine .enter fn_runs_Cut_int_1_2 (by simp) ?_
  have r6 := frozen_at z h6
  have rM := frozen_at z hM
  obtain ⟨Ah, H, n, hA⟩ := S.heap
  simp (decide := true) (implicitDefEqProofs := false) (maxDischargeDepth := 20) only [go_sem, r6, ↓reduceIte, true_implies, false_implies]
  refine (PushP_at H hf z (fun i hi => S.z i ((hA i).2 (.inl hi))) hn (r, v)).mono ?_
  rintro w m1 ⟨Ah1, H1, t1⟩
  have z1 : Frozen Z m1 := z.chg t1.c fun i hi => S.z i ((hA i).2 (.inl hi))
  have rM1 := frozen_at z1 hM
  have lm := getM_lt S.met
  have met1 : MeterAt m1 mb x y := (t1.c.get mb lm n).trans S.met
  simp (decide := true) (implicitDefEqProofs := false) (maxDischargeDepth := 20) only [go_sem, rM1, ↓reduceIte, true_implies, false_implies]
  refine (Meter_at met1 (n := 1) (by omega)).mono ?_
  rintro w m2 ⟨met2, c2⟩
  have n1 : ¬ Ah1 mb := fun e => (t1.n mb e).2.elim n fun e => by omega
  have z2 : ∀ i, Ah1 i ∨ i = mb → Z i = none := by
    rintro i (e | rfl)
    · exact (t1.n i e).2.elim (fun e => S.z i ((hA i).2 (.inl e))) fun e => z.free e
    · exact S.z _ ((hA _).2 (.inr rfl))
  have res : ∃ A', CutS Z m2 h mb fv (pushL ltR l (r, v)) (x + 1) (max y (x + 1)) A' ∧ Trs A m m2 A' := by
    refine ⟨fun i => Ah1 i ∨ i = mb, ⟨⟨Ah1, HeapAtP.loc _ _ _ m1 m2 Ah1 H1 (fun i hi => c2.get i (t1.n i hi).1 fun e => n1 (e ▸ hi)) c2.size, n1, fun _ => Iff.rfl⟩, met2, z2⟩, ⟨⟨Nat.le_trans t1.c.size c2.size, fun i hi hna => ?_⟩, fun i hi => ?_⟩⟩
    · rw [c2.get i (Nat.lt_of_lt_of_le hi t1.c.size) fun e => hna ((hA i).2 (.inr e)), t1.c.get i hi fun e => hna ((hA i).2 (.inl e))]
    · rcases hi with hi | rfl
      · exact ⟨Nat.lt_of_lt_of_le (t1.n i hi).1 c2.size, (t1.n i hi).2.imp (fun e => (hA i).2 (.inl e)) id⟩
      · exact ⟨getM_lt met2, .inl ((hA _).2 (.inr rfl))⟩
  simp (decide := true) (implicitDefEqProofs := false) (maxDischargeDepth := 20) only [go_sem, ↓reduceIte, true_implies, false_implies]
  exact res
end Go.Proofs.Ythlcbacmbcmgfaa.W
