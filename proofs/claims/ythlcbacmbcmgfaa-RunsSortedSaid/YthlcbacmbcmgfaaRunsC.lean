/-
  What a cut lets out.
-/
import Derived.Test.YthlcbacmbcmgfaaRunsB
namespace Go.Proofs.Ythlcbacmbcmgfaa.W
open Go.Abs
set_option linter.unusedSimpArgs false
set_option linter.unusedVariables false

theorem SubZ.none {Z Z' : Nat → Option Blk} (h : SubZ Z Z') {i : Nat} (k : Z' i = none) : Z i = none := by
  cases e : Z i with
  | none => rfl
  | some b => rw [h i b e] at k; cases k

/-- Blocks that are as they were. -/
def SameOn (F : Set') (m m' : Mem) : Prop := ∀ i, F i → m'.get i = m.get i
theorem two_boxes (P : Mem → Prop) (m : Mem) (zs cs : List Value) (h : ∀ m', m'.get m.size = some (.cells false true cs) → Old m m' → m'.size = m.size + 1 → P m') : P ((m.push (.cells false true zs)).put m.size (some (.cells false true cs))) :=
  h _ (by rw [getM_put, if_pos ⟨rfl, by simp⟩]) (.of_get (by simp) fun i hi => by rw [getM_put, if_neg (by omega), getM_push, if_neg (by omega)]) (by simp)

set_option maxRecDepth 100000 in
set_option maxHeartbeats 4000000 in
theorem Out_at {Z Z' : Nat → Option Blk} (sub : SubZ Z Z') {Fs : Set'} {Own : Mem → Prop} {I D : Nat → Mem → Set' → Prop} (lI : ∀ k, LocP (I k)) (lD : ∀ k, LocP (D k)) {k : Nat} {x0 : Int × Int} {yf : Fn} {ya yb : Array Value}
    {m : Mem} {h mb b5 b6 M : Nat} {fv : Value} {l : List (Int × Int)} {x y : Int} {A A1 : Set'}
    (step : ∀ m A, Frozen Z m → OwnS Z (fun i => i = mb ∨ Fs i) m A → (∀ i, (i = mb ∨ Fs i) → i < m.size) → Own m → I k m A → CallF E (.func yf ya yb) [pV x0] m fun w m' => ∃ A', ChgS A m m' ∧ NewS A m m' A' ∧ (w = .bool true ∧ I (k + 1) m' A' ∨ w = .bool false ∧ D k m' A'))
    (S : CutS Z' m h mb fv l x y A) (hf : LessP Z' fv ltR) (z : Frozen Z' m) (h6 : Z' b6 = some (.cells false true [ptr h])) (hM : Z' M = some (.cells false true [ptr mb])) (h5 : Z' b5 = some (.cells false true [.func yf ya yb]))
    (hl : l ≠ []) (hx0 : gt l 0 = x0) (hn : l.length ≤ 1000) (hx : 0 ≤ x ∧ x ≤ 1000) (hFs : ∀ i, Fs i → i < m.size ∧ ¬ A i) (hOwn : ∀ m', MeterAt m' mb (x + -1) (max y (x + -1)) → (∀ i, Fs i → m'.get i = m.get i) → Own m')
    (o1 : ∀ i, A1 i → i < m.size ∧ Z' i = none ∧ ¬ (i = mb ∨ Fs i)) (dis : ∀ i, A1 i → ¬ A i) (i1 : I k m A1) :
    CallQ E F_runs_Cut_int_1_3 [ptr b6, ptr M, ptr b5].toArray m fun w m' => ∃ b A1', w = .tuple #[pV x0, .bool b] ∧ CutS Z' m' h mb fv (popL ltR l) (x + -1) (max y (x + -1)) A ∧ ChgS (fun i => A i ∨ A1 i) m m' ∧ NewS A1 m m' A1' ∧ (∀ i, A1' i → ¬ A i) ∧ SameOn Fs m m' ∧
      (b = true ∧ I (k + 1) m' A1' ∨ b = false ∧ D k m' A1') := by
  refine .enter fn_runs_Cut_int_1_3 (by simp) ?_
  obtain ⟨Ah, H, nA, hA⟩ := S.heap
  have hmb := getM_lt S.met
  have n5 : b5 < m.size := z.lt h5
  have n6 : b6 < m.size := z.lt h6
  have nM : b6 < m.size := z.lt h6
  have y6 : ¬ b6 = m.size := by omega
  have r6 := frozen_at z h6
  simp (decide := true) (implicitDefEqProofs := false) (maxDischargeDepth := 20) only [go_sem, r6, y6, ↓reduceIte, true_implies, false_implies]
  have oP : Old m (m.push (.cells false true [.int .i64 0, .int .i64 0])) := .push (.refl m) _
  have gP : (m.push (.cells false true [.int .i64 0, .int .i64 0])).get m.size = some (.cells false true [.int .i64 0, .int .i64 0]) := by rw [getM_push, if_pos rfl]
  have sP : (m.push (.cells false true [.int .i64 0, .int .i64 0])).size = m.size + 1 := by simp
  generalize m.push (.cells false true [.int .i64 0, .int .i64 0]) = m0 at *
  have z0 : Frozen Z' m0 := z.old oP
  refine (PopP_at (H.old oP) hf z0 (fun i hi => S.z i ((hA i).2 (.inl hi))) hn).mono ?_
  rintro w m1 ⟨rfl, H1, c1⟩
  rw [if_neg hl, hx0]
  have z1 : Frozen Z' m1 := z0.chg c1 fun i hi => S.z i ((hA i).2 (.inl hi))
  have s1 := c1.size
  have lM : M < m.size := z.lt hM
  have yM : ¬ M = m1.size := by omega
  have rM := frozen_at z1 hM
  simp (decide := true) (implicitDefEqProofs := false) (maxDischargeDepth := 20) only [go_sem, pV, rM, yM, ↓reduceIte, true_implies, false_implies]
  refine two_boxes (fun mm => CallQ E _ _ mm _) m1 _ _ fun m2 g2 o2 s2 => ?_
  have met2 : MeterAt m2 mb x y := by
    unfold MeterAt
    rw [o2.get (by omega), c1.get mb (by omega) nA, oP.get hmb]
    exact S.met
  refine (Meter_at met2 (n := -1) (by omega)).mono ?_
  rintro w m3 ⟨met3, c3⟩
  have s3 := c3.size
  have z2 : Frozen Z' m2 := z1.old o2
  have zmb : Z' mb = none := S.z mb ((hA mb).2 (.inr rfl))
  have z3 : Frozen Z' m3 := z2.chg c3 fun i (hi : i = mb) => by rw [hi]; exact zmb
  have r5 := frozen_at z3 h5
  have gx : m3.get m1.size = some (.cells false true [.int .i64 x0.1, .int .i64 x0.2]) := by
    rw [c3.get m1.size (by omega) (fun (e : m1.size = mb) => by omega)]
    exact g2
  have rx : m3.rows m1.size 0 2 = some [.int .i64 x0.1, .int .i64 x0.2] := by unfold Mem.rows; rw [gx]; rfl
  have y7 : ¬ m1.size = m.size := by omega
  simp (decide := true) (implicitDefEqProofs := false) (maxDischargeDepth := 20) only [go_sem, r5, rx, gx, y7, ↓reduceIte, true_implies, false_implies]
  -- what is there at the yield
  have old3 : ∀ i, i < m.size → ¬ A i → m3.get i = m.get i := fun i hi hna => by
    rw [c3.get i (by omega) (fun (e : i = mb) => hna ((hA i).2 (.inr e))), o2.get (by omega), c1.get i (by omega) (fun e => hna ((hA i).2 (.inl e))), oP.get hi]
  have gg : ∀ i, i < m.size → (m3.gm [m1.size]).get i = m3.get i := fun i hi => get_gmG _ _ _ (by omega)
  have sz : (m3.gm [m1.size]).size = m3.size := gm_size _ _
  have own3 : ∀ i, A1 i → (m3.gm [m1.size]).get i = m.get i := fun i hi => by rw [gg i (o1 i hi).1, old3 i (o1 i hi).1 (dis i hi)]
  have H3 : HeapAtP m3 h fv (popL ltR l) Ah := HeapAtP.loc h fv _ m1 m3 Ah H1 (fun i hi => by
    rw [c3.get i (by have := H1.lt i hi; omega) (fun (e : i = mb) => nA (e ▸ hi)), o2.get (H1.lt i hi)]) (by omega)
  have S3 : CutS Z' m3 h mb fv (popL ltR l) (x + -1) (max y (x + -1)) A := ⟨⟨Ah, H3, nA, hA⟩, met3, S.z⟩
  have lA : ∀ i, A i → i < m.size := S.lt
  refine CallF.step ((step (m3.gm [m1.size]) A1 (SubZ.frozen sub (z3.gm _ fun i hi => by rw [List.mem_singleton.1 hi]; exact z1.free (Nat.le_refl _))) (fun i hi => ⟨by rw [sz]; have := (o1 i hi).1; omega, SubZ.none sub (o1 i hi).2.1, (o1 i hi).2.2⟩) (fun i hi => ?_) (hOwn _ ?_ fun i hi => ?_) (lI k m _ A1 i1 own3 (by rw [sz]; omega))).mono ?_)
  · rw [sz]
    rcases hi with rfl | hi
    · omega
    · have := (hFs i hi).1; omega
  · unfold MeterAt
    rw [gg mb hmb]
    exact met3
  · rw [gg i (hFs i hi).1, old3 i (hFs i hi).1 (hFs i hi).2]
  rintro w m4 ⟨A2, c4, e4, hw⟩
  have s4 := c4.size
  rw [sz] at s4
  have nx : ¬ A1 m1.size := fun e => by have := (o1 _ e).1; omega
  have c5 := chg_ugm gx c4
  have e5 := new_ugm e4
  have s5 : (m3.ugm m4 [m1.size]).size = m4.size := size_ugm _ _ _
  have n2 : ∀ i, A2 i → i ≠ m.size ∧ i ≠ m1.size := fun i hi => by
    rcases (e4 i hi).2 with e | e
    · have := (o1 i e).1; exact ⟨by omega, by omega⟩
    · rw [sz] at e; exact ⟨by omega, by omega⟩
  have gu : ∀ i, i ≠ m1.size → (m3.ugm m4 [m1.size]).get i = m4.get i := fun i hi => by rw [get_ugmG gx (by omega), if_neg hi]
  have gr : (m3.ugm m4 [m1.size]).get m.size = some (.cells false true [.int .i64 0, .int .i64 0]) := by
    rw [c5.get m.size (by omega) (fun e => by have := (o1 _ e).1; omega), c3.get m.size (by omega) (fun (e : m.size = mb) => by omega), o2.get (by omega), c1.get m.size (by omega) (fun e => by have := lA _ ((hA _).2 (.inl e)); omega)]
    exact gP
  have lr : m.size < (m3.ugm m4 [m1.size]).size := by omega
  have lI2 : ∀ k2, LocP (I k2) := lI
  generalize hM5 : m3.ugm m4 [m1.size] = m5 at *
  have fin : ∀ bb, (bb = true ∧ I (k + 1) m4 A2 ∨ bb = false ∧ D k m4 A2) → ∀ m6, m6 = m5.put m.size (some (.cells false true [.int .i64 x0.1, .int .i64 x0.2])) → ∃ b A1', Value.tuple #[.agg #[.int .i64 x0.1, .int .i64 x0.2], .bool bb] = Value.tuple #[pV x0, .bool b] ∧ CutS Z' m6 h mb fv (popL ltR l) (x + -1) (max y (x + -1)) A ∧
      ChgS (fun i => A i ∨ A1 i) m m6 ∧ NewS A1 m m6 A1' ∧ (∀ i, A1' i → ¬ A i) ∧ SameOn Fs m m6 ∧ (b = true ∧ I (k + 1) m6 A1' ∨ b = false ∧ D k m6 A1') := by
    rintro bb hb m6 rfl
    have g6 : ∀ i, i ≠ m.size → (m5.put m.size (some (.cells false true [.int .i64 x0.1, .int .i64 x0.2]))).get i = m5.get i := fun i hi => by rw [getM_put, if_neg (fun e => hi e.1)]
    have k2 : ∀ i, A2 i → (m5.put m.size (some (.cells false true [.int .i64 x0.1, .int .i64 x0.2]))).get i = m4.get i := fun i hi => by rw [g6 i (n2 i hi).1, gu i (n2 i hi).2]
    have old6 : ∀ i, i < m.size → ¬ A i → ¬ A1 i → (m5.put m.size (some (.cells false true [.int .i64 x0.1, .int .i64 x0.2]))).get i = m.get i := fun i hi hna hn1 => by
      rw [g6 i (by omega), c5.get i (by omega) hn1, old3 i hi hna]
    refine ⟨bb, A2, rfl, S3.keep (fun i hi => ?_) (by rw [size_put]; omega), ⟨by rw [size_put]; omega, fun i hi hna => old6 i hi (fun e => hna (.inl e)) fun e => hna (.inr e)⟩, fun i hi => ?_, fun i hi hia => ?_, fun i hi => ?_, ?_⟩
    · have := lA i hi
      rw [g6 i (by omega), c5.get i (by omega) fun e => dis i e hi]
    · rw [size_put]
      exact ⟨(e5 i hi).1, (e5 i hi).2.imp id fun e => by omega⟩
    · rcases (e5 i hi).2 with e | e
      · exact dis i e hia
      · have := lA i hia; omega
    · exact old6 i (hFs i hi).1 (hFs i hi).2 fun e => (o1 i e).2.2 (.inr hi)
    · rcases hb with ⟨h1, h2⟩ | ⟨h1, h2⟩
      · exact .inl ⟨h1, lI _ m4 _ A2 h2 k2 (by rw [size_put]; omega)⟩
      · exact .inr ⟨h1, lD _ m4 _ A2 h2 k2 (by rw [size_put]; omega)⟩
  rcases hw with ⟨rfl, hI⟩ | ⟨rfl, hD⟩
  · simp (decide := true) (implicitDefEqProofs := false) (maxDischargeDepth := 20) only [go_sem, hM5, gr, lr, ↓reduceIte, true_implies, false_implies]
    exact fin true (.inl ⟨rfl, hI⟩) _ rfl
  · simp (decide := true) (implicitDefEqProofs := false) (maxDischargeDepth := 20) only [go_sem, hM5, gr, lr, ↓reduceIte, true_implies, false_implies]
    exact fin false (.inr ⟨rfl, hD⟩) _ rfl
end Go.Proofs.Ythlcbacmbcmgfaa.W
