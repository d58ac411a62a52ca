/-
  A round of a cut.
-/
import Derived.Test.YthlcbacmbcmgfaaRunsC
namespace Go.Proofs.Ythlcbacmbcmgfaa.W
open Go.Abs
set_option linter.unusedSimpArgs false
set_option linter.unusedVariables false

/-- What a cut has at hand: its closures' boxes, its heap's address and order. -/
structure CutK (Z' : Nat → Option Blk) (L M B b5 b6 b7 b8 h mb b : Nat) (fv : Value) (lf yf : Fn) (la lb ya yb : Array Value) : Prop where
  kL : Z' L = some (.cells false true [.func lf la lb])
  kM : Z' M = some (.cells false true [ptr mb])
  kB : Z' B = some (.cells false true [vI b])
  k5 : Z' b5 = some (.cells false true [.func yf ya yb])
  k6 : Z' b6 = some (.cells false true [ptr h])
  k7 : Z' b7 = some (.cells false true [.func (.func F_runs_Cut_int_1_2) #[] #[ptr b6, ptr M]])
  k8 : Z' b8 = some (.cells false true [.func (.func F_runs_Cut_int_1_3) #[] #[ptr b6, ptr M, ptr b5]])
  lt : LessP Z' fv ltR
  less : LessN (.func lf la lb)

theorem len_gm {Z' : Nat → Option Blk} {m : Mem} {h mb : Nat} {fv : Value} {l : List (Int × Int)} {x y : Int} {A : Set'} (S : CutS Z' m h mb fv l x y A) {q : Nat} (hq : ¬ A q) {K : Value → Mem → Prop}
    (hK : ∀ mm m', Old (m.gm [q]) mm → m' = m.ugm mm [q] → Old m m' → K (vI l.length) mm) : CallQ E F_heap_Heap_runs_Item_int_Len [ptr h].toArray (m.gm [q]) K := by
  obtain ⟨Ah, H, nA, hA⟩ := S.heap
  have H' : HeapAtP (m.gm [q]) h fv l Ah := HeapAtP.loc h fv l m _ Ah H (fun i hi => get_gmG m q i fun e => hq (e ▸ (hA i).2 (.inl hi))) (by rw [gm_size]; exact Nat.le_refl _)
  refine (LenR_at H').mono ?_
  rintro w mm ⟨rfl, o⟩
  obtain ⟨ll, e1, e2⟩ := o.ugm
  exact hK mm _ o rfl (by rw [e2]; exact ⟨ll, rfl⟩)

theorem CutS.meter {Z : Nat → Option Blk} {m m' : Mem} {h mb : Nat} {fv : Value} {l : List (Int × Int)} {x y x' y' : Int} {A : Set'} (S : CutS Z m h mb fv l x y A) (hm : MeterAt m' mb x' y') (c : ChgS (fun i => i = mb) m m') : CutS Z m' h mb fv l x' y' A := by
  obtain ⟨Ah, H, n, hA⟩ := S.heap
  exact ⟨⟨Ah, HeapAtP.loc h fv l m m' Ah H (fun i hi => c.get i (H.lt i hi) fun (e : i = mb) => n (e ▸ hi)) c.size, n, hA⟩, hm, S.z⟩

set_option maxRecDepth 100000 in
set_option maxHeartbeats 4000000 in
theorem Cut_body {Z Z' : Nat → Option Blk} (sub : SubZ Z Z') {Fs : Set'} {Own : Nat → Mem → Prop} {I D : Nat → Mem → Set' → Prop} (lI : ∀ k, LocP (I k)) (lD : ∀ k, LocP (D k)) {L M B b5 b6 b7 b8 h mb b : Nat} {fv : Value} {lf yf : Fn} {la lb ya yb : Array Value}
    (C : CutK Z' L M B b5 b6 b7 b8 h mb b fv lf yf la lb ya yb) (hb : 0 < b) (hb' : (b : Int) < 9223372036854775808) {xs : List Int} {y0 : Int} {k : Nat} (hk : k < xs.length) (hn : xs.length ≤ 1000)
    (step : ∀ k, k < xs.length → ∀ m A, Frozen Z m → OwnS Z (fun i => i = mb ∨ Fs i) m A → (∀ i, (i = mb ∨ Fs i) → i < m.size) → Own k m → I k m A → CallF E (.func yf ya yb) [pV (yieldR xs b k)] m fun w m' => ∃ A', ChgS A m m' ∧ NewS A m m' A' ∧ (w = .bool true ∧ I (k + 1) m' A' ∨ w = .bool false ∧ D k m' A'))
    {m : Mem} {AC A1 : Set'} (S : CutS Z' m h mb fv (inR xs b k) (min b k : Nat) (max y0 (min b k : Nat)) AC) (z : Frozen Z' m) (hFs : ∀ i, Fs i → i < m.size ∧ ¬ AC i)
    (hOwn : b ≤ k → ∀ m' x y, MeterAt m' mb x y → SameOn Fs m m' → Own (k - b) m')
    (o1 : ∀ i, A1 i → i < m.size ∧ Z' i = none ∧ ¬ (i = mb ∨ Fs i)) (dis : ∀ i, A1 i → ¬ AC i) (i1 : I (k - b) m A1)
    {t : Fr} (t1 : t 1 = ptr L) (t2 : t 2 = ptr M) (t4 : t 4 = ptr B) (t6 : t 6 = ptr b6) (t7 : t 7 = ptr b7) (t8 : t 8 = ptr b8) (t9 : t 9 = vI (xs.getD k 0)) {rd : Option Nat} {K : Post3}
    (hK1 : ∀ t' m' AC' A1', CutS Z' m' h mb fv (inR xs b (k + 1)) (min b (k + 1) : Nat) (max y0 (min b (k + 1) : Nat)) AC' → ChgS (fun i => AC i ∨ A1 i) m m' → NewS AC m m' AC' → NewS A1 m m' A1' → (∀ i, A1' i → ¬ AC' i) → I (k + 1 - b) m' A1' → K .normal t' m')
    (hK2 : ∀ t' m' A1' l y, b ≤ k → 0 ≤ y → CutS Z' m' h mb fv l 0 y AC → ChgS (fun i => AC i ∨ A1 i) m m' → NewS A1 m m' A1' → (∀ i, A1' i → ¬ AC i) → SameOn Fs m m' → D (k - b) m' A1' → K .ret t' m') :
    wpM E F_runs_Cut_int_1 68 rd c_runs_Cut_int_1_12 K t m := by
  have hlen := inR_len xs b k hb (by omega)
  have r6 := frozen_at z C.k6
  have rB := frozen_at z C.kB
  have nB : ¬ AC B := fun e => by have := S.z B e; rw [C.kB] at this; cases this
  simp (decide := true) (implicitDefEqProofs := false) (maxDischargeDepth := 20) only [go_sem, t1, t2, t4, t6, t7, t8, t9, r6, rB, ↓reduceIte, true_implies, false_implies]
  refine len_gm S nB fun mm m1 om e1 o1' => ?_
  have z1 : Frozen Z' m1 := z.old o1'
  have S1 := S.old o1'
  rw [hlen]
  by_cases hkb : k < b
  · -- room
    have d1 : decide (((min b k : Nat) : Int) < (b : Int)) = true := by simp; omega
    have r7 := frozen_at z1 C.k7
    simp (decide := true) (implicitDefEqProofs := false) (maxDischargeDepth := 20) only [go_sem, ← e1, d1, t1, t2, t4, t6, t7, t8, t9, r7, ↓reduceIte, true_implies, false_implies]
    have e50 : (#[] ++ #[vI 0, vI (xs.getD k 0)] ++ #[ptr b6, ptr M] : Array Value) = [vI 0, vI (xs.getD k 0), ptr b6, ptr M].toArray := by simp
    rw [e50]
    refine (Take_at S1 C.lt z1 C.k6 C.kM (by omega) (by omega) 0 (xs.getD k 0)).mono ?_
    rintro w m2 ⟨AC', S2, tr⟩
    have e1 : ((min b k : Nat) : Int) + 1 = ((min b (k + 1) : Nat) : Int) := by omega
    have e2 : max (max y0 ((min b k : Nat) : Int)) ((min b (k + 1) : Nat) : Int) = max y0 ((min b (k + 1) : Nat) : Int) := by omega
    rw [e1, e2, ← inR_lt xs b k hk hkb] at S2
    simp (decide := true) (implicitDefEqProofs := false) (maxDischargeDepth := 20) only [go_sem, ↓reduceIte, true_implies, false_implies]
    have s1 := o1'.size
    have sz2 := tr.c.size
    refine hK1 _ m2 AC' A1 S2 ⟨by omega, fun i hi hna => ?_⟩ (fun i hi => ⟨(tr.n i hi).1, (tr.n i hi).2.imp id fun e => by omega⟩) (fun i hi => ⟨by have := (o1 i hi).1; omega, .inl hi⟩) (fun i hi e => ?_) ?_
    · rw [tr.c.get i (by omega) (fun e => hna (.inl e)), o1'.get hi]
    · rcases (tr.n i e).2 with e | e
      · exact dis i hi e
      · have := (o1 i hi).1; omega
    · rw [show k + 1 - b = k - b by omega]
      exact lI _ m _ A1 i1 (fun i hi => by rw [tr.c.get i (by have := (o1 i hi).1; omega) (dis i hi), o1'.get (o1 i hi).1]) (by omega)
  · -- none
    have d1 : decide (((min b k : Nat) : Int) < (b : Int)) = false := by simp; omega
    have r8 := frozen_at z1 C.k8
    simp (decide := true) (implicitDefEqProofs := false) (maxDischargeDepth := 20) only [go_sem, ← e1, d1, t1, t2, t4, t6, t7, t8, t9, r8, ↓reduceIte, true_implies, false_implies]
    have e52 : (#[] ++ #[] ++ #[ptr b6, ptr M, ptr b5] : Array Value) = [ptr b6, ptr M, ptr b5].toArray := by simp
    rw [e52]
    have s1 := o1'.size
    have hb1 : (inR xs b k).length = b := by omega
    have hkk : k - b < xs.length := by omega
    have hx0 : gt (inR xs b k) 0 = yieldR xs b (k - b) := by rw [inR_heap xs b k (by omega)]; rfl
    have em : ((min b k : Nat) : Int) = (b : Int) := by omega
    rw [em] at S1
    refine (Out_at sub lI lD (step (k - b) hkk) S1 C.lt z1 C.k6 C.kM C.k5 (fun e => by rw [e] at hb1; simp at hb1; omega) hx0 (by omega) (by omega) (fun i hi => ⟨by have := (hFs i hi).1; omega, (hFs i hi).2⟩) (fun m' met same => hOwn (by omega) m' _ _ met fun i hi => (same i hi).trans (o1'.get (hFs i hi).1))
      (fun i hi => ⟨by have := (o1 i hi).1; omega, (o1 i hi).2⟩) dis (lI _ m _ A1 i1 (fun i hi => o1'.get (o1 i hi).1) s1)).mono ?_
    rintro w m2 ⟨bb, A2, rfl, S2, c2, n2, dis2, same2, hw⟩
    have s2 := c2.size
    have zA : ∀ i, AC i ∨ A1 i → Z' i = none := fun i hi => hi.elim (S.z i) fun e => (o1 i e).2.1
    have z2 : Frozen Z' m2 := z1.chg c2 zA
    obtain ⟨o, ho⟩ : ∃ o, o = yieldR xs b (k - b) := ⟨_, rfl⟩
    have hrun := yieldR_run xs b hb (k - b) hkk
    rw [← ho] at hrun ⊢
    have lAC := S1.lt
    have base2 : ∀ i, i < m.size → ¬ AC i → ¬ A1 i → m2.get i = m.get i := fun i hi h1 h2 => by rw [c2.get i (by omega) (fun e => e.elim h1 h2), o1'.get hi]
    rcases hw with ⟨rfl, hI⟩ | ⟨rfl, hD⟩
    · -- it goes on
      have rL := frozen_at z2 C.kL
      have nL : ¬ L = m2.size := by have := z2.lt C.kL; omega
      simp (decide := true) (implicitDefEqProofs := false) (maxDischargeDepth := 20) only [go_sem, pV, t1, t2, t4, t6, t7, t8, t9, rL, nL, ↓reduceIte, true_implies, false_implies]
      refine two_boxes (fun mm => StepQ E (fvV E _ _ mm) _) m2 _ _ fun m3 g3 o3 s3 => ?_
      refine CallF.step ((C.less (xs.getD k 0) o.2 m3).mono ?_)
      rintro w m4 ⟨rfl, o4⟩
      have s4 := o4.size
      have z4 : Frozen Z' m4 := (z2.old o3).old o4
      have o24 : Old m2 m4 := o3.trans o4
      have S4 := S2.old o24
      have g4 : m4.get m2.size = some (.cells false true [vI o.1, vI o.2]) := (o4.get (by omega)).trans g3
      have l4 := getM_lt g4
      have r40 : m4.at m2.size 0 = some (vI o.1) := by unfold Mem.at; rw [g4]; rfl
      have r7 := frozen_at z4 C.k7
      have n7 : ¬ b7 = m2.size := by have := z2.lt C.k7; omega
      have w1 : IntKind.wrap .i64 (o.1 + 1) = o.1 + 1 := wrap_i64_id _ (by omega) (by omega)
      have e50 : ∀ r : Int, (#[] ++ #[vI r, vI (xs.getD k 0)] ++ #[ptr b6, ptr M] : Array Value) = [vI r, vI (xs.getD k 0), ptr b6, ptr M].toArray := fun r => by simp
      -- taking it in
      have tk : ∀ (m5 : Mem) (K' : Value → Mem → Prop), Old m2 m5 → (∀ m6 AC', CutS Z' m6 h mb fv (inR xs b (k + 1)) (min b (k + 1) : Nat) (max y0 (min b (k + 1) : Nat)) AC' → ChgS (fun i => AC i ∨ A1 i) m m6 → NewS AC m m6 AC' → NewS A1 m m6 A2 → (∀ i, A2 i → ¬ AC' i) → I (k + 1 - b) m6 A2 → ∀ w, K' w m6) →
          CallQ E F_runs_Cut_int_1_2 (#[] ++ #[vI (nextR o (xs.getD k 0)).1, vI (xs.getD k 0)] ++ #[ptr b6, ptr M]) m5 K' := by
        intro m5 K' o25 hK'
        rw [e50]
        have s5 := o25.size
        refine (Take_at (S2.old o25) C.lt (z2.old o25) C.k6 C.kM (by rw [popL_length]; omega) (by omega) (nextR o (xs.getD k 0)).1 (xs.getD k 0)).mono ?_
        rintro w m6 ⟨AC', S6, tr⟩
        have s6 := tr.c.size
        have e1 : (b : Int) + -1 + 1 = ((min b (k + 1) : Nat) : Int) := by omega
        have e2 : max (max (max y0 (b : Int)) ((b : Int) + -1)) ((min b (k + 1) : Nat) : Int) = max y0 ((min b (k + 1) : Nat) : Int) := by omega
        have e3 : pushL ltR (popL ltR (inR xs b k)) ((nextR o (xs.getD k 0)).1, xs.getD k 0) = inR xs b (k + 1) := by rw [inR_ge xs b k hk (by omega), inR_heap xs b k (by omega), ho]; rfl
        rw [e1, e2, e3] at S6
        refine hK' m6 AC' S6 ⟨by omega, fun i hi hna => ?_⟩ (fun i hi => ⟨(tr.n i hi).1, (tr.n i hi).2.imp id fun e => by omega⟩) (fun i hi => ⟨by have := (n2 i hi).1; omega, (n2 i hi).2.imp id fun e => by omega⟩) (fun i hi e => ?_) ?_ w
        · rw [tr.c.get i (by omega) (fun e => hna (.inl e)), o25.get (by omega), base2 i hi (fun e => hna (.inl e)) fun e => hna (.inr e)]
        · rcases (tr.n i e).2 with e | e
          · exact dis2 i hi e
          · have := (n2 i hi).1; omega
        · rw [show k + 1 - b = k - b + 1 by omega]
          exact lI _ m2 _ A2 hI (fun i hi => by rw [tr.c.get i (by have := (n2 i hi).1; omega) (dis2 i hi), o25.get (n2 i hi).1]) (by omega)
      by_cases hlt : xs.getD k 0 < o.2
      · have d2 : decide (xs.getD k 0 < o.2) = true := by simpa using hlt
        have tk := tk
        unfold nextR at tk
        rw [if_pos hlt] at tk
        simp (decide := true) (implicitDefEqProofs := false) (maxDischargeDepth := 20) only [go_sem, t1, t2, t4, t6, t7, t8, t9, d2, w1, r40, g4, l4, r7, n7, ↓reduceIte, true_implies, false_implies]
        refine tk _ _ (o24.put _ _ (Nat.le_refl _)) fun m6 AC' S6 c6 n6 n6' d6 i6 w => ?_
        simp (decide := true) (implicitDefEqProofs := false) (maxDischargeDepth := 20) only [go_sem, ↓reduceIte, true_implies, false_implies]
        exact hK1 _ m6 AC' A2 S6 c6 n6 n6' d6 i6
      · have d2 : decide (xs.getD k 0 < o.2) = false := by simpa using hlt
        unfold nextR at tk
        rw [if_neg hlt] at tk
        simp (decide := true) (implicitDefEqProofs := false) (maxDischargeDepth := 20) only [go_sem, t1, t2, t4, t6, t7, t8, t9, d2, r40, r7, n7, ↓reduceIte, true_implies, false_implies]
        refine tk _ _ o24 fun m6 AC' S6 c6 n6 n6' d6 i6 w => ?_
        simp (decide := true) (implicitDefEqProofs := false) (maxDischargeDepth := 20) only [go_sem, ↓reduceIte, true_implies, false_implies]
        exact hK1 _ m6 AC' A2 S6 c6 n6 n6' d6 i6
    · -- it is left
      have rM := frozen_at z2 C.kM
      have nM : ¬ M = m2.size := by have := z2.lt C.kM; omega
      have r62 := frozen_at z2 C.k6
      have n6 : ¬ b6 = m2.size := by have := z2.lt C.k6; omega
      simp (decide := true) (implicitDefEqProofs := false) (maxDischargeDepth := 20) only [go_sem, pV, t1, t2, t4, t6, t7, t8, t9, rM, nM, r62, n6, ↓reduceIte, true_implies, false_implies]
      refine two_boxes (fun mm => CallQ E _ _ (mm.gm _) (contD E _ _ _ _ _ mm _)) m2 _ _ fun m3 g3 o3 s3 => ?_
      have nM2 : ¬ AC M := fun e => by have := S.z M e; rw [C.kM] at this; cases this
      refine len_gm (S2.old o3) nM2 fun mm m4 om e4 o4 => ?_
      have hl2 : (((popL ltR (inR xs b k)).length : Nat) : Int) = (b : Int) - 1 := by rw [popL_length]; omega
      have w3 : IntKind.wrap .i64 (0 - ((b : Int) - 1)) = 1 - (b : Int) := by rw [wrap_i64_id _ (by omega) (by omega)]; omega
      have o24 : Old m2 m4 := o3.trans o4
      have S4 := S2.old o24
      rw [hl2]
      simp (decide := true) (implicitDefEqProofs := false) (maxDischargeDepth := 20) only [go_sem, ← e4, w3, t1, t2, t4, t6, t7, t8, t9, ↓reduceIte, true_implies, false_implies]
      refine (Meter_at S4.met (n := 1 - (b : Int)) (by omega)).mono ?_
      rintro w m5 ⟨met5, c5⟩
      have S5 := S4.meter met5 c5
      rw [show (b : Int) + -1 + (1 - (b : Int)) = 0 by omega] at S5
      have s4 := o24.size
      have s5 := c5.size
      have nmb : ∀ i, i < m2.size → i ≠ mb → m5.get i = m2.get i := fun i hi hne => by rw [c5.get i (by omega) hne, o24.get hi]
      have lmb : AC mb := by obtain ⟨Ah, H, n, hA⟩ := S.heap; exact (hA mb).2 (.inr rfl)
      simp (decide := true) (implicitDefEqProofs := false) (maxDischargeDepth := 20) only [go_sem, ↓reduceIte, true_implies, false_implies]
      refine hK2 _ m5 A2 _ _ (by omega) (by omega) S5 ⟨by omega, fun i hi hna => ?_⟩ (fun i hi => ⟨by have := (n2 i hi).1; omega, (n2 i hi).2.imp id fun e => by omega⟩) dis2 (fun i hi => ?_) (lD _ m2 _ A2 hD (fun i hi => nmb i (n2 i hi).1 fun e => dis2 i hi (e ▸ lmb)) (by omega))
      · rw [nmb i (by omega) (fun e => hna (.inl (e ▸ lmb))), base2 i hi (fun e => hna (.inl e)) fun e => hna (.inr e)]
      · have := hFs i hi
        rw [nmb i (by omega) (fun e => this.2 (e ▸ lmb)), same2 i hi, o1'.get this.1]
end Go.Proofs.Ythlcbacmbcmgfaa.W
