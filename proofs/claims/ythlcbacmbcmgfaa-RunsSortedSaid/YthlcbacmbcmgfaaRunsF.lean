/-
  What a cut lets out at its end.
-/
import Derived.Test.YthlcbacmbcmgfaaRunsD
namespace Go.Proofs.Ythlcbacmbcmgfaa.W
open Go.Abs
set_option linter.unusedSimpArgs false
set_option linter.unusedVariables false

theorem heapR_out_len (xs : List Int) (b k : Nat) (hb : 0 < b) (hk : k ≤ xs.length) (h : xs.length ≤ b + k) : (heapR xs b k).length = xs.length - k := by
  rw [heapR_len xs b hb k hk]; omega

set_option maxRecDepth 100000 in
set_option maxHeartbeats 4000000 in
theorem Cut_drain {Z Z' : Nat → Option Blk} (sub : SubZ Z Z') {Fs : Set'} {Own : Nat → Mem → Prop} {I D : Nat → Mem → Set' → Prop} (lI : ∀ k, LocP (I k)) (lD : ∀ k, LocP (D k)) {L M B b5 b6 b7 b8 h mb b : Nat} {fv : Value} {lf yf : Fn} {la lb ya yb : Array Value}
    (C : CutK Z' L M B b5 b6 b7 b8 h mb b fv lf yf la lb ya yb) (hb : 0 < b) {xs : List Int} {y : Int} {k0 : Nat} (hk0 : k0 ≤ xs.length) (hbk : xs.length ≤ b + k0) (hn : xs.length ≤ 1000) (hy : (xs.length : Int) - k0 ≤ y)
    (step : ∀ k, k < xs.length → ∀ m A, Frozen Z m → OwnS Z (fun i => i = mb ∨ Fs i) m A → (∀ i, (i = mb ∨ Fs i) → i < m.size) → Own k m → I k m A → CallF E (.func yf ya yb) [pV (yieldR xs b k)] m fun w m' => ∃ A', ChgS A m m' ∧ NewS A m m' A' ∧ (w = .bool true ∧ I (k + 1) m' A' ∨ w = .bool false ∧ D k m' A'))
    {m : Mem} {AC A1 : Set'} (S : CutS Z' m h mb fv (heapR xs b k0) ((xs.length : Int) - k0) y AC) (z : Frozen Z' m) (hFs : ∀ i, Fs i → i < m.size ∧ ¬ AC i)
    (hOwn : ∀ k m' x y, k0 ≤ k → MeterAt m' mb x y → SameOn Fs m m' → Own k m')
    (o1 : ∀ i, A1 i → i < m.size ∧ Z' i = none ∧ ¬ (i = mb ∨ Fs i)) (dis : ∀ i, A1 i → ¬ AC i) (i1 : I k0 m A1)
    {t : Fr} (t2 : t 2 = ptr M) (t6 : t 6 = ptr b6) (t8 : t 8 = ptr b8) {rd : Option Nat} {K : Post3}
    (hK1 : ∀ t' m' A1', MeterAt m' mb 0 y → ChgS (fun i => AC i ∨ A1 i) m m' → NewS A1 m m' A1' → SameOn Fs m m' → I xs.length m' A1' → K .normal t' m')
    (hK2 : ∀ t' m' A1' k y, k0 ≤ k → k < xs.length → 0 ≤ y → MeterAt m' mb 0 y → ChgS (fun i => AC i ∨ A1 i) m m' → NewS A1 m m' A1' → SameOn Fs m m' → D k m' A1' → K .ret t' m') :
    wpM E F_runs_Cut_int_1 68 rd c_runs_Cut_int_1_25 K t m := by
  simp only [c_runs_Cut_int_1_25_at, wpM_block, c_runs_Cut_int_1_24_at]
  refine wpM_loopA (fun j t' m' => ∃ k A2, j = xs.length - k ∧ k0 ≤ k ∧ k ≤ xs.length ∧ CutS Z' m' h mb fv (heapR xs b k) ((xs.length : Int) - k) y AC ∧ ChgS (fun i => AC i ∨ A1 i) m m' ∧ NewS A1 m m' A2 ∧ (∀ i, A2 i → ¬ AC i) ∧ SameOn Fs m m' ∧ I k m' A2) (xs.length - k0)
    ⟨k0, A1, rfl, Nat.le_refl _, hk0, S, .refl _ _, fun i hi => ⟨(o1 i hi).1, .inl hi⟩, dis, fun _ _ => rfl, i1⟩ ?_
  rintro j t' m1 ha ⟨k, A2, rfl, hk1, hk2, S1, c1, n1, d1, same1, i1'⟩
  have a2 := (ha 2 (by decide +kernel)).trans t2
  have a6 := (ha 6 (by decide +kernel)).trans t6
  have a8 := (ha 8 (by decide +kernel)).trans t8
  have s1 := c1.size
  have zA : ∀ i, AC i ∨ A1 i → Z' i = none := fun i hi => hi.elim (S.z i) fun e => (o1 i e).2.1
  have z1 : Frozen Z' m1 := z.chg c1 zA
  have hlen := heapR_out_len xs b k hb hk2 (by omega)
  have hmb := getM_lt S.met
  have lmb : AC mb := by obtain ⟨Ah, H, n, hA⟩ := S.heap; exact (hA mb).2 (.inr rfl)
  have o2 : ∀ i, A2 i → i < m1.size ∧ Z' i = none ∧ ¬ (i = mb ∨ Fs i) := fun i hi => by
    refine ⟨(n1 i hi).1, ?_⟩
    rcases (n1 i hi).2 with e | e
    · exact (o1 i e).2
    · refine ⟨z.free e, ?_⟩
      rintro (rfl | f)
      · omega
      · have := (hFs i f).1; omega
  have r6 := frozen_at z1 C.k6
  have r8 := frozen_at z1 C.k8
  simp (decide := true) (implicitDefEqProofs := false) (maxDischargeDepth := 20) only [go_sem, a2, a6, a8, r6, ↓reduceIte, true_implies, false_implies]
  obtain ⟨Ah, H, nA, hA⟩ := S1.heap
  refine (LenR_at H).mono ?_
  rintro w m2 ⟨rfl, oL⟩
  rw [hlen]
  have S2 := S1.old oL
  have z2 := z1.old oL
  have r8 := frozen_at z2 C.k8
  have s2 := oL.size
  by_cases hkn : k < xs.length
  · have d2 : decide (((xs.length - k : Nat) : Int) > 0) = true := by simp; omega
    simp (decide := true) (implicitDefEqProofs := false) (maxDischargeDepth := 20) only [go_sem, d2, a2, a6, a8, r8, ↓reduceIte, true_implies, false_implies]
    have e52 : (#[] ++ #[] ++ #[ptr b6, ptr M, ptr b5] : Array Value) = [ptr b6, ptr M, ptr b5].toArray := by simp
    rw [e52]
    refine (Out_at sub lI lD (step k hkn) S2 C.lt z2 C.k6 C.kM C.k5 (fun e => by rw [e] at hlen; simp at hlen; omega) rfl (by omega) (by omega) (fun i hi => ⟨by have := (hFs i hi).1; omega, (hFs i hi).2⟩) (fun m' met same => hOwn k m' _ _ hk1 met fun i hi => ((same i hi).trans (oL.get (by have := (hFs i hi).1; omega))).trans (same1 i hi))
      (fun i hi => ⟨by have := (o2 i hi).1; omega, (o2 i hi).2⟩) d1 (lI _ m1 _ A2 i1' (fun i hi => oL.get (o2 i hi).1) s2)).mono ?_
    rintro w m3 ⟨bb, A3, rfl, S3, c3, n3, d3, same3, hw⟩
    have s3 := c3.size
    have z3 : Frozen Z' m3 := z2.chg c3 fun i hi => hi.elim (S.z i) fun e => (o2 i e).2.1
    obtain ⟨o, ho⟩ : ∃ o, o = yieldR xs b k := ⟨_, rfl⟩
    rw [← ho]
    have c13 : ChgS (fun i => AC i ∨ A1 i) m m3 := ⟨by omega, fun i hi hna => by
      rw [c3.get i (by omega) (fun e => e.elim (fun e => hna (.inl e)) fun e => (n1 i e).2.elim (fun e => hna (.inr e)) fun e => by omega), oL.get (by omega), c1.get i hi hna]⟩
    have n13 : NewS A1 m m3 A3 := fun i hi => ⟨(n3 i hi).1, (n3 i hi).2.elim (fun e => (n1 i e).2) fun e => .inr (by omega)⟩
    have same13 : SameOn Fs m m3 := fun i hi => ((same3 i hi).trans (oL.get (by have := (hFs i hi).1; omega))).trans (same1 i hi)
    have ey : max y ((xs.length : Int) - k + -1) = y := by omega
    have ex : (xs.length : Int) - k + -1 = (xs.length : Int) - ((k + 1 : Nat) : Int) := by omega
    rw [ey, ex, ← heapR_out xs b k (by omega)] at S3
    rcases hw with ⟨rfl, hI⟩ | ⟨rfl, hD⟩
    · simp (decide := true) (implicitDefEqProofs := false) (maxDischargeDepth := 20) only [go_sem, pV, a2, a6, a8, ↓reduceIte, true_implies, false_implies]
      have oX : Old m3 ((m3.push (.cells false true [.int .i64 0, .int .i64 0])).put m3.size (some (.cells false true [vI o.1, vI o.2]))) := .put (.push (.refl _) _) _ _ (Nat.le_refl _)
      refine ⟨xs.length - (k + 1), by omega, k + 1, A3, rfl, by omega, by omega, S3.old oX, ⟨by have := oX.size; omega, fun i hi hna => by rw [oX.get (by omega)]; exact c13.get i hi hna⟩, fun i hi => ⟨by have := oX.size; have := (n13 i hi).1; omega, (n13 i hi).2⟩, d3, fun i hi => by rw [oX.get (by have := (hFs i hi).1; omega)]; exact same13 i hi, lI _ m3 _ A3 hI (fun i hi => oX.get (n3 i hi).1) oX.size⟩
    · have rM := frozen_at z3 C.kM
      have nM : ¬ M = m3.size := by have := z3.lt C.kM; omega
      have r63 := frozen_at z3 C.k6
      have n6 : ¬ b6 = m3.size := by have := z3.lt C.k6; omega
      simp (decide := true) (implicitDefEqProofs := false) (maxDischargeDepth := 20) only [go_sem, pV, a2, a6, a8, rM, nM, r63, n6, ↓reduceIte, true_implies, false_implies]
      refine two_boxes (fun mm => CallQ E _ _ (mm.gm _) (contD E _ _ _ _ _ mm _)) m3 _ _ fun m4 g4 o4 s4 => ?_
      have nM2 : ¬ AC M := fun e => by have := S.z M e; rw [C.kM] at this; cases this
      refine len_gm (S3.old o4) nM2 fun mm m5 om e5 o5 => ?_
      have hl2 : (((heapR xs b (k + 1)).length : Nat) : Int) = (xs.length : Int) - ((k + 1 : Nat) : Int) := by rw [heapR_out_len xs b (k + 1) hb (by omega) (by omega)]; omega
      have w3 : IntKind.wrap .i64 (0 - ((xs.length : Int) - ((k + 1 : Nat) : Int))) = ((k + 1 : Nat) : Int) - (xs.length : Int) := by rw [wrap_i64_id _ (by omega) (by omega)]; omega
      have o35 : Old m3 m5 := o4.trans o5
      have S5 := S3.old o35
      rw [hl2]
      simp (decide := true) (implicitDefEqProofs := false) (maxDischargeDepth := 20) only [go_sem, ← e5, w3, a2, a6, a8, ↓reduceIte, true_implies, false_implies]
      refine (Meter_at S5.met (n := ((k + 1 : Nat) : Int) - (xs.length : Int)) (by omega)).mono ?_
      rintro w m6 ⟨met6, c6⟩
      rw [show (xs.length : Int) - ((k + 1 : Nat) : Int) + (((k + 1 : Nat) : Int) - (xs.length : Int)) = 0 by omega] at met6
      have s5 := o35.size
      have s6 := c6.size
      have nmb : ∀ i, i < m3.size → i ≠ mb → m6.get i = m3.get i := fun i hi hne => by rw [c6.get i (by omega) hne, o35.get hi]
      simp (decide := true) (implicitDefEqProofs := false) (maxDischargeDepth := 20) only [go_sem, ↓reduceIte, true_implies, false_implies]
      refine hK2 _ m6 A3 k _ hk1 hkn (by omega) met6 ⟨by omega, fun i hi hna => ?_⟩ (fun i hi => ⟨by have := (n13 i hi).1; omega, (n13 i hi).2⟩) (fun i hi => ?_) (lD _ m3 _ A3 hD (fun i hi => nmb i (n3 i hi).1 fun e => d3 i hi (e ▸ lmb)) (by omega))
      · rw [nmb i (by omega) (fun e => hna (.inl (e ▸ lmb))), c13.get i hi hna]
      · have := hFs i hi
        rw [nmb i (by omega) (fun e => this.2 (e ▸ lmb)), same13 i hi]
  · have d2 : decide (((xs.length - k : Nat) : Int) > 0) = false := by simp; omega
    have hk3 : k = xs.length := by omega
    subst hk3
    simp (decide := true) (implicitDefEqProofs := false) (maxDischargeDepth := 20) only [go_sem, d2, a2, a6, a8, ↓reduceIte, true_implies, false_implies]
    refine hK1 _ m2 A2 ?_ ⟨by omega, fun i hi hna => by rw [oL.get (by omega), c1.get i hi hna]⟩ (fun i hi => ⟨by have := (n1 i hi).1; omega, (n1 i hi).2⟩) (fun i hi => (oL.get (by have := (hFs i hi).1; omega)).trans (same1 i hi)) (lI _ m1 _ A2 i1' (fun i hi => oL.get (o2 i hi).1) s2)
    have := S2.met
    rw [Int.sub_self] at this
    exact this
end Go.Proofs.Ythlcbacmbcmgfaa.W
