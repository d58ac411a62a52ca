/-
  A heap of pairs in memory: Push's loop (turned from HeapB).
-/
import Derived.Test.YthlcbacmbcmgfaaHeapSA
namespace Go.Proofs.Ythlcbacmbcmgfaa.W
open Go.Abs
set_option linter.unusedSimpArgs false
set_option linter.unusedVariables false

theorem HeapBP.at1 {m : Mem} {h : Nat} {fv : Value} {n c b : Nat} {s : Option Nat} {tg : Bool} {L : List (Int × Int)} (H : HeapBP m h fv n c b s tg L) : m.at h 1 = some (.slice (some ⟨b, 0, s⟩) n c) := by unfold Mem.at; rw [H.obj]; rfl
theorem HeapBP.at0 {m : Mem} {h : Nat} {fv : Value} {n c b : Nat} {s : Option Nat} {tg : Bool} {L : List (Int × Int)} (H : HeapBP m h fv n c b s tg L) : m.at h 0 = some fv := by unfold Mem.at; rw [H.obj]; rfl
theorem HeapBP.old {m m' : Mem} {h : Nat} {fv : Value} {n c b : Nat} {s : Option Nat} {tg : Bool} {L : List (Int × Int)} (H : HeapBP m h fv n c b s tg L) (o : Old m m') : HeapBP m' h fv n c b s tg L := H.keep (o.get (getM_lt H.obj)) (o.get (getM_lt H.blk))

theorem gt_leftP (l r : List (Int × Int)) {i : Nat} (h : i < l.length) : gt (l ++ r) i = gt l i := by
  unfold gt
  simp only [List.getD_eq_getElem?_getD, List.getElem?_append_left h]
theorem swp_leftP (l r : List (Int × Int)) {i j : Nat} (hi : i < l.length) (hj : j < l.length) : swp (l ++ r) i j = swp l i j ++ r := by
  unfold swp
  rw [gt_leftP l r hi, gt_leftP l r hj, List.set_append_left _ _ hi, List.set_append_left _ _ (by simp; omega)]

theorem pC_swp (l rest : List (Int × Int)) {i j : Nat} (hi : i < l.length) (hj : j < l.length) : ((((pC (l ++ rest)).set (i * 2) (vI (gt l j).1)).set (i * 2 + 1) (sv (gt l j).2)).set (j * 2) (vI (gt l i).1)).set (j * 2 + 1) (sv (gt l i).2) = pC (swp l i j ++ rest) := by
  rw [pC_set _ _ _ (by simp; omega), pC_set _ _ _ (by simp; omega), ← swp_leftP l rest hi hj]
  unfold swp
  rw [gt_leftP l rest hi, gt_leftP l rest hj]
theorem HeapBP.put2 {m : Mem} {h : Nat} {fv : Value} {n c b : Nat} {s : Option Nat} {tg : Bool} {L : List (Int × Int)} (H : HeapBP m h fv n c b s tg L) (L2 : List (Int × Int)) (hl : L2.length = L.length) (X : List Value) :
    HeapBP ((m.put b (some (.cells false tg X))).put b (some (.cells false tg (pC L2)))) h fv n c b s tg L2 := by
  have lb := getM_lt H.blk
  refine ⟨?_, ?_, H.ne, H.cap.trans hl.symm, H.le, H.loose⟩
  · rw [getM_put, if_neg (fun e => H.ne e.1), getM_put, if_neg (fun e => H.ne e.1)]
    exact H.obj
  · rw [getM_put, if_pos ⟨rfl, by rw [size_put]; exact lb⟩]
set_option maxRecDepth 100000 in
set_option maxHeartbeats 4000000 in
theorem PushP_loop {Z : Nat → Option Blk} {m : Mem} {t : Fr} {h c b : Nat} {fv : Value} {lt : Int × Int → Int × Int → Bool} {s : Option Nat} {tg : Bool} {l rest : List (Int × Int)} (H : HeapBP m h fv l.length c b s tg (l ++ rest)) (hf : LessP Z fv lt) (z : Frozen Z m) (hz : Z h = none ∧ Z b = none)
    (hn : l.length ≤ 1000000) (i0 : Nat) (hi0 : i0 < l.length) (t0 : t 0 = ptr h) (t4 : t 4 = .int .i64 (i0 : Nat)) {K : Post3}
    (hK : ∀ x t' m', (x = .normal ∨ x = .ret) → HeapBP m' h fv l.length c b s tg (upL lt (i0 + 1) l i0 ++ rest) → ChgS (fun i => i = h ∨ i = b) m m' → K x t' m') :
    wpM E F_heap_Heap_runs_Item_string_Push 74 none c_heap_Heap_runs_Item_string_Push_10 K t m := by
  obtain ⟨R, hR⟩ : ∃ R, R = upL lt (i0 + 1) l i0 := ⟨_, rfl⟩
  rw [← hR] at hK
  simp only [c_heap_Heap_runs_Item_string_Push_10_at, wpM_block, c_heap_Heap_runs_Item_string_Push_9_at]
  refine wpM_loopA (fun j t' m' => ∃ i l' k, j = i ∧ i < l.length ∧ i < k ∧ l'.length = l.length ∧ t' 4 = .int .i64 (i : Nat) ∧ HeapBP m' h fv l.length c b s tg (l' ++ rest) ∧ upL lt k l' i = R ∧ ChgS (fun i => i = h ∨ i = b) m m' ∧ Frozen Z m') i0 ⟨i0, l, i0 + 1, rfl, hi0, by omega, rfl, t4, H, hR.symm, .refl _ _, z⟩ ?_
  rintro j t' m' ha ⟨i, l', k, rfl, hi, hik, hl', e4, H', hup, hc, z'⟩
  have a0 := (ha 0 (by decide +kernel)).trans t0
  have hcap := H'.cap
  rw [List.length_append] at hcap
  have le := H'.le
  obtain ⟨k, rfl⟩ : ∃ k', k = k' + 1 := ⟨k - 1, by omega⟩
  by_cases h0 : j = 0
  · subst h0
    have d1 : decide (((0 : Nat) : Int) > 0) = false := by decide
    simp only [upL, if_true] at hup
    simp (decide := true) (implicitDefEqProofs := false) (maxDischargeDepth := 20) only [go_sem, a0, e4, d1, ↓reduceIte, true_implies, false_implies]
    refine hK _ _ _ (.inl rfl) ?_ hc
    rw [← hup]
    exact H'
  · have d1 : decide ((j : Int) > 0) = true := by simp; omega
    have w1 : IntKind.wrap .i64 (Int.tdiv (IntKind.wrap .i64 ((j : Int) - 1)) 2) = (((j - 1) / 2 : Nat) : Int) := by
      have e1 : IntKind.wrap .i64 ((j : Int) - 1) = ((j - 1 : Nat) : Int) := by rw [wrap_i64_id _ (by omega) (by omega)]; omega
      rw [e1, Int.tdiv_eq_ediv_of_nonneg (by omega), wrap_i64_id _ (by omega) (by omega)]
      omega
    simp only [upL, if_neg h0] at hup
    obtain ⟨p, hp⟩ : ∃ p, p = (j - 1) / 2 := ⟨_, rfl⟩
    rw [← hp] at w1 hup
    have r1 := H'.at1
    have r0 := H'.at0
    have rj := H'.row (i := j) (by rw [List.length_append]; omega)
    have rp := H'.row (i := p) (by rw [List.length_append]; omega)
    rw [gt_leftP _ _ (by omega)] at rj rp
    have z0 : (0 : Int) ≤ (j : Int) := by omega
    have z1 : (j : Int) < (l.length : Int) := by omega
    have z2 : (0 : Int) ≤ (p : Int) := by omega
    have z3 : (p : Int) < (l.length : Int) := by omega
    simp (decide := true) (implicitDefEqProofs := false) (maxDischargeDepth := 20) only [go_sem, a0, e4, d1, w1, nilOk, r0, r1, rj, rp, z0, z1, z2, z3, Int.toNat_natCast, ↓reduceIte, true_implies, false_implies]
    refine CallF.step ((hf (gt l' j) (gt l' p) m' z').mono ?_)
    rintro w m2 ⟨rfl, o2⟩
    have H2 := H'.old o2
    have z2' := z'.old o2
    have hc2 : ChgS (fun i => i = h ∨ i = b) m m2 := hc.trans (o2.chg none') (fun _ h => h) (fun _ _ h => h.elim)
    cases hlt : lt (gt l' j) (gt l' p) with
    | false =>
      rw [hlt] at hup
      simp (decide := true) (implicitDefEqProofs := false) (maxDischargeDepth := 20) only [go_sem, ↓reduceIte, true_implies, false_implies]
      refine hK _ _ _ (.inr rfl) ?_ hc2
      simp only [Bool.false_eq_true, if_false] at hup
      rw [← hup]
      exact H2
    | true =>
      rw [hlt] at hup
      simp only [if_true] at hup
      have r1 := H2.at1
      have r0 := H2.at0
      have rj := H2.row (i := j) (by rw [List.length_append]; omega)
      have rp := H2.row (i := p) (by rw [List.length_append]; omega)
      rw [gt_leftP _ _ (by omega)] at rj rp
      have gb := H2.blk
      have lb := getM_lt gb
      have lj : j * 2 + 2 ≤ (l' ++ rest).length * 2 := by rw [List.length_append]; omega
      have lp : p * 2 + 2 ≤ (l' ++ rest).length * 2 := by rw [List.length_append]; omega
      simp (decide := true) (implicitDefEqProofs := false) (maxDischargeDepth := 20) only [go_sem, a0, e4, nilOk, pC_len, r0, r1, rj, rp, z0, z1, z2, z3, gb, lb, lj, lp, List.length_map, Int.toNat_natCast, ↓reduceIte, true_implies, false_implies]
      have hj : j < l'.length := by omega
      have hpl : p < l'.length := by omega
      rw [pC_swp l' rest hj hpl]
      have hB := H2.put2 (swp l' j p ++ rest) (by simp [swp_length]) (((pC (l' ++ rest)).set (j * 2) (vI (gt l' p).1)).set (j * 2 + 1) (sv (gt l' p).2))
      refine ⟨p, by omega, p, swp l' j p, k, rfl, by omega, by omega, by rw [swp_length, hl'], rfl, hB, hup, (hc2.put _ _ (.inl (.inr rfl))).put _ _ (.inl (.inr rfl)), ?_⟩
      exact (z2'.put hz.2 _).put hz.2 _
end Go.Proofs.Ythlcbacmbcmgfaa.W
