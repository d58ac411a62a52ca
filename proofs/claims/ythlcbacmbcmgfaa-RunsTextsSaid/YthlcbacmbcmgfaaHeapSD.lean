/-
  A heap of pairs in memory: sink (turned from HeapC).
-/
import Derived.Test.YthlcbacmbcmgfaaHeapSC
namespace Go.Proofs.Ythlcbacmbcmgfaa.W
open Go.Abs
set_option linter.unusedSimpArgs false
set_option linter.unusedVariables false

/-- The first, then the second one below: which is least so far. -/
def leastKP (lt : Int × Int → Int × Int → Bool) (l : List (Int × Int)) (i : Nat) : Nat → Nat
  | 0 => i
  | 1 => if 2 * i + 1 < l.length ∧ lt (gt l (2 * i + 1)) (gt l i) = true then 2 * i + 1 else i
  | _ => leastL lt l i
theorem leastKP_bd (lt : Int × Int → Int × Int → Bool) (l : List (Int × Int)) (i k : Nat) (hi : i < l.length) : leastKP lt l i k < l.length := by
  match k with
  | 0 => exact hi
  | 1 =>
    simp only [leastKP]
    split
    · rename_i h; exact h.1
    · exact hi
  | k + 2 =>
    show leastL lt l i < l.length
    rcases leastL_bd (lt := lt) l i with e | e
    · rw [e]; exact hi
    · exact e.2
theorem leastKP_step (lt : Int × Int → Int × Int → Bool) (l : List (Int × Int)) (i k : Nat) (hk : k < 2) : leastKP lt l i (k + 1) = if 2 * i + 1 + k < l.length ∧ lt (gt l (2 * i + 1 + k)) (gt l (leastKP lt l i k)) = true then 2 * i + 1 + k else leastKP lt l i k := by
  match k, hk with
  | 0, _ => rfl
  | 1, _ => rfl

set_option maxRecDepth 100000 in
set_option maxHeartbeats 4000000 in
/-- The two below. -/
theorem SinkP_two {Z : Nat → Option Blk} {m : Mem} {t : Fr} {h c b q : Nat} {fv : Value} {lt : Int × Int → Int × Int → Bool} {s : Option Nat} {tg tq : Bool} {l rest : List (Int × Int)} (H : HeapBP m h fv l.length c b s tg (l ++ rest)) (hf : LessP Z fv lt) (z : Frozen Z m)
    (hn : l.length ≤ 1000000) (i : Nat) (hi : i ≤ l.length) (hq : m.get q = some (.cells false tq [vI ((2 * i + 1 : Nat) : Int), vI ((2 * i + 2 : Nat) : Int)])) (t0 : t 0 = ptr h) (t3 : t 3 = .int .i64 (i : Nat)) (t13 : t 13 = .slice (some ⟨q, 0, none⟩) 2 2) (t14 : t 14 = .int .i64 2) (t15 : t 15 = .int .i64 0) {K : Post3}
    (hK : ∀ t' m', Agree (writes c_heap_Heap_runs_Item_string_sink_9) t t' → t' 3 = .int .i64 (leastL lt l i : Nat) → Old m m' → K .normal t' m') :
    wpM E F_heap_Heap_runs_Item_string_sink 79 none c_heap_Heap_runs_Item_string_sink_9 K t m := by
  refine wpM_cut (fun t' m' => t' 3 = .int .i64 (leastL lt l i : Nat) ∧ Old m m') ?_ fun t' m' hag ⟨h1, h2⟩ => hK t' m' hag h1 h2
  simp only [c_heap_Heap_runs_Item_string_sink_9_at, wpM_block, c_heap_Heap_runs_Item_string_sink_8_at]
  refine wpM_loopA (fun j t' m' => ∃ k : Nat, k ≤ 2 ∧ j = 2 - k ∧ t' 15 = .int .i64 (k : Nat) ∧ t' 3 = .int .i64 (leastKP lt l i k : Nat) ∧ Old m m') 2 ⟨0, by omega, rfl, t15, t3, .refl m⟩ ?_
  rintro j t' m' ha ⟨k, hk, rfl, e15, e3, o⟩
  have a0 := (ha 0 (by decide +kernel)).trans t0
  have a13 := (ha 13 (by decide +kernel)).trans t13
  have a14 := (ha 14 (by decide +kernel)).trans t14
  have H' := H.old o
  have r1 := H'.at1
  have r0 := H'.at0
  by_cases hlt : k < 2
  · have d1 : decide ((k : Int) < 2) = true := by simp; omega
    have w1 : IntKind.wrap .i64 ((k : Int) + 1) = ((k + 1 : Nat) : Int) := by rw [wrap_i64_id _ (by omega) (by omega)]; omega
    have z0 : (0 : Int) ≤ (k : Int) := by omega
    have z1 : (k : Int) < ((2 : Nat) : Int) := by omega
    have gq : m'.get q = _ := (o.get (getM_lt hq)).trans hq
    have rq : m'.at q k = some (vI ((2 * i + 1 + k : Nat) : Int)) := by
      unfold Mem.at
      rw [gq]
      match k, hlt with
      | 0, _ => rfl
      | 1, _ => rfl
    have step := leastKP_step lt l i k hlt
    by_cases hin : 2 * i + 1 + k < l.length
    · have d2 : decide (((2 * i + 1 + k : Nat) : Int) < (l.length : Int)) = true := by rw [decide_eq_true_eq]; omega
      have x0 : (0 : Int) ≤ ((2 * i + 1 + k : Nat) : Int) := by omega
      have x1 : ((2 * i + 1 + k : Nat) : Int) < (l.length : Int) := by omega
      have lb := leastKP_bd lt l i k (by omega)
      have re := H'.row (i := leastKP lt l i k) (by rw [List.length_append]; omega)
      rw [gt_leftP _ _ lb] at re
      generalize leastKP lt l i k = e at *
      have y0 : (0 : Int) ≤ (e : Int) := by omega
      have y1 : (e : Int) < (l.length : Int) := by omega
      have rk := H'.row (i := 2 * i + 1 + k) (by rw [List.length_append]; omega)
      rw [gt_leftP _ _ hin] at rk
      generalize 2 * i + 1 + k = kk at *
      simp (decide := true) (implicitDefEqProofs := false) (maxDischargeDepth := 20) only [go_sem, pV, a0, a13, a14, e15, e3, d1, d2, nilOk, r0, r1, rq, re, rk, z0, z1, y0, y1, x0, x1, Int.toNat_natCast, ↓reduceIte, true_implies, false_implies]
      refine CallF.step ((hf (gt l kk) (gt l e) m' (z.old o)).mono ?_)
      rintro w m2 ⟨rfl, o2⟩
      cases hl : lt (gt l kk) (gt l e) with
      | true =>
        rw [if_pos ⟨hin, hl⟩] at step
        simp (decide := true) (implicitDefEqProofs := false) (maxDischargeDepth := 20) only [go_sem, pV, a0, a13, a14, e15, e3, w1, ↓reduceIte, true_implies, false_implies]
        exact ⟨2 - (k + 1), by omega, k + 1, by omega, rfl, rfl, by rw [step], o.trans o2⟩
      | false =>
        rw [if_neg (fun h => by rw [hl] at h; cases h.2)] at step
        simp (decide := true) (implicitDefEqProofs := false) (maxDischargeDepth := 20) only [go_sem, pV, a0, a13, a14, e15, e3, w1, ↓reduceIte, true_implies, false_implies]
        exact ⟨2 - (k + 1), by omega, k + 1, by omega, rfl, rfl, by rw [step], o.trans o2⟩
    · have d2 : decide (((2 * i + 1 + k : Nat) : Int) < (l.length : Int)) = false := by rw [decide_eq_false_iff_not]; omega
      rw [if_neg (fun h => hin h.1)] at step
      generalize 2 * i + 1 + k = kk at *
      simp (decide := true) (implicitDefEqProofs := false) (maxDischargeDepth := 20) only [go_sem, pV, a0, a13, a14, e15, e3, d1, d2, w1, nilOk, r0, r1, rq, z0, z1, Int.toNat_natCast, ↓reduceIte, true_implies, false_implies]
      exact ⟨2 - (k + 1), by omega, k + 1, by omega, rfl, rfl, by rw [step], o⟩
  · have hk2 : k = 2 := by omega
    subst hk2
    have d1 : decide (((2 : Nat) : Int) < 2) = false := by decide
    simp (decide := true) (implicitDefEqProofs := false) (maxDischargeDepth := 20) only [go_sem, pV, a0, a13, a14, e15, e3, d1, ↓reduceIte, true_implies, false_implies]
    exact ⟨rfl, o⟩

set_option maxRecDepth 100000 in
set_option maxHeartbeats 4000000 in
theorem SinkP_at {Z : Nat → Option Blk} {m : Mem} {h c b : Nat} {fv : Value} {lt : Int × Int → Int × Int → Bool} {s : Option Nat} {tg : Bool} {l rest : List (Int × Int)} (H : HeapBP m h fv l.length c b s tg (l ++ rest)) (hf : LessP Z fv lt) (z : Frozen Z m) (hz : Z h = none ∧ Z b = none) (hn : l.length ≤ 1000000) :
    CallQ E F_heap_Heap_runs_Item_string_sink [ptr h].toArray m fun _ m' => HeapBP m' h fv l.length c b s tg (downL lt l.length l 0 ++ rest) ∧ ChgS (fun i => i = h ∨ i = b) m m' := by
  refine .enter fn_heap_Heap_runs_Item_string_sink (by simp) ?_
  obtain ⟨R, hR⟩ : ∃ R, R = downL lt l.length l 0 := ⟨_, rfl⟩
  rw [← hR]
  simp (decide := true) (implicitDefEqProofs := false) (maxDischargeDepth := 20) only [go_sem, ↓reduceIte, true_implies, false_implies]
  simp only [c_heap_Heap_runs_Item_string_sink_19_at, wpM_block, c_heap_Heap_runs_Item_string_sink_18_at]
  refine wpM_loopA (fun j t' m' => ∃ i l' k, j = l.length - i ∧ i ≤ l.length ∧ l.length ≤ i + k ∧ l'.length = l.length ∧ t' 2 = .int .i64 (i : Nat) ∧ HeapBP m' h fv l.length c b s tg (l' ++ rest) ∧ downL lt k l' i = R ∧ ChgS (fun i => i = h ∨ i = b) m m' ∧ Frozen Z m') l.length
    ⟨0, l, l.length, rfl, by omega, by omega, rfl, by simp (decide := true) only [go_sem, ↓reduceIte]; try rfl, H, hR.symm, .refl _ _, z⟩ ?_
  rintro j t' m' ha ⟨i, l', k, rfl, hi, hik, hl', e2, H', hdn, hc, z'⟩
  have a0 := ha 0 (by decide +kernel)
  simp (decide := true) only [go_sem, ↓reduceIte] at a0
  have hcap := H'.cap
  rw [List.length_append] at hcap
  have w1 : IntKind.wrap .i64 (IntKind.wrap .i64 (2 * (i : Int)) + 1) = ((2 * i + 1 : Nat) : Int) := by rw [wrap_i64_id (2 * (i : Int)) (by omega) (by omega), wrap_i64_id _ (by omega) (by omega)]; omega
  have w2 : IntKind.wrap .i64 (IntKind.wrap .i64 (2 * (i : Int)) + 2) = ((2 * i + 2 : Nat) : Int) := by rw [wrap_i64_id (2 * (i : Int)) (by omega) (by omega), wrap_i64_id _ (by omega) (by omega)]; omega
  simp (decide := true) (implicitDefEqProofs := false) (maxDischargeDepth := 20) only [go_sem, a0, e2, w1, w2, ↓reduceIte, true_implies, false_implies]
  have om : Old m' (m'.push (.cells false true [vI ((2 * i + 1 : Nat) : Int), vI ((2 * i + 2 : Nat) : Int)])) := .push (.refl _) _
  have hq : (m'.push (.cells false true [vI ((2 * i + 1 : Nat) : Int), vI ((2 * i + 2 : Nat) : Int)])).get m'.size = some (.cells false true [vI ((2 * i + 1 : Nat) : Int), vI ((2 * i + 2 : Nat) : Int)]) := by rw [getM_push, if_pos rfl]
  have H0 := H'.old om
  rw [← hl'] at H0
  refine SinkP_two (tq := true) H0 hf (z'.old om) (by omega) i (by omega) hq (by simp (decide := true) only [go_sem, a0, ↓reduceIte]) (by simp (decide := true) only [go_sem, ↓reduceIte]) (by simp (decide := true) only [go_sem, ↓reduceIte]) (by simp (decide := true) only [go_sem, ↓reduceIte]; try rfl) (by simp (decide := true) only [go_sem, ↓reduceIte]) fun t2 m2 hag e3 o2 => ?_
  have b0 := hag 0 (by decide +kernel)
  have b2 := hag 2 (by decide +kernel)
  simp (decide := true) only [go_sem, a0, e2, ↓reduceIte] at b0 b2
  have o12 := om.trans o2
  have H2 := H'.old o12
  have z2 := z'.old o12
  have hc2 : ChgS (fun i => i = h ∨ i = b) m m2 := hc.trans (o12.chg none') (fun _ h => h) (fun _ _ h => h.elim)
  by_cases he : leastL lt l' i = i
  · have d1 : (((leastL lt l' i : Nat) : Int) == (i : Int)) = true := by rw [he]; simp
    have hR2 : l' = R := by
      rw [← hdn]
      cases k with
      | zero => rfl
      | succ k => simp only [downL]; rw [if_pos he]
    simp (decide := true) (implicitDefEqProofs := false) (maxDischargeDepth := 20) only [go_sem, b0, b2, e3, d1, ↓reduceIte, true_implies, false_implies]
    rw [← hR2]
    exact ⟨H2, hc2⟩
  · have d1 : (((leastL lt l' i : Nat) : Int) == (i : Int)) = false := by rw [beq_eq_false_iff_ne]; omega
    have hbd := leastL_bd (lt := lt) l' i
    obtain ⟨k, rfl⟩ : ∃ k', k = k' + 1 := ⟨k - 1, by omega⟩
    simp only [downL] at hdn
    rw [if_neg he] at hdn
    generalize leastL lt l' i = p at *
    have hip : i < l'.length := by omega
    have hpl : p < l'.length := by omega
    have r1 := H2.at1
    have ri := H2.row (i := i) (by rw [List.length_append]; omega)
    have rp := H2.row (i := p) (by rw [List.length_append]; omega)
    rw [gt_leftP _ _ (by omega)] at ri rp
    have gb := H2.blk
    have lb := getM_lt gb
    have z0 : (0 : Int) ≤ (i : Int) := by omega
    have z1 : (i : Int) < (l.length : Int) := by omega
    have y0 : (0 : Int) ≤ (p : Int) := by omega
    have y1 : (p : Int) < (l.length : Int) := by omega
    have lj : i * 2 + 2 ≤ (l' ++ rest).length * 2 := by rw [List.length_append]; omega
    have lp : p * 2 + 2 ≤ (l' ++ rest).length * 2 := by rw [List.length_append]; omega
    simp (decide := true) (implicitDefEqProofs := false) (maxDischargeDepth := 20) only [go_sem, b0, b2, e3, d1, nilOk, r1, ri, rp, z0, z1, y0, y1, gb, lb, lj, lp, pC_len, Int.toNat_natCast, ↓reduceIte, true_implies, false_implies]
    rw [pC_swp l' rest hip hpl]
    have hB := H2.put2 (swp l' i p ++ rest) (by simp [swp_length]) (((pC (l' ++ rest)).set (i * 2) (vI (gt l' p).1)).set (i * 2 + 1) (sv (gt l' p).2))
    exact ⟨l.length - p, by omega, p, swp l' i p, k, rfl, by omega, by omega, by rw [swp_length, hl'], rfl, hB, hdn, (hc2.put _ _ (.inl (.inr rfl))).put _ _ (.inl (.inr rfl)), (z2.put hz.2 _).put hz.2 _⟩
end Go.Proofs.Ythlcbacmbcmgfaa.W
