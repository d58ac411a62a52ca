/-
  A heap of ints in memory: Push.
-/
import Derived.Test.YthlcbacmbcmgfaaHeapA
namespace Go.Proofs.Ythlcbacmbcmgfaa.W
open Go.Abs
set_option linter.unusedSimpArgs false
set_option linter.unusedVariables false

theorem HeapB.at1 {m : Mem} {h : Nat} {fv : Value} {n c b : Nat} {s : Option Nat} {tg : Bool} {L : List Int} (H : HeapB m h fv n c b s tg L) : m.at h 1 = some (.slice (some ⟨b, 0, s⟩) n c) := by unfold Mem.at; rw [H.obj]; rfl
theorem HeapB.at0 {m : Mem} {h : Nat} {fv : Value} {n c b : Nat} {s : Option Nat} {tg : Bool} {L : List Int} (H : HeapB m h fv n c b s tg L) : m.at h 0 = some fv := by unfold Mem.at; rw [H.obj]; rfl
theorem HeapB.el {m : Mem} {h : Nat} {fv : Value} {n c b : Nat} {s : Option Nat} {tg : Bool} {L : List Int} (H : HeapB m h fv n c b s tg L) {i : Nat} (hi : i < L.length) : m.at b i = some (vI (gt L i)) := by
  unfold Mem.at
  rw [H.blk, gt_getElem L hi]
  simp [Blk.at, hi]
theorem HeapB.old {m m' : Mem} {h : Nat} {fv : Value} {n c b : Nat} {s : Option Nat} {tg : Bool} {L : List Int} (H : HeapB m h fv n c b s tg L) (o : Old m m') : HeapB m' h fv n c b s tg L := H.keep (o.get (getM_lt H.obj)) (o.get (getM_lt H.blk))

theorem gt_left (l r : List Int) {i : Nat} (h : i < l.length) : gt (l ++ r) i = gt l i := by
  unfold gt
  simp only [List.getD_eq_getElem?_getD, List.getElem?_append_left h]
theorem swp_left (l r : List Int) {i j : Nat} (hi : i < l.length) (hj : j < l.length) : swp (l ++ r) i j = swp l i j ++ r := by
  unfold swp
  rw [gt_left l r hi, gt_left l r hj, List.set_append_left _ _ hi, List.set_append_left _ _ (by simp; omega)]

theorem map_swp (l rest : List Int) {i j : Nat} (hi : i < l.length) (hj : j < l.length) : (((l ++ rest).map vI).set i (vI (gt l j))).set j (vI (gt l i)) = (swp l i j ++ rest).map vI := by
  rw [← swp_left l rest hi hj]
  unfold swp
  rw [gt_left l rest hi, gt_left l rest hj, List.map_set, List.map_set]
theorem HeapB.put2 {m : Mem} {h : Nat} {fv : Value} {n c b : Nat} {s : Option Nat} {tg : Bool} {L : List Int} (H : HeapB m h fv n c b s tg L) (L2 : List Int) (hl : L2.length = L.length) (X : List Value) :
    HeapB ((m.put b (some (.cells false tg X))).put b (some (.cells false tg (L2.map vI)))) h fv n c b s tg L2 := by
  have lb := getM_lt H.blk
  refine ⟨?_, ?_, H.ne, H.cap.trans hl.symm, H.le, H.loose⟩
  · rw [getM_put, if_neg (fun e => H.ne e.1), getM_put, if_neg (fun e => H.ne e.1)]
    exact H.obj
  · rw [getM_put, if_pos ⟨rfl, by rw [size_put]; exact lb⟩]
set_option maxRecDepth 100000 in
set_option maxHeartbeats 4000000 in
theorem Push_loop {Z : Nat → Option Blk} {m : Mem} {t : Fr} {h c b : Nat} {fv : Value} {lt : Int → Int → Bool} {s : Option Nat} {tg : Bool} {l rest : List Int} (H : HeapB m h fv l.length c b s tg (l ++ rest)) (hf : LessF Z fv lt) (z : Frozen Z m) (hz : Z h = none ∧ Z b = none)
    (hn : l.length ≤ 1000000) (i0 : Nat) (hi0 : i0 < l.length) (t0 : t 0 = ptr h) (t4 : t 4 = .int .i64 (i0 : Nat)) {K : Post3}
    (hK : ∀ x t' m', (x = .normal ∨ x = .ret) → HeapB m' h fv l.length c b s tg (upL lt (i0 + 1) l i0 ++ rest) → ChgS (fun i => i = h ∨ i = b) m m' → K x t' m') :
    wpM E F_heap_Heap_int_Push 74 none c_heap_Heap_int_Push_10 K t m := by
  obtain ⟨R, hR⟩ : ∃ R, R = upL lt (i0 + 1) l i0 := ⟨_, rfl⟩
  rw [← hR] at hK
  simp only [c_heap_Heap_int_Push_10_at, wpM_block, c_heap_Heap_int_Push_9_at]
  refine wpM_loopA (fun j t' m' => ∃ i l' k, j = i ∧ i < l.length ∧ i < k ∧ l'.length = l.length ∧ t' 4 = .int .i64 (i : Nat) ∧ HeapB m' h fv l.length c b s tg (l' ++ rest) ∧ upL lt k l' i = R ∧ ChgS (fun i => i = h ∨ i = b) m m' ∧ Frozen Z m') i0 ⟨i0, l, i0 + 1, rfl, hi0, by omega, rfl, t4, H, hR.symm, .refl _ _, z⟩ ?_
  rintro j t' m' ha ⟨i, l', k, rfl, hi, hik, hl', e4, H', hup, hc, z'⟩
  have a0 := (ha 0 (by decide +kernel)).trans t0
  have hcap := H'.cap
  rw [List.length_append] at hcap
  have le := H'.le
  obtain ⟨k, rfl⟩ : ∃ k', k = k' + 1 := ⟨k - 1, by omega⟩
  by_cases h0 : j = 0
  · subst h0
    have d1 : decide (((0 : Nat) : Int) > 0) = false := by decide
    simp only [upL, if_true] at hup
    simp (decide := true) (implicitDefEqProofs := false) (maxDischargeDepth := 20) only [go_sem, a0, e4, d1, ↓reduceIte, true_implies, false_implies]
    refine hK _ _ _ (.inl rfl) ?_ hc
    rw [← hup]
    exact H'
  · have d1 : decide ((j : Int) > 0) = true := by simp; omega
    have w1 : IntKind.wrap .i64 (Int.tdiv (IntKind.wrap .i64 ((j : Int) - 1)) 2) = (((j - 1) / 2 : Nat) : Int) := by
      have e1 : IntKind.wrap .i64 ((j : Int) - 1) = ((j - 1 : Nat) : Int) := by rw [wrap_i64_id _ (by omega) (by omega)]; omega
      rw [e1, Int.tdiv_eq_ediv_of_nonneg (by omega), wrap_i64_id _ (by omega) (by omega)]
      omega
    simp only [upL, if_neg h0] at hup
    obtain ⟨p, hp⟩ : ∃ p, p = (j - 1) / 2 := ⟨_, rfl⟩
    rw [← hp] at w1 hup
    have r1 := H'.at1
    have r0 := H'.at0
    have rj := H'.el (i := j) (by rw [List.length_append]; omega)
    have rp := H'.el (i := p) (by rw [List.length_append]; omega)
    rw [gt_left _ _ (by omega)] at rj rp
    have z0 : (0 : Int) ≤ (j : Int) := by omega
    have z1 : (j : Int) < (l.length : Int) := by omega
    have z2 : (0 : Int) ≤ (p : Int) := by omega
    have z3 : (p : Int) < (l.length : Int) := by omega
    simp (decide := true) (implicitDefEqProofs := false) (maxDischargeDepth := 20) only [go_sem, a0, e4, d1, w1, nilOk, r0, r1, rj, rp, z0, z1, z2, z3, Int.toNat_natCast, ↓reduceIte, true_implies, false_implies]
    refine CallF.step ((hf (gt l' j) (gt l' p) m' z').mono ?_)
    rintro w m2 ⟨rfl, o2⟩
    have H2 := H'.old o2
    have z2' := z'.old o2
    have hc2 : ChgS (fun i => i = h ∨ i = b) m m2 := hc.trans (o2.chg none') (fun _ h => h) (fun _ _ h => h.elim)
    cases hlt : lt (gt l' j) (gt l' p) with
    | false =>
      rw [hlt] at hup
      simp (decide := true) (implicitDefEqProofs := false) (maxDischargeDepth := 20) only [go_sem, ↓reduceIte, true_implies, false_implies]
      refine hK _ _ _ (.inr rfl) ?_ hc2
      simp only [Bool.false_eq_true, if_false] at hup
      rw [← hup]
      exact H2
    | true =>
      rw [hlt] at hup
      simp only [if_true] at hup
      have r1 := H2.at1
      have r0 := H2.at0
      have rj := H2.el (i := j) (by rw [List.length_append]; omega)
      have rp := H2.el (i := p) (by rw [List.length_append]; omega)
      rw [gt_left _ _ (by omega)] at rj rp
      have gb := H2.blk
      have lb := getM_lt gb
      have lj : j + 1 ≤ (l' ++ rest).length := by rw [List.length_append]; omega
      have lp : p + 1 ≤ (l' ++ rest).length := by rw [List.length_append]; omega
      simp (decide := true) (implicitDefEqProofs := false) (maxDischargeDepth := 20) only [go_sem, a0, e4, nilOk, r0, r1, rj, rp, z0, z1, z2, z3, gb, lb, lj, lp, List.length_map, Int.toNat_natCast, ↓reduceIte, true_implies, false_implies]
      have hj : j < l'.length := by omega
      have hpl : p < l'.length := by omega
      rw [map_swp l' rest hj hpl]
      have hB := H2.put2 (swp l' j p ++ rest) (by simp [swp_length]) ((l' ++ rest).map vI |>.set j (vI (gt l' p)))
      refine ⟨p, by omega, p, swp l' j p, k, rfl, by omega, by omega, by rw [swp_length, hl'], rfl, hB, hup, (hc2.put _ _ (.inl (.inr rfl))).put _ _ (.inl (.inr rfl)), ?_⟩
      exact (z2'.put hz.2 _).put hz.2 _

set_option maxRecDepth 100000 in
/-- append to the heap's list. -/
theorem heap_append {m : Mem} {h : Nat} {fv : Value} {l : List Int} {A : Set'} (H : HeapAt m h fv l A) (x : Int) (hn : l.length ≤ 1000000) {a : Option Addr} {c : Nat} (hs : m.at h 1 = some (.slice a l.length c)) {st xt : TypeId} (ht : isSl E st 1 = true) (ht' : isSl E xt 1 = true) {K : Value → Mem → Prop}
    (hK : ∀ m' c' b s tg rest, m'.get h = m.get h → m'.get b = some (.cells false tg ((l ++ [x] ++ rest).map vI)) → looseOk ⟨b, 0, s⟩ 1 = true → h ≠ b → c' = l.length + 1 + rest.length → m.size ≤ m'.size → (∀ i, i < m.size → ¬ A i → m'.get i = m.get i) → (A b ∨ m.size ≤ b) →
      K (.slice (some ⟨b, 0, s⟩) (l.length + 1) c') m') :
    StepQ E (val2? (appendV E (m.push (.cells false true [vI x])) st xt (.slice a l.length c) (.slice (some ⟨m.size, 0, none⟩) 1 1))) K := by
  have S1 : SlA (m.push (.cells false true [vI x])) 1 (some ⟨m.size, 0, none⟩) 1 1 [vI x] := SlA.new (by rw [getM_push, if_pos rfl]) (by simp) rfl
  have hx := S1.appended' ht' (by decide)
  rcases H with ⟨h1, rfl, h3⟩ | ⟨c0, b, s, tg, rest, H, hA⟩
  · have : m.at h 1 = some (.slice none 0 0) := by unfold Mem.at; rw [h1]; rfl
    rw [this] at hs
    cases hs
    have hl := getM_lt h1
    refine append_new (n := 0) (c := 0) (xs := []) (a := none) (.empty 1) (by omega) ⟨fun _ e => by cases e⟩ hx (by simp) ht rfl (by omega) fun m' z g u _ => ?_
    rw [size_push] at z g u ⊢
    refine hK m' 1 _ _ _ [] ?_ g (by simp [looseOk]) (by omega) rfl (by omega) (fun i hi _ => ?_) (.inr (by omega))
    · rw [u h (by omega) (fun _ e => by cases e), getM_push, if_neg (by omega)]
    · rw [u i (by omega) (fun _ e => by cases e), getM_push, if_neg (by omega)]
  · rw [H.at1] at hs
    cases hs
    have hl := getM_lt H.obj
    have hbl := getM_lt H.blk
    have hcap := H.cap
    rw [List.length_append] at hcap
    have gb : (m.push (.cells false true [vI x])).get b = some (.cells false tg ((l ++ rest).map vI)) := by rw [getM_push, if_neg (by omega)]; exact H.blk
    cases rest with
    | nil =>
      have SL : SlA (m.push (.cells false true [vI x])) 1 (some ⟨b, 0, s⟩) l.length c (l.map vI) := by
        have := SlA.new (sz := 1) (n := l.length) (s := s) gb (by simp) H.loose
        simp only [List.append_nil] at this
        have e : c = l.length := by simpa using hcap
        rw [e]
        exact this
      refine append_new SL (by simp at hcap; omega) ⟨fun q hq => by cases hq; exact ⟨false, tg, _, gb, .inr rfl, by simp⟩⟩ hx (by simp) ht rfl (by omega) fun m' z g u _ => ?_
      rw [size_push] at z g u ⊢
      refine hK m' (l.length + 1) _ _ _ [] ?_ (by simpa using g) (by simp [looseOk]) (by omega) (by simp) (by omega) (fun i hi hna => ?_) (.inr (by omega))
      · rw [u h (by omega) (fun q hq => by cases hq; exact H.ne), getM_push, if_neg (by omega)]
      · rw [u i (by omega) (fun q hq e => by cases hq; exact hna ((hA i).2 (.inr e))), getM_push, if_neg (by omega)]
    | cons y rest =>
      refine append_in (sz := 1) (o := 0) (k := 1) H.loose gb (by simp at hcap; omega) hx (by simp) ht rfl (by simp) fun m' u z g => ?_
      have e1 : List.take (0 + l.length * 1) ((l ++ y :: rest).map vI) = l.map vI := by
        rw [List.map_append, List.take_append_of_le_length (by simp), List.take_of_length_le (by simp)]
      have e2 : List.drop (0 + l.length * 1 + [vI x].length) ((l ++ y :: rest).map vI) = rest.map vI := by
        rw [List.map_append, List.map_cons, List.drop_append]
        simp
      rw [e1, e2] at g
      refine hK m' c b s tg rest ?_ (by rw [g]; simp) H.loose H.ne (by simp at hcap; omega) (by rw [z, size_push]; omega) (fun i hi hna => ?_) (.inl ((hA b).2 (.inr rfl)))
      · rw [u.get h (by rw [size_push]; omega) H.ne, getM_push, if_neg (by omega)]
      · rw [u.get i (by rw [size_push]; omega) (fun e => hna ((hA i).2 (.inr e))), getM_push, if_neg (by omega)]

theorem HeapAt.slice {m : Mem} {h : Nat} {fv : Value} {l : List Int} {A : Set'} (H : HeapAt m h fv l A) : (∃ a c, m.get h = some (.cells false true [fv, .slice a l.length c])) ∧ A h := by
  rcases H with ⟨h1, rfl, h3⟩ | ⟨c, b, s, tg, rest, H, hA⟩
  · exact ⟨⟨none, 0, h1⟩, (h3 h).2 rfl⟩
  · exact ⟨⟨_, _, H.obj⟩, (hA h).2 (.inl rfl)⟩

set_option maxRecDepth 100000 in
set_option maxHeartbeats 4000000 in
theorem Push_at {Z : Nat → Option Blk} {m : Mem} {h : Nat} {fv : Value} {lt : Int → Int → Bool} {l : List Int} {A : Set'} (H : HeapAt m h fv l A) (hf : LessF Z fv lt) (z : Frozen Z m) (hz : ∀ i, A i → Z i = none) (hn : l.length ≤ 1000) (x : Int) :
    CallQ E F_heap_Heap_int_Push [ptr h, vI x].toArray m fun _ m' => ∃ A', HeapAt m' h fv (pushL lt l x) A' ∧ Trs A m m' A' := by
  obtain ⟨⟨a, c, g⟩, hAh⟩ := H.slice
  have r : m.at h (0 + 1) = some (.slice a l.length c) := by unfold Mem.at; rw [g]; rfl
  refine .enter fn_heap_Heap_int_Push (by simp) ?_
  simp (decide := true) (implicitDefEqProofs := false) (maxDischargeDepth := 20) only [go_sem, nilOk, r, ↓reduceIte, true_implies, false_implies]
  refine heap_append H x (by omega) r (by decide +kernel) (by decide +kernel) fun m1 c1 b s tg rest k1 k2 k3 k4 k5 k6 k7 k8 => ?_
  have g1 : m1.get h = some (.cells false true [fv, .slice a l.length c]) := k1.trans g
  have hh1 := getM_lt g1
  have hb1 := getM_lt k2
  have w1 : IntKind.wrap .i64 (((l.length + 1 : Nat) : Int) - 1) = ((l.length : Nat) : Int) := by rw [wrap_i64_id _ (by omega) (by omega)]; omega
  have hl1 : (l ++ [x]).length = l.length + 1 := by simp
  have H0 : HeapB (m1.put h (some (.cells false true [fv, .slice (some ⟨b, 0, s⟩) (l.length + 1) c1]))) h fv (l ++ [x]).length c1 b s tg ((l ++ [x]) ++ rest) := by
    refine ⟨?_, ?_, k4, by simp; omega, by rw [hl1]; omega, k3⟩
    · rw [getM_put, if_pos ⟨rfl, hh1⟩, hl1]
    · rw [getM_put, if_neg (fun e => k4 e.1.symm)]; exact k2
  simp (decide := true) (implicitDefEqProofs := false) (maxDischargeDepth := 20) only [go_sem, nilOk, g1, hh1, w1, ↓reduceIte, true_implies, false_implies]
  have zb : Z h = none ∧ Z b = none := ⟨hz h hAh, k8.elim (hz b) z.free⟩
  have c1' : ChgS A m (m1.put h (some (.cells false true [fv, .slice (some ⟨b, 0, s⟩) (l.length + 1) c1]))) := ChgS.put ⟨k6, k7⟩ _ _ (.inl hAh)
  refine Push_loop H0 hf (z.chg c1' hz) zb (by omega) l.length (by omega) (by simp (decide := true) only [go_sem, ↓reduceIte]) (by simp (decide := true) only [go_sem, w1, ↓reduceIte]) fun xx t' m' hx H' hc => ?_
  have res : ∃ A', HeapAt m' h fv (pushL lt l x) A' ∧ Trs A m m' A' := by
    refine ⟨fun i => i = h ∨ i = b, .inr ⟨c1, b, s, tg, rest, ?_, fun _ => Iff.rfl⟩, ⟨⟨by have := c1'.size; have := hc.size; omega, fun i hi hna => ?_⟩, fun i hi => ?_⟩⟩
    · rw [pushL_length, ← hl1]
      unfold pushL
      exact H'
    · rw [hc.get i (by have := c1'.size; omega) (by
        rintro (rfl | rfl)
        · exact hna hAh
        · exact k8.elim hna fun e => by omega), c1'.get i hi hna]
    · rcases hi with rfl | rfl
      · exact ⟨getM_lt H'.obj, .inl hAh⟩
      · exact ⟨getM_lt H'.blk, k8⟩
  rcases hx with rfl | rfl <;> exact res
end Go.Proofs.Ythlcbacmbcmgfaa.W
