/-
  HeapOrder, the law.
-/
import Derived.Test.YthlcbacmbcmgfaaHeapD
import Derived.Test.YthlcbacmbcmgfaaBook
import Derived.Test.YthlcbacmbcmgfaaCodeLaw
namespace Go.Proofs.Ythlcbacmbcmgfaa.W
open Go.Abs
set_option linter.unusedSimpArgs false
set_option linter.unusedVariables false

abbrev lessV : Value := .func (.func F_sheaflaw8_less) #[] #[]
abbrev ltI (a b : Int) : Bool := decide (a < b)
def noZ : Nat → Option Blk := fun _ => none
theorem noZ_frozen (m : Mem) : Frozen noZ m := fun _ _ h => by cases h

theorem less_ok : LessF noZ lessV ltI := by
  intro a b m _
  rw [CallF_func]
  refine ⟨some14, ?_⟩
  have e : (#[] ++ [vI a, vI b].toArray ++ #[] : Array Value) = [vI a, vI b].toArray := by simp
  rw [e]
  refine .enter fn_sheaflaw8_less (by simp) ?_
  simp (decide := true) (implicitDefEqProofs := false) (maxDischargeDepth := 20) only [go_sem, ↓reduceIte, true_implies, false_implies]

theorem ltI_ord : Ord ltI := ⟨fun a b h => by simp at h ⊢; omega, fun a b c h k => by simp at h k ⊢; omega⟩

/-- Of heaps with the same in them the least is the same. -/
theorem heap_same {l r : List Int} (hl : IsHeap ltI l) (hr : IsHeap ltI r) (h : l.Perm r) (hn : l ≠ []) : gt l 0 = gt r 0 := by
  have hp := List.length_pos_iff.2 hn
  have hpr : 0 < r.length := by rw [← h.length_eq]; exact hp
  have m1 : gt l 0 ∈ r := h.subset (by rw [gt_getElem l hp]; exact List.getElem_mem _)
  have m2 : gt r 0 ∈ l := h.symm.subset (by rw [gt_getElem r hpr]; exact List.getElem_mem _)
  obtain ⟨i, hi, ei⟩ := gt_mem r m1
  obtain ⟨j, hj, ej⟩ := gt_mem l m2
  have h1 := heap_top ltI_ord r hr i hi
  have h2 := heap_top ltI_ord l hl j hj
  rw [ei] at h1
  rw [ej] at h2
  simp only [decide_eq_false_iff_not] at h1 h2
  omega
theorem popL_same {l r : List Int} (hl : IsHeap ltI l) (hr : IsHeap ltI r) (h : l.Perm r) (hn : l ≠ []) : (popL ltI l).Perm (popL ltI r) := by
  have hr0 : r ≠ [] := by rintro rfl; exact hn (List.perm_nil.1 h)
  have h1 := (popL_perm (lt := ltI) l hn).trans (h.trans (popL_perm (lt := ltI) r hr0).symm)
  rw [heap_same hl hr h hn] at h1
  exact (List.perm_cons _).1 h1

/-- Turned round. -/
def turnL (xs : List Int) (k : Nat) : List Int := (List.range xs.length).map fun i => xs.getD ((i + k) % xs.length) 0
theorem turnL_perm (xs : List Int) (k : Nat) (hk : k ≤ xs.length) : (turnL xs k).Perm xs := by
  have e : turnL xs k = xs.drop k ++ xs.take k := by
    apply List.ext_getElem?
    intro i
    unfold turnL
    by_cases hi : i < xs.length
    · rw [List.getElem?_map, List.getElem?_range hi, Option.map_some]
      by_cases h2 : i + k < xs.length
      · rw [Nat.mod_eq_of_lt h2, List.getElem?_append_left (by simp; omega), List.getElem?_drop, List.getD_eq_getElem?_getD, Nat.add_comm k i, List.getElem?_eq_getElem h2]
        rfl
      · have e2 : (i + k) % xs.length = i + k - xs.length := by
          rw [Nat.mod_eq_sub_mod (by omega), Nat.mod_eq_of_lt (by omega)]
        have hq : i + k - xs.length < xs.length := by omega
        rw [e2, List.getElem?_append_right (by simp; omega), List.length_drop, List.getElem?_take, if_pos (by omega), show i - (xs.length - k) = i + k - xs.length by omega, List.getD_eq_getElem?_getD, List.getElem?_eq_getElem hq]
        rfl
    · rw [List.getElem?_eq_none (by simp; omega), List.getElem?_eq_none (by simp; omega)]
  rw [e]
  exact List.perm_append_comm.trans (by rw [List.take_append_drop])

/-- Two heaps apart. -/
structure Two (m0 m : Mem) (ha hb : Nat) (la lb : List Int) (Aa Ab : Set') : Prop where
  a : HeapAt m ha lessV la Aa
  b : HeapAt m hb lessV lb Ab
  dis : ∀ i, Aa i → ¬ Ab i
  na : ∀ i, Aa i → m0.size ≤ i
  nb : ∀ i, Ab i → m0.size ≤ i
  old : Old m0 m
theorem Two.stepA {m0 m m' : Mem} {ha hb : Nat} {la la' lb : List Int} {Aa Aa' Ab : Set'} (T : Two m0 m ha hb la lb Aa Ab) (H : HeapAt m' ha lessV la' Aa') (t : Trs Aa m m' Aa') : Two m0 m' ha hb la' lb Aa' Ab where
  a := H
  b := HeapAt.loc hb lessV lb m m' Ab T.b (fun i hi => t.c.get i (T.b.lt i hi) fun e => T.dis i e hi) t.c.size
  dis := fun i h1 h2 => (t.n i h1).2.elim (fun e => T.dis i e h2) fun e => by have := T.b.lt i h2; omega
  na := fun i h1 => (t.n i h1).2.elim (T.na i) fun e => Nat.le_trans T.old.size e
  nb := T.nb
  old := .of_get (Nat.le_trans T.old.size t.c.size) fun i hi => (t.c.get i (Nat.lt_of_lt_of_le hi T.old.size) fun e => by have := T.na i e; omega).trans (T.old.get hi)
theorem Two.stepB {m0 m m' : Mem} {ha hb : Nat} {la lb lb' : List Int} {Aa Ab Ab' : Set'} (T : Two m0 m ha hb la lb Aa Ab) (H : HeapAt m' hb lessV lb' Ab') (t : Trs Ab m m' Ab') : Two m0 m' ha hb la lb' Aa Ab' where
  b := H
  a := HeapAt.loc ha lessV la m m' Aa T.a (fun i hi => t.c.get i (T.a.lt i hi) fun e => T.dis i hi e) t.c.size
  dis := fun i h1 h2 => (t.n i h2).2.elim (fun e => T.dis i h1 e) fun e => by have := T.a.lt i h1; omega
  nb := fun i h1 => (t.n i h1).2.elim (T.nb i) fun e => Nat.le_trans T.old.size e
  na := T.na
  old := .of_get (Nat.le_trans T.old.size t.c.size) fun i hi => (t.c.get i (Nat.lt_of_lt_of_le hi T.old.size) fun e => by have := T.nb i e; omega).trans (T.old.get hi)
theorem trs_same {m m' : Mem} {A : Set'} (c : ChgS A m m') (h : ∀ i, A i → i < m.size) : Trs A m m' A := ⟨c, fun i hi => ⟨Nat.lt_of_lt_of_le (h i hi) c.size, .inl hi⟩⟩

set_option maxRecDepth 100000 in
set_option maxHeartbeats 8000000 in
theorem HeapOrder_law (m : Mem) (hro : ∀ i c, m.get i = some c → c.writable = false)
    (a0 : Option Addr) (l0 c0 : Nat) (xs0 : List Int) (hs0 : SlA m 1 a0 l0 c0 (xs0.map (.int .i64))) (hl0 : xs0.length = l0) (hx0 : ∀ x ∈ xs0, -9223372036854775808 ≤ x ∧ x < 9223372036854775808)
    (cut : Int) (hc : -9223372036854775808 ≤ cut) (hc' : cut < 9223372036854775808) :
    CallQ E F_sheaflaw8_HeapOrder [.slice a0 l0 c0, .int .i64 cut].toArray m fun v _ => v = .bool true := by
  obtain ⟨n, g0⟩ : ∃ n, n = min l0 40 := ⟨_, rfl⟩
  have m0 : min (l0 : Int) 40 = (n : Int) := by omega
  obtain ⟨s0, X⟩ := hs0.sliceTo (E := E) (k := .i64) (show n ≤ l0 by omega)
  rw [Nat.mul_one, ← List.map_take] at X
  generalize xs0.take n = xs at *
  have lx : xs.length = n := by have := X.len; simpa using this
  have s0' := s0 25 (by decide +kernel)
  refine .enter fn_sheaflaw8_HeapOrder (by simp) ?_
  simp (decide := true) (implicitDefEqProofs := false) (maxDischargeDepth := 20) only [go_sem, ↓reduceIte, true_implies, false_implies]
  refine (New_at).mono ?_
  rintro w m1 ⟨rfl, Ha, o1⟩
  simp (decide := true) (implicitDefEqProofs := false) (maxDischargeDepth := 20) only [go_sem, ↓reduceIte, true_implies, false_implies]
  refine (New_at).mono ?_
  rintro w m2 ⟨rfl, Hb, o2⟩
  have T0 : Two m m2 m.size m1.size [] [] (fun i => i = m.size) (fun i => i = m1.size) :=
    ⟨Ha.old o2, Hb, fun i h1 h2 => by have := Ha.lt i h1; omega, fun i h => by omega, fun i h => by rw [h]; exact o1.size, o1.trans o2⟩
  simp (decide := true) (implicitDefEqProofs := false) (maxDischargeDepth := 20) only [go_sem, m0, s0', ↓reduceIte, true_implies, false_implies]
  refine ((Within_ans cut 0 (n : Int) hc hc' (by omega) (by omega) (by omega) (by omega)) m2).mono ?_
  rintro w m3 ⟨rfl, o3⟩
  have e0 := Int.emod_nonneg cut (show (n : Int) - 0 + 1 ≠ 0 by omega)
  have e1 := Int.emod_lt_of_pos cut (show 0 < (n : Int) - 0 + 1 by omega)
  obtain ⟨k, hk⟩ : ∃ k : Nat, (k : Int) = 0 + cut % ((n : Int) - 0 + 1) := ⟨(0 + cut % ((n : Int) - 0 + 1)).toNat, by omega⟩
  rw [← hk]
  have hkn : k ≤ n := by omega
  have T3 : Two m m3 m.size m1.size [] [] (fun i => i = m.size) (fun i => i = m1.size) := ⟨T0.a.old o3, T0.b.old o3, T0.dis, T0.na, T0.nb, T0.old.trans o3⟩
  simp (decide := true) (implicitDefEqProofs := false) (maxDischargeDepth := 20) only [go_sem, ↓reduceIte, true_implies, false_implies]
  generalize m.size = ha at *
  generalize m1.size = hb at *
  simp only [c_sheaflaw8_HeapOrder_11_at, wpM_block, c_sheaflaw8_HeapOrder_10_at]
  have tl : (turnL xs k).length = n := by simp [turnL, lx]
  refine wpM_loopA (fun j t' m' => ∃ i la lb Aa Ab, i ≤ n ∧ j = n - i ∧ t' 35 = .int .i64 (i : Nat) ∧ Two m m' ha hb la lb Aa Ab ∧ la.Perm (xs.take i) ∧ lb.Perm ((turnL xs k).take i) ∧ IsHeap ltI la ∧ IsHeap ltI lb) n
    ⟨0, [], [], _, _, by omega, rfl, by simp (decide := true) only [go_sem, ↓reduceIte]; try rfl, T3, List.Perm.refl _, List.Perm.refl _, heap_nil, heap_nil⟩ ?_
  rintro j t' m4 hag ⟨i, la, lb, Aa, Ab, hi, rfl, e35, T, pa, pb, ia, ib⟩
  have a5 := hag 5 (by decide +kernel)
  have a6 := hag 6 (by decide +kernel)
  have a7 := hag 7 (by decide +kernel)
  have a8 := hag 8 (by decide +kernel)
  have a34 := hag 34 (by decide +kernel)
  simp (decide := true) only [go_sem, ↓reduceIte] at a5 a6 a7 a8 a34
  have lla : la.length = i := by rw [pa.length_eq, List.length_take]; omega
  have llb : lb.length = i := by rw [pb.length_eq, List.length_take]; omega
  by_cases hlt : i < n
  · have d1 : decide ((i : Int) < (n : Int)) = true := by simp; omega
    have w1 : IntKind.wrap .i64 ((i : Int) + 1) = ((i + 1 : Nat) : Int) := by rw [wrap_i64_id _ (by omega) (by omega)]; omega
    have hmod : (i + k) % n < n := Nat.mod_lt _ (by omega)
    have w2 : Int.tmod (IntKind.wrap .i64 ((i : Int) + (k : Int))) (n : Int) = (((i + k) % n : Nat) : Int) := by
      rw [wrap_i64_id _ (by omega) (by omega), Int.tmod_eq_emod_of_nonneg (by omega)]
      rfl
    have n0 : ¬ (n : Int) = 0 := by omega
    have z0 : (0 : Int) ≤ (i : Int) := by omega
    have z1 : (i : Int) < (n : Int) := by omega
    have z2 : (0 : Int) ≤ (((i + k) % n : Nat) : Int) := by omega
    have z3 : (((i + k) % n : Nat) : Int) < (n : Int) := by omega
    obtain ⟨xb, xo, xsp, rfl⟩ := X.addr (by omega)
    have r1 := (X.old T.old).at_map hlt
    have tk1 : xs.take (i + 1) = xs.take i ++ [xs[i]'(by omega)] := List.take_succ_eq_append_getElem (by omega)
    have tk2 : (turnL xs k).take (i + 1) = (turnL xs k).take i ++ [xs[(i + k) % n]'(by omega)] := by
      rw [List.take_succ_eq_append_getElem (by omega)]
      congr 2
      simp only [turnL, List.getElem_map, List.getElem_range, List.getD_eq_getElem?_getD, lx, List.getElem?_eq_getElem (show (i + k) % n < xs.length by omega), Option.getD_some]
    simp (decide := true) (implicitDefEqProofs := false) (maxDischargeDepth := 20) only [go_sem, a5, a6, a7, a8, a34, e35, d1, z0, z1, r1, Int.toNat_natCast, ↓reduceIte, true_implies, false_implies]
    refine (Push_at T.a less_ok (noZ_frozen _) (fun _ _ => rfl) (by omega) _).mono ?_
    rintro w m5 ⟨Aa', Ha5, t5⟩
    have T5 := T.stepA Ha5 t5
    have r2 := (X.old T5.old).at_map hmod
    simp (decide := true) (implicitDefEqProofs := false) (maxDischargeDepth := 20) only [go_sem, a5, a6, a7, a8, a34, e35, w2, n0, z2, z3, r2, Int.toNat_natCast, ↓reduceIte, true_implies, false_implies]
    refine (Push_at T5.b less_ok (noZ_frozen _) (fun _ _ => rfl) (by omega) _).mono ?_
    rintro w m6 ⟨Ab', Hb6, t6⟩
    have T6 := T5.stepB Hb6 t6
    simp (decide := true) (implicitDefEqProofs := false) (maxDischargeDepth := 20) only [go_sem, a5, a6, a7, a8, a34, e35, w1, ↓reduceIte, true_implies, false_implies]
    refine ⟨n - (i + 1), by omega, i + 1, _, _, _, _, by omega, rfl, rfl, T6, ?_, ?_, pushL_heap ltI_ord _ _ ia, pushL_heap ltI_ord _ _ ib⟩
    · rw [tk1]
      exact (pushL_perm _ _).trans ((pa.cons _).trans (List.perm_append_singleton _ _).symm)
    · rw [tk2]
      exact (pushL_perm _ _).trans ((pb.cons _).trans (List.perm_append_singleton _ _).symm)
  · have d1 : decide ((i : Int) < (n : Int)) = false := by simp; omega
    have hin : i = n := by omega
    subst hin
    rw [← lx, List.take_length] at pa
    rw [← tl, List.take_length] at pb
    have pab : la.Perm lb := pa.trans ((turnL_perm xs k (by omega)).symm.trans pb.symm)
    simp (decide := true) (implicitDefEqProofs := false) (maxDischargeDepth := 20) only [go_sem, a5, a6, a7, a8, a34, e35, d1, ↓reduceIte, true_implies, false_implies]
    simp only [c_sheaflaw8_HeapOrder_25_at, wpM_block, c_sheaflaw8_HeapOrder_24_at]
    refine wpM_loopA (fun j t' m' => ∃ q la lb Aa Ab, q ≤ i ∧ j = i - q ∧ t' 58 = .int .i64 (q : Nat) ∧ Two m m' ha hb la lb Aa Ab ∧ la.length = i - q ∧ la.Perm lb ∧ IsHeap ltI la ∧ IsHeap ltI lb) i
      ⟨0, la, lb, _, _, by omega, rfl, by simp (decide := true) only [go_sem, ↓reduceIte]; try rfl, T, lla, pab, ia, ib⟩ ?_
    clear T pa pb ia ib pab lla llb
    rintro j t2 m5 hag2 ⟨q, la, lb, Aa, Ab, hq, rfl, e58, T, ll, pab, ia, ib⟩
    have b5 := hag2 5 (by decide +kernel)
    have b6 := hag2 6 (by decide +kernel)
    have b57 := hag2 57 (by decide +kernel)
    simp (decide := true) only [go_sem, a5, a6, ↓reduceIte] at b5 b6 b57
    have llb : lb.length = i - q := by rw [← pab.length_eq, ll]
    by_cases hlt2 : q < i
    · have d2 : decide ((q : Int) < (i : Int)) = true := by simp; omega
      have w1 : IntKind.wrap .i64 ((q : Int) + 1) = ((q + 1 : Nat) : Int) := by rw [wrap_i64_id _ (by omega) (by omega)]; omega
      have na : la ≠ [] := by rintro rfl; simp at ll; omega
      have nb : lb ≠ [] := by rintro rfl; simp at llb; omega
      have ea : la.isEmpty = false := by simpa using na
      have eb : lb.isEmpty = false := by simpa using nb
      have es := heap_same ia ib pab na
      simp (decide := true) (implicitDefEqProofs := false) (maxDischargeDepth := 20) only [go_sem, b5, b6, b57, e58, d2, ↓reduceIte, true_implies, false_implies]
      refine (Top_at T.a).mono ?_
      rintro w m6 ⟨rfl, rfl⟩
      simp (decide := true) (implicitDefEqProofs := false) (maxDischargeDepth := 20) only [go_sem, b5, b6, b57, e58, d2, ↓reduceIte, true_implies, false_implies]
      refine (Pop_at T.a less_ok (noZ_frozen _) (fun _ _ => rfl) (by omega)).mono ?_
      rintro w m7 ⟨rfl, Ha7, c7⟩
      have T7 := T.stepA Ha7 (trs_same c7 T.a.lt)
      simp (decide := true) (implicitDefEqProofs := false) (maxDischargeDepth := 20) only [go_sem, b5, b6, b57, e58, d2, ↓reduceIte, true_implies, false_implies]
      refine (Pop_at T7.b less_ok (noZ_frozen _) (fun _ _ => rfl) (by omega)).mono ?_
      rintro w m8 ⟨rfl, Hb8, c8⟩
      have T8 := T7.stepB Hb8 (trs_same c8 T7.b.lt)
      have d3 : (gt la 0 != gt lb 0) = false := by rw [es]; simp
      have d4 : (gt la 0 != gt la 0) = false := by simp
      rw [if_neg na, if_neg nb, ea, eb]
      simp (decide := true) (implicitDefEqProofs := false) (maxDischargeDepth := 20) only [go_sem, b5, b6, b57, e58, d2, d3, d4, w1, na, ea, ↓reduceIte, true_implies, false_implies]
      exact ⟨i - (q + 1), by omega, q + 1, _, _, _, _, by omega, rfl, rfl, T8, by rw [popL_length]; omega, popL_same ia ib pab na, popL_heap ltI_ord _ ia, popL_heap ltI_ord _ ib⟩
    · have d2 : decide ((q : Int) < (i : Int)) = false := by simp; omega
      have e1 : la.length = 0 := by omega
      have e2 : lb.length = 0 := by omega
      have La := Len_at T.a
      have Lb := Len_at T.b
      rw [e1] at La
      rw [e2] at Lb
      simp (decide := true) (implicitDefEqProofs := false) (maxDischargeDepth := 20) only [go_sem, b5, b6, b57, e58, d2, ↓reduceIte, true_implies, false_implies]
      refine La.mono ?_
      rintro w m6 ⟨rfl, rfl⟩
      simp (decide := true) (implicitDefEqProofs := false) (maxDischargeDepth := 20) only [go_sem, b5, b6, ↓reduceIte, true_implies, false_implies]
      refine Lb.mono ?_
      rintro w m7 ⟨rfl, rfl⟩
      simp (decide := true) (implicitDefEqProofs := false) (maxDischargeDepth := 20) only [go_sem, ↓reduceIte, true_implies, false_implies]
end Go.Proofs.Ythlcbacmbcmgfaa.W
