/-
  HeapPlays, the law.
-/
import Derived.Test.YthlcbacmbcmgfaaHeapF
namespace Go.Proofs.Ythlcbacmbcmgfaa.W
open Go.Abs
set_option linter.unusedSimpArgs false
set_option linter.unusedVariables false

/-- Plays under way: what is in the heap is what is in the list. -/
structure PlayS (m0 m : Mem) (h : Nat) (hl ins : List Int) (A : Set') (p : Option Addr) : Prop where
  a : HeapAt m h lessV hl A
  v : Vec m0.size m 1 p ins.length (ins.map vI)
  dis : ∀ x, p = some x → ¬ A x.block
  na : ∀ i, A i → m0.size ≤ i
  old : Old m0 m
  perm : hl.Perm ins
  heap : IsHeap ltI hl

theorem PlayS.keepOld {m0 m m' : Mem} {h : Nat} {hl ins : List Int} {A : Set'} {p : Option Addr} (T : PlayS m0 m h hl ins A p) (o : Old m m') : PlayS m0 m' h hl ins A p :=
  ⟨T.a.old o, T.v.old o, T.dis, T.na, T.old.trans o, T.perm, T.heap⟩
/-- The heap has changed. -/
theorem PlayS.heapStep {m0 m m' : Mem} {h : Nat} {hl hl' ins : List Int} {A A' : Set'} {p : Option Addr} (T : PlayS m0 m h hl ins A p) (H : HeapAt m' h lessV hl' A') (t : Trs A m m' A') :
    Vec m0.size m' 1 p ins.length (ins.map vI) ∧ (∀ x, p = some x → ¬ A' x.block) ∧ (∀ i, A' i → m0.size ≤ i) ∧ Old m0 m' :=
  ⟨T.v.keep fun x hx => t.c.get _ (T.v.lt hx) (T.dis x hx), fun x hx e => (t.n _ e).2.elim (T.dis x hx) fun h => by have := T.v.lt hx; omega, fun i hi => (t.n i hi).2.elim (T.na i) fun e => Nat.le_trans T.old.size e,
    .of_get (Nat.le_trans T.old.size t.c.size) fun i hi => (t.c.get i (Nat.lt_of_lt_of_le hi T.old.size) fun e => by have := T.na i e; omega).trans (T.old.get hi)⟩

theorem all_vI (l : List Int) : (l.map vI).all oneCell = true := by simp [oneCell]
theorem least_top {hl ins : List Int} (hp : hl.Perm ins) (hh : IsHeap ltI hl) {i : Nat} (hi : i < ins.length) (hm : ∀ j, j < ins.length → gt ins i ≤ gt ins j) : gt hl 0 = gt ins i := by
  have hlen := hp.length_eq
  have h1 : gt hl 0 ∈ ins := hp.subset (by rw [gt_getElem hl (by omega)]; exact List.getElem_mem _)
  have h2 : gt ins i ∈ hl := hp.symm.subset (by rw [gt_getElem ins hi]; exact List.getElem_mem _)
  obtain ⟨j, hj, ej⟩ := gt_mem ins h1
  obtain ⟨q, hq, eq⟩ := gt_mem hl h2
  have h3 := hm j hj
  have h4 := heap_top ltI_ord hl hh q hq
  rw [eq] at h4
  simp only [decide_eq_false_iff_not] at h4
  omega
theorem cut_perm {l : List Int} {i : Nat} (hi : i < l.length) : (gt l i :: (l.take i ++ l.drop (i + 1))).Perm l := by
  have e : l = l.take i ++ (gt l i :: l.drop (i + 1)) := by
    rw [gt_getElem l hi, ← List.drop_eq_getElem_cons hi, List.take_append_drop]
  conv => rhs; rw [e]
  exact (List.perm_middle).symm

set_option maxRecDepth 100000 in
set_option maxHeartbeats 8000000 in
theorem HeapPlays_law (m : Mem) (hro : ∀ i c, m.get i = some c → c.writable = false)
    (a0 : Option Addr) (l0 c0 : Nat) (zs : List (List Int)) (hs0 : SlA m 2 a0 l0 c0 ((zs.map fun z => z.map (.int .i64)).flatten)) (hl0 : zs.length = l0) (hz0 : ∀ z ∈ zs, z.length = 2 ∧ ∀ x ∈ z, -9223372036854775808 ≤ x ∧ x < 9223372036854775808) :
    CallQ E F_sheaflaw8_HeapPlays [.slice a0 l0 c0].toArray m fun v _ => v = .bool true := by
  refine .enter fn_sheaflaw8_HeapPlays (by simp) ?_
  simp (decide := true) (implicitDefEqProofs := false) (maxDischargeDepth := 20) only [go_sem, ↓reduceIte, true_implies, false_implies]
  refine (New_at).mono ?_
  rintro w m1 ⟨rfl, Ha, o1⟩
  simp (decide := true) (implicitDefEqProofs := false) (maxDischargeDepth := 20) only [go_sem, ↓reduceIte, true_implies, false_implies]
  have T1 : PlayS m m1 m.size [] [] (fun i => i = m.size) none := ⟨Ha, .nil _ _ _, fun x hx => (by cases hx), fun i hi => (by omega), o1, List.Perm.refl _, heap_nil⟩
  obtain ⟨h, hh⟩ : ∃ h, h = m.size := ⟨_, rfl⟩
  rw [← hh] at T1 ⊢
  obtain ⟨n, hn⟩ : ∃ n, n = min l0 60 := ⟨_, rfl⟩
  simp only [c_sheaflaw8_HeapPlays_45_at, wpM_block, c_sheaflaw8_HeapPlays_44_at]
  refine wpM_loopA (fun j t' m' => ∃ i hl ins A p, i ≤ n ∧ j = n - i ∧ t' 5 = .int .i64 (i : Nat) ∧ t' 4 = .slice p ins.length ins.length ∧ ins.length ≤ i ∧ PlayS m m' h hl ins A p) n
    ⟨0, [], [], _, none, by omega, rfl, by simp (decide := true) only [go_sem, ↓reduceIte]; try rfl, by simp (decide := true) only [go_sem, ↓reduceIte]; try rfl, by simp, T1⟩ ?_
  rintro j t' m2 hag ⟨i, hl, ins, A, p, hi, rfl, e5, e4, hle, T⟩
  have e0 := hag 0 (by decide +kernel)
  have e3 := hag 3 (by decide +kernel)
  simp (decide := true) only [go_sem, ↓reduceIte] at e0 e3
  by_cases hlt : i < n
  · have d1 : decide ((i : Int) < (l0 : Int)) = true := by simp; omega
    have d2 : decide ((i : Int) < 60) = true := by simp; omega
    have w1 : IntKind.wrap .i64 ((i : Int) + 1) = ((i + 1 : Nat) : Int) := by rw [wrap_i64_id _ (by omega) (by omega)]; omega
    have z0 : (0 : Int) ≤ (i : Int) := by omega
    have z1 : (i : Int) < (l0 : Int) := by omega
    have S2 := hs0.old T.old
    obtain ⟨ab, ao, asp, rfl⟩ := S2.addr (by omega)
    have rr := S2.srow (fun z hz => (hz0 z hz).1) (by decide) (show i < zs.length by omega)
    have hz := hz0 (zs[i]'(by omega)) (List.getElem_mem _)
    obtain ⟨kd, x, hkx⟩ : ∃ kd x, zs[i]'(by omega) = [kd, x] := by
      match h : zs[i]'(by omega), hz.1 with
      | [a, b], _ => exact ⟨a, b, rfl⟩
    rw [hkx] at rr
    simp only [List.map_cons, List.map_nil] at rr
    simp (decide := true) (implicitDefEqProofs := false) (maxDischargeDepth := 20) only [go_sem, e0, e4, e5, d1, d2, z0, z1, rr, Int.toNat_natCast, ↓reduceIte, true_implies, false_implies]
    rw [put_push _ _ _ rfl]
    obtain ⟨qb, hqb⟩ : ∃ qb, qb = m2.size := ⟨_, rfl⟩
    rw [← hqb]
    have oA : Old m2 (m2.ext [some (.cells false true [vI kd, vI x])]) := ⟨_, rfl⟩
    have gq : (m2.ext [some (.cells false true [vI kd, vI x])]).get qb = some (.cells false true [vI kd, vI x]) := by rw [hqb, ← push_ext, getM_push, if_pos rfl]
    have TA := T.keepOld oA
    generalize m2.ext [some (.cells false true [vI kd, vI x])] = mA at *
    refine Plays_least TA.v.sl (by omega) (by simp (decide := true) only [go_sem, e4, ↓reduceIte]) (by simp (decide := true) only [go_sem, ↓reduceIte]) (by simp (decide := true) only [go_sem, ↓reduceIte]) (by simp (decide := true) only [go_sem, ↓reduceIte]; try rfl) fun t3 a hag3 f7 hL => ?_
    have f3 := hag3 3 (by decide +kernel)
    have f4 := hag3 4 (by decide +kernel)
    have f5 := hag3 5 (by decide +kernel)
    have f6 := hag3 6 (by decide +kernel)
    simp (decide := true) only [go_sem, e3, e4, e5, ↓reduceIte] at f3 f4 f5 f6
    have rk : mA.at qb 0 = some (vI kd) := get_at0 gq
    have rx : mA.at qb 1 = some (vI x) := by unfold Mem.at; rw [gq]; rfl
    have hlen := TA.perm.length_eq
    have dlen : ∀ k : Nat, (((k : Nat) : Int) != ((k : Nat) : Int)) = false := fun k => by simp
    -- the end of a play
    have fin : ∀ (m5 : Mem) (hl' ins' : List Int) (A' : Set') (p' : Option Addr), PlayS m m5 h hl' ins' A' p' → ins'.length ≤ i + 1 →
        ∃ j, j < n - i ∧ ∃ i_1 hl ins A p, i_1 ≤ n ∧ j = n - i_1 ∧ (Value.int .i64 ((i + 1 : Nat) : Int)) = .int .i64 (i_1 : Nat) ∧ (Value.slice p' ins'.length ins'.length) = .slice p ins.length ins.length ∧ ins.length ≤ i_1 ∧ PlayS m m5 h hl ins A p := fun m5 hl' ins' A' p' T' hl2 =>
      ⟨n - (i + 1), by omega, i + 1, hl', ins', A', p', by omega, rfl, rfl, rfl, hl2, T'⟩
    by_cases k2 : kd = 2
    · have dk2 : (kd == 2) = true := by simpa using k2
      simp (decide := true) (implicitDefEqProofs := false) (maxDischargeDepth := 20) only [go_sem, f3, f4, f5, f6, f7, rk, rx, dk2, ↓reduceIte, true_implies, false_implies]
      refine (Pop_at TA.a less_ok (noZ_frozen _) (fun _ _ => rfl) (by omega)).mono ?_
      rintro w m4 ⟨rfl, Ha4, c4⟩
      have t4 := trs_same c4 TA.a.lt
      obtain ⟨V4, dis4, na4, o4⟩ := TA.heapStep Ha4 t4
      rcases hL with ⟨hk0, rfl⟩ | ⟨hk0, ai, rfl, hai, hmin⟩
      · have hl0' : hl = [] := List.eq_nil_of_length_eq_zero (by omega)
        subst hl0'
        have T4 : PlayS m m4 h (popL ltI []) ins A p := ⟨Ha4, V4, dis4, na4, o4, TA.perm, heap_nil⟩
        have L := Len_at T4.a
        rw [popL_length] at L
        simp (decide := true) (implicitDefEqProofs := false) (maxDischargeDepth := 20) only [go_sem, f3, f4, f5, f6, f7, List.isEmpty_nil, ↓reduceIte, true_implies, false_implies]
        refine L.mono ?_
        rintro w m5 ⟨rfl, rfl⟩
        have e0' : ([] : List Int).length - 1 = ins.length := by rw [hk0]; rfl
        rw [e0']
        simp (decide := true) (implicitDefEqProofs := false) (maxDischargeDepth := 20) only [go_sem, f3, f4, f5, f6, f7, w1, dlen, ↓reduceIte, true_implies, false_implies]
        exact fin _ _ _ _ _ T4 (by omega)
      · have hne : hl ≠ [] := by rintro rfl; simp at hlen; omega
        have he : hl.isEmpty = false := by simpa using hne
        have htop := least_top TA.perm TA.heap hai hmin
        rw [if_neg hne, he, htop]
        have da : decide ((ai : Int) ≥ 0) = true := by simp
        have y0 : (0 : Int) ≤ (ai : Int) := by omega
        have y1 : (ai : Int) < (ins.length : Int) := by omega
        obtain ⟨vb, vo, vs, rfl⟩ := V4.sl.addr (by omega)
        have ri := V4.sl.at_map hai
        rw [← gt_getElem ins hai] at ri
        have dne : (gt ins ai != gt ins ai) = false := by simp
        have w2 : IntKind.wrap .i64 ((ai : Int) + 1) = ((ai + 1 : Nat) : Int) := by rw [wrap_i64_id _ (by omega) (by omega)]; omega
        obtain ⟨sT, ST⟩ := V4.sl.sliceTo (E := E) (k := .i64) (show ai ≤ ins.length by omega)
        obtain ⟨sF, SF⟩ := V4.sl.sliceFrom (E := E) (k := .i64) (show ai + 1 ≤ ins.length by omega)
        have sT' := sT 25 (by decide +kernel)
        have sF' := sF 25 (by decide +kernel)
        rw [Nat.mul_one, ← List.map_take] at ST
        rw [Nat.mul_one, ← List.map_drop] at SF
        have ltk : (ins.take ai).length = ai := by rw [List.length_take]; omega
        have ldr : (ins.drop (ai + 1)).length = ins.length - (ai + 1) := List.length_drop
        simp only [Nat.mul_one, Option.map_some] at sF' SF
        simp (decide := true) (implicitDefEqProofs := false) (maxDischargeDepth := 20) only [go_sem, f3, f4, f5, f6, f7, da, y0, y1, ri, dne, sT', Int.toNat_natCast, ↓reduceIte, true_implies, false_implies]
        have v0 : Vec m4.size (m4.push (.cells false true [])) 1 (some ⟨m4.size, 0, none⟩) 0 [] := .built (Nat.le_refl _) rfl
        refine v0.append (by simp) ((ST.push _).appended' (by decide +kernel) (by decide)) (by rw [List.length_map, ltk]; omega) (by decide +kernel) (all_vI _) (by omega) fun m5 b5 v5 k5 hb5 => ?_
        have o45 : Old m4 m5 := v0.keepOld k5 (.push (.refl _) _)
        simp only [Nat.zero_add, List.nil_append] at v5
        simp (decide := true) (implicitDefEqProofs := false) (maxDischargeDepth := 20) only [go_sem, f3, f4, f5, f6, f7, w2, sF', ↓reduceIte, true_implies, false_implies]
        refine v5.append o45.size ((SF.old o45).appended' (by decide +kernel) (by decide)) (by rw [List.length_map, ldr]; omega) (by decide +kernel) (all_vI _) (by omega) fun m6 b6 v6 k6 hb6 => ?_
        have o46 : Old m4 m6 := v5.keepOld k6 o45
        rw [← List.map_append] at v6
        have hl6 : (ins.take ai ++ ins.drop (ai + 1)).length = ai + (ins.length - (ai + 1)) := by rw [List.length_append, ltk, ldr]
        have T6 : PlayS m m6 h (popL ltI hl) (ins.take ai ++ ins.drop (ai + 1)) A b6 := by
          refine ⟨Ha4.old o46, ?_, ?_, na4, o4.trans o46, ?_, popL_heap ltI_ord _ TA.heap⟩
          · rw [hl6]; exact v6.mono o4.size
          · intro q hq e
            have h1 := (v6.blk q hq).1
            have h2 := Ha4.lt _ e
            omega
          · have h1 := (popL_perm (lt := ltI) hl hne).trans (TA.perm.trans (cut_perm hai).symm)
            rw [htop] at h1
            exact (List.perm_cons _).1 h1
        have L := Len_at T6.a
        rw [popL_length, hlen, show ins.length - 1 = (ins.take ai ++ ins.drop (ai + 1)).length by rw [hl6]; omega] at L
        rw [← hl6] at *
        simp (decide := true) (implicitDefEqProofs := false) (maxDischargeDepth := 20) only [go_sem, f3, f4, f5, f6, f7, ↓reduceIte, true_implies, false_implies]
        refine L.mono ?_
        rintro w m7 ⟨rfl, rfl⟩
        simp (decide := true) (implicitDefEqProofs := false) (maxDischargeDepth := 20) only [go_sem, f3, f4, f5, f6, f7, w1, dlen, ↓reduceIte, true_implies, false_implies]
        exact fin _ _ _ _ _ T6 (by rw [List.length_append, ltk, ldr]; omega)
    · have dk2 : (kd == 2) = false := by simpa using k2
      by_cases k3 : kd = 3
      · have dk3 : (kd == 3) = true := by simpa using k3
        simp (decide := true) (implicitDefEqProofs := false) (maxDischargeDepth := 20) only [go_sem, f3, f4, f5, f6, f7, rk, rx, dk2, dk3, ↓reduceIte, true_implies, false_implies]
        refine (Top_at TA.a).mono ?_
        rintro w m4 ⟨rfl, rfl⟩
        have L := Len_at TA.a
        rcases hL with ⟨hk0, rfl⟩ | ⟨hk0, ai, rfl, hai, hmin⟩
        · have hl0' : hl = [] := List.eq_nil_of_length_eq_zero (by omega)
          subst hl0'
          simp (decide := true) (implicitDefEqProofs := false) (maxDischargeDepth := 20) only [go_sem, f3, f4, f5, f6, f7, List.isEmpty_nil, ↓reduceIte, true_implies, false_implies]
          refine L.mono ?_
          rintro w m5 ⟨rfl, rfl⟩
          rw [hlen]
          simp (decide := true) (implicitDefEqProofs := false) (maxDischargeDepth := 20) only [go_sem, f3, f4, f5, f6, f7, w1, dlen, ↓reduceIte, true_implies, false_implies]
          exact fin _ _ _ _ _ TA (by omega)
        · have hne : hl ≠ [] := by rintro rfl; simp at hlen; omega
          have he : hl.isEmpty = false := by simpa using hne
          have htop := least_top TA.perm TA.heap hai hmin
          rw [if_neg hne, he, htop]
          have da : decide ((ai : Int) ≥ 0) = true := by simp
          have y0 : (0 : Int) ≤ (ai : Int) := by omega
          have y1 : (ai : Int) < (ins.length : Int) := by omega
          obtain ⟨vb, vo, vs, rfl⟩ := TA.v.sl.addr (by omega)
          have ri := TA.v.sl.at_map hai
          rw [← gt_getElem ins hai] at ri
          have dne : (gt ins ai != gt ins ai) = false := by simp
          simp (decide := true) (implicitDefEqProofs := false) (maxDischargeDepth := 20) only [go_sem, f3, f4, f5, f6, f7, da, y0, y1, ri, dne, Int.toNat_natCast, ↓reduceIte, true_implies, false_implies]
          refine L.mono ?_
          rintro w m5 ⟨rfl, rfl⟩
          rw [hlen]
          simp (decide := true) (implicitDefEqProofs := false) (maxDischargeDepth := 20) only [go_sem, f3, f4, f5, f6, f7, w1, dlen, ↓reduceIte, true_implies, false_implies]
          exact fin _ _ _ _ _ TA (by omega)
      · have dk3 : (kd == 3) = false := by simpa using k3
        simp (decide := true) (implicitDefEqProofs := false) (maxDischargeDepth := 20) only [go_sem, f3, f4, f5, f6, f7, rk, rx, dk2, dk3, ↓reduceIte, true_implies, false_implies]
        refine (Push_at TA.a less_ok (noZ_frozen _) (fun _ _ => rfl) (by omega) x).mono ?_
        rintro w m4 ⟨A', Ha4, t4⟩
        obtain ⟨V4, dis4, na4, o4⟩ := TA.heapStep Ha4 t4
        have gq4 : m4.get qb = _ := (t4.c.get qb (getM_lt gq) (by have := T.a.lt; intro e; have := this qb e; omega)).trans gq
        have rx4 : m4.at qb 1 = some (vI x) := by unfold Mem.at; rw [gq4]; rfl
        simp (decide := true) (implicitDefEqProofs := false) (maxDischargeDepth := 20) only [go_sem, f3, f4, f5, f6, f7, rx4, ↓reduceIte, true_implies, false_implies]
        refine V4.appendQ rfl o4.size rfl (by decide) (by decide +kernel) (by decide +kernel) rfl (by omega) fun m5 b5 s5 v5 k5 hb5 => ?_
        have o5 : Old m m5 := V4.keepOld k5 o4
        have T5 : PlayS m m5 h (pushL ltI hl x) (ins ++ [x]) A' (some ⟨b5, 0, s5⟩) := by
          refine ⟨HeapAt.loc h lessV _ m4 m5 A' Ha4 (fun j hj => k5.2 j (Ha4.lt j hj) fun q hq e => dis4 q hq (e ▸ hj)) k5.1, ?_, ?_, na4, o5, ?_, pushL_heap ltI_ord _ _ TA.heap⟩
          · rw [List.length_append, List.map_append]; exact v5
          · intro q hq e
            cases hq
            have := Ha4.lt _ e
            simp only at this
            omega
          · exact (pushL_perm _ _).trans ((TA.perm.cons _).trans (List.perm_append_singleton _ _).symm)
        have L := Len_at T5.a
        rw [pushL_length, hlen] at L
        simp (decide := true) (implicitDefEqProofs := false) (maxDischargeDepth := 20) only [go_sem, f3, f4, f5, f6, f7, ↓reduceIte, true_implies, false_implies]
        refine L.mono ?_
        rintro w m6 ⟨rfl, rfl⟩
        simp (decide := true) (implicitDefEqProofs := false) (maxDischargeDepth := 20) only [go_sem, f3, f4, f5, f6, f7, w1, dlen, ↓reduceIte, true_implies, false_implies]
        have F := fin _ _ _ _ _ T5 (by simp; omega)
        rw [List.length_append] at F
        exact F
  · have hin : i = n := by omega
    by_cases h60 : l0 ≤ 60
    · have d1 : decide ((i : Int) < (l0 : Int)) = false := by simp; omega
      simp (decide := true) (implicitDefEqProofs := false) (maxDischargeDepth := 20) only [go_sem, e0, e4, e5, d1, ↓reduceIte, true_implies, false_implies]
    · have d1 : decide ((i : Int) < (l0 : Int)) = true := by simp; omega
      have d2 : decide ((i : Int) < 60) = false := by simp; omega
      simp (decide := true) (implicitDefEqProofs := false) (maxDischargeDepth := 20) only [go_sem, e0, e4, e5, d1, d2, ↓reduceIte, true_implies, false_implies]
end Go.Proofs.Ythlcbacmbcmgfaa.W
