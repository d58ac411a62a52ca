/-
  FlowBreaks: counting what is kept; the law.
-/
import Derived.Test.YtgbpgkfmmhlkoaaFlowX
namespace Go.Proofs.Ytgbpgkfmmhlkoaa.W
open Go.Abs
set_option linter.unusedSimpArgs false
set_option linter.unusedVariables false

def cnt (p : Int → Bool) (xs : List Int) (a : Nat) : Nat := ((xs.take a).filter p).length
theorem cnt_mono (p : Int → Bool) (xs : List Int) {a b : Nat} (h : a ≤ b) : cnt p xs a ≤ cnt p xs b := by
  unfold cnt
  have : xs.take a = (xs.take b).take a := by rw [List.take_take, Nat.min_eq_left h]
  rw [this]
  exact ((List.take_sublist a (xs.take b)).filter p).length_le
theorem cnt_succ (p : Int → Bool) (xs : List Int) {a : Nat} (h : a < xs.length) : cnt p xs (a + 1) = cnt p xs a + if p (xs.getD a 0) = true then 1 else 0 := by
  unfold cnt
  rw [List.take_succ_eq_append_getElem h, List.filter_append, List.length_append]
  have e : xs.getD a 0 = xs[a] := by simp [List.getD_eq_getElem?_getD, h]
  rw [e]
  by_cases hp : p xs[a] = true
  · rw [if_pos hp]; simp [hp]
  · rw [if_neg hp]; simp [hp]
theorem cnt_all (p : Int → Bool) (xs : List Int) : cnt p xs xs.length = (xs.filter p).length := by unfold cnt; rw [List.take_length]

theorem start_boxes (P : Mem → Prop) (m : Mem) (v0 v1 v2 v3 v4 : Value) (h : ∀ m', cap1 m' m.size v0 → cap1 m' (m.size + 1) v2 → cap1 m' (m.size + (1 + 1)) v4 → Old m m' → P m') :
    P (((((m.push (.cells false true [v0])).push (.cells false true [v1])).put (m.size + 1) (some (.cells false true [v2]))).push (.cells false true [v3])).put (m.size + (1 + 1)) (some (.cells false true [v4]))) := by
  refine h _ ?_ ?_ ?_ (.put (.push (.put (.push (.push (.refl m) _) _) _ _ (by omega)) _) _ _ (by omega))
  · unfold cap1; rw [getM_put, if_neg (by omega), getM_push, if_neg (by simp; omega), getM_put, if_neg (by omega), getM_push, if_neg (by simp), getM_push, if_pos rfl]
  · unfold cap1; rw [getM_put, if_neg (by omega), getM_push, if_neg (by simp), getM_put, if_pos ⟨rfl, by simp⟩]
  · unfold cap1; rw [getM_put, if_pos ⟨rfl, by simp⟩]

theorem mid_boxes (P : Mem → Prop) (m : Mem) (v0 v1 v2 v3 v4 v5 : Value) (h : ∀ m', cap1 m' m.size v1 → cap1 m' (m.size + 1) v4 → cap1 m' (m.size + (1 + 1)) v5 → Old m m' → P m') :
    P ((((((m.push (.cells false true [v0])).put m.size (some (.cells false true [v1]))).push (.cells false true [v2])).push (.cells false true [v3])).put (m.size + 1) (some (.cells false true [v4]))).put (m.size + (1 + 1)) (some (.cells false true [v5]))) := by
  refine h _ ?_ ?_ ?_ (.put (.put (.push (.push (.put (.push (.refl m) _) _ _ (by omega)) _) _) _ _ (by omega)) _ _ (by omega))
  · unfold cap1; rw [getM_put, if_neg (by omega), getM_put, if_neg (by omega), getM_push, if_neg (by simp; omega), getM_push, if_neg (by simp), getM_put, if_pos ⟨rfl, by simp⟩]
  · unfold cap1; rw [getM_put, if_neg (by omega), getM_put, if_pos ⟨rfl, by simp⟩]
  · unfold cap1; rw [getM_put, if_pos ⟨rfl, by simp⟩]
theorem wpM_name {E : Env} {f : FuncId} {n : Nat} {rd : Option Nat} {c : MC} {K : Post3} {t : Fr} {m : Mem} (h : ∀ t', t' = t → wpM E f n rd c K t' m) : wpM E f n rd c K t m := h t rfl

/-- Behind the first range: the boxes, and what is told. -/
def MidOk (n k nb kb gb ab : Nat) (mJ m' : Mem) : Prop := ∃ g c a : Nat, cap1 m' nb (vI (c : Nat)) ∧ cap1 m' kb (vI (k : Nat)) ∧ cap1 m' gb (vI (g : Nat)) ∧ cap1 m' ab (vI (a : Nat)) ∧ (g < k → c = n) ∧ (¬ g < k → c = a) ∧ mJ.size ≤ m'.size ∧ ∀ i, i < mJ.size → i ≠ nb → i ≠ gb → i ≠ ab → m'.get i = mJ.get i

set_option maxRecDepth 100000 in
set_option maxHeartbeats 8000000 in
theorem FlowBreaks_law (m : Mem) (hro : ∀ i c, m.get i = some c → c.writable = false)
    (a0 : Option Addr) (l0 c0 : Nat) (xs0 : List Int) (hs0 : SlA m 1 a0 l0 c0 (xs0.map (.int .i64))) (hl0 : xs0.length = l0) (hx0 : ∀ x ∈ xs0, -9223372036854775808 ≤ x ∧ x < 9223372036854775808)
    (stop : Int) (hm : -9223372036854775808 ≤ stop) (hm' : stop < 9223372036854775808) :
    CallQ E F_sheaflaw10_FlowBreaks [.slice a0 l0 c0, .int .i64 stop].toArray m fun v _ => v = .bool true := by
  obtain ⟨n, g0⟩ : ∃ n, n = min l0 30 := ⟨_, rfl⟩
  have m0 : min (l0 : Int) 30 = (n : Int) := by omega
  obtain ⟨s0, A⟩ := hs0.sliceTo (E := E) (k := .i64) (show n ≤ l0 by omega)
  rw [Nat.mul_one, ← List.map_take] at A
  generalize xs0.take n = xs at *
  have lx : xs.length = n := by have := A.len; simpa using this
  have s0' := s0 23 (by decide +kernel)
  have hn : n ≤ 1000000 := by omega
  refine .enter fn_sheaflaw10_FlowBreaks (by simp) ?_
  simp (decide := true) (implicitDefEqProofs := false) (maxDischargeDepth := 20) only [go_sem, ↓reduceIte, m0, s0', true_implies, false_implies]
  refine start_boxes (fun mm => CallQ E _ _ mm _) m _ _ _ _ _ fun m1 gR gO gN om => ?_
  obtain ⟨rb, hrb⟩ : ∃ rb, rb = m.size := ⟨_, rfl⟩
  rw [← hrb] at gR gO gN ⊢
  obtain ⟨ob, hob⟩ : ∃ b, b = rb + 1 := ⟨_, rfl⟩
  obtain ⟨nb, hnb⟩ : ∃ b, b = rb + (1 + 1) := ⟨_, rfl⟩
  rw [← hob] at gO ⊢
  rw [← hnb] at gN ⊢
  have hnR : rb < m1.size := getM_lt gR
  refine (Counted_at).mono ?_
  rintro w m2 ⟨b1, b2, rfl, c1, c2, o2⟩
  simp (decide := true) (implicitDefEqProofs := false) (maxDischargeDepth := 20) only [go_sem, ↓reduceIte, true_implies, false_implies]
  refine (Keep_at).mono ?_
  rintro w m3 ⟨b3, b4, rfl, c3, c4, o3⟩
  simp (decide := true) (implicitDefEqProofs := false) (maxDischargeDepth := 20) only [go_sem, ↓reduceIte, true_implies, false_implies]
  refine (MapII_at).mono ?_
  rintro w m4 ⟨b5, b6, rfl, c5, c6, o4⟩
  have o14 := o2.trans (o3.trans o4)
  have rO := get_at0 (gO.old o14)
  simp (decide := true) (implicitDefEqProofs := false) (maxDischargeDepth := 20) only [go_sem, rO, ↓reduceIte, true_implies, false_implies]
  refine (Counted_at).mono ?_
  rintro w m5 ⟨b7, b8, rfl, c7, c8, o5⟩
  simp (decide := true) (implicitDefEqProofs := false) (maxDischargeDepth := 20) only [go_sem, ↓reduceIte, true_implies, false_implies]
  refine (Groups_at).mono ?_
  rintro w m6 ⟨b9, b10, rfl, c9, c10, o6⟩
  have o16 := o14.trans (o5.trans o6)
  have rN := get_at0 (gN.old o16)
  simp (decide := true) (implicitDefEqProofs := false) (maxDischargeDepth := 20) only [go_sem, rN, ↓reduceIte, true_implies, false_implies]
  refine ((Within_ans stop 1 5 hm hm' (by decide) (by decide) (by decide) (by decide)) m6).mono ?_
  rintro w m7 ⟨rfl, o7⟩
  obtain ⟨k, hk⟩ : ∃ k : Nat, (k : Int) = 1 + stop % (5 - 1 + 1) := ⟨(1 + stop % (5 - 1 + 1)).toNat, by omega⟩
  rw [← hk]
  have hk1 : 1 ≤ k := by omega
  have hk5 : k ≤ 5 := by omega
  simp (decide := true) (implicitDefEqProofs := false) (maxDischargeDepth := 20) only [go_sem, ↓reduceIte, true_implies, false_implies]
  refine mid_boxes (fun mm => wpM E _ _ _ _ _ _ mm) m7 _ _ _ _ _ _ fun mJ gK gG gA oJ => ?_
  refine wpM_name fun t0 ht0 => ?_
  obtain ⟨kb, hkb⟩ : ∃ b, b = m7.size := ⟨_, rfl⟩
  obtain ⟨gb, hgb⟩ : ∃ b, b = m7.size + 1 := ⟨_, rfl⟩
  obtain ⟨ab, hab⟩ : ∃ b, b = m7.size + (1 + 1) := ⟨_, rfl⟩
  rw [← hkb] at gK
  rw [← hgb] at gG
  rw [← hab] at gA
  have f4 : t0 4 = ptr rb := by rw [ht0]; simp (decide := true) only [go_sem, ↓reduceIte]
  have f5 : t0 5 = ptr ob := by rw [ht0]; simp (decide := true) only [go_sem, ↓reduceIte]
  have f6 : t0 6 = ptr nb := by rw [ht0]; simp (decide := true) only [go_sem, ↓reduceIte]
  have f8 : t0 8 = .func (.func F_flow_Groups_int_1) #[] #[ptr b9, ptr b10] := by rw [ht0]; simp (decide := true) only [go_sem, ↓reduceIte]
  have f9 : t0 9 = ptr kb := by rw [ht0, hkb]; simp (decide := true) only [go_sem, ↓reduceIte]
  have f10 : t0 10 = ptr gb := by rw [ht0, hgb]; simp (decide := true) only [go_sem, ↓reduceIte]
  have f11 : t0 11 = ptr ab := by rw [ht0, hab]; simp (decide := true) only [go_sem, ↓reduceIte]
  have f38 : t0 38 = .func (.func F_flow_Map_int_int_1) #[] #[ptr b5, ptr b6] := by rw [ht0]; simp (decide := true) only [go_sem, ↓reduceIte]
  clear ht0
  -- what stands where
  have o17 := o16.trans o7
  have o1J := o17.trans oJ
  have q1 := c1.old (o3.trans (o4.trans (o5.trans (o6.trans o7))))
  have q2 := c2.old (o3.trans (o4.trans (o5.trans (o6.trans o7))))
  have q3 := c3.old (o4.trans (o5.trans (o6.trans o7)))
  have q4 := c4.old (o4.trans (o5.trans (o6.trans o7)))
  have q5 := c5.old (o5.trans (o6.trans o7))
  have q6 := c6.old (o5.trans (o6.trans o7))
  have q7 := c7.old (o6.trans o7)
  have q8 := c8.old (o6.trans o7)
  have q9 := c9.old o7
  have q10 := c10.old o7
  have qO := gO.old o17
  have qN := gN.old o17
  have ne : ∀ b v, cap1 m7 b v → (∀ x, v ≠ vI x) → b ≠ nb ∧ b ≠ gb ∧ b ≠ ab ∧ b < m7.size := by
    intro b v hb hv
    have hl := getM_lt hb
    refine ⟨?_, by omega, by omega, hl⟩
    rintro rfl
    unfold cap1 at hb qN
    rw [hb] at qN
    injection qN with e
    injection e with _ _ e
    injection e with e _
    exact hv 0 e
  have hNlt := getM_lt qN
  have hAn : ab < mJ.size := getM_lt gA
  have fin : ∀ mE, MidOk n k nb kb gb ab mJ mE → wpM E 11 107 none c_sheaflaw10_FlowBreaks_39 (retK (ResK E [ResultVar.cell 4 4] fun v x => v = Value.bool true)) t0 mE := by
    rintro mE ⟨g, c, a, cN, cK, cG, cA, t1, t2, hsz, hkeep⟩
    have rN := get_at0 cN
    have rK := get_at0 cK
    have rG := get_at0 cG
    have rA := get_at0 cA
    have lN := getM_lt cN
    have lA := getM_lt cA
    have same : ∀ b v, cap1 m7 b v → (∀ x, v ≠ vI x) → cap1 mE b v := fun b v hb hv => by
      have := ne b v hb hv
      exact (hkeep b (Nat.lt_of_lt_of_le this.2.2.2 oJ.size) (by omega) (by omega) (by omega)).trans (hb.old oJ)
    have cO := same ob _ qO (by intro x h; cases h)
    have rO := get_at0 cO
    have oE : Old m mE := .of_get (by have := om.size; have := o1J.size; omega) fun i hi => by
      have := om.size
      have := o1J.size
      rw [hkeep i (by omega) (by omega) (by omega) (by omega), o1J.get (by omega), om.get hi]
    have nan : ¬ ab = nb := by omega
    have nna : ¬ nb = ab := by omega
    have noa : ¬ ob = ab := by omega
    have non : ¬ ob = nb := by omega
    -- the second range
    have cR : cap1 mE rb (.bool false) := same rb _ (gR.old o17) (by intro x h; cases h)
    have fin2 : ∀ mF, cap1 mF nb (vI 0) → (∀ i, i < m7.size → i ≠ nb → mF.get i = mE.get i) → mE.size ≤ mF.size → ∀ t, t 4 = ptr rb → t 5 = ptr ob → t 6 = ptr nb → t 82 = .func (.func F_flow_Groups_int_1) #[] #[ptr b9, ptr b10] →
        wpM E 11 107 none c_sheaflaw10_FlowBreaks_32 (blockK 4 (seqK (wpM E 11 107 none c_sheaflaw10_FlowBreaks_35 (retK (ResK E [ResultVar.cell 4 4] fun v x => v = Value.bool true))) (retK (ResK E [ResultVar.cell 4 4] fun v x => v = Value.bool true)))) t mF := by
      intro mF dN hF hFs t h4 h5 h6 h82
      have rb7 : rb < m7.size := getM_lt (gR.old o17)
      have rbn : rb ≠ nb := by omega
      have same2 : ∀ b v, cap1 m7 b v → (∀ x, v ≠ vI x) → butL mF [nb] b = some (.cells false true [v]) := fun b v hb hv => by
        have h := ne b v hb hv
        exact butL_at ((hF b h.2.2.2 h.1).trans (same b v hb hv)) (by simp; exact h.1)
      have oF : Old m mF := .of_get (Nat.le_trans oE.size hFs) fun i hi => by
        have := om.size
        have := o17.size
        rw [hF i (by omega) (by omega), oE.get hi]
      have hS : ∀ m', Frozen (butL mF [nb]) m' → SlA m' 1 a0 n c0 (xs.map (.int .i64)) := fun m' z => A.butS oF z (by have := om.size; simp; omega)
      have it := GroupsI (same := fun a b => a == b) lx hn (CountI (same2 b7 _ q7 (by intro x h; cases h)) (same2 b8 _ q8 (by intro x h; cases h)) hS hn) (same2 b9 _ q9 (by intro x h; cases h)) (same2 b10 _ q10 (by intro x h; cases h)) (fun a b => Equal_ok _ a b)
      have zO := same2 ob _ qO (by intro x h; cases h)
      have zR := same2 rb _ (gR.old o17) (by intro x h; cases h)
      refine wpM_rangeP (A := none') it (fun t => upd t 13 (t 83)) (by simp (decide := true) only [go_sem, h82, ↓reduceIte]) rfl asg_sheaflaw10_FlowBreaks_1 body_sheaflaw10_FlowBreaks_1 (by decide) (fun K l t m h => by simp (decide := true) only [go_sem, ↓reduceIte]; exact h)
        (fun j mm A => j = 0) (fun j x mm A => x = .exit 4 ∧ 0 < n) (fun j mm mm' A h _ _ => h) (fun j x mm mm' A h _ _ => h)
        (butL_frozen _ _) (fun i hi => hi.elim) (fun i hi => ⟨by rw [hi]; exact getM_lt dN, by rw [hi]; exact butL_no (by simp)⟩)
        (.inl ⟨rfl, by unfold CntO; rw [Nat.zero_min]; exact dN⟩) rfl ?_ ?_ ?_
      · rintro j vs mB A' B l hj z1 oA oB dis ow rfl ⟨b, s, tg, rfl, hb, _, _⟩ hin hms
        refine ⟨rfl, ?_⟩
        obtain ⟨L, hL⟩ : ∃ L, L = ((groupsL (fun a b : Int => a == b) xs).getD 0 []).length := ⟨_, rfl⟩
        rw [← hL]
        obtain ⟨c1, hc1, ⟨hL1, hLn⟩, hcN⟩ : ∃ c1, min (L + 1) n = c1 ∧ (1 ≤ L ∧ L ≤ n) ∧ cap1 mB nb (vI (c1 : Nat)) := by
          rcases ow with ⟨h, _⟩ | ⟨h, _⟩ | ⟨_, h, hne, ho⟩ | ⟨k1, g1, g2, g3, g4⟩
          · omega
          · omega
          · have fl := stG_flat (fun a b : Int => a == b) xs
            unfold groupsL at h hL
            rw [if_neg hne] at h hL
            rw [List.length_append] at h
            have h0 : (stG (fun a b : Int => a == b) xs).1 = [] := List.eq_nil_of_length_eq_zero (by simp at h; simpa using h)
            rw [h0] at fl hL
            simp only [List.flatten_nil, List.nil_append] at fl hL
            rw [fl] at hL hne
            have hL : L = xs.length := by rw [hL]; simp
            have : 0 < xs.length := List.length_pos_iff.2 hne
            unfold CntO at ho
            rw [Nat.min_eq_right (by omega)] at ho
            exact ⟨n, by omega, ⟨by omega, by omega⟩, ho⟩
          · have fl := stG_flat (fun a b : Int => a == b) (xs.take k1)
            have ga := (groups_at _ xs k1 g3).2
            have h0 : (stG (fun a b : Int => a == b) (xs.take k1)).1 = [] := List.eq_nil_of_length_eq_zero (by omega)
            rw [h0] at fl g3 ga
            simp only [List.flatten_nil, List.nil_append, List.length_nil] at fl g3 ga
            rw [ga, fl, List.length_take] at hL
            have hk0 : k1 ≠ 0 := by
              rintro rfl
              rw [List.take_succ_eq_append_getElem (by omega), List.take_zero, List.nil_append] at g3
              cases g3
            unfold CntO at g4
            rw [Nat.min_eq_left (by omega)] at g4
            exact ⟨k1 + 1, by omega, ⟨by omega, by omega⟩, g4⟩
        have hn0 : 0 < n := by omega
        have rO := frozen_at z1 zO
        have rN := get_at0 hcN
        have d1 : decide ((L : Int) < 1) = false := by simp; omega
        have w1 : IntKind.wrap .i64 ((L : Int) + 1) = ((L + 1 : Nat) : Int) := by rw [wrap_i64_id _ (by omega) (by omega)]; omega
        have mm : min ((L + 1 : Nat) : Int) (n : Int) = (c1 : Int) := by omega
        have dc : ((c1 : Int) != (c1 : Int)) = false := by simp
        simp (decide := true) (implicitDefEqProofs := false) (maxDischargeDepth := 20) only [go_sem, h4, h5, h6, rO, rN, d1, w1, mm, dc, ↓reduceIte, true_implies, false_implies]
        exact ⟨none', .refl _ _, fun i hi => hi.elim, .inr ⟨4, rfl⟩, hn0⟩
      · rintro mG A' z' oA' ow hj0 e1 e2
        have hj0 : (groupsL (fun a b : Int => a == b) xs).length = 0 := hj0
        have fl := groupsL_flat (fun a b : Int => a == b) xs
        rw [List.eq_nil_of_length_eq_zero hj0] at fl
        have hn0 : n = 0 := by rw [← lx, ← fl]; rfl
        have hcN : cap1 mG nb (vI 0) := by
          rcases ow with ⟨h, _⟩ | ⟨_, ho⟩ | ⟨_, h, _⟩ | ⟨k1, g1, _⟩
          · omega
          · unfold CntO at ho
            rw [Nat.min_eq_right (by omega), hn0] at ho
            exact ho
          · omega
          · omega
        have rO := frozen_at z' zO
        have rN := get_at0 hcN
        have gR2 : cap1 mG rb (.bool false) := z' _ _ zR
        have rR := get_at0 gR2
        have d1 : decide ((n : Int) > 0) = false := by simp; omega
        simp only [blockK_normal, seqK_normal]
        simp (decide := true) (implicitDefEqProofs := false) (maxDischargeDepth := 20) only [go_sem, h4, h5, h6, rO, rN, rR, gR2, d1, ↓reduceIte, true_implies, false_implies]
        rw [if_pos (getM_lt gR2)]
      · rintro j x mG A' hj z' oA' ow hx ⟨rfl, hn0⟩ e1 e2
        have rO := frozen_at z' zO
        have gR2 : cap1 mG rb (.bool false) := z' _ _ zR
        have rR := get_at0 gR2
        have d1 : decide ((n : Int) > 0) = true := by simp; omega
        simp only [blockK_exit, if_pos, seqK_normal]
        simp (decide := true) (implicitDefEqProofs := false) (maxDischargeDepth := 20) only [go_sem, h4, h5, h6, rO, rR, gR2, d1, ↓reduceIte, true_implies, false_implies]
        rw [if_pos (getM_lt gR2)]
    have dn : ((n : Int) != (n : Int)) = false := by simp
    have da : ((a : Int) != (a : Int)) = false := by simp
    have s7 := oJ.size
    by_cases hgk : g < k
    · have d1 : decide ((g : Int) < (k : Int)) = true := by simp; omega
      have hcn := t1 hgk
      subst hcn
      simp (decide := true) (implicitDefEqProofs := false) (maxDischargeDepth := 20) only [go_sem, c_sheaflaw10_FlowBreaks_39_at, c_sheaflaw10_FlowBreaks_38_at, c_sheaflaw10_FlowBreaks_37_at, f4, f5, f6, f8, f9, f10, f11, rN, rK, rG, rA, rO, cN, cA, lN, lA, nan, nna, noa, non, d1, dn, da, ↓reduceIte, true_implies, false_implies]
      refine fin2 _ ?_ ?_ ?_ _ ?_ ?_ ?_ ?_
      · unfold cap1; rw [getM_put, if_pos ⟨rfl, by simpa using lN⟩]
      · intro i hi hin; rw [getM_put, if_neg (fun e => hin e.1), getM_put, if_neg (fun e => by omega)]
      · simp
      · simp (decide := true) only [go_sem, f4, ↓reduceIte]
      · simp (decide := true) only [go_sem, f5, ↓reduceIte]
      · simp (decide := true) only [go_sem, f6, ↓reduceIte]
      · simp (decide := true) only [go_sem, f8, ↓reduceIte]
    · have d1 : decide ((g : Int) < (k : Int)) = false := by simp; omega
      have hca := t2 hgk
      subst hca
      simp (decide := true) (implicitDefEqProofs := false) (maxDischargeDepth := 20) only [go_sem, c_sheaflaw10_FlowBreaks_39_at, c_sheaflaw10_FlowBreaks_38_at, c_sheaflaw10_FlowBreaks_37_at, f4, f5, f6, f8, f9, f10, f11, rN, rK, rG, rA, rO, cN, cA, lN, lA, nan, nna, noa, non, d1, dn, da, ↓reduceIte, true_implies, false_implies]
      refine fin2 _ ?_ ?_ ?_ _ ?_ ?_ ?_ ?_
      · unfold cap1; rw [getM_put, if_pos ⟨rfl, lN⟩]
      · intro i hi hin; rw [getM_put, if_neg (fun e => hin e.1)]
      · simp
      · simp (decide := true) only [go_sem, f4, ↓reduceIte]
      · simp (decide := true) only [go_sem, f5, ↓reduceIte]
      · simp (decide := true) only [go_sem, f6, ↓reduceIte]
      · simp (decide := true) only [go_sem, f8, ↓reduceIte]
  have zat : ∀ b v, cap1 m7 b v → (∀ x, v ≠ vI x) → butL mJ [nb, gb, ab] b = some (.cells false true [v]) := fun b v hb hv => butL_at (hb.old oJ) (by have := ne b v hb hv; simp; omega)
  have oxs : Old m mJ := om.trans o1J
  have hS : ∀ m', Frozen (butL mJ [nb, gb, ab]) m' → SlA m' 1 a0 n c0 (xs.map (.int .i64)) := fun m' z => A.butS oxs z (by have := om.size; simp; omega)
  have it := MapII (a := fun j => vI ((xs.filter evenB).getD j 0)) (g := fun j => vI (halfB ((xs.filter evenB).getD j 0))) (KeepI (pp := evenB) lx (CountI (zat b1 _ q1 (by intro x h; cases h)) (zat b2 _ q2 (by intro x h; cases h)) hS hn) (zat b3 _ q3 (by intro x h; cases h)) (zat b4 _ q4 (by intro x h; cases h)) (fun k _ => Breaks1 _ _)) (zat b5 _ q5 (by intro x h; cases h)) (zat b6 _ q6 (by intro x h; cases h)) (fun k _ => Breaks2 _ _)
  have zO := zat ob _ qO (by intro x h; cases h)
  have zK : butL mJ [nb, gb, ab] kb = some (.cells false true [vI (k : Nat)]) := butL_at gK (by simp; omega)
  refine wpM_rangeP (A := fun i => i = gb ∨ i = ab) it (fun t => upd t 12 (t 39)) (by simp (decide := true) only [go_sem, f38, ↓reduceIte]) rfl asg_sheaflaw10_FlowBreaks_0 body_sheaflaw10_FlowBreaks_0 (by decide) (fun K l t m h => by simp (decide := true) only [go_sem, ↓reduceIte]; exact h)
    (fun j mm A => ∃ a : Nat, a ≤ n ∧ cap1 mm gb (vI (j : Nat)) ∧ cap1 mm ab (vI (a : Nat)) ∧ cnt evenB xs a = j ∧ j < k ∧ ∀ i, A i ↔ i = gb ∨ i = ab)
    (fun j x mm A => x = .exit 0 ∧ ∃ k0 : Nat, k0 < n ∧ evenB (xs.getD k0 0) = true ∧ cnt evenB xs k0 = j ∧ cap1 mm gb (vI (j + 1 : Nat)) ∧ cap1 mm ab (vI (k0 + 1 : Nat)) ∧ j + 1 = k ∧ ∀ i, A i ↔ i = gb ∨ i = ab)
    (fun j => by
      rintro mm mm' A ⟨a, h1, h2, h3, h4, h5, h6⟩ hk _
      exact ⟨a, h1, (hk gb ((h6 gb).2 (.inl rfl))).trans h2, (hk ab ((h6 ab).2 (.inr rfl))).trans h3, h4, h5, h6⟩)
    (fun j x => by
      rintro mm mm' A ⟨hx, a, h1, h1', h4, h2, h3, h5, h6⟩ hk _
      exact ⟨hx, a, h1, h1', h4, (hk gb ((h6 gb).2 (.inl rfl))).trans h2, (hk ab ((h6 ab).2 (.inr rfl))).trans h3, h5, h6⟩)
    (butL_frozen _ _) (fun i hi => ⟨by omega, by rcases hi with rfl | rfl <;> exact butL_no (by simp), by omega⟩) (fun i hi => ⟨by omega, by rw [hi]; exact butL_no (by simp)⟩)
    (.inl ⟨rfl, qN.old oJ⟩) ⟨0, by omega, gG, gA, rfl, by omega, fun i => Iff.rfl⟩ ?_ ?_ ?_
  · rintro j vs mB A' B l hj z1 oA oB dis ow ⟨a, ha, hg, hab', hca, hjk, hA⟩ hvs hin hms
    have hvs : vs = [vI (halfB ((xs.filter evenB).getD j 0))] := hvs
    subst hvs
    refine ⟨rfl, ?_⟩
    obtain ⟨k0, h0, h1, h2⟩ : ∃ k0, k0 < n ∧ evenB (xs.getD k0 0) = true ∧ cnt evenB xs k0 = j := by
      rcases ow with ⟨h, _⟩ | ⟨h, _⟩ | ⟨k1, g1, g2, g3, g4⟩
      · omega
      · omega
      · have g3 : cnt evenB xs k1 + 1 = j + 1 := g3
        exact ⟨k1, g1, g2, by omega⟩
    have hx : (xs.filter evenB).getD j 0 = xs.getD k0 0 := by
      have := ((filter_at xs evenB k0 (by omega)).2 h1).2
      unfold cnt at h2
      rw [h2] at this
      exact this
    rw [hx]
    have hak : a ≤ k0 := by
      rcases Nat.lt_or_ge k0 a with h | h
      · have := cnt_mono evenB xs (show k0 + 1 ≤ a by omega)
        rw [cnt_succ _ _ (by omega), if_pos h1] at this
        omega
      · exact h
    simp only [c_sheaflaw10_FlowBreaks_18_at, wpM_block, c_sheaflaw10_FlowBreaks_17_at, wpM_seq, c_sheaflaw10_FlowBreaks_8_at, c_sheaflaw10_FlowBreaks_7_at]
    have lgb := getM_lt hg
    have lab := getM_lt hab'
    have nga : ¬ gb = ab := by omega
    refine wpM_loopA (fun i t' m' => ∃ p : Nat, p ≤ k0 ∧ i = k0 - p ∧ cap1 m' ab (vI (p : Nat)) ∧ cnt evenB xs p = j ∧ m'.size = mB.size ∧ ∀ q, q ≠ ab → m'.get q = mB.get q) (k0 - a) ⟨a, hak, rfl, hab', hca, rfl, fun _ _ => rfl⟩ ?_
    rintro i t' m' hag ⟨p, hp, rfl, hpa, hpc, hsz, hrest⟩
    have e5 := hag 5 (by decide +kernel)
    have e9 := hag 9 (by decide +kernel)
    have e10 := hag 10 (by decide +kernel)
    have e11 := hag 11 (by decide +kernel)
    have e12 := hag 12 (by decide +kernel)
    simp (decide := true) only [go_sem, f5, f9, f10, f11, ↓reduceIte] at e5 e9 e10 e11 e12
    have z2 : Frozen (butL mJ [nb, gb, ab]) m' := fun q b hq => by
      rw [hrest q (fun e => by rw [e, butL_no (by simp)] at hq; cases hq)]
      exact z1 q b hq
    have rO := frozen_at z2 zO
    have rK := frozen_at z2 zK
    have rA := get_at0 hpa
    have hg2 : cap1 m' gb (vI (j : Nat)) := (hrest gb nga).trans hg
    have rG := get_at0 hg2
    have la := getM_lt hpa
    have lg := getM_lt hg2
    have S := hS m' z2
    obtain ⟨xb, xo, xsp, rfl⟩ := S.addr (by omega)
    have r := S.at_map (show p < n by omega)
    have ex : xs[p]'(by omega) = xs.getD p 0 := by simp [List.getD_eq_getElem?_getD, show p < xs.length by omega]
    rw [ex] at r
    have d1 : decide ((p : Int) < (n : Int)) = true := by simp; omega
    have d0 : decide ((p : Int) ≥ (n : Int)) = false := by simp; omega
    have z0 : (0 : Int) ≤ (p : Int) := by omega
    have z1' : (p : Int) < (n : Int) := by omega
    have w1 : IntKind.wrap .i64 ((p : Int) + 1) = ((p + 1 : Nat) : Int) := by rw [wrap_i64_id _ (by omega) (by omega)]; omega
    have w2 : IntKind.wrap .i64 ((j : Int) + 1) = ((j + 1 : Nat) : Int) := by rw [wrap_i64_id _ (by omega) (by omega)]; omega
    by_cases hpk : p = k0
    · subst hpk
      have d2 : (andI .i64 (xs.getD p 0) 1 != 0) = false := by
        have h1 : (andI .i64 (xs.getD p 0) 1 == 0) = true := h1
        rw [bne, h1]; rfl
      have d3 : (halfB (xs.getD p 0) != IntKind.wrap .i64 ((xs.getD p 0).tdiv 2)) = false := by
        show (IntKind.wrap .i64 ((xs.getD p 0).tdiv 2) != IntKind.wrap .i64 ((xs.getD p 0).tdiv 2)) = false
        simp
      have nkg : ¬ kb = gb := by omega
      have nka : ¬ kb = ab := by omega
      have G : ∀ q, ¬ q = ab → ¬ q = gb → ((m'.put ab (some (.cells false true [vI (p + 1 : Nat)]))).put gb (some (.cells false true [vI (j + 1 : Nat)]))).get q = mB.get q := fun q h1 h2 => by
        rw [getM_put, if_neg (fun e => h2 e.1), getM_put, if_neg (fun e => h1 e.1), hrest q h1]
      have G1 : cap1 ((m'.put ab (some (.cells false true [vI (p + 1 : Nat)]))).put gb (some (.cells false true [vI (j + 1 : Nat)]))) gb (vI (j + 1 : Nat)) := by
        unfold cap1; rw [getM_put, if_pos ⟨rfl, by rw [size_put]; exact lg⟩]
      have G2 : cap1 ((m'.put ab (some (.cells false true [vI (p + 1 : Nat)]))).put gb (some (.cells false true [vI (j + 1 : Nat)]))) ab (vI (p + 1 : Nat)) := by
        unfold cap1; rw [getM_put, if_neg (fun e => nga e.1.symm), getM_put, if_pos ⟨rfl, la⟩]
      have G3 : ((m'.put ab (some (.cells false true [vI (p + 1 : Nat)]))).put gb (some (.cells false true [vI (j + 1 : Nat)]))).size = mB.size := by rw [size_put, size_put, hsz]
      have GC : ChgS (fun i => A' i ∨ B i) mB ((m'.put ab (some (.cells false true [vI (p + 1 : Nat)]))).put gb (some (.cells false true [vI (j + 1 : Nat)]))) := ⟨by rw [G3]; exact Nat.le_refl _, fun q hq hna => G q (fun e => hna (.inl ((hA q).2 (.inr e)))) (fun e => hna (.inl ((hA q).2 (.inl e))))⟩
      have GN : NewS (fun i => A' i ∨ B i) mB ((m'.put ab (some (.cells false true [vI (p + 1 : Nat)]))).put gb (some (.cells false true [vI (j + 1 : Nat)]))) (fun i => i = gb ∨ i = ab) := fun q hq => ⟨by rw [G3]; omega, .inl (.inl ((hA q).2 hq))⟩
      have hc1 : cnt evenB xs (p + 1) = j + 1 := by rw [cnt_succ _ _ (by omega), if_pos h1, h2]
      by_cases hjk1 : j + 1 = k
      · have d4 : (((j + 1 : Nat) : Int) == (k : Int)) = true := by simp; omega
        simp (decide := true) (implicitDefEqProofs := false) (maxDischargeDepth := 20) only [go_sem, e5, e9, e10, e11, e12, rO, rK, rA, rG, r, hpa, hg2, la, lg, nga, nkg, nka, d0, d1, d2, d3, d4, z0, z1', w1, w2, Int.toNat_natCast, ↓reduceIte, true_implies, false_implies]
        exact ⟨_, GC, GN, .inr ⟨0, rfl⟩, p, h0, h1, h2, G1, G2, hjk1, fun i => Iff.rfl⟩
      · have d4 : (((j + 1 : Nat) : Int) == (k : Int)) = false := by simp; omega
        simp (decide := true) (implicitDefEqProofs := false) (maxDischargeDepth := 20) only [go_sem, e5, e9, e10, e11, e12, rO, rK, rA, rG, r, hpa, hg2, la, lg, nga, nkg, nka, d0, d1, d2, d3, d4, z0, z1', w1, w2, Int.toNat_natCast, ↓reduceIte, true_implies, false_implies]
        exact ⟨_, GC, GN, p + 1, by omega, G1, G2, hc1, by omega, fun i => Iff.rfl⟩
    · have d2 : (andI .i64 (xs.getD p 0) 1 != 0) = true := by
        have hpe : ¬ evenB (xs.getD p 0) = true := fun h => by
          have := cnt_mono evenB xs (show p + 1 ≤ k0 by omega)
          rw [cnt_succ _ _ (by omega), if_pos h] at this
          omega
        have h1 : (andI .i64 (xs.getD p 0) 1 == 0) = false := by
          cases h : (andI .i64 (xs.getD p 0) 1 == 0) with
          | true => exact absurd h hpe
          | false => rfl
        rw [bne, h1]; rfl
      have hpe : evenB (xs.getD p 0) = true → False := fun h => by
          have := cnt_mono evenB xs (show p + 1 ≤ k0 by omega)
          rw [cnt_succ _ _ (by omega), if_pos h] at this
          omega
      simp (decide := true) (implicitDefEqProofs := false) (maxDischargeDepth := 20) only [go_sem, e5, e9, e10, e11, e12, rO, rK, rA, rG, r, hpa, hg2, la, lg, nga, d0, d1, d2, z0, z1', w1, w2, Int.toNat_natCast, ↓reduceIte, true_implies, false_implies]
      refine ⟨k0 - (p + 1), by omega, p + 1, by omega, rfl, by unfold cap1; rw [getM_put, if_pos ⟨rfl, la⟩], by rw [cnt_succ _ _ (by omega), if_neg (fun h => hpe h), hpc, Nat.add_zero], hsz, fun q hq => by rw [if_neg hq, hrest q hq]⟩
  · rintro mE A' z' oA' ow ⟨a, ha, hg, hab', hca, hjk, hA⟩ e1 e2
    have cN : cap1 mE nb (vI (n : Nat)) := by
      rcases ow with ⟨h, _⟩ | ⟨_, h⟩ | ⟨k0, h1, h2, h3, h4⟩
      · omega
      · unfold CntO at h
        rw [Nat.min_eq_right (by omega)] at h
        exact h
      · exfalso
        have := cnt_mono evenB xs (show k0 + 1 ≤ xs.length by omega)
        rw [cnt_succ _ _ (by omega), if_pos h2, cnt_all] at this
        have h3 : cnt evenB xs k0 + 1 = (xs.filter evenB).length + 1 := h3
        omega
    have kK : cap1 mE kb (vI (k : Nat)) := z' _ _ zK
    simp only [blockK_normal, seqK_normal]
    refine fin mE ⟨(xs.filter evenB).length, n, a, cN, kK, hg, hab', fun _ => rfl, fun h => absurd hjk h, e1.size, fun i hi h1 h2 h3 => e1.get i hi (by omega)⟩
  · rintro j x mE A' hj z' oA' ow hx ⟨rfl, k0, h0, h1, h2, hg, hab', hjk, hA⟩ e1 e2
    have cN : cap1 mE nb (vI (k0 + 1 : Nat)) := by
      rcases ow with ⟨h, _⟩ | ⟨h, _⟩ | ⟨k1, g1, g2, g3, g4⟩
      · omega
      · omega
      · have e : k1 = k0 := by
          have g3 : cnt evenB xs k1 + 1 = j + 1 := g3
          rcases Nat.lt_trichotomy k1 k0 with h | h | h
          · have := cnt_mono evenB xs (show k1 + 1 ≤ k0 by omega)
            rw [cnt_succ _ _ (by omega), if_pos g2] at this
            omega
          · exact h
          · have := cnt_mono evenB xs (show k0 + 1 ≤ k1 by omega)
            rw [cnt_succ _ _ (by omega), if_pos h1] at this
            omega
        unfold CntO at g4
        rw [Nat.min_eq_left (by omega), e] at g4
        exact g4
    have kK : cap1 mE kb (vI (k : Nat)) := z' _ _ zK
    simp only [blockK_exit, if_pos, seqK_normal]
    refine fin mE ⟨j + 1, k0 + 1, k0 + 1, cN, kK, hg, hab', fun h => by omega, fun _ => rfl, e1.size, fun i hi h1 h2 h3 => e1.get i hi (by omega)⟩
end Go.Proofs.Ytgbpgkfmmhlkoaa.W
