/-
  FlowCursor, the law.
-/
import Derived.Test.YtgbpgkfmmhlkoaaFlowV
namespace Go.Proofs.Ytgbpgkfmmhlkoaa.W
open Go.Abs
set_option linter.unusedSimpArgs false
set_option linter.unusedVariables false

theorem hitJ_val (cmp : Int → Int → Int) (s : JS) (x y : Int) (h : hitJ cmp s x = some y) : cmp x y = 0 := by
  unfold hitJ at h
  split at h
  · rename_i hc; cases h; exact hc.2
  · cases h

theorem gdI (l : List Int) (i : Nat) (h : i < l.length) : l.getD i 0 = l[i] := by simp [List.getD_eq_getElem?_getD, h]

set_option maxRecDepth 100000 in
set_option maxHeartbeats 8000000 in
theorem FlowCursor_law (m : Mem) (hro : ∀ i c, m.get i = some c → c.writable = false)
    (a0 : Option Addr) (l0 c0 : Nat) (xs0 : List Int) (hs0 : SlA m 1 a0 l0 c0 (xs0.map (.int .i64))) (hl0 : xs0.length = l0) (hx0 : ∀ x ∈ xs0, -9223372036854775808 ≤ x ∧ x < 9223372036854775808)
    (cut : Int) (hc : -9223372036854775808 ≤ cut) (hc' : cut < 9223372036854775808) :
    CallQ E F_sheaflaw10_FlowCursor [.slice a0 l0 c0, .int .i64 cut].toArray m fun v _ => v = .bool true := by
  refine .enter fn_sheaflaw10_FlowCursor (by simp) ?_
  simp (decide := true) (implicitDefEqProofs := false) (maxDischargeDepth := 20) only [go_sem, ↓reduceIte, true_implies, false_implies]
  obtain ⟨rb, hrb⟩ : ∃ rb, rb = m.size := ⟨_, rfl⟩
  have oA : Old m (m.push (.cells false true [.bool false])) := .push (.refl m) _
  have gA : (m.push (.cells false true [.bool false])).get rb = some (.cells false true [.bool false]) := by rw [hrb, getM_push, if_pos rfl]
  rw [← hrb]
  generalize m.push (.cells false true [.bool false]) = mA at *
  refine Cursor_a (hs0.old oA) hx0 (.refl mA) (by simp (decide := true) only [go_sem, ↓reduceIte]) (by simp (decide := true) only [go_sem, ↓reduceIte]) (by simp (decide := true) only [go_sem, ↓reduceIte]) (by simp (decide := true) only [go_sem, ↓reduceIte]) fun t1 m1 p1 hag1 f5 V1 o1 => ?_
  have f1 := hag1 1 (by decide +kernel)
  have f4 := hag1 4 (by decide +kernel)
  simp (decide := true) only [go_sem, ↓reduceIte] at f1 f4
  obtain ⟨n, hn⟩ : ∃ n, n = min l0 20 := ⟨_, rfl⟩
  rw [← hn] at f5 V1
  obtain ⟨xs, hxs⟩ : ∃ xs, xs = rises ((xs0.take 20).map fun x => withinI x 1 3) n := ⟨_, rfl⟩
  rw [← hxs] at V1
  have lx : xs.length = n := by rw [hxs, rises_len]
  have dl0 : ((xs0.take 20).map fun x => withinI x 1 3).length = n := by rw [List.length_map, List.length_take, hl0]; omega
  have hst : xs.Pairwise (· < ·) := by
    rw [hxs]
    exact rises_strict _ (fun d hd => by
      obtain ⟨x, _, rfl⟩ := List.mem_map.1 hd
      exact (withinI_bd x 1 3 (by omega)).1) n (by omega)
  have X1 := V1.sl
  simp (decide := true) (implicitDefEqProofs := false) (maxDischargeDepth := 20) only [go_sem, f5, ↓reduceIte, true_implies, false_implies]
  refine (Cursor_at).mono ?_
  rintro w m2 ⟨rfl, cc, o2⟩
  obtain ⟨cb, hcb⟩ : ∃ cb, cb = m1.size := ⟨_, rfl⟩
  rw [← hcb] at cc ⊢
  have hcb2 : cb < m2.size := getM_lt cc
  have rb1 : rb < m1.size := Nat.lt_of_lt_of_le (getM_lt gA) o1.size
  simp (decide := true) (implicitDefEqProofs := false) (maxDischargeDepth := 20) only [go_sem, f5, ↓reduceIte, true_implies, false_implies]
  -- the cursor answers its list
  have hX : ∀ q, q ≤ n → ∀ m', Frozen (butL m2 [cb]) m' → SlA m' 1 p1 n n (xs.map vI) := fun q _ m' z => X1.butS o2 z (by simp; omega)
  simp only [c_sheaflaw10_FlowCursor_23_at, wpM_block, c_sheaflaw10_FlowCursor_22_at]
  refine wpM_loopA (fun j t' m' => ∃ i, i ≤ n ∧ j = n - i ∧ t' 48 = .int .i64 (i : Nat) ∧ CurAt (butL m2 [cb]) cb (xs.drop i) m' ∧ Frozen (butL m2 [cb]) m' ∧ ChgS (fun i => i = cb) m2 m') n
    ⟨0, by omega, rfl, by simp (decide := true) only [go_sem, ↓reduceIte]; try rfl, ⟨p1, n, by rw [List.drop_zero, lx]; exact cc, fun m' z => by rw [List.drop_zero, lx]; exact hX 0 (by omega) m' z⟩, butL_frozen _ _, .refl _ _⟩ ?_
  rintro j t' m3 hag ⟨i, hi, rfl, e48, hcur, z3, c3⟩
  have e1 := hag 1 (by decide +kernel)
  have e4 := hag 4 (by decide +kernel)
  have e5 := hag 5 (by decide +kernel)
  have e8 := hag 8 (by decide +kernel)
  have e47 := hag 47 (by decide +kernel)
  simp (decide := true) only [go_sem, f1, f4, f5, ↓reduceIte] at e1 e4 e5 e8 e47
  have zcb : butL m2 [cb] cb = none := butL_no (by simp)
  have ecall : (#[] ++ ([] : List Value).toArray ++ #[ptr cb] : Array Value) = #[ptr cb] := by simp
  have hdl : (xs.drop i).length = n - i := by rw [List.length_drop, lx]
  by_cases hlt : i < n
  · have d1 : decide ((i : Int) < (n : Int)) = true := by simp; omega
    have w1 : IntKind.wrap .i64 ((i : Int) + 1) = ((i + 1 : Nat) : Int) := by rw [wrap_i64_id _ (by omega) (by omega)]; omega
    have z0 : (0 : Int) ≤ (i : Int) := by omega
    have z1 : (i : Int) < (n : Int) := by omega
    have hd : xs.drop i = xs[i]'(by omega) :: xs.drop (i + 1) := List.drop_eq_getElem_cons (by omega)
    obtain ⟨_, nx⟩ := Next_at hcur z3 zcb (by omega)
    rw [ecall] at nx
    simp (decide := true) (implicitDefEqProofs := false) (maxDischargeDepth := 20) only [go_sem, e5, e8, e47, e48, d1, ↓reduceIte, true_implies, false_implies]
    refine nx.mono ?_
    rintro w m4 ⟨rfl, hcur4, c4, hsz⟩
    have z4 := z3.chg c4 fun i hi => by rw [hi]; exact zcb
    have X4 := hX 0 (by omega) m4 z4
    obtain ⟨xb, xo, xsp, rfl⟩ := X4.addr (by omega)
    have rx := X4.at_map hlt
    have dne : ∀ y : Int, (y != y) = false := fun y => by simp
    rw [hd] at hcur4 ⊢
    simp (decide := true) (implicitDefEqProofs := false) (maxDischargeDepth := 20) only [go_sem, List.headD_cons, List.isEmpty_cons, e5, e8, e47, e48, z0, z1, rx, dne, w1, Int.toNat_natCast, ↓reduceIte, true_implies, false_implies]
    exact ⟨n - (i + 1), by omega, i + 1, by omega, rfl, rfl, hcur4, z4, c3.trans c4 (fun _ h => h) (fun _ _ h => h)⟩
  · have hin : i = n := by omega
    have d1 : decide ((i : Int) < (n : Int)) = false := by simp; omega
    have hd : xs.drop i = [] := List.drop_of_length_le (by omega)
    rw [hd] at hcur
    obtain ⟨_, nx⟩ := Next_at hcur z3 zcb (by simp)
    rw [ecall] at nx
    simp (decide := true) (implicitDefEqProofs := false) (maxDischargeDepth := 20) only [go_sem, e5, e8, e47, e48, d1, ↓reduceIte, true_implies, false_implies]
    refine nx.mono ?_
    rintro w m4 ⟨rfl, hcur4, c4, _⟩
    have z4 := z3.chg c4 fun i hi => by rw [hi]; exact zcb
    obtain ⟨_, nx⟩ := Next_at hcur4 z4 zcb (by simp)
    rw [ecall] at nx
    simp (decide := true) (implicitDefEqProofs := false) (maxDischargeDepth := 20) only [go_sem, List.isEmpty_nil, e5, e8, ↓reduceIte, true_implies, false_implies]
    refine nx.mono ?_
    rintro w m5 ⟨rfl, _, c5, _⟩
    have z5 := z4.chg c5 fun i hi => by rw [hi]; exact zcb
    have c25 := (c3.trans c4 (C := fun i => i = cb) (fun _ h => h) (fun _ _ h => h)).trans c5 (C := fun i => i = cb) (fun _ h => h) (fun _ _ h => h)
    have o15 : Old m1 m5 := .of_get (Nat.le_trans o2.size c25.size) fun q hq => (c25.get q (Nat.lt_of_lt_of_le hq o2.size) (by omega)).trans (o2.get hq)
    simp (decide := true) (implicitDefEqProofs := false) (maxDischargeDepth := 20) only [go_sem, List.tail_nil, List.isEmpty_nil, e1, e5, ↓reduceIte, true_implies, false_implies]
    refine ((Within_ans cut 0 (n : Int) hc hc' (by omega) (by omega) (by omega) (by omega)) m5).mono ?_
    rintro w m6 ⟨rfl, o6⟩
    have q0 := Int.emod_nonneg cut (show (n : Int) - 0 + 1 ≠ 0 by omega)
    have q1 := Int.emod_lt_of_pos cut (show 0 < (n : Int) - 0 + 1 by omega)
    obtain ⟨k, hk⟩ : ∃ k : Nat, (k : Int) = 0 + cut % ((n : Int) - 0 + 1) := ⟨(0 + cut % ((n : Int) - 0 + 1)).toNat, by omega⟩
    rw [← hk]
    have hkn : k ≤ n := by omega
    have o16 := o15.trans o6
    obtain ⟨sT, ST0⟩ := X1.sliceTo (E := E) (k := .i64) hkn
    have sT' := sT 23 (by decide +kernel)
    rw [Nat.mul_one, ← List.map_take] at ST0
    simp (decide := true) (implicitDefEqProofs := false) (maxDischargeDepth := 20) only [go_sem, e5, sT', ↓reduceIte, true_implies, false_implies]
    obtain ⟨nb, hnb⟩ : ∃ nb, nb = m6.size := ⟨_, rfl⟩
    have o67 : Old m6 ((m6.push (.cells false true [.int .i64 0])).put m6.size (some (.cells false true [.int .i64 0]))) := .of_get (by simp) fun q hq => by
      rw [getM_put, if_neg (by omega), getM_push, if_neg (by omega)]
    have g7 : ((m6.push (.cells false true [.int .i64 0])).put m6.size (some (.cells false true [.int .i64 0]))).get nb = some (.cells false true [.int .i64 0]) := by
      rw [hnb, getM_put, if_pos ⟨rfl, by simp⟩]
    generalize (m6.push (.cells false true [.int .i64 0])).put m6.size (some (.cells false true [.int .i64 0])) = m7 at *
    have o17 := o16.trans o67
    have nb1 : m1.size ≤ nb := by rw [hnb]; exact o16.size
    rw [← hnb]
    refine (From_at).mono ?_
    rintro w m8 ⟨bs, rfl, cs, o8, hbs⟩
    simp (decide := true) (implicitDefEqProofs := false) (maxDischargeDepth := 20) only [go_sem, e5, ↓reduceIte, true_implies, false_implies]
    refine (Cursor_at).mono ?_
    rintro w m9 ⟨rfl, cc9, o9⟩
    simp (decide := true) (implicitDefEqProofs := false) (maxDischargeDepth := 20) only [go_sem, e5, ↓reduceIte, true_implies, false_implies]
    refine (Join_at).mono ?_
    rintro w mJ ⟨b1, b2, b3, rfl, j1, j2, j3, oJ⟩
    obtain ⟨cb', hcb'⟩ : ∃ cb', cb' = m8.size := ⟨_, rfl⟩
    rw [← hcb'] at cc9 j2
    have hbsl := getM_lt cs
    have nb7 := getM_lt g7
    have lcb9 := getM_lt cc9
    have csJ := cs.old (o9.trans oJ)
    have ccJ := cc9.old oJ
    have gJ : mJ.get nb = some (.cells false true [.int .i64 0]) := by rw [oJ.get (by have := o8.size; have := o9.size; omega), o9.get (by have := o8.size; omega), o8.get nb7, g7]
    have ncb : nb ≠ cb' := by have := o8.size; omega
    have nbs : bs ≠ nb ∧ bs ≠ cb' := by omega
    have nn : b1 ≠ nb ∧ b2 ≠ nb ∧ b3 ≠ nb := by
      refine ⟨?_, ?_, ?_⟩
      · rintro rfl; rw [cap1] at j1; rw [gJ] at j1; cases j1
      · rintro rfl; rw [cap1] at j2; rw [gJ] at j2; cases j2
      · rintro rfl; rw [cap1] at j3; rw [gJ] at j3; cases j3
    have nc : b1 ≠ cb' ∧ b2 ≠ cb' ∧ b3 ≠ cb' := by
      refine ⟨?_, ?_, ?_⟩
      · rintro rfl; rw [cap1] at j1 ccJ; rw [j1] at ccJ; cases ccJ
      · rintro rfl; rw [cap1] at j2 ccJ; rw [j2] at ccJ; cases ccJ
      · rintro rfl; rw [cap1] at j3 ccJ; rw [j3] at ccJ; cases ccJ
    have o1J := o17.trans (o8.trans (o9.trans oJ))
    have cb1 : m1.size ≤ cb' := by have := o17.size; have := o8.size; omega
    have lxk : (xs.take k).length = k := by rw [List.length_take, lx]; omega
    have it := JoinI (Z := butL mJ [nb, cb']) (l := xs) (cmp := belowI) lxk (by omega) (ValuesI (F := none') (butL_at csJ (by simp; omega)) (fun _ z => ST0.butS o1J z (by simp; omega)) (by omega)) (butL_at j1 (by simp; omega)) (butL_at j2 (by simp; omega)) (butL_at j3 (by simp; omega)) (fun a b => Below_ok _ a b)
    have hr : ∀ j, j + 1 < (xs.take k).length → (xs.take k).getD j 0 ≤ (xs.take k).getD (j + 1) 0 := by
      intro j hj
      rw [lxk] at hj
      have q : (xs.take k).Pairwise (· < ·) := hst.sublist (List.take_sublist _ _)
      rw [gdI _ _ (by omega), gdI _ _ (by omega)]
      exact Int.le_of_lt (List.pairwise_iff_getElem.1 q j (j + 1) (by omega) (by omega) (by omega))
    have hit := hit_mem xs (xs.take k) hst hr
    simp (decide := true) (implicitDefEqProofs := false) (maxDischargeDepth := 20) only [go_sem, ↓reduceIte, true_implies, false_implies]
    simp only [c_sheaflaw10_FlowCursor_36_at, wpM_block, c_sheaflaw10_FlowCursor_35_at]
    have nbJ := getM_lt gJ
    refine wpM_rangeP (A := fun i => i = nb) it (fun t => upd (upd t 19 (t 91)) 20 (t 92)) (by simp (decide := true) only [go_sem, ↓reduceIte]) rfl asg_sheaflaw10_FlowCursor_0 body_sheaflaw10_FlowCursor_0 (by decide) (fun K l t m h => by simp (decide := true) only [go_sem, ↓reduceIte]; exact h)
      (fun j mm A => mm.get nb = some (.cells false true [vI j]) ∧ ∀ i, A i ↔ i = nb) noD (fun j => fun mm mm' A h hk _ => ⟨(hk nb ((h.2 nb).2 rfl)).trans h.1, h.2⟩) noD_loc (butL_frozen _ _) (fun i hi => ⟨by omega, by rw [hi]; exact butL_no (by simp), by omega⟩) (fun i hi => ⟨by have := getM_lt ccJ; omega, by rw [hi]; exact butL_no (by simp)⟩)
      (by
        refine ⟨p1, n, ?_, fun m' z => ?_⟩
        · rw [show (stJ belowI xs ((xs.take k).take 0)).left = xs from rfl, lx]; exact ccJ
        · rw [show (stJ belowI xs ((xs.take k).take 0)).left = xs from rfl, lx]; exact X1.butS o1J z (by simp; omega))
      ⟨gJ, fun i => Iff.rfl⟩ ?_ ?_ ?_
    · rintro j vs mB A B l hj z1 o5 o6' dis ow ⟨gn, hA⟩ ⟨q, rfl, hq⟩ hin hms
      refine ⟨rfl, ?_⟩
      have hi0 := hit j (by omega)
      have hiff := hit_iff xs hst _ _ hi0
      have hmem : (xs.take k).getD j 0 ∈ xs := by
        rw [gdI _ _ (by omega)]
        exact List.mem_of_mem_take (List.getElem_mem _)
      cases hh : hitJ belowI (stJ belowI xs ((xs.take k).take (j + 1))) ((xs.take k).getD j 0) with
      | none => rw [hh, decide_eq_true hmem] at hiff; cases hiff
      | some y =>
        rw [hh] at hq
        obtain ⟨b0, rfl, gy, hB⟩ := hq
        have hy := (belowI_eq _ _).1 (hitJ_val _ _ _ _ hh)
        rw [hy]
        have n0 : nb ≠ b0 := fun e => dis nb ((hA nb).2 rfl) (e ▸ hB)
        have r0 := get_at0 gy
        have rn := get_at0 gn
        have w1 : IntKind.wrap .i64 ((j : Int) + 1) = ((j + 1 : Nat) : Int) := by rw [wrap_i64_id _ (by omega) (by omega)]; omega
        have dne : (y != y) = false := by simp
        simp (decide := true) (implicitDefEqProofs := false) (maxDischargeDepth := 20) only [go_sem, r0, rn, gy, gn, n0, n0.symm, dne, w1, ↓reduceIte, true_implies, false_implies]
        have nbB := getM_lt gn
        refine ⟨rfl, rfl, fun i => i = nb, ⟨by simp, fun i hi hna => ?_⟩, fun i hi => ⟨by rw [hi]; simpa using nbB, .inl (.inl ((hA i).2 hi))⟩, by rw [if_pos nbB], fun i => Iff.rfl⟩
        rw [getM_put, if_neg (fun e => hna (.inl ((hA i).2 e.1))), getM_put, if_neg (fun e => hna (.inr (by rw [e.1]; exact hB)))]
    · rintro mE A' z' o' ow ⟨gn, hA⟩ c1 c2
      have o1E : Old m1 mE := .of_get (by have := o1J.size; have := c1.size; omega) fun i hi => by rw [c1.get i (by have := o1J.size; omega) (by omega), o1J.get hi]
      have XE := X1.old o1E
      have rn := get_at0 gn
      have dk : ((k : Int) == (k : Int)) = true := by simp
      simp (decide := true) (implicitDefEqProofs := false) (maxDischargeDepth := 20) only [go_sem, e5, rn, dk, ↓reduceIte, true_implies, false_implies]
      refine (Found_at XE XE (by omega) (by omega)).mono ?_
      rintro w mF ⟨pF, rfl, VF, oF⟩
      simp (decide := true) (implicitDefEqProofs := false) (maxDischargeDepth := 20) only [go_sem, e5, ↓reduceIte, true_implies, false_implies]
      refine (Found_at (XE.old oF) (XE.old oF) (by omega) (by omega)).mono ?_
      rintro w mG ⟨pG, rfl, VG, oG⟩
      simp (decide := true) (implicitDefEqProofs := false) (maxDischargeDepth := 20) only [go_sem, e5, ↓reduceIte, true_implies, false_implies]
      refine (SameI (VF.sl.old oG) VG.sl (by omega) (by omega)).mono ?_
      rintro w mH ⟨rfl, oH⟩
      have ds : decide (foundL belowI xs xs n = foundL belowI xs xs n) = true := by simp
      have oEH := oF.trans (oG.trans oH)
      simp (decide := true) (implicitDefEqProofs := false) (maxDischargeDepth := 20) only [go_sem, e5, ds, ↓reduceIte, true_implies, false_implies]
      refine (Found_at (ys := []) (XE.old oEH) (.empty 1) (by omega) (by omega)).mono ?_
      rintro w mI ⟨pI, rfl, VI, oI⟩
      have w1 : IntKind.wrap .i64 (2 * (n : Int)) = ((2 * n : Nat) : Int) := by rw [wrap_i64_id _ (by omega) (by omega)]; omega
      have d2 : (((2 * n : Nat) : Int) == ((2 * n : Nat) : Int)) = true := by simp
      have gR : mI.get rb = some (.cells false true [.bool false]) := by
        have oo := o1.trans (o1E.trans (oEH.trans oI))
        rw [oo.get (getM_lt gA), gA]
      have rR := get_at0 gR
      simp (decide := true) (implicitDefEqProofs := false) (maxDischargeDepth := 20) only [go_sem, e4, e5, w1, d2, gR, rR, ↓reduceIte, true_implies, false_implies]
      rw [if_pos (getM_lt gR)]
    · rintro j x m' A' _ _ _ _ _ h
      exact h.elim
end Go.Proofs.Ytgbpgkfmmhlkoaa.W
