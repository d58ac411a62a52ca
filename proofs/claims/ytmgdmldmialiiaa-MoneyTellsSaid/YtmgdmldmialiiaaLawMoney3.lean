/-
  MoneyTells.
-/
import Derived.Test.YtmgdmldmialiiaaLawWide5
import Derived.Test.YtmgdmldmialiiaaLawMoney2
namespace Go.Proofs.Ytmgdmldmialiiaa.W
open Go.Abs
set_option linter.unusedSimpArgs false
set_option linter.unusedVariables false

set_option maxRecDepth 100000 in
theorem rScale_pos (n num : Int) (hn : -9223372036854775808 ≤ n) (hn' : n < 9223372036854775808) (hm : -9223372036854775808 ≤ num) (hm' : num < 9223372036854775808) (D : Nat) (hD : 0 < D) (hD' : (D : Int) < 9223372036854775808) :
    Ans E F_sheafref1_Scale [.int .i64 n, .int .i64 num, .int .i64 D] (quoA (n * num) D) := by
  have m1 := rMul_ans n num hn hn' hm hm'
  obtain ⟨k1, k2⟩ := mul_126 hn hn' hm hm'
  have q1 := rQuo_ans (n * num) (by omega) (by omega) D hD hD'
  unfold quoA at q1 ⊢
  obtain ⟨v, e, hve⟩ := intA_form (quoI (n * num) D)
  rw [hve] at q1 ⊢
  simp only [W] at m1 q1
  refine .of fn_sheafref1_Scale (by simp) fun m => ?_
  simp (decide := true) (implicitDefEqProofs := false) (maxDischargeDepth := 20) only [go_sem, ↓reduceIte, m1.eq, q1.eq]

set_option maxRecDepth 100000 in
theorem rScale_ans (n num d : Int) (hn : -9223372036854775808 ≤ n) (hn' : n < 9223372036854775808) (hm : -9223372036854775808 ≤ num) (hm' : num < 9223372036854775808) (hd : -9223372036854775808 ≤ d) (hd' : d < 9223372036854775808) :
    ∃ v e, Ans E F_money_Scale [.int .i64 n, .int .i64 num, .int .i64 d] (.tuple #[.int .i64 v, .bool e]) ∧ Ans E F_sheafref1_Scale [.int .i64 n, .int .i64 num, .int .i64 d] (.tuple #[.int .i64 v, .bool e]) := by
  have m1 := rMul_ans n num hn hn' hm hm'
  obtain ⟨k1, k2⟩ := mul_126 hn hn' hm hm'
  by_cases h : d ≤ 0
  · refine ⟨0, false, Scale_none n num d hn hn' hm hm' h, ?_⟩
    have q1 := rQuo_none (n * num) d h
    simp only [W] at m1 q1
    refine .of fn_sheafref1_Scale (by simp) fun m => ?_
    simp (decide := true) (implicitDefEqProofs := false) (maxDischargeDepth := 20) only [go_sem, ↓reduceIte, m1.eq, q1.eq]
  · obtain ⟨D, rfl⟩ := Int.eq_ofNat_of_zero_le (show 0 ≤ d by omega)
    have s1 := Scale_ans n num hn hn' hm hm' D (by omega) hd'
    have q1 := rScale_pos n num hn hn' hm hm' D (by omega) hd'
    unfold quoA at s1 q1
    obtain ⟨v, e, hve⟩ := intA_form (quoI (n * num) D)
    rw [hve] at s1 q1
    exact ⟨v, e, s1, q1⟩

set_option maxRecDepth 100000 in
set_option maxHeartbeats 4000000 in
theorem MoneyTells_loop (t : Fr) (m : Mem) (ad : Option Addr) (l c : Nat) (xs : List Int) (hs : SlA m 1 ad l c (xs.map (.int .i64))) (hl : xs.length = l) (hx : ∀ x ∈ xs, -9223372036854775808 ≤ x ∧ x < 9223372036854775808)
    (b1 b2 : Nat) (h1 : Box m b1 (Wc 0)) (h2 : Box m b2 (Wc 0)) (ne12 : b1 ≠ b2) (hne : 0 < l → ∀ x, ad = some x → x.block ≠ b1 ∧ x.block ≠ b2)
    (t4 : t 4 = .slice ad l c) (t19 : t 19 = .pointer (some ⟨b1, 0, none⟩)) (t20 : t 20 = .pointer (some ⟨b2, 0, none⟩)) (t21 : t 21 = .int .i64 0) (K : Post3)
    (hK : ∀ t' m', Agree (writes c_sheaflaw2_MoneyTells_7) t t' → Box m' b1 (Wc (xs.take (min l 40)).sum) → Box m' b2 (Wc (xs.take (min l 40)).sum) → K .normal t' m') :
    wpM E F_sheaflaw2_MoneyTells 123 none c_sheaflaw2_MoneyTells_7 K t m := by
  refine wpM_cut (fun t' m' => Box m' b1 (Wc (xs.take (min l 40)).sum) ∧ Box m' b2 (Wc (xs.take (min l 40)).sum)) ?_ fun t' m' ha ⟨e1, e2⟩ => hK t' m' ha e1 e2
  simp only [c_sheaflaw2_MoneyTells_7_at, wpM_block, c_sheaflaw2_MoneyTells_6_at]
  refine wpM_loopA (fun j t' m' => ∃ i : Nat, i ≤ min l 40 ∧ j = min l 40 - i ∧ t' 21 = .int .i64 i ∧ SlA m' 1 ad l c (xs.map (.int .i64)) ∧ Box m' b1 (Wc (xs.take i).sum) ∧ Box m' b2 (Wc (xs.take i).sum)) (min l 40)
    ⟨0, by omega, rfl, t21, hs, by simpa using h1, by simpa using h2⟩ ?_
  rintro j t' m' ha ⟨i, hi, rfl, e21, s, x1, x2⟩
  have a4 := (ha 4 (by decide +kernel)).trans t4
  have a19 := (ha 19 (by decide +kernel)).trans t19
  have a20 := (ha 20 (by decide +kernel)).trans t20
  by_cases hlt : i < min l 40
  · have d1 : decide ((i : Int) < (l : Int)) = true := by simp; omega
    have d2 : decide ((i : Int) < 40) = true := by simp; omega
    obtain ⟨b, o, sp, rfl⟩ := s.addr (by omega)
    obtain ⟨q1, q2⟩ := hne (by omega) _ rfl
    have r1 := s.at_map (show i < l by omega)
    have hxi := hx xs[i] (List.getElem_mem _)
    have z0 : (0 : Int) ≤ (i : Int) := by omega
    have z1 : (i : Int) < (l : Int) := by omega
    have w2 : IntKind.wrap .i64 ((i : Int) + 1) = ((i + 1 : Nat) : Int) := by rw [wrap_i64_id _ (by omega) (by omega)]; omega
    simp (decide := true) (implicitDefEqProofs := false) (maxDischargeDepth := 20) only [go_sem, ↓reduceIte, a4, a19, a20, e21, d1, d2, r1, z0, z1, Int.toNat_natCast, Nat.mul_one, true_implies, false_implies]
    refine SumAdd x1 hxi.1 hxi.2 fun m1 u1 y1 => ?_
    have s' := s.upd u1 fun x hx => by cases hx; exact q1
    have r2 := s'.at_map (show i < l by omega)
    have x2' := x2.upd u1 ne12.symm
    have p1 : (xs.take i).sum + xs[i] = (xs.take (i + 1)).sum := (sum_take_succ xs i (by omega)).symm
    have o1 := rOf_ans xs[i] hxi.1 hxi.2
    have ad1 := rAdd_ans (xs.take i).sum xs[i]
    rw [p1] at y1 ad1
    have l2 := x2'.lt
    have rr := x2'.rows
    obtain ⟨tg2, g2⟩ := x2'
    simp only [Wc, List.length_cons, List.length_nil, Nat.zero_add] at rr g2
    simp only [W] at o1 ad1
    simp (decide := true) (implicitDefEqProofs := false) (maxDischargeDepth := 20) only [go_sem, ↓reduceIte, a4, a19, a20, e21, r2, z0, z1, w2, rr, g2, l2, o1.eq, ad1.eq, Int.toNat_natCast, Nat.mul_one, true_implies, false_implies]
    refine ⟨min l 40 - (i + 1), by omega, i + 1, by omega, rfl, rfl, ?_⟩
    have u2 : Upd m1 ((ansM E F_sheafref1_Add #[.agg #[.int .i64 (IntKind.wrap .i64 ((xs.take i).sum / 18446744073709551616)), .int .u64 ((xs.take i).sum % 18446744073709551616)], .agg #[.int .i64 (IntKind.wrap .i64 (xs[i] / 18446744073709551616)), .int .u64 (xs[i] % 18446744073709551616)]] [] (ansM E F_sheafref1_Of #[.int .i64 xs[i]] [b2] m1)).put b2
        (some (.cells false tg2 [.int .i64 (IntKind.wrap .i64 ((xs.take (i + 1)).sum / 18446744073709551616)), .int .u64 ((xs.take (i + 1)).sum % 18446744073709551616)]))) b2 := Upd.put (by simp (decide := true) (maxDischargeDepth := 20) only [go_sem]) _ _
    exact ⟨s'.upd u2 (fun x hx => by cases hx; exact q2), y1.upd u2 ne12, .put (by simp (decide := true) (maxDischargeDepth := 20) only [go_sem, l2])⟩
  · have hin : i = min l 40 := by omega
    by_cases hl40 : i < l
    · have d1 : decide ((i : Int) < (l : Int)) = true := by simp; omega
      have d2 : decide ((i : Int) < 40) = false := by simp; omega
      simp (decide := true) (implicitDefEqProofs := false) (maxDischargeDepth := 20) only [go_sem, ↓reduceIte, a4, e21, d1, d2, true_implies, false_implies]
      rw [← hin]
      exact ⟨x1, x2⟩
    · have d1 : decide ((i : Int) < (l : Int)) = false := by simp; omega
      simp (decide := true) (implicitDefEqProofs := false) (maxDischargeDepth := 20) only [go_sem, ↓reduceIte, a4, e21, d1, true_implies, false_implies]
      rw [← hin]
      exact ⟨x1, x2⟩

set_option maxRecDepth 100000 in
set_option maxHeartbeats 8000000 in
theorem MoneyTells_law (m : Mem) (hro : ∀ i c, m.get i = some c → c.writable = false) (n : Int) (hn : -9223372036854775808 ≤ n) (hn' : n < 9223372036854775808) (num : Int) (hm : -9223372036854775808 ≤ num) (hm' : num < 9223372036854775808) (den : Int) (hd : -9223372036854775808 ≤ den) (hd' : den < 9223372036854775808) (part' : Int) (hp : -9223372036854775808 ≤ part') (hp' : part' < 9223372036854775808)
    (ad : Option Addr) (l c : Nat) (xs : List Int) (hs : SlA m 1 ad l c (xs.map (.int .i64))) (hl : xs.length = l) (hx : ∀ x ∈ xs, -9223372036854775808 ≤ x ∧ x < 9223372036854775808) :
    CallQ E F_sheaflaw2_MoneyTells [.int .i64 n, .int .i64 num, .int .i64 den, .int .i64 part', .slice ad l c].toArray m fun v _ => v = .bool true := by
  obtain ⟨a, x, s1, r1⟩ := rScale_ans n num den hn hn' hm hm' hd hd'
  have sp := Split_ans n part' hn hn'
  have r2 : Ans E F_sheafref1_Scale [.int .i64 n, .int .i64 (max 0 (min part' 10000)), .int .i64 10000] (quoA (n * max 0 (min part' 10000)) 10000) := rScale_pos n (max 0 (min part' 10000)) hn hn' (by omega) (by omega) 10000 (by decide) (by decide)
  obtain ⟨h1, h2, h3, h4⟩ := part_bounds n part'
  unfold quoA at r2
  rw [show quoI (n * max 0 (min part' 10000)) 10000 = part n part' from rfl, if_pos (by omega)] at r2
  have em : min (max part' 0) 10000 = max 0 (min part' 10000) := by omega
  generalize max 0 (min part' 10000) = pc at *
  have wq : IntKind.wrap .i64 (n - part n part') = n - part n part' := wrap_i64_id _ (by omega) (by omega)
  generalize part n part' = pp at *
  refine .enter fn_sheaflaw2_MoneyTells (by simp) ?_
  simp (decide := true) (implicitDefEqProofs := false) (maxDischargeDepth := 20) only [go_sem, ↓reduceIte, s1.eq, r1.eq, sp.eq, r2.eq, em, true_implies, false_implies]
  generalize hM : ansM E F_sheafref1_Scale _ [] (ansM E F_money_Split _ [] (ansM E F_sheafref1_Scale _ [] (ansM E F_money_Scale _ [] m))) = M
  have hO : Old m M := by rw [← hM]; exact .ansM (.ansM (.ansM (.ansM (.refl m))))
  clear hM
  have sM := hs.old hO
  obtain ⟨M4, hM4⟩ : ∃ M4, M4 = (M.push (Blk.cells false true [.int .i64 0, .int .u64 0])).push (Blk.cells false true [.int .i64 0, .int .u64 0]) := ⟨_, rfl⟩
  have g1 : M4.get M.size = some (Blk.cells false true [.int .i64 0, .int .u64 0]) := by rw [hM4]; simp [getM_push]
  have g2 : M4.get (M.size + 1) = some (Blk.cells false true [.int .i64 0, .int .u64 0]) := by rw [hM4]; simp [getM_push]
  have g0 : Old M M4 := by rw [hM4]; exact ((Old.refl M).push _).push _
  rw [← hM4]
  refine MoneyTells_loop _ _ ad l c xs (sM.old g0) hl hx M.size (M.size + 1) ⟨true, g1⟩ ⟨true, g2⟩ (by omega) ?_
    (by simp (decide := true) only [go_sem, ↓reduceIte]) (by simp (decide := true) only [go_sem, ↓reduceIte]) (by simp (decide := true) only [go_sem, ↓reduceIte]) (by simp (decide := true) only [go_sem, ↓reduceIte]) _ ?_
  · intro h0 x hx
    subst hx
    have hne : xs.map (Value.int .i64) ≠ [] := by
      intro e
      have : xs = [] := by simpa using e
      rw [this] at hl
      simp at hl
      omega
    have := sM.lt hne
    exact ⟨by omega, by omega⟩
  · intro t' m' ha x1 x2
    have e0 := ha 0 (by decide +kernel)
    have e11 := ha 11 (by decide +kernel)
    have e12 := ha 12 (by decide +kernel)
    have e13 := ha 13 (by decide +kernel)
    have e14 := ha 14 (by decide +kernel)
    have e15 := ha 15 (by decide +kernel)
    have e16 := ha 16 (by decide +kernel)
    have e17 := ha 17 (by decide +kernel)
    have e19 := ha 19 (by decide +kernel)
    have e20 := ha 20 (by decide +kernel)
    simp (decide := true) only [go_sem, ↓reduceIte] at e0 e11 e12 e13 e14 e15 e16 e17 e19 e20
    clear ha
    have hb := sum_bound (xs.take (min l 40)) (fun x h => hx x (List.mem_of_mem_take h))
    have hlen : (xs.take (min l 40)).length = min l 40 := by rw [List.length_take, hl]; omega
    rw [hlen] at hb
    generalize (xs.take (min l 40)).sum = S at *
    generalize M.size = Bz at *
    have l1 := x1.lt
    have l2 := x2.lt
    have rr := x2.rows
    obtain ⟨tg1, k1⟩ := x1
    obtain ⟨tg2, k2⟩ := x2
    have v : ∀ (b : Nat) (tg : Bool) (m3 : Mem) (K : Value → Mem → Prop), m3.get b = some (.cells false tg (Wc S)) → CallQ E F_money_Sum_Value [.pointer (some ⟨b, 0, none⟩)].toArray m3 K = K (intA S) (ansM E F_money_Sum_Value [Value.pointer (some ⟨b, 0, none⟩)].toArray [] m3) :=
      fun b tg m3 K h => callQ_eq (SumValue ⟨tg, h⟩ (by omega) (by omega)) K
    have w : ∀ (b : Nat) (tg : Bool) (m3 : Mem) (K : Value → Mem → Prop), m3.get b = some (.cells false tg (Wc S)) → CallQ E F_money_Sum_Wide [.pointer (some ⟨b, 0, none⟩)].toArray m3 K = K (W S) (ansM E F_money_Sum_Wide [Value.pointer (some ⟨b, 0, none⟩)].toArray [] m3) :=
      fun b tg m3 K h => callQ_eq (SumWide ⟨tg, h⟩) K
    have v1 := v Bz tg1
    have w1 : ∀ (m3 : Mem) (K : Value → Mem → Prop), m3.get Bz = some (.cells false tg1 (Wc S)) → CallQ E F_money_Sum_Wide [.pointer (some ⟨Bz, 0, none⟩)].toArray (m3.gm [Bz + 1]) K = K (W S) (ansM E F_money_Sum_Wide [Value.pointer (some ⟨Bz, 0, none⟩)].toArray [] (m3.gm [Bz + 1])) :=
      fun m3 K h => w Bz tg1 (m3.gm [Bz + 1]) K (by rw [get_gm, if_neg (by simp)]; exact h)
    have i1 := rInt_ans S (by omega) (by omega)
    obtain ⟨iv, ie, hi⟩ := intA_form S
    unfold intA at v1
    rw [hi] at v1 i1
    clear v w
    simp only [Wc, List.length_cons, List.length_nil, Nat.zero_add] at rr k2
    simp only [W] at w1 i1
    simp (decide := true) (implicitDefEqProofs := false) (maxDischargeDepth := 20) only [go_sem, ↓reduceIte, e0, e11, e12, e13, e14, e15, e16, e17, e19, e20, v1, w1, i1.eq, rr, k1, k2, l1, l2, wq, beq_self_eq_true, true_implies, false_implies]
end Go.Proofs.Ytmgdmldmialiiaa.W
