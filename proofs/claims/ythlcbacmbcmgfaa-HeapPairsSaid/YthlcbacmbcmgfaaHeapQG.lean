/-
  HeapPairs, the law.
-/
import Derived.Test.YthlcbacmbcmgfaaHeapQF
import Derived.Test.YthlcbacmbcmgfaaAbs26
namespace Go.Proofs.Ythlcbacmbcmgfaa.W
open Go.Abs
set_option linter.unusedSimpArgs false
set_option linter.unusedVariables false

def prA (xs : List Int) (i : Nat) : Int × Int := (xs.getD i 0, (i : Int))
def prs (xs : List Int) (k : Nat) : List (Int × Int) := (List.range k).map (prA xs)
theorem prs_succ (xs : List Int) (k : Nat) : prs xs (k + 1) = prs xs k ++ [prA xs k] := by unfold prs; rw [List.range_succ, List.map_append]; rfl
theorem prs_len (xs : List Int) (k : Nat) : (prs xs k).length = k := by simp [prs]

/-- Where the play stands. -/
structure PairS (Z : Nat → Option Blk) (m : Mem) (h : Nat) (fv : Value) (down : Bool) (hl : List (Int × Int)) (A : Set') : Prop where
  a : HeapAtP m h fv hl A
  z : Frozen Z m
  no : ∀ q, A q → Z q = none
  heap : IsHeap (lessD down) hl
theorem PairS.step {Z : Nat → Option Blk} {m m' : Mem} {h : Nat} {fv : Value} {down : Bool} {hl hl' : List (Int × Int)} {A A' : Set'} (S : PairS Z m h fv down hl A) (H : HeapAtP m' h fv hl' A') (t : Trs A m m' A') (hh : IsHeap (lessD down) hl') : PairS Z m' h fv down hl' A' where
  a := H
  z := S.z.chg t.c S.no
  no := fun q hq => by
    rcases (t.n q hq).2 with h | h
    · exact S.no q h
    · exact S.z.free h
  heap := hh

theorem prs_nodup (xs : List Int) (k : Nat) : (prs xs k).Nodup := by
  unfold prs
  rw [List.nodup_iff_pairwise_ne, List.pairwise_map]
  refine (List.nodup_iff_pairwise_ne.1 List.nodup_range).imp fun {a b} hab e => hab ?_
  have := congrArg Prod.snd e
  simp only [prA] at this
  omega
theorem obx (P : Mem → Prop) (m : Mem) (zs cs : List Value) (h : ∀ m', m'.get m.size = some (.cells false true cs) → Old m m' → P m') : P ((m.push (.cells false true zs)).put m.size (some (.cells false true cs))) :=
  h _ (by rw [getM_put, if_pos ⟨rfl, by simp⟩]) (.put (.push (.refl m) _) _ _ (by omega))

set_option maxRecDepth 100000 in
set_option maxHeartbeats 8000000 in
theorem HeapPairs_law (m : Mem) (hro : ∀ i c, m.get i = some c → c.writable = false)
    (a0 : Option Addr) (l0 c0 : Nat) (xs0 : List Int) (hs0 : SlA m 1 a0 l0 c0 (xs0.map (.int .i64))) (hl0 : xs0.length = l0) (hx0 : ∀ x ∈ xs0, -9223372036854775808 ≤ x ∧ x < 9223372036854775808)
    (down : Bool) :
    CallQ E F_sheaflaw8_HeapPairs [.slice a0 l0 c0, .bool down].toArray m fun v _ => v = .bool true := by
  obtain ⟨n, g0⟩ : ∃ n, n = min l0 40 := ⟨_, rfl⟩
  have m0 : min (l0 : Int) 40 = (n : Int) := by omega
  obtain ⟨s0, A0⟩ := hs0.sliceTo (E := E) (k := .i64) (show n ≤ l0 by omega)
  rw [Nat.mul_one, ← List.map_take] at A0
  generalize xs0.take n = xs at *
  have lx : xs.length = n := by have := A0.len; simpa using this
  have s0' := s0 25 (by decide +kernel)
  refine .enter fn_sheaflaw8_HeapPairs (by simp) ?_
  simp (decide := true) (implicitDefEqProofs := false) (maxDischargeDepth := 20) only [go_sem, ↓reduceIte, true_implies, false_implies]
  have oA : Old m (m.push (.cells false true [.bool down])) := .push (.refl m) _
  have gD : (m.push (.cells false true [.bool down])).get m.size = some (.cells false true [.bool down]) := by rw [getM_push, if_pos rfl]
  generalize m.push (.cells false true [.bool down]) = mA at *
  generalize m.size = db at *
  refine (NewP_at).mono ?_
  rintro w m1 ⟨rfl, Ha, o1⟩
  simp (decide := true) (implicitDefEqProofs := false) (maxDischargeDepth := 20) only [go_sem, m0, s0', ↓reduceIte, true_implies, false_implies]
  obtain ⟨h, hh⟩ : ∃ h, h = mA.size := ⟨_, rfl⟩
  rw [← hh] at Ha ⊢
  have ldb := getM_lt gD
  have gD1 : m1.get db = some (.cells false true [.bool down]) := (o1.get ldb).trans gD
  have zD : butL m1 [h] db = some (.cells false true [.bool down]) := butL_at gD1 (by simp; omega)
  have hf := lessD_ok zD
  have hS : ∀ m', Frozen (butL m1 [h]) m' → SlA m' 1 a0 n c0 (xs.map (.int .i64)) := fun m' z => A0.butS (oA.trans o1) z (by have := oA.size; simp; omega)
  have S1 : PairS (butL m1 [h]) m1 h (.func (.func 21) #[] #[ptr db]) down [] (fun i => i = h) := ⟨Ha, butL_frozen _ _, fun q hq => by rw [hq]; exact butL_no (by simp), heap_nil⟩
  simp only [c_sheaflaw8_HeapPairs_10_at, wpM_block, c_sheaflaw8_HeapPairs_9_at]
  refine wpM_loopA (fun j t' m' => ∃ i hl A, i ≤ n ∧ j = n - i ∧ t' 27 = .int .i64 (i : Nat) ∧ PairS (butL m1 [h]) m' h (.func (.func 21) #[] #[ptr db]) down hl A ∧ hl.Perm (prs xs i)) n
    ⟨0, [], _, by omega, rfl, by simp (decide := true) only [go_sem, ↓reduceIte]; try rfl, S1, List.Perm.refl _⟩ ?_
  rintro j t' m' hag ⟨i, hl, A, hi, rfl, e27, S, hp⟩
  have e3 := hag 3 (by decide +kernel)
  have e5 := hag 5 (by decide +kernel)
  have e6 := hag 6 (by decide +kernel)
  have e25 := hag 25 (by decide +kernel)
  have e26 := hag 26 (by decide +kernel)
  simp (decide := true) only [go_sem, ↓reduceIte] at e3 e5 e6 e25 e26
  have hlen := hp.length_eq
  rw [prs_len] at hlen
  by_cases hlt : i < n
  · have d1 : decide ((i : Int) < (n : Int)) = true := by simp; omega
    have w1 : IntKind.wrap .i64 ((i : Int) + 1) = ((i + 1 : Nat) : Int) := by rw [wrap_i64_id _ (by omega) (by omega)]; omega
    have z0 : (0 : Int) ≤ (i : Int) := by omega
    have z1 : (i : Int) < (n : Int) := by omega
    have SX := hS m' S.z
    obtain ⟨xb, xo, xsp, rfl⟩ := SX.addr (by omega)
    have r := SX.at_map hlt
    have ex : xs[i]'(by omega) = xs.getD i 0 := by simp [List.getD_eq_getElem?_getD, show i < xs.length by omega]
    rw [ex] at r
    simp (decide := true) (implicitDefEqProofs := false) (maxDischargeDepth := 20) only [go_sem, e5, e6, e25, e26, e27, d1, z0, z1, r, Int.toNat_natCast, ↓reduceIte, true_implies, false_implies]
    refine (PushP_at S.a hf S.z S.no (by omega) (prA xs i)).mono ?_
    rintro w m2 ⟨A', H2, t2⟩
    simp (decide := true) (implicitDefEqProofs := false) (maxDischargeDepth := 20) only [go_sem, e27, w1, ↓reduceIte, true_implies, false_implies]
    refine ⟨n - (i + 1), by omega, i + 1, _, A', by omega, rfl, rfl, S.step H2 t2 (pushL_heap (lessD_ord down) hl _ S.heap), ?_⟩
    rw [prs_succ]
    exact (pushL_perm hl _).trans ((List.Perm.cons _ hp).trans (List.perm_append_singleton _ _).symm)
  · have d1 : decide ((i : Int) < (n : Int)) = false := by simp; omega
    have hin : i = n := by omega
    subst hin
    simp (decide := true) (implicitDefEqProofs := false) (maxDischargeDepth := 20) only [go_sem, e5, e6, e25, e26, e27, d1, ↓reduceIte, true_implies, false_implies]
    refine StepQ_make (by decide +kernel) rfl (Nat.le_refl _) (by omega) ?_
    obtain ⟨mb, hmb⟩ : ∃ b, b = m'.size := ⟨_, rfl⟩
    have gM : (m'.push (.cells false true (List.replicate i (.bool false)))).get mb = some (.cells false true (List.replicate i (.bool false))) := by rw [hmb, getM_push, if_pos rfl]
    have oM : Old m' (m'.push (.cells false true (List.replicate i (.bool false)))) := .push (.refl _) _
    rw [← hmb]
    have lM := getM_lt gM
    generalize m'.push (.cells false true (List.replicate i (.bool false))) = mM at *
    simp (decide := true) (implicitDefEqProofs := false) (maxDischargeDepth := 20) only [go_sem, e6, ↓reduceIte, true_implies, false_implies]
    refine obx (fun mm => wpM E _ _ _ _ _ _ mm) mM _ [vI 0, vI 0] fun mW gW oW => ?_
    obtain ⟨wb, hwb⟩ : ∃ b, b = mM.size := ⟨_, rfl⟩
    rw [← hwb] at gW ⊢
    have gM := (oW.get (getM_lt gM)).trans gM
    have nmw : ¬ mb = wb := by omega
    have S0 : PairS (butL m1 [h]) mW h (.func (.func 21) #[] #[ptr db]) down hl A := ⟨S.a.old (oM.trans oW), S.z.old (oM.trans oW), S.no, S.heap⟩
    have zmb : butL m1 [h] mb = none := S.z.free (by omega)
    have zwb : butL m1 [h] wb = none := S.z.free (by have := oM.size; omega)
    simp only [c_sheaflaw8_HeapPairs_28_at, wpM_block, c_sheaflaw8_HeapPairs_27_at]
    have hA2 : ∀ x, A x → x ≠ mb ∧ x ≠ wb := fun x hx => by have := S.a.lt x hx; have := oM.size; omega
    refine wpM_loopA (fun j t2 m2 => ∃ (q : Nat) (hl out : List (Int × Int)) (A : Set') (bs : List Bool) (w : Int × Int), q ≤ i ∧ j = i - q ∧ t2 44 = .int .i64 (q : Nat) ∧ PairS (butL m1 [h]) m2 h (.func (.func 21) #[] #[ptr db]) down hl A ∧ (hl ++ out).Perm (prs xs i) ∧ out.length = q ∧ m2.get mb = some (.cells false true (bs.map .bool)) ∧ bs.length = i ∧ (∀ k, k < i → bs.getD k false = true → prA xs k ∈ out) ∧ m2.get wb = some (.cells false true [vI w.1, vI w.2]) ∧ (0 < q → ∀ y ∈ hl, lessD down y w = false) ∧ ∀ x, A x → x ≠ mb ∧ x ≠ wb) i
      ⟨0, hl, [], A, List.replicate i false, (0, 0), by omega, rfl, by simp (decide := true) only [go_sem, ↓reduceIte]; try rfl, S0, by rw [List.append_nil]; exact hp, rfl, by rw [List.map_replicate]; exact gM, by simp, fun k hk hb => by simp [List.getD_eq_getElem?_getD, hk] at hb, gW, fun h => absurd h (by omega), hA2⟩ ?_
    rintro j t2 m2 hag2 ⟨q, hl2, out, A2, bs, w, hq, rfl, b44, S2, hp2, hout, gM2, hbs, hbm, gW2, hord, hA3⟩
    have b3 := hag2 3 (by decide +kernel)
    have b5 := hag2 5 (by decide +kernel)
    have b6 := hag2 6 (by decide +kernel)
    have b9 := hag2 9 (by decide +kernel)
    have b10 := hag2 10 (by decide +kernel)
    have b43 := hag2 43 (by decide +kernel)
    simp (decide := true) only [go_sem, e3, e5, e6, ↓reduceIte] at b3 b5 b6 b9 b10 b43
    have hl2n := hp2.length_eq
    rw [List.length_append, prs_len, hout] at hl2n
    by_cases hqi : q < i
    · have hne : hl2 ≠ [] := by rintro rfl; simp at hl2n; omega
      have d1 : decide ((q : Int) < (i : Int)) = true := by simp; omega
      have w1 : IntKind.wrap .i64 ((q : Int) + 1) = ((q + 1 : Nat) : Int) := by rw [wrap_i64_id _ (by omega) (by omega)]; omega
      simp (decide := true) (implicitDefEqProofs := false) (maxDischargeDepth := 20) only [go_sem, b5, b43, b44, d1, ↓reduceIte, true_implies, false_implies]
      refine (PopP_at S2.a hf S2.z S2.no (by omega)).mono ?_
      rintro w' m3 ⟨rfl, H3, c3⟩
      rw [if_neg hne, show hl2.isEmpty = false by simpa using hne]
      have hl0' : 0 < hl2.length := List.length_pos_iff.2 hne
      have htm : gt hl2 0 ∈ hl2 := by rw [gt_getElem hl2 hl0']; exact List.getElem_mem _
      have htop := heap_top (lessD_ord down) hl2 S2.heap
      have hpp := popL_perm (lt := lessD down) hl2 hne
      obtain ⟨k, hk, hkt⟩ : ∃ k, k < i ∧ gt hl2 0 = prA xs k := by
        have := hp2.mem_iff.1 (List.mem_append_left out htm)
        unfold prs at this
        obtain ⟨k, h1, h2⟩ := List.mem_map.1 this
        exact ⟨k, List.mem_range.1 h1, h2.symm⟩
      have hnd : (hl2 ++ out).Nodup := (hp2.nodup_iff).2 (prs_nodup xs i)
      have hno : prA xs k ∉ out := fun h => (List.nodup_append.1 hnd).2.2 _ htm _ h hkt
      have hbk : bs.getD k false = false := by
        cases hb : bs.getD k false with
        | false => rfl
        | true => exact absurd (hbm k hk hb) hno
      have hlw : 0 < q → lessD down (prA xs k) w = false := fun h => hkt ▸ hord h _ htm
      have gM3 : m3.get mb = some (.cells false true (bs.map .bool)) := by rw [c3.get mb (getM_lt gM2) (fun h => (hA3 mb h).1 rfl), gM2]
      have gW3 : m3.get wb = some (.cells false true [vI w.1, vI w.2]) := by rw [c3.get wb (getM_lt gW2) (fun h => (hA3 wb h).2 rfl), gW2]
      have z3 := S2.z.chg c3 S2.no
      have gD3 : m3.get db = some (.cells false true [.bool down]) := z3 _ _ zD
      have SX := hS m3 z3
      obtain ⟨xb, xo, xsp, rfl⟩ := SX.addr (by omega)
      have rx := SX.at_map hk
      have ex : xs[k]'(by omega) = xs.getD k 0 := by simp [List.getD_eq_getElem?_getD, show k < xs.length by omega]
      rw [ex] at rx
      have lxb : xb < m3.size := at_lt rx
      have rm : m3.at mb k = some (.bool false) := by
        unfold Mem.at
        rw [gM3]
        show (bs.map Value.bool)[k]? = _
        rw [List.getElem?_map]
        rw [List.getD_eq_getElem?_getD, List.getElem?_eq_getElem (by omega)] at hbk
        rw [List.getElem?_eq_getElem (by omega)]
        simpa using hbk
      have rw0 : m3.at wb 0 = some (vI w.1) := get_at0 gW3
      have rd : m3.at db 0 = some (.bool down) := get_at0 gD3
      have l1 := getM_lt gM3
      have l2 := getM_lt gW3
      have l3 := getM_lt gD3
      have n1 : ¬ mb = m3.size := by omega
      have n2 : ¬ wb = m3.size := by omega
      have n3 : ¬ db = m3.size := by omega
      have n4 : ¬ xb = m3.size := by omega
      have n5 : ¬ wb = mb := fun e => nmw e.symm
      have n6 : ¬ m3.size = mb := by omega
      have n7 : ¬ m3.size = wb := by omega
      have dk0 : decide ((k : Int) < 0) = false := by simp
      have dk1 : decide ((k : Int) ≥ (i : Int)) = false := by simp; omega
      have y0 : (0 : Int) ≤ (k : Int) := by omega
      have y1 : (k : Int) < (i : Int) := by omega
      have dx : (xs.getD k 0 != xs.getD k 0) = false := by simp
      have dset : decide (k + 1 ≤ bs.length) = true := by simp; omega
      rw [hkt]
      have core : ∀ mZ : Mem, (∀ x, x < m3.size → x ≠ mb → x ≠ wb → mZ.get x = m3.get x) → m3.size ≤ mZ.size → PairS (butL m1 [h]) mZ h (.func (.func 21) #[] #[ptr db]) down (popL (lessD down) hl2) A2 := fun mZ g1 g2 => by
        refine ⟨HeapAtP.loc _ _ _ m3 mZ A2 H3 (fun x hx => g1 x (H3.lt x hx) (hA3 x hx).1 (hA3 x hx).2) g2, fun x b hx => ?_, S2.no, popL_heap (lessD_ord down) hl2 S2.heap⟩
        rw [g1 x (z3.lt hx) (fun e => by rw [e, zmb] at hx; cases hx) (fun e => by rw [e, zwb] at hx; cases hx)]
        exact z3 x b hx
      have perm2 : (popL (lessD down) hl2 ++ prA xs k :: out).Perm (prs xs i) := by
        refine List.perm_middle.trans (List.Perm.trans ?_ hp2)
        have := hpp.append_right out
        rw [hkt] at this
        exact this
      have bm2 : ∀ k', k' < i → (bs.set k true).getD k' false = true → prA xs k' ∈ prA xs k :: out := fun k' hk' hb => by
        by_cases e : k' = k
        · rw [e]; simp
        · refine List.mem_cons_of_mem _ (hbm k' hk' ?_)
          rw [List.getD_eq_getElem?_getD, List.getElem?_set_ne (fun h => e h.symm)] at hb
          rw [List.getD_eq_getElem?_getD]
          exact hb
      have ord2 : ∀ y ∈ popL (lessD down) hl2, lessD down y (prA xs k) = false := fun y hy => by
        obtain ⟨j, hj, rfl⟩ := gt_mem hl2 (hpp.mem_iff.1 (List.mem_cons_of_mem _ hy))
        rw [← hkt]
        exact htop j hj
      have G : ∀ (c1 c2 c3 : Option Blk) (zz : Blk) (x : Nat), x < m3.size → x ≠ mb → x ≠ wb → ((((m3.push zz).put m3.size c1).put mb c2).put wb c3).get x = m3.get x := fun c1 c2 c3 zz x hx h1 h2 => by
        rw [getM_put, if_neg (fun e => h2 e.1), getM_put, if_neg (fun e => h1 e.1), getM_put, if_neg (by omega), getM_push, if_neg (by omega)]
      have lenM : (bs.set k true).map Value.bool = (bs.map Value.bool).set k (.bool true) := by rw [List.map_set]
      by_cases hq0 : q = 0
      · have dq : decide ((q : Int) > 0) = false := by simp; omega
        simp (decide := true) (implicitDefEqProofs := false) (maxDischargeDepth := 20) only [go_sem, pV, prA, b3, b5, b6, b9, b10, b43, b44, get_gm1, ugm_put1, gM3, gW3, rm, rx, rw0, rd, l1, l2, l3, lxb, n1, n2, n3, n4, n5, n6, n7, nmw, dk0, dk1, y0, y1, dx, dset, dq, w1, List.length_map, Int.toNat_natCast, ↓reduceIte, true_implies, false_implies]
        exact ⟨i - (q + 1), by omega, q + 1, popL (lessD down) hl2, prA xs k :: out, A2, bs.set k true, prA xs k, by omega, rfl, rfl, core _ (G _ _ _ _) (by simp), perm2, by simp [hout], by rw [lenM], by simp [hbs], bm2, rfl, fun _ => ord2, hA3⟩
      · have dq : decide ((q : Int) > 0) = true := by simp; omega
        have hlw := hlw (by omega)
        cases down with
        | true =>
          have dl : decide (xs.getD k 0 > w.1) = false := by simpa [lessD, prA] using hlw
          simp (decide := true) (implicitDefEqProofs := false) (maxDischargeDepth := 20) only [go_sem, pV, prA, b3, b5, b6, b9, b10, b43, b44, get_gm1, ugm_put1, gM3, gW3, rm, rx, rw0, rd, l1, l2, l3, lxb, n1, n2, n3, n4, n5, n6, n7, nmw, dk0, dk1, y0, y1, dx, dset, dq, dl, Bool.false_eq_true, w1, List.length_map, Int.toNat_natCast, ↓reduceIte, true_implies, false_implies]
          exact ⟨i - (q + 1), by omega, q + 1, popL (lessD true) hl2, prA xs k :: out, A2, bs.set k true, prA xs k, by omega, rfl, rfl, core _ (G _ _ _ _) (by simp), perm2, by simp [hout], by rw [lenM], by simp [hbs], bm2, rfl, fun _ => ord2, hA3⟩
        | false =>
          have dl : decide (xs.getD k 0 < w.1) = false := by simpa [lessD, prA] using hlw
          simp (decide := true) (implicitDefEqProofs := false) (maxDischargeDepth := 20) only [go_sem, pV, prA, b3, b5, b6, b9, b10, b43, b44, get_gm1, ugm_put1, gM3, gW3, rm, rx, rw0, rd, l1, l2, l3, lxb, n1, n2, n3, n4, n5, n6, n7, nmw, dk0, dk1, y0, y1, dx, dset, dq, dl, Bool.false_eq_true, w1, List.length_map, Int.toNat_natCast, ↓reduceIte, true_implies, false_implies]
          exact ⟨i - (q + 1), by omega, q + 1, popL (lessD false) hl2, prA xs k :: out, A2, bs.set k true, prA xs k, by omega, rfl, rfl, core _ (G _ _ _ _) (by simp), perm2, by simp [hout], by rw [lenM], by simp [hbs], bm2, rfl, fun _ => ord2, hA3⟩
    · have hqe : q = i := by omega
      have hle : hl2 = [] := List.eq_nil_of_length_eq_zero (by omega)
      subst hle
      have d1 : decide ((q : Int) < (i : Int)) = false := by simp; omega
      simp (decide := true) (implicitDefEqProofs := false) (maxDischargeDepth := 20) only [go_sem, b5, b43, b44, d1, ↓reduceIte, true_implies, false_implies]
      refine (PopP_at S2.a hf S2.z S2.no (by simp)).mono ?_
      rintro w' m3 ⟨rfl, H3, c3⟩
      simp (decide := true) (implicitDefEqProofs := false) (maxDischargeDepth := 20) only [go_sem, pV, List.isEmpty_nil, ↓reduceIte, true_implies, false_implies]
end Go.Proofs.Ythlcbacmbcmgfaa.W
