/-
  StageDoubles, the law.
-/
import Derived.Test.YtpabllcacdopdaaDblC
namespace Go.Proofs.Ytpabllcacdopdaa.W
open Go.Abs
set_option linter.unusedSimpArgs false
set_option linter.unusedVariables false

/-! ### Counting -/
theorem atD_mono (xs : List Int) {a b : Nat} (h : a ≤ b) : atD xs a ≤ atD xs b := by
  induction b with
  | zero => have : a = 0 := by omega
            subst this; exact Int.le_refl _
  | succ b ih =>
    by_cases hab : a = b + 1
    · subst hab; exact Int.le_refl _
    · have := ih (by omega)
      have e : atD xs (b + 1) = atD xs b + (0 + xs.getD b 0 % (2 - 0 + 1)) := rfl
      omega
theorem cntD_pos (xs : List Int) : ∀ (N : Nat) {i : Nat} {x : Int}, i < N → atD xs (i + 1) + 1 = x → 1 ≤ cntD xs N x
  | 0, _, _, h, _ => by omega
  | N + 1, i, x, h, e => by
    unfold cntD
    by_cases hi : i = N
    · subst hi
      rw [if_pos e.symm]
      omega
    · have := cntD_pos xs N (show i < N by omega) e
      omega
theorem cntD_two (xs : List Int) : ∀ (N : Nat) {i j : Nat} {x : Int}, i < j → j < N → atD xs (i + 1) + 1 = x → atD xs (j + 1) + 1 = x → 2 ≤ cntD xs N x
  | 0, _, _, _, _, h, _, _ => by omega
  | N + 1, i, j, x, h0, h, e, f => by
    unfold cntD
    by_cases hj : j = N
    · subst hj
      rw [if_pos f.symm]
      have := cntD_pos xs j h0 e
      omega
    · have := cntD_two xs N h0 (show j < N by omega) e f
      omega
theorem cntD_inv (xs : List Int) : ∀ (N : Nat) {x : Int}, 0 < cntD xs N x → ∃ i, i < N ∧ atD xs (i + 1) + 1 = x
  | 0, _, h => by simp [cntD] at h
  | N + 1, x, h => by
    unfold cntD at h
    by_cases hx : x = atD xs (N + 1) + 1
    · exact ⟨N, by omega, hx.symm⟩
    · rw [if_neg hx] at h
      obtain ⟨i, h1, h2⟩ := cntD_inv xs N (x := x) (by omega)
      exact ⟨i, by omega, h2⟩
theorem cntD_inv2 (xs : List Int) : ∀ (N : Nat) {x : Int}, 1 < cntD xs N x → ∃ i j, i < j ∧ j < N ∧ atD xs (i + 1) + 1 = x ∧ atD xs (j + 1) + 1 = x
  | 0, _, h => by simp [cntD] at h
  | N + 1, x, h => by
    unfold cntD at h
    by_cases hx : x = atD xs (N + 1) + 1
    · rw [if_pos hx] at h
      obtain ⟨i, h1, h2⟩ := cntD_inv xs N (x := x) (by omega)
      exact ⟨i, N, h1, by omega, h2, hx.symm⟩
    · rw [if_neg hx] at h
      obtain ⟨i, j, h1, h2, h3⟩ := cntD_inv2 xs N (x := x) (by omega)
      exact ⟨i, j, h1, by omega, h3⟩

theorem dbl_count {xs : List Int} {es : List HRow} {N k : Nat} (hes : es.map HRow.xs = rowsD xs N) (hk : k < N) : dblW es N k = if 1 < cntD xs N (atD xs (k + 1) + 1) then 2 else 0 := by
  have h0 : ∀ j, j < N → at0 es j = atD xs (j + 1) + 1 := fun j hj => by
    have e1 : (es.map HRow.xs)[j]? = some (rowD xs j) := by rw [hes]; simp [rowsD, hj]
    rw [List.getElem?_map] at e1
    obtain ⟨e, h1, h2⟩ := Option.map_eq_some_iff.1 e1
    unfold at0
    have e2 : es.getD j noRow = e := by rw [List.getD_eq_getElem?_getD, h1]; rfl
    rw [e2, h2]
    rfl
  have hiff : ((sameB es k || (decide (k + 1 < N) && sameB es (k + 1))) = true) ↔ 1 < cntD xs N (atD xs (k + 1) + 1) := by
    simp only [Bool.or_eq_true, Bool.and_eq_true, decide_eq_true_eq, sameB, beq_iff_eq, Nat.add_sub_cancel]
    constructor
    · rintro (⟨h1, h2⟩ | ⟨h1, h2, h3⟩)
      · rw [h0 (k - 1) (by omega), h0 k hk] at h2
        exact cntD_two xs N (show k - 1 < k by omega) hk h2 rfl
      · rw [h0 k hk, h0 (k + 1) h1] at h3
        exact cntD_two xs N (show k < k + 1 by omega) h1 rfl h3.symm
    · intro h
      obtain ⟨i, j, h1, h2, h3, h4⟩ := cntD_inv2 xs N h
      by_cases hik : i < k
      · refine .inl ⟨by omega, ?_⟩
        rw [h0 (k - 1) (by omega), h0 k hk]
        have m1 := atD_mono xs (show i + 1 ≤ k - 1 + 1 by omega)
        have m2 := atD_mono xs (show k - 1 + 1 ≤ k + 1 by omega)
        omega
      · refine .inr ⟨by omega, by omega, ?_⟩
        rw [h0 k hk, h0 (k + 1) (by omega)]
        have m1 := atD_mono xs (show k + 1 ≤ k + 1 + 1 by omega)
        have m2 := atD_mono xs (show k + 1 + 1 ≤ j + 1 by omega)
        omega
  unfold dblW
  by_cases h : 1 < cntD xs N (atD xs (k + 1) + 1)
  · rw [if_pos h, if_pos (hiff.2 h)]
  · rw [if_neg h, if_neg (fun e => h (hiff.1 e))]

theorem sla_but {m m' : Mem} {sz : Nat} {l : List Nat} {a : Option Addr} {n c : Nat} {xs : List Value} (h : SlA m sz a n c xs) (z : Frozen (butL m l) m') (hn : ∀ b, a = some b → xs ≠ [] → b.block ∉ l) : SlA m' sz a n c xs := h.keep fun b hb hx => by
  obtain ⟨ro, tg, cs, g, _⟩ := (h.rows b hb hx).blk
  rw [g]
  exact z _ _ (butL_at g (hn b hb hx))

/-! ### The range -/
def DblR (nb K : Nat) (k : Nat) (m : Mem) (A : Set') : Prop := k < K ∧ cap1 m nb (vI (k : Nat)) ∧ A nb
def DblX (nb K : Nat) (k : Nat) (x : Exit) (m : Mem) (A : Set') : Prop := x = .exit 2 ∧ k + 1 = K ∧ cap1 m nb (vI ((k + 1 : Nat) : Int)) ∧ A nb

set_option maxRecDepth 100000 in
set_option maxHeartbeats 8000000 in
theorem Dbl_range {m : Mem} {t : Fr} {lb mb qb cb nb kb N K : Nat} {aO : Option Addr} {es : List HRow} {s : Value} {xs : List Int} (hbO : cap1 m lb (.slice aO es.length es.length)) (hO : SlA m 1 aO es.length es.length (es.map HRow.v)) (hes : ∀ e ∈ es, e.At m) (hN : es.length = N) (hN25 : N ≤ 25) (hex : es.map HRow.xs = rowsD xs N)
    (hmb : cap1 m mb (.map (some qb))) (hqb : IMap m qb (fD xs N)) (hnb : cap1 m nb (vI 0)) (hkb : cap1 m kb (vI (K : Nat))) (hK1 : 1 ≤ K) (hK30 : K ≤ 30)
    (hOb : ∀ x, aO = some x → x.block ≠ nb ∧ x.block ≠ cb) (heb : ∀ e ∈ es, ∀ x, e.ad = some x → x.block ≠ nb ∧ x.block ≠ cb) (hne : lb ≠ nb ∧ lb ≠ cb ∧ mb ≠ nb ∧ mb ≠ cb ∧ qb ≠ nb ∧ qb ≠ cb ∧ kb ≠ nb ∧ kb ≠ cb ∧ nb ≠ cb) (hcb : cap1 m cb (vI 0))
    (it : Iter E (butL m [nb, cb]) (fun i => i = cb) s N (OwnD (CntO cb N) N) (cloneEl es (dblW es N)))
    (t51 : t 51 = s) (t5 : t 5 = ptr lb) (t6 : t 6 = ptr mb) (t10 : t 10 = ptr nb) (t11 : t 11 = ptr kb) {K' : Post3}
    (hK : ∀ m' j q, cap1 m' nb (vI (j : Nat)) → cap1 m' cb (vI (q : Nat)) → j = min K N → q ≤ min (K + 1) N → m.size ≤ m'.size → (∀ i, i < m.size → i ≠ nb → i ≠ cb → m'.get i = m.get i) → K' .normal t m') :
    wpM E F_sheaflaw17_StageDoubles 109 none c_sheaflaw17_StageDoubles_23 K' t m := by
  simp only [c_sheaflaw17_StageDoubles_23_at, wpM_block, c_sheaflaw17_StageDoubles_22_at]
  have lnb := getM_lt hnb
  have lcb := getM_lt hcb
  refine wpM_rangeP (A := fun i => i = nb) it (fun t => upd (upd t 13 (t 52)) 14 (t 53)) (by simp (decide := true) only [go_sem, t51, ↓reduceIte]) rfl asg_sheaflaw17_StageDoubles_0 body_sheaflaw17_StageDoubles_0 (by decide) (fun K l t m h => by simp (decide := true) only [go_sem, ↓reduceIte]; exact h)
    (DblR nb K) (DblX nb K) (fun k m1 m2 A ⟨h1, h2, h3⟩ hk _ => ⟨h1, (hk _ h3).trans h2, h3⟩) (fun k x m1 m2 A ⟨h0, h1, h2, h3⟩ hk _ => ⟨h0, h1, (hk _ h3).trans h2, h3⟩)
    (butL_frozen _ _) (fun i hi => ⟨by rw [hi]; exact lnb, butL_no (by simp [hi]), fun h => hne.2.2.2.2.2.2.2.2 (hi.symm.trans h)⟩) (fun i hi => ⟨by rw [hi]; exact lcb, butL_no (by simp [hi])⟩) (by show CntO cb N 0 m; unfold CntO; rw [Nat.zero_min]; exact hcb)
    ⟨by omega, hnb, rfl⟩ ?_ ?_ ?_
  · rintro k vs m1 A B l hk z1 o1 o2 dis ow ⟨hkK, hn1, hA⟩ ⟨ac, rfl, V, hB⟩ hin hms
    refine ⟨rfl, ?_⟩
    have rO := frozen_at z1 (butL_at hbO (by simp; exact ⟨hne.1, hne.2.1⟩))
    have rM := frozen_at z1 (butL_at hmb (by simp; exact ⟨hne.2.2.1, hne.2.2.2.1⟩))
    have rK := frozen_at z1 (butL_at hkb (by simp; exact ⟨hne.2.2.2.2.2.2.1, hne.2.2.2.2.2.2.2.1⟩))
    have gO := z1 lb _ (butL_at hbO (by simp; exact ⟨hne.1, hne.2.1⟩))
    have gM := z1 mb _ (butL_at hmb (by simp; exact ⟨hne.2.2.1, hne.2.2.2.1⟩))
    have gK := z1 kb _ (butL_at hkb (by simp; exact ⟨hne.2.2.2.2.2.2.1, hne.2.2.2.2.2.2.2.1⟩))
    have Q1 : IMap m1 qb (fD xs N) := by
      obtain ⟨ms, c, h1, h2⟩ := hqb
      exact ⟨ms, c, z1 qb _ (butL_at h1 (by simp; exact ⟨hne.2.2.2.2.1, hne.2.2.2.2.2.1⟩)), h2⟩
    have SO := sla_but hO z1 (fun b hb hx => by have := hOb b hb; simp; exact this)
    have hem : es[k] ∈ es := List.getElem_mem (by omega)
    have eR : es.getD k noRow = es[k] := by simp [List.getD_eq_getElem?_getD, show k < es.length by omega]
    obtain ⟨ab, ao, asp, rfl⟩ := SO.addr (by omega)
    have rE : m1.at ab (ao + k) = some (HRow.v es[k]) := SO.at_map (by omega)
    have hAt : (es[k]).At m1 := (hes _ hem).keep fun b hb hx => by
      obtain ⟨ro, tg, cs, g, _⟩ := ((hes _ hem).sl.rows b hb (by simpa using hx)).blk
      rw [g]
      exact z1 _ _ (butL_at g (by have := heb _ hem b hb; simp; exact this))
    have exk : es[k].xs = rowD xs k := by
      have e1 : (es.map HRow.xs)[k]? = some es[k].xs := by simp [show k < es.length by omega]
      rw [hex] at e1
      have e2 : (rowsD xs N)[k]? = some (rowD xs k) := by simp [rowsD, hk]
      rw [e2] at e1
      exact (Option.some.inj e1).symm
    have hdc := dbl_count hex hk
    rw [eR] at V ⊢
    rw [hdc]
    generalize es[k] = r at *
    obtain ⟨rad, rn, rc, rxs⟩ := r
    have hrl := hAt.len
    simp only at hrl V hAt exk ⊢
    have hrn2 : rn = 2 := by rw [← hrl, exk]; rfl
    subst hrn2
    subst exk
    have rE' : m1.at ab (ao + k) = some (.slice rad 2 rc) := rE
    obtain ⟨cb', co, cp, rfl⟩ := V.sl.addr (by omega)
    have r0 : m1.at cb' (co + Int.toNat 0) = some (.int .i64 (atD xs (k + 1) + 1)) := V.sl.at_map (show 0 < 2 by omega)
    have rn1 := get_at0 hn1
    have d1 : decide ((k : Int) ≥ ((es.length : Nat) : Int)) = false := by simp; omega
    have z0 : (0 : Int) ≤ (k : Int) := by omega
    have z1' : (k : Int) < ((es.length : Nat) : Int) := by omega
    have w1 : IntKind.wrap .i64 ((k : Int) + 1) = ((k + 1 : Nat) : Int) := by rw [wrap_i64_id _ (by omega) (by omega)]; omega
    simp only [c_sheaflaw17_StageDoubles_21_at, wpM_block, c_sheaflaw17_StageDoubles_20_at, wpM_seq]
    generalize hc19 : c_sheaflaw17_StageDoubles_19 = c19 at *
    simp (decide := true) (implicitDefEqProofs := false) (maxDischargeDepth := 20) only [go_sem, t5, t6, t10, t11, rn1, rO, rE', d1, z0, z1', ↓reduceIte, Int.toNat_natCast, true_implies, false_implies]
    refine (SameI V.sl hAt.sl (by omega) (by simp only; omega)).mono ?_
    rintro w m2 ⟨rfl, oa⟩
    have dd : decide (rowD xs k = rowD xs k) = true := by simp
    rw [dd]
    have z2s := oa.size
    have rM2 := get_at0 ((oa.get (getM_lt gM)).trans gM)
    have r02 : m2.at cb' (co + Int.toNat 0) = some (.int .i64 (atD xs (k + 1) + 1)) := (V.sl.old oa).at_map (show 0 < 2 by omega)
    have look := (Q1.old oa).look imap37 (atD xs (k + 1) + 1)
    rw [fD_getD] at look
    have gn2 := (oa.get (getM_lt hn1)).trans hn1
    have rn2 := get_at0 gn2
    have ln2 := getM_lt gn2
    obtain ⟨m3, hm3⟩ : ∃ m3, m3 = m2.put nb (some (.cells false true [vI ((k + 1 : Nat) : Int)])) := ⟨_, rfl⟩
    have gn3 : m3.get nb = some (.cells false true [vI ((k + 1 : Nat) : Int)]) := by rw [hm3, getM_put, if_pos ⟨rfl, ln2⟩]
    have rn3 := get_at0 gn3
    have rK3 : m3.at kb 0 = some (vI (K : Nat)) := get_at0 (by rw [hm3, getM_put, if_neg (fun e => hne.2.2.2.2.2.2.1 e.1), oa.get (getM_lt gK)]; exact gK)
    have lA : ∀ i, A i → i < m1.size := fun i hi => (o1 i hi).1
    have lB : ∀ i, B i → i < m1.size := fun i hi => (o2 i hi).1
    have c13 : ChgS (fun i => A i ∨ B i) m1 m3 := ⟨by rw [hm3, size_put]; exact z2s, fun i hi hna => by rw [hm3, getM_put, if_neg (show ¬ (i = nb ∧ nb < m2.size) from fun e => hna (.inl (by rw [e.1]; exact hA))), oa.get hi]⟩
    have n13 : NewS (fun i => A i ∨ B i) m1 m3 (fun i => A i ∨ B i) := fun i hi => ⟨by rw [hm3, size_put]; exact Nat.lt_of_lt_of_le (hi.elim (lA i) (lB i)) z2s, .inl hi⟩
    have tail : ∀ t' : Fr, t' 10 = ptr nb → t' 11 = ptr kb → wpM E F_sheaflaw17_StageDoubles 109 (some l) c_sheaflaw17_StageDoubles_19 (blockK 3 fun x x_1 m2 => ∃ A', ChgS (fun i => A i ∨ B i) m1 m2 ∧ NewS (fun i => A i ∨ B i) m1 m2 A' ∧ match x with
          | .normal => DblR nb K (k + 1) m2 A'
          | x => (x = .ret ∨ ∃ i, x = .exit i) ∧ DblX nb K k x m2 A') t' m2 := by
      intro t' e10 e11
      by_cases hfin : k + 1 = K
      · have db : ((((k + 1 : Nat) : Int)) == ((K : Nat) : Int)) = true := by rw [hfin]; simp
        simp (decide := true) (implicitDefEqProofs := false) (maxDischargeDepth := 20) only [go_sem, e10, e11, rn2, gn2, w1, ← hm3, rn3, rK3, db, ↓reduceIte, true_implies, false_implies]
        exact ⟨_, c13, n13, .inr ⟨2, rfl⟩, rfl, hfin, gn3, .inl hA⟩
      · have db : ((((k + 1 : Nat) : Int)) == ((K : Nat) : Int)) = false := by rw [beq_eq_false_iff_ne]; omega
        simp (decide := true) (implicitDefEqProofs := false) (maxDischargeDepth := 20) only [go_sem, e10, e11, rn2, gn2, w1, ← hm3, rn3, rK3, db, ↓reduceIte, true_implies, false_implies]
        exact ⟨_, c13, n13, by omega, gn3, .inl hA⟩
    rw [hc19] at tail
    by_cases hc : 1 < cntD xs N (atD xs (k + 1) + 1)
    · have dc : decide (((cntD xs N (atD xs (k + 1) + 1) : Nat) : Int) > 1) = true := by simp; omega
      simp (decide := true) (implicitDefEqProofs := false) (maxDischargeDepth := 20) only [go_sem, t5, t6, t10, t11, rM2, r02, look, hc, dc, ↓reduceIte, Int.toNat_natCast, true_implies, false_implies]
      exact tail _ (by simp (decide := true) only [go_sem, t10, ↓reduceIte]) (by simp (decide := true) only [go_sem, t11, ↓reduceIte])
    · have dc : decide (((cntD xs N (atD xs (k + 1) + 1) : Nat) : Int) > 1) = false := by simp; omega
      simp (decide := true) (implicitDefEqProofs := false) (maxDischargeDepth := 20) only [go_sem, t5, t6, t10, t11, rM2, r02, look, hc, dc, ↓reduceIte, Int.toNat_natCast, true_implies, false_implies]
      exact tail _ (by simp (decide := true) only [go_sem, t10, ↓reduceIte]) (by simp (decide := true) only [go_sem, t11, ↓reduceIte])
  · rintro m' A' z' o' ow ⟨hkK, hn, hA⟩ c1 c2
    have ow : CntO cb N (min (N + 2) (N + 1)) m' := ow
    unfold CntO at ow
    simp (decide := true) (implicitDefEqProofs := false) (maxDischargeDepth := 20) only [go_sem, ↓reduceIte, true_implies, false_implies]
    exact hK m' N _ hn ow (by omega) (by omega) c1.size fun i hi h1 h2 => c1.get i hi fun e => e.elim h1 h2
  · rintro k x m' A' hk z' o' ow hx ⟨rfl, hkK, hn, hA⟩ c1 c2
    have ow : CntO cb N (min (k + 2) (N + 1)) m' := ow
    unfold CntO at ow
    simp (decide := true) (implicitDefEqProofs := false) (maxDischargeDepth := 20) only [go_sem, ↓reduceIte, true_implies, false_implies]
    exact hK m' (k + 1) _ hn ow (by omega) (by omega) c1.size fun i hi h1 h2 => c1.get i hi fun e => e.elim h1 h2
end Go.Proofs.Ytpabllcacdopdaa.W
