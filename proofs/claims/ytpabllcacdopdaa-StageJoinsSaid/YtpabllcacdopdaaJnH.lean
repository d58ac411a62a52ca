/-
  StageJoins: the range.
-/
import Derived.Test.YtpabllcacdopdaaJnG
namespace Go.Proofs.Ytpabllcacdopdaa.W
open Go.Abs
set_option linter.unusedSimpArgs false
set_option linter.unusedVariables false

theorem sla_but {m m' : Mem} {sz : Nat} {l : List Nat} {a : Option Addr} {n c : Nat} {xs : List Value} (h : SlA m sz a n c xs) (z : Frozen (butL m l) m') (hn : ∀ b, a = some b → xs ≠ [] → b.block ∉ l) : SlA m' sz a n c xs := h.keep fun b hb hx => by
  obtain ⟨ro, tg, cs, g, _⟩ := (h.rows b hb hx).blk
  rw [g]
  exact z _ _ (butL_at g (hn b hb hx))
theorem row_but {m m' : Mem} {l : List Nat} {r : HRow} (h : r.At m) (z : Frozen (butL m l) m') (hn : ∀ b, r.ad = some b → r.xs ≠ [] → b.block ∉ l) : r.At m' := ⟨sla_but h.sl z fun b hb hx => hn b hb (by simpa using hx), h.len, h.bd⟩

def putE : List Int → List Int → List Int := fun r x => r ++ [x.getD 1 0, x.getD 2 0]
def putP : List Int → List Int → List Int := fun r x => r

set_option maxRecDepth 100000 in
set_option maxHeartbeats 16000000 in
theorem Jn_range {m : Mem} {t : Fr} {lb fb vb pb nb cb N nF col : Nat} {par : Bool} {why : Int} {putL : List Int → List Int → List Int} {aL aF : Option Addr} {ls fs : List HRow} {s : Value}
    (hbL : cap1 m lb (.slice aL N N)) (hL : SlA m 1 aL N N (ls.map HRow.v)) (hls : ∀ r ∈ ls, r.At m) (h6 : ∀ r ∈ ls, r.n = 6) (hN : N ≤ 15) (hbF : cap1 m fb (.slice aF nF nF)) (hF : SlA m 1 aF nF nF (fs.map HRow.v)) (hfs : ∀ f ∈ fs, f.At m) (h3 : ∀ f ∈ fs, f.n = 3) (hnF : nF ≤ 8) (hvb : cap1 m vb (vI (col : Nat))) (hpb : cap1 m pb (.bool par)) (hnb : cap1 m nb (vI 0))
    (hst : fs.Pairwise (fun a b => fk a < fk b)) (hso : ∀ j, j + 1 < ls.length → (ls.getD j noRow).xs.getD col 0 ≤ (ls.getD (j + 1) noRow).xs.getD col 0)
    (hpar : par = true ∧ col = 5 ∧ why = 6 ∧ putL = putP ∨ par = false ∧ col = 1 ∧ why = 4 ∧ putL = putE)
    (nL : ∀ x, aL = some x → x.block ≠ nb ∧ x.block ≠ cb) (nlr : ∀ r ∈ ls, ∀ x, r.ad = some x → x.block ≠ nb ∧ x.block ≠ cb) (nF' : ∀ x, aF = some x → x.block ≠ nb ∧ x.block ≠ cb) (nfr : ∀ r ∈ fs, ∀ x, r.ad = some x → x.block ≠ nb ∧ x.block ≠ cb)
    (hne : lb ≠ nb ∧ lb ≠ cb ∧ fb ≠ nb ∧ fb ≠ cb ∧ vb ≠ nb ∧ vb ≠ cb ∧ pb ≠ nb ∧ pb ≠ cb ∧ nb ≠ cb) (lcb : cb < m.size)
    (it : Iter E (butL m [nb, cb]) (fun i => i = cb) s N (JO (butL m [nb, cb]) cb (cmpR col) fs ls) (foundEl putL col why (hitR col fs ls) ls)) (own0 : JO (butL m [nb, cb]) cb (cmpR col) fs ls 0 m)
    (t90 : t 90 = s) (t5 : t 5 = ptr pb) (t7 : t 7 = ptr vb) (t8 : t 8 = ptr fb) (t9 : t 9 = ptr lb) (t15 : t 15 = ptr nb) {K : Post3}
    (hK : ∀ m', cap1 m' nb (vI (N : Nat)) → m.size ≤ m'.size → (∀ i, i < m.size → i ≠ nb → i ≠ cb → m'.get i = m.get i) → K .normal t m') :
    wpM E F_sheaflaw17_StageJoins 221 none c_sheaflaw17_StageJoins_60 K t m := by
  have hll : ls.length = N := by have := hL.len; simpa using this
  simp only [c_sheaflaw17_StageJoins_60_at, wpM_block, c_sheaflaw17_StageJoins_59_at]
  have lnb := getM_lt hnb
  refine wpM_rangeP (A := fun i => i = nb) it (fun t => upd (upd t 16 (t 91)) 17 (t 92)) (by simp (decide := true) only [go_sem, t90, ↓reduceIte]) rfl asg_sheaflaw17_StageJoins_0 body_sheaflaw17_StageJoins_0 (by decide) (fun K l t m h => by simp (decide := true) only [go_sem, ↓reduceIte]; exact h)
    (fun k m A => cap1 m nb (vI (k : Nat)) ∧ A nb) noD (fun k m1 m2 A ⟨h2, h3⟩ hk _ => ⟨(hk _ h3).trans h2, h3⟩) noD_loc
    (butL_frozen _ _) (fun i hi => ⟨by rw [hi]; exact lnb, butL_no (by simp [hi]), fun h => hne.2.2.2.2.2.2.2.2 (hi.symm.trans h)⟩) (fun i hi => ⟨by rw [hi]; exact lcb, butL_no (by simp [hi])⟩) own0
    ⟨hnb, rfl⟩ ?_ ?_ ?_
  · rintro k vs m1 A B l hk z1 o1 o2 dis ow ⟨hn1, hA⟩ ⟨ac, rfl, V, hB⟩ hin hms
    refine ⟨rfl, ?_⟩
    have gL := z1 lb _ (butL_at hbL (by simp; exact ⟨hne.1, hne.2.1⟩))
    have gF := z1 fb _ (butL_at hbF (by simp; exact ⟨hne.2.2.1, hne.2.2.2.1⟩))
    have gV : m1.get vb = some (.cells false true [vI (col : Nat)]) := z1 vb _ (butL_at hvb (by simp; exact ⟨hne.2.2.2.2.1, hne.2.2.2.2.2.1⟩))
    have gP := z1 pb _ (butL_at hpb (by simp; exact ⟨hne.2.2.2.2.2.2.1, hne.2.2.2.2.2.2.2.1⟩))
    have rL := get_at0 gL
    have SL := sla_but hL z1 (fun b hb hx => by have := nL b hb; simp; exact this)
    have SF := sla_but hF z1 (fun b hb hx => by have := nF' b hb; simp; exact this)
    have AF : ∀ f ∈ fs, f.At m1 := fun f hf => row_but (hfs f hf) z1 fun b hb hx => by have := nfr f hf b hb; simp; exact this
    have hem : ls[k]'(by omega) ∈ ls := List.getElem_mem _
    have eR : ls.getD k noRow = ls[k]'(by omega) := by simp [List.getD_eq_getElem?_getD, show k < ls.length by omega]
    obtain ⟨ab, ao, asp, rfl⟩ := SL.addr (by omega)
    have rE : m1.at ab (ao + k) = some (HRow.v (ls[k]'(by omega))) := SL.at_map (by omega)
    have hAt : (ls[k]'(by omega)).At m1 := row_but (hls _ hem) z1 fun b hb hx => by have := nlr _ hem b hb; simp; exact this
    have hfind := hitR_find col fs ls hst hso k (by omega)
    have h6k := h6 _ hem
    have hin_fs : ∀ f, hitR col fs ls k = some f → f ∈ fs := fun f h => hitR_in h
    rw [eR] at V hfind ⊢
    generalize ls[k]'(by omega) = r at *
    obtain ⟨rad, rn, rc, rxs⟩ := r
    simp only at h6k hfind
    subst h6k
    have hrl := hAt.len
    simp only at hrl
    obtain ⟨h, hh⟩ : ∃ h, h = hitR col fs ls k := ⟨_, rfl⟩
    rw [← hh] at V hfind hin_fs ⊢
    obtain ⟨X, hX⟩ : ∃ X, X = foundR putL ⟨rad, 6, rc, rxs⟩ h := ⟨_, rfl⟩
    obtain ⟨w, hw⟩ : ∃ w, w = foundW col why ⟨rad, 6, rc, rxs⟩ h := ⟨_, rfl⟩
    rw [← hX] at V ⊢
    rw [← hw]
    -- what came out
    obtain ⟨ext, hext, hxl⟩ : ∃ ext, X = rxs ++ ext ∧ (ext = [] ∨ ∃ f, h = some f ∧ par = false ∧ ext = [f.xs.getD 1 0, f.xs.getD 2 0]) := by
      rw [hX]
      rcases hpar with ⟨hp, hc, hw', rfl⟩ | ⟨hp, hc, hw', rfl⟩
      · exact ⟨[], by cases h <;> simp [foundR, putP], .inl rfl⟩
      · cases h with
        | none => exact ⟨[], by simp [foundR], .inl rfl⟩
        | some f => exact ⟨[f.xs.getD 1 0, f.xs.getD 2 0], rfl, .inr ⟨f, rfl, hp, rfl⟩⟩
    have hX6 : X.take 6 = rxs := by rw [hext, List.take_append_of_le_length (by omega), List.take_of_length_le (by omega)]
    have hXl : X.length = 6 + ext.length := by rw [hext, List.length_append, hrl]
    have hXc : X.getD col 0 = rxs.getD col 0 := by
      rw [hext, List.getD_eq_getElem?_getD, List.getElem?_append_left (by rcases hpar with ⟨_, hc, _⟩ | ⟨_, hc, _⟩ <;> omega), List.getD_eq_getElem?_getD]
    have hcl : col < X.length := by rcases hpar with ⟨_, hc, _⟩ | ⟨_, hc, _⟩ <;> omega
    have rE' : m1.at ab (ao + k) = some (.slice rad 6 rc) := rE
    have rn1 := get_at0 hn1
    have d1 : decide ((k : Int) ≥ (N : Int)) = false := by simp; omega
    have d2 : decide (((X.length : Nat) : Int) < 6) = false := by simp; omega
    have z0 : (0 : Int) ≤ (k : Int) := by omega
    have z1' : (k : Int) < (N : Int) := by omega
    have w1 : IntKind.wrap .i64 ((k : Int) + 1) = ((k + 1 : Nat) : Int) := by rw [wrap_i64_id _ (by omega) (by omega)]; omega
    obtain ⟨s6, P6⟩ := V.sl.sliceTo (E := E) (k := .i64) (show 6 ≤ X.length by omega)
    have s6' := s6 22 (by decide +kernel)
    rw [Nat.mul_one, ← List.map_take, hX6] at P6
    rw [show ((6 : Nat) : Int) = 6 from rfl] at s6'
    simp (decide := true) (implicitDefEqProofs := false) (maxDischargeDepth := 20) only [go_sem, t5, t7, t8, t9, t15, rn1, rL, rE', d1, d2, z0, z1', s6', ↓reduceIte, Int.toNat_natCast, true_implies, false_implies]
    refine (SameI P6 hAt.sl (by omega) (by simp only; omega)).mono ?_
    rintro w' m2 ⟨rfl, oa⟩
    have dd : decide (rxs = rxs) = true := by simp
    rw [dd]
    have rF2 := get_at0 ((oa.get (getM_lt gF)).trans gF)
    have gV2 := (oa.get (getM_lt gV)).trans gV
    simp (decide := true) (implicitDefEqProofs := false) (maxDischargeDepth := 20) only [go_sem, t5, t7, t8, t9, t15, rF2, ↓reduceIte, true_implies, false_implies]
    refine Jn_own (SF.old oa) (fun f hf => (AF f hf).old oa) h3 (by omega) (V.sl.old oa) hcl gV2 hst (by simp (decide := true) only [go_sem, ↓reduceIte]) (by simp (decide := true) only [go_sem, ↓reduceIte]) (by simp (decide := true) only [go_sem, ↓reduceIte]) (by simp (decide := true) only [go_sem, ↓reduceIte]) (by simp (decide := true) only [go_sem, t7, ↓reduceIte]) (by simp (decide := true) only [go_sem, ↓reduceIte]) fun t3 hag e18 => ?_
    have e5 := hag 5 (by decide +kernel)
    have e7 := hag 7 (by decide +kernel)
    have e15 := hag 15 (by decide +kernel)
    have e16 := hag 16 (by decide +kernel)
    have e17 := hag 17 (by decide +kernel)
    simp (decide := true) only [go_sem, t5, t7, t15, ↓reduceIte] at e5 e7 e15 e16 e17
    clear hag
    rw [hXc, ← hfind] at e18
    have z2s := oa.size
    have rP2 := get_at0 ((oa.get (getM_lt gP)).trans gP)
    have rV2 := get_at0 gV2
    have gn2 : m2.get nb = some (.cells false true [vI (k : Nat)]) := (oa.get (getM_lt hn1)).trans hn1
    have rn2 := get_at0 gn2
    have ln2 := getM_lt gn2
    have lA : ∀ i, A i → i < m1.size := fun i hi => (o1 i hi).1
    have lB : ∀ i, B i → i < m1.size := fun i hi => (o2 i hi).1
    have c13 : ChgS (fun i => A i ∨ B i) m1 (m2.put nb (some (.cells false true [vI ((k + 1 : Nat) : Int)]))) := ⟨by rw [size_put]; exact z2s, fun i hi hna => by rw [getM_put, if_neg (show ¬ (i = nb ∧ nb < m2.size) from fun e => hna (.inl (by rw [e.1]; exact hA))), oa.get hi]⟩
    have n13 : NewS (fun i => A i ∨ B i) m1 (m2.put nb (some (.cells false true [vI ((k + 1 : Nat) : Int)]))) (fun i => A i ∨ B i) := fun i hi => ⟨by rw [size_put]; exact Nat.lt_of_lt_of_le (hi.elim (lA i) (lB i)) z2s, .inl hi⟩
    have done_ : cap1 (m2.put nb (some (.cells false true [vI ((k + 1 : Nat) : Int)]))) nb (vI ((k + 1 : Nat) : Int)) := by unfold cap1; rw [getM_put, if_pos ⟨rfl, ln2⟩]
    obtain ⟨xb, xo, xsp, hxa⟩ := V.sl.addr (show 0 < X.length by omega)
    subst hxa
    have V2 := V.sl.old oa
    have rX : ∀ i (h : i < X.length), m2.at xb (xo + i) = some (.int .i64 (X.getD i 0)) := fun i h => by
      have := V2.at_map h
      rw [this]
      simp [List.getD_eq_getElem?_getD, List.getElem?_eq_getElem h]
    rcases hpar with ⟨rfl, rfl, rfl, rfl⟩ | ⟨rfl, rfl, rfl, rfl⟩
    · have he : ext = [] := by
        rcases hxl with h | ⟨f, _, hf, _⟩
        · exact h
        · cases hf
      subst he
      have dl : (((X.length : Nat) : Int) != 6) = false := by rw [hXl]; rfl
      have r5 := rX 5 (by omega)
      rw [hXc] at r5
      have c5 : ((5 : Nat) : Int) < ((X.length : Nat) : Int) := by omega
      have c50 : (0 : Int) ≤ ((5 : Nat) : Int) := by omega
      cases h with
      | some f =>
        have hf3 := h3 f (hin_fs f rfl)
        obtain ⟨fad, fn, fc, fxs⟩ := f
        simp only at hf3
        subst hf3
        have e18 : t3 18 = .slice fad 3 fc := e18
        have e17 : t3 17 = .int .i64 0 := by rw [e17, hw]; rfl
        by_cases hk0 : rxs.getD 5 0 = 0
        · have dk : (rxs.getD 5 0 != 0) = false := by rw [hk0]; rfl
          simp (decide := true) (implicitDefEqProofs := false) (maxDischargeDepth := 20) only [go_sem, e5, e7, e15, e16, e17, e18, rP2, rV2, r5, rn2, gn2, ln2, dl, dk, c5, c50, w1, ↓reduceIte, Int.toNat_natCast, true_implies, false_implies]
          exact ⟨_, c13, n13, done_, .inl hA⟩
        · have dk : (rxs.getD 5 0 != 0) = true := by simpa using hk0
          simp (decide := true) (implicitDefEqProofs := false) (maxDischargeDepth := 20) only [go_sem, e5, e7, e15, e16, e17, e18, rP2, rV2, r5, rn2, gn2, ln2, dl, dk, c5, c50, w1, ↓reduceIte, Int.toNat_natCast, true_implies, false_implies]
          exact ⟨_, c13, n13, done_, .inl hA⟩
      | none =>
        have e18 : t3 18 = .slice none 0 0 := e18
        by_cases hk0 : rxs.getD 5 0 = 0
        · have dk : (rxs.getD 5 0 != 0) = false := by rw [hk0]; rfl
          have e17 : t3 17 = .int .i64 0 := by rw [e17, hw]; unfold foundW; simp only; rw [if_pos ⟨trivial, hk0⟩]
          simp (decide := true) (implicitDefEqProofs := false) (maxDischargeDepth := 20) only [go_sem, e5, e7, e15, e16, e17, e18, rP2, rV2, r5, rn2, gn2, ln2, dl, dk, c5, c50, w1, ↓reduceIte, Int.toNat_natCast, true_implies, false_implies]
          exact ⟨_, c13, n13, done_, .inl hA⟩
        · have dk : (rxs.getD 5 0 != 0) = true := by simpa using hk0
          have e17 : t3 17 = .int .i64 6 := by rw [e17, hw]; unfold foundW; simp only; rw [if_neg (fun h => hk0 h.2)]
          simp (decide := true) (implicitDefEqProofs := false) (maxDischargeDepth := 20) only [go_sem, e5, e7, e15, e16, e17, e18, rP2, rV2, r5, rn2, gn2, ln2, dl, dk, c5, c50, w1, ↓reduceIte, Int.toNat_natCast, true_implies, false_implies]
          exact ⟨_, c13, n13, done_, .inl hA⟩
    · cases h with
      | some f =>
        have he : ext = [f.xs.getD 1 0, f.xs.getD 2 0] := by
          have : X = rxs ++ [f.xs.getD 1 0, f.xs.getD 2 0] := hX
          rw [hext] at this
          exact List.append_cancel_left this
        have hAf := (AF f (hin_fs f rfl)).old oa
        have hf3 := h3 f (hin_fs f rfl)
        obtain ⟨fad, fn, fc, fxs⟩ := f
        simp only at hf3 he
        subst hf3
        subst he
        have hfl := hAf.len
        simp only at hfl
        obtain ⟨gb, go, gs, hg⟩ := hAf.sl.addr (show 0 < 3 by omega)
        simp only at hg
        subst hg
        have e18 : t3 18 = .slice (some ⟨gb, go, gs⟩) 3 fc := e18
        have e17 : t3 17 = .int .i64 0 := by rw [e17, hw]; rfl
        have dl : (((X.length : Nat) : Int) != 8) = false := by rw [hXl]; rfl
        have r6 := rX 6 (by rw [hXl]; simp)
        have r7 := rX 7 (by rw [hXl]; simp)
        have x6 : X.getD 6 0 = fxs.getD 1 0 := by rw [hext, List.getD_eq_getElem?_getD, List.getElem?_append_right (by omega), hrl]; rfl
        have x7 : X.getD 7 0 = fxs.getD 2 0 := by rw [hext, List.getD_eq_getElem?_getD, List.getElem?_append_right (by omega), hrl]; rfl
        rw [x6] at r6
        rw [x7] at r7
        have rf1 : m2.at gb (go + Int.toNat 1) = some (.int .i64 (fxs.getD 1 0)) := by
          have := hAf.sl.at_map (show 1 < 3 by omega)
          rw [show fxs.getD 1 0 = fxs[1]'(by omega) by simp [List.getD_eq_getElem?_getD, List.getElem?_eq_getElem (show 1 < fxs.length by omega)]]
          exact this
        have rf2 : m2.at gb (go + Int.toNat 2) = some (.int .i64 (fxs.getD 2 0)) := by
          have := hAf.sl.at_map (show 2 < 3 by omega)
          rw [show fxs.getD 2 0 = fxs[2]'(by omega) by simp [List.getD_eq_getElem?_getD, List.getElem?_eq_getElem (show 2 < fxs.length by omega)]]
          exact this
        have r6' : m2.at xb (xo + Int.toNat 6) = some (.int .i64 (fxs.getD 1 0)) := r6
        have r7' : m2.at xb (xo + Int.toNat 7) = some (.int .i64 (fxs.getD 2 0)) := r7
        have q6 : (6 : Int) < ((X.length : Nat) : Int) := by rw [hXl]; simp
        have q7 : (7 : Int) < ((X.length : Nat) : Int) := by rw [hXl]; simp
        have de1 : (fxs.getD 1 0 != fxs.getD 1 0) = false := by simp
        have de2 : (fxs.getD 2 0 != fxs.getD 2 0) = false := by simp
        simp (decide := true) (implicitDefEqProofs := false) (maxDischargeDepth := 20) only [go_sem, e5, e7, e15, e16, e17, e18, rP2, rV2, r6', r7', rf1, rf2, rn2, gn2, ln2, dl, q6, q7, de1, de2, w1, ↓reduceIte, true_implies, false_implies]
        exact ⟨_, c13, n13, done_, .inl hA⟩
      | none =>
        have he : ext = [] := by
          rcases hxl with h | ⟨f, hf, _⟩
          · exact h
          · cases hf
        subst he
        have e18 : t3 18 = .slice none 0 0 := e18
        have e17 : t3 17 = .int .i64 4 := by rw [e17, hw]; unfold foundW; simp only; rw [if_neg (fun h => by cases h.1)]
        have dl : (((X.length : Nat) : Int) != 6) = false := by rw [hXl]; rfl
        simp (decide := true) (implicitDefEqProofs := false) (maxDischargeDepth := 20) only [go_sem, e5, e7, e15, e16, e17, e18, rP2, rV2, rn2, gn2, ln2, dl, w1, ↓reduceIte, true_implies, false_implies]
        exact ⟨_, c13, n13, done_, .inl hA⟩
  · rintro m' A' z' o' ow ⟨hn, hA⟩ c1 c2
    simp (decide := true) (implicitDefEqProofs := false) (maxDischargeDepth := 20) only [go_sem, ↓reduceIte, true_implies, false_implies]
    exact hK m' hn c1.size fun i hi h1 h2 => c1.get i hi fun e => e.elim h1 h2
  · rintro k x m' A' _ _ _ _ _ h
    exact h.elim
end Go.Proofs.Ytpabllcacdopdaa.W
