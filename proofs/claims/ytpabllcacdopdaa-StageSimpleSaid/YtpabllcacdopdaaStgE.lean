/-
  StageSimple: the days.
-/
import Derived.Test.YtpabllcacdopdaaStgD
namespace Go.Proofs.Ytpabllcacdopdaa.W
open Go.Abs
set_option linter.unusedSimpArgs false
set_option linter.unusedVariables false

def dayB (x y : Int) (xs : List Int) : Bool := decide (x ≤ xs.getD 3 0) && decide (xs.getD 3 0 ≤ y)
def why3 (x y : Int) (gs : List HRow) (k : Nat) : Int := if dayB x y (gs.getD k noRow).xs then 0 else 3

def DayJ (kb : Nat) (k : Nat) (m : Mem) (A : Set') : Prop := cap1 m kb (vI (k : Nat)) ∧ ∀ i, A i ↔ i = kb
theorem DayJ.loc (kb k : Nat) : LocP (DayJ kb k) := fun m m' A ⟨h1, h2⟩ hk hs => ⟨(hk _ ((h2 _).2 rfl)).trans h1, h2⟩

set_option maxRecDepth 100000 in
set_option maxHeartbeats 8000000 in
theorem Simple_days {m : Mem} {t : Fr} {gb cb kb : Nat} {aG : Option Addr} {gs : List HRow} {s : Value} {x y : Int} (hbG : cap1 m gb (.slice aG gs.length gs.length)) (hG : SlA m 1 aG gs.length gs.length (gs.map HRow.v)) (hgs : ∀ e ∈ gs, e.At m) (h6 : ∀ e ∈ gs, e.n = 6) (hN : gs.length ≤ 20)
    (hcb : m.get cb = some (.cells false true [vI x, vI y, vI 0, vI 0])) (hGb : ∀ x, aG = some x → x.block ≠ kb) (hgb : ∀ e ∈ gs, ∀ x, e.ad = some x → e.xs ≠ [] → x.block ≠ kb)
    (hkb : cap1 m kb (vI 0)) (hne : gb ≠ kb) (hce : cb ≠ kb)
    (it : Iter E (butL m [kb]) none' s gs.length anyO (cloneEl gs (why3 x y gs)))
    (t132 : t 132 = s) (t7 : t 7 = ptr cb) (t9 : t 9 = ptr gb) (t16 : t 16 = ptr kb) {K : Post3}
    (hK : ∀ m', cap1 m' kb (vI (gs.length : Nat)) → m.size ≤ m'.size → (∀ i, i < m.size → i ≠ kb → m'.get i = m.get i) → K .normal t m') :
    wpM E F_sheaflaw17_StageSimple 196 none c_sheaflaw17_StageSimple_39 K t m := by
  simp only [c_sheaflaw17_StageSimple_39_at, wpM_block, c_sheaflaw17_StageSimple_38_at]
  have lkb := getM_lt hkb
  refine wpM_rangeP (A := fun i => i = kb) it (fun t => upd (upd t 18 (t 133)) 19 (t 134)) (by simp (decide := true) only [go_sem, t132, ↓reduceIte]) rfl asg_sheaflaw17_StageSimple_1 body_sheaflaw17_StageSimple_1 (by decide) (fun K l t m h => by simp (decide := true) only [go_sem, ↓reduceIte]; exact h)
    (DayJ kb) noD (fun k => DayJ.loc _ _) noD_loc (butL_frozen _ _) (fun i hi => ⟨by rw [hi]; exact lkb, butL_no (by simpa using hi), fun h => h.elim⟩) (fun i hi => hi.elim) trivial ⟨hkb, fun _ => Iff.rfl⟩ ?_ ?_ ?_
  · rintro k vs m1 A B l hk z1 o1 o2 dis - ⟨hc, hA⟩ ⟨ac, rfl, V, hB⟩ hin hms
    refine ⟨rfl, ?_⟩
    have rG := frozen_at z1 (butL_at hbG (by simp; exact hne))
    have gC := z1 _ _ (butL_at hcb (by simp; exact hce))
    have rC0 : m1.at cb 0 = some (vI x) := get_at0 gC
    have rC1 : m1.at cb 1 = some (vI y) := by unfold Mem.at; rw [gC]; rfl
    have SG := sla_but hG z1 (fun b hb hx => by have := hGb b hb; simp; exact this)
    have hem : gs[k] ∈ gs := List.getElem_mem hk
    have eR : gs.getD k noRow = gs[k] := by simp [List.getD_eq_getElem?_getD, hk]
    obtain ⟨ab, ao, asp, rfl⟩ := SG.addr (by omega)
    have rE : m1.at ab (ao + k) = some (HRow.v gs[k]) := SG.at_map hk
    have hAt : (gs[k]).At m1 := (hgs _ hem).keep fun b hb hx => by
      obtain ⟨ro, tg, cs, g, _⟩ := ((hgs _ hem).sl.rows b hb (by simpa using hx)).blk
      rw [g]
      exact z1 _ _ (butL_at g (by have := hgb _ hem b hb hx; simp; exact this))
    have hl6 := h6 _ hem
    have hw : why3 x y gs k = if dayB x y gs[k].xs then 0 else 3 := by unfold why3; rw [eR]
    rw [eR] at V ⊢
    rw [hw]
    generalize gs[k] = r at *
    obtain ⟨rad, rn, rc, rxs⟩ := r
    have hrl := hAt.len
    simp only at hrl hl6 V hAt hw ⊢
    subst hl6
    have rE' : m1.at ab (ao + k) = some (.slice rad 6 rc) := rE
    have rK := get_at0 hc
    have hc' : m1.get kb = some (.cells false true [vI (k : Nat)]) := hc
    have d1 : decide ((k : Int) ≥ ((gs.length : Nat) : Int)) = false := by simp; omega
    have z0 : (0 : Int) ≤ (k : Int) := by omega
    have z1' : (k : Int) < ((gs.length : Nat) : Int) := by omega
    have w1 : IntKind.wrap .i64 ((k : Int) + 1) = ((k + 1 : Nat) : Int) := by rw [wrap_i64_id _ (by omega) (by omega)]; omega
    obtain ⟨vb, vo, vp, rfl⟩ := V.sl.addr (by omega)
    have e3 : rxs.getD 3 0 = rxs[3] := by simp [List.getD_eq_getElem?_getD, List.getElem?_eq_getElem (show 3 < rxs.length by omega)]
    have r3 : m1.at vb (vo + Int.toNat 3) = some (.int .i64 rxs[3]) := V.sl.at_map (show 3 < 6 by omega)
    have hday : dayB x y rxs = (decide (x ≤ rxs[3]) && decide (rxs[3] ≤ y)) := by unfold dayB; rw [e3]
    rw [hday]
    generalize rxs[3] = d at *
    have eg : decide (d ≥ x) = decide (x ≤ d) := rfl
    have dd : decide (rxs = rxs) = true := by simp
    have fin : ∀ mq, Old m1 mq → ∃ A', ChgS (fun i => A i ∨ B i) m1 (mq.put kb (some (.cells false true [vI ((k + 1 : Nat) : Int)]))) ∧ NewS (fun i => A i ∨ B i) m1 (mq.put kb (some (.cells false true [vI ((k + 1 : Nat) : Int)]))) A' ∧ DayJ kb (k + 1) (mq.put kb (some (.cells false true [vI ((k + 1 : Nat) : Int)]))) A' := by
      intro mq oq
      refine ⟨A, (oq.chg _).put _ _ (.inl (.inl ((hA _).2 rfl))), fun i hi => ⟨by rw [size_put]; exact Nat.lt_of_lt_of_le (o1 i hi).1 oq.size, .inl (.inl hi)⟩, ?_, hA⟩
      unfold cap1
      rw [getM_put, if_pos ⟨rfl, Nat.lt_of_lt_of_le (getM_lt hc) oq.size⟩]
    by_cases h1 : x ≤ d
    · have d2 : decide (x ≤ d) = true := by simpa using h1
      rw [d2] at eg ⊢
      by_cases h2 : d ≤ y
      · have d3 : decide (d ≤ y) = true := by simpa using h2
        rw [d3]
        simp (decide := true) (implicitDefEqProofs := false) (maxDischargeDepth := 20) only [go_sem, t7, t9, t16, rK, rG, rE', r3, rC0, rC1, eg, d1, d2, d3, z0, z1', ↓reduceIte, Int.toNat_natCast, true_implies, false_implies]
        refine (SameI V.sl hAt.sl (by omega) (by simp only; omega)).mono ?_
        rintro w m2 ⟨rfl, oa⟩
        rw [dd]
        have gK := (oa.get (getM_lt hc')).trans hc'
        have rK2 := get_at0 gK
        simp (decide := true) (implicitDefEqProofs := false) (maxDischargeDepth := 20) only [go_sem, t7, t9, t16, gK, rK2, w1, ↓reduceIte, true_implies, false_implies]
        exact fin m2 oa
      · have d3 : decide (d ≤ y) = false := by simpa using h2
        rw [d3]
        simp (decide := true) (implicitDefEqProofs := false) (maxDischargeDepth := 20) only [go_sem, t7, t9, t16, rK, rG, rE', r3, rC0, rC1, eg, d1, d2, d3, z0, z1', ↓reduceIte, Int.toNat_natCast, true_implies, false_implies]
        refine (SameI V.sl hAt.sl (by omega) (by simp only; omega)).mono ?_
        rintro w m2 ⟨rfl, oa⟩
        rw [dd]
        have gK := (oa.get (getM_lt hc')).trans hc'
        have rK2 := get_at0 gK
        simp (decide := true) (implicitDefEqProofs := false) (maxDischargeDepth := 20) only [go_sem, t7, t9, t16, gK, rK2, w1, ↓reduceIte, true_implies, false_implies]
        exact fin m2 oa
    · have d2 : decide (x ≤ d) = false := by simpa using h1
      rw [d2] at eg ⊢
      rw [Bool.false_and]
      simp (decide := true) (implicitDefEqProofs := false) (maxDischargeDepth := 20) only [go_sem, t7, t9, t16, rK, rG, rE', r3, rC0, rC1, eg, d1, d2, z0, z1', ↓reduceIte, Int.toNat_natCast, true_implies, false_implies]
      refine (SameI V.sl hAt.sl (by omega) (by simp only; omega)).mono ?_
      rintro w m2 ⟨rfl, oa⟩
      rw [dd]
      have gK := (oa.get (getM_lt hc')).trans hc'
      have rK2 := get_at0 gK
      simp (decide := true) (implicitDefEqProofs := false) (maxDischargeDepth := 20) only [go_sem, t7, t9, t16, gK, rK2, w1, ↓reduceIte, true_implies, false_implies]
      exact fin m2 oa
  · rintro m' A' z' o' - ⟨hc, hA⟩ c1 c2
    simp (decide := true) (implicitDefEqProofs := false) (maxDischargeDepth := 20) only [go_sem, ↓reduceIte, true_implies, false_implies]
    exact hK m' hc c1.size fun i hi h1 => c1.get i hi fun e => e.elim (fun e => h1 e) fun e => e
  · rintro k x m' A' _ _ _ _ _ h
    exact h.elim
end Go.Proofs.Ytpabllcacdopdaa.W
