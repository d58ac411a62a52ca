/-
  CheckWhole: a source that counts; Whole.
-/
import Derived.Test.YtgbpgkfmmhlkoaaCheckD
import Derived.Test.YtgbpgkfmmhlkoaaCodeCkW
import Derived.Test.YtgbpgkfmmhlkoaaAbs29
namespace Go.Proofs.Ytgbpgkfmmhlkoaa.W
open Go.Abs
set_option linter.unusedSimpArgs false
set_option linter.unusedVariables false

abbrev ptr (b : Nat) : Value := .pointer (some ⟨b, 0, none⟩)
abbrev vI (x : Int) : Value := .int .i64 x
def noRow : HRow := ⟨none, 0, 0, []⟩
theorem noRow_at (m : Mem) : noRow.At m := ⟨.empty 1, rfl, fun x hx => by simp [noRow] at hx⟩
def rowsEl (rs : List HRow) : Nat → List Value := fun k => [(rs.getD k noRow).v]
/-- What was counted. -/
def CntO (nb n : Nat) : Nat → Mem → Prop := fun k m => m.get nb = some (.cells false true [vI (min k n : Nat)])

set_option maxRecDepth 100000 in
set_option maxHeartbeats 4000000 in
theorem WholeI {Z : Nat → Option Blk} {b1 nb : Nat} {a : Option Addr} {n c : Nat} {rs : List HRow} (hb1 : Z b1 = some (.cells false true [.slice a n c])) (hs : ∀ m, Frozen Z m → SlA m 1 a n c (rs.map HRow.v)) (hn : n ≤ 1000000) :
    Iter E Z (fun i => i = nb) (.func (.func F_sheaflaw16_CheckWhole_1) #[] #[ptr b1, ptr nb]) n (CntO nb n) (pureEl (rowsEl rs)) where
  fn := ⟨_, _, _, rfl⟩
  locO := fun k m m' h hk => (hk nb rfl).trans h
  locE := pureEl_loc _
  go := by
    intro y hy I D lI lD step m A z o hF own0 i0
    have own0 : m.get nb = some (.cells false true [vI (min 0 n : Nat)]) := own0
    rw [Nat.zero_min] at own0
    have hnb := hF nb rfl
    rw [CallF_func]
    refine ⟨some20, ?_⟩
    have e : (#[] ++ [y].toArray ++ #[ptr b1, ptr nb] : Array Value) = [y, ptr b1, ptr nb].toArray := by simp
    rw [e]
    refine .enter fn_sheaflaw16_CheckWhole_1 (by simp) ?_
    have r0 := frozen_at z hb1
    simp (decide := true) (implicitDefEqProofs := false) (maxDischargeDepth := 20) only [go_sem, ↓reduceIte, r0, true_implies, false_implies]
    simp only [c_sheaflaw16_CheckWhole_1_10_at, wpM_block, c_sheaflaw16_CheckWhole_1_9_at]
    refine wpM_loopA (fun j t' m' => ∃ i A', i ≤ n ∧ j = n - i ∧ t' 8 = .int .i64 (i : Nat) ∧ Adv Z (fun i => i = nb) A m m' A' ∧ I i m' A' ∧ m'.get nb = some (.cells false true [vI (i : Nat)])) n ⟨0, A, by omega, rfl, by simp (decide := true) only [go_sem, ↓reduceIte]; try rfl, .refl z o, i0, own0⟩ ?_
    rintro j t' m' ha ⟨i, A', hi, rfl, e8, adv, hI, hc⟩
    have a0 := ha 0 (by decide +kernel)
    have a2 := ha 2 (by decide +kernel)
    have a6 := ha 6 (by decide +kernel)
    have a7 := ha 7 (by decide +kernel)
    simp (decide := true) only [go_sem, ↓reduceIte] at a0 a2 a6 a7
    by_cases hlt : i < n
    · have d1 : decide ((i : Int) < (n : Int)) = true := by simp; omega
      have w1 : IntKind.wrap .i64 ((i : Int) + 1) = ((i + 1 : Nat) : Int) := by rw [wrap_i64_id _ (by omega) (by omega)]; omega
      have z0 : (0 : Int) ≤ (i : Int) := by omega
      have z1 : (i : Int) < (n : Int) := by omega
      have S := hs m' adv.fz
      have hl : rs.length = n := by have := S.len; simpa using this
      obtain ⟨ab, ao, asp, rfl⟩ := S.addr (by omega)
      have r := S.at_map hlt
      have rn := get_at0 hc
      have ln := getM_lt hc
      have hA' : ∀ i, A' i → i ≠ nb := fun i hi => (adv.own i hi).2.2
      obtain ⟨m1, hm1⟩ : ∃ m1, m1 = m'.put nb (some (.cells false true [vI ((i + 1 : Nat) : Int)])) := ⟨_, rfl⟩
      have g1 : ∀ q, q ≠ nb → m1.get q = m'.get q := fun q hq => by rw [hm1, getM_put, if_neg (fun e => hq e.1)]
      have s1 : m1.size = m'.size := by rw [hm1, size_put]
      have c1 : m1.get nb = some (.cells false true [vI ((i + 1 : Nat) : Int)]) := by rw [hm1, getM_put, if_pos ⟨rfl, ln⟩]
      have adv1 : Adv Z (fun i => i = nb) A m m1 A' := ⟨⟨by rw [s1]; exact adv.chg.size, fun q hq hna => by rw [g1 q (fun e => hna (.inr e))]; exact adv.chg.get q hq hna⟩, fun q hq => by rw [s1]; exact adv.new q hq, fun q b hq => by
        rw [g1 q (fun e => by rw [e, hnb.2] at hq; cases hq)]; exact adv.fz q b hq, fun q hq => by rw [s1]; exact adv.own q hq⟩
      have hI1 : I i m1 A' := lI i m' m1 A' hI (fun q hq => g1 q (hA' q hq)) (by rw [s1]; exact Nat.le_refl _)
      have own1 : CntO nb n (i + 1) m1 := by unfold CntO; rw [Nat.min_eq_left (by omega)]; exact c1
      have el : rowsEl rs i = [(rs[i]'(by omega)).v] := by unfold rowsEl; simp only [List.getD_eq_getElem?_getD, List.getElem?_eq_getElem (show i < rs.length by omega), Option.getD_some]
      generalize rs[i]'(by omega) = row at *
      obtain ⟨rad, rn', rc, rxs⟩ := row
      have r : m'.at ab (ao + i) = some (.slice rad rn' rc) := r
      simp (decide := true) (implicitDefEqProofs := false) (maxDischargeDepth := 20) only [go_sem, ↓reduceIte, a0, a2, a6, a7, e8, d1, z0, z1, r, rn, hc, w1, Int.toNat_natCast, ← hm1, true_implies, false_implies]
      refine CallF.step ((step i [.slice rad rn' rc] m1 A' none' hlt adv1.fz adv1.own (fun _ h => h.elim) (fun _ _ h => h) (fun q hq => by rw [s1, hq]; exact ln) own1 hI1 ?_).mono ?_)
      · unfold pureEl
        rw [el]
        rfl
      rintro w m2 ⟨A2, k1, k2, hw⟩
      have adv2 := adv1.step k1 k2 (fun _ h => h.elim) (fun i hi => (hF i hi).1)
      have c2 : m2.get nb = some (.cells false true [vI ((i + 1 : Nat) : Int)]) := by
        rw [k1.get nb (by rw [s1]; exact ln) (fun h => h.elim (fun h => hA' nb h rfl) fun h => h), c1]
      rcases hw with ⟨rfl, hI2⟩ | ⟨rfl, hD⟩
      · simp (decide := true) (implicitDefEqProofs := false) (maxDischargeDepth := 20) only [go_sem, ↓reduceIte, a0, a2, a6, a7, e8, w1, true_implies, false_implies]
        exact ⟨n - (i + 1), by omega, i + 1, A2, by omega, rfl, rfl, adv2, hI2, c2⟩
      · simp (decide := true) (implicitDefEqProofs := false) (maxDischargeDepth := 20) only [go_sem, ↓reduceIte, a0, a2, a6, a7, e8, w1, true_implies, false_implies]
        exact ⟨A2, adv2.chg, adv2.new, .inr ⟨i, hlt, by unfold CntO; rw [Nat.min_eq_left (by omega)]; exact c2, hD⟩⟩
    · have d1 : decide ((i : Int) < (n : Int)) = false := by simp; omega
      have hin : i = n := by omega
      subst hin
      simp (decide := true) (implicitDefEqProofs := false) (maxDischargeDepth := 20) only [go_sem, ↓reduceIte, a0, a2, a6, a7, e8, d1, true_implies, false_implies]
      exact ⟨A', adv.chg, adv.new, .inl ⟨by unfold CntO; rw [Nat.min_eq_right (by omega)]; exact hc, hI⟩⟩

/-- The row ahead of one. -/
def prevR (rs : List HRow) : Nat → HRow
  | 0 => noRow
  | k + 1 => rs.getD k noRow
/-- May a row stand where it does? -/
def okR (name : Int) (rs : List HRow) (k : Nat) : Bool := goodL name (rs.getD k noRow).xs && !(alikeL name (prevR rs k).xs (rs.getD k noRow).xs)

def WholeJ (B : Nat) (name : Int) (rs : List HRow) (k : Nat) (m : Mem) (A : Set') : Prop := m.get B = some (.cells false true [vI name]) ∧ m.get (B + 1) = some (.cells false true [.bool false]) ∧ m.get (B + 2) = some (.cells false true [(prevR rs k).v]) ∧ (∀ j, j < k → okR name rs j = true) ∧ ∀ i, A i ↔ i = B ∨ i = B + 1 ∨ i = B + 2
theorem WholeJ.loc (B : Nat) (name : Int) (rs : List HRow) (k : Nat) : LocP (WholeJ B name rs k) := fun m m' A ⟨h1, h2, h3, h4, h5⟩ hk hs => ⟨by rw [hk _ ((h5 _).2 (.inl rfl))]; exact h1, by rw [hk _ ((h5 _).2 (.inr (.inl rfl)))]; exact h2, by rw [hk _ ((h5 _).2 (.inr (.inr rfl)))]; exact h3, h4, h5⟩
def WholeD (B : Nat) (name : Int) (rs : List HRow) (k : Nat) (x : Exit) (m : Mem) (A : Set') : Prop := x = .ret ∧ m.get (B + 1) = some (.cells false true [.bool false]) ∧ okR name rs k = false ∧ (∀ j, j < k → okR name rs j = true) ∧ A (B + 1)
theorem WholeD.loc (B : Nat) (name : Int) (rs : List HRow) (k : Nat) (x : Exit) : LocP (WholeD B name rs k x) := fun m m' A ⟨h1, h2, h3, h4, h5⟩ hk hs => ⟨h1, by rw [hk _ h5]; exact h2, h3, h4, h5⟩

theorem whole_boxes (P : Mem → Prop) (m : Mem) (v0 v1 v2 : Value) (h : ∀ m', m'.get m.size = some (.cells false true [v0]) → m'.get (m.size + 1) = some (.cells false true [v1]) → m'.get (m.size + 2) = some (.cells false true [v2]) → Old m m' → m'.size = m.size + 3 → P m') :
    P (((m.push (.cells false true [v0])).push (.cells false true [v1])).push (.cells false true [v2])) := by
  refine h _ ?_ ?_ ?_ (.push (.push (.push (.refl m) _) _) _) (by simp)
  · rw [getM_push, if_neg (by simp; omega), getM_push, if_neg (by simp), getM_push, if_pos rfl]
  · rw [getM_push, if_neg (by simp), getM_push, if_pos (by simp)]
  · rw [getM_push, if_pos (by simp)]

/-- What Whole answers, and how far it has asked. -/
def WholeK (F : Set') (n : Nat) (Own : Nat → Mem → Prop) (name : Int) (rs : List HRow) (m : Mem) (w : Value) (m' : Mem) : Prop :=
  ChgS F m m' ∧ (w = .bool true ∧ Own (n + 1) m' ∧ (∀ j, j < n → okR name rs j = true) ∨ ∃ k, k < n ∧ w = .bool false ∧ Own (k + 1) m' ∧ okR name rs k = false ∧ ∀ j, j < k → okR name rs j = true)

set_option maxRecDepth 100000 in
set_option maxHeartbeats 4000000 in
theorem Whole_at {Z : Nat → Option Blk} {F : Set'} {s : Value} {n : Nat} {Own : Nat → Mem → Prop} {rs : List HRow} (name : Int) (hs : Iter E Z F s n Own (pureEl (rowsEl rs))) (hr : ∀ m, Frozen Z m → ∀ r ∈ rs, r.At m)
    {m : Mem} (z : Frozen Z m) (hF : ∀ i, F i → i < m.size ∧ Z i = none) (own0 : Own 0 m) :
    CallQ E F_check_Whole [.int .i64 name, s].toArray m (WholeK F n Own name rs m) := by
  have hAt : ∀ m, Frozen Z m → ∀ k, (rs.getD k noRow).At m := fun m z k => by
    rw [List.getD_eq_getElem?_getD]
    cases hg : rs[k]? with
    | none => exact noRow_at m
    | some r => exact hr m z r (List.mem_of_getElem? hg)
  have hPv : ∀ m, Frozen Z m → ∀ k, (prevR rs k).At m := fun m z k => by
    cases k with
    | zero => exact noRow_at m
    | succ k => exact hAt m z k
  obtain ⟨fh, ff, fc, rfl⟩ := hs.fn
  refine .enter fn_check_Whole (by simp) ?_
  simp (decide := true) (implicitDefEqProofs := false) (maxDischargeDepth := 20) only [go_sem, ↓reduceIte, true_implies, false_implies]
  refine whole_boxes (fun mm => wpM E _ _ _ _ _ _ mm) m _ _ _ fun m1 q0 q1 q2 ho hs1 => ?_
  simp only [c_check_Whole_6_at, wpM_block, c_check_Whole_5_at]
  refine wpM_rangeP (A := fun i => i = m.size ∨ i = m.size + 1 ∨ i = m.size + 2) hs (fun t => upd t 6 (t 8)) (by simp (decide := true) only [go_sem, ↓reduceIte]) rfl asg_check_Whole_0 body_check_Whole_0 (by decide) (fun K l t m h => by simp (decide := true) only [go_sem, ↓reduceIte]; exact h)
    (WholeJ m.size name rs) (WholeD m.size name rs) (WholeJ.loc _ _ _) (WholeD.loc _ _ _) (z.old ho) (fun i hi => ⟨by omega, z.free (by omega), fun h => by have := (hF i h).1; omega⟩) (fun i hi => ⟨by have := (hF i hi).1; omega, (hF i hi).2⟩)
    (hs.locO 0 m _ own0 fun i hi => ho.get (hF i hi).1) ⟨q0, q1, q2, fun j hj => by omega, fun _ => Iff.rfl⟩ ?_ ?_ ?_
  · rintro k vs m2 A B l hk z1 o1 o2 dis ow ⟨h0, h1, h2, hok, hA⟩ hel hin hms
    subst hel
    refine ⟨rfl, ?_⟩
    have hRow := hAt m2 z1 k
    have hPrev := hPv m2 z1 k
    have hokR : okR name rs k = (goodL name (rs.getD k noRow).xs && !(alikeL name (prevR rs k).xs (rs.getD k noRow).xs)) := rfl
    have hnext : prevR rs (k + 1) = rs.getD k noRow := rfl
    have hel : rowsEl rs k = [(rs.getD k noRow).v] := rfl
    rw [hel]
    generalize rs.getD k noRow = row at *
    generalize prevR rs k = prev at *
    obtain ⟨rad, rn, rc, rxs⟩ := row
    obtain ⟨pad, pn, pc, pxs⟩ := prev
    simp only [HRow.v] at h2 ⊢
    have r0 := get_at0 h0
    have r2 := get_at0 h2
    have hl0 := getM_lt h0
    have hl1 := getM_lt h1
    have hl2 := getM_lt h2
    simp (decide := true) (implicitDefEqProofs := false) (maxDischargeDepth := 20) only [go_sem, ↓reduceIte, r0, true_implies, false_implies]
    refine (CGood_at name hRow.sl).mono ?_
    rintro w m3 ⟨rfl, o3⟩
    have g0 := (o3.get hl0).trans h0
    have g1 := (o3.get hl1).trans h1
    have g2 := (o3.get hl2).trans h2
    have r0' := get_at0 g0
    have r2' := get_at0 g2
    have bad : ∀ mm : Mem, Old m2 mm → okR name rs k = false → ∃ A', ChgS (fun i => A i ∨ B i) m2 (mm.put (m.size + 1) (some (.cells false true [.bool false]))) ∧ NewS (fun i => A i ∨ B i) m2 (mm.put (m.size + 1) (some (.cells false true [.bool false]))) A' ∧ WholeD m.size name rs k .ret (mm.put (m.size + 1) (some (.cells false true [.bool false]))) A' := by
      intro mm om hb
      refine ⟨A, (om.chg _).put _ _ (.inl (.inl ((hA _).2 (.inr (.inl rfl))))), fun i hi => ⟨by rw [size_put]; exact Nat.lt_of_lt_of_le (o1 i hi).1 om.size, .inl (.inl hi)⟩, rfl, ?_, hb, hok, (hA _).2 (.inr (.inl rfl))⟩
      rw [getM_put, if_pos ⟨rfl, Nat.lt_of_lt_of_le hl1 om.size⟩]
    by_cases hg : goodL name rxs = true
    · simp only at hg ⊢
      rw [hg]
      simp (decide := true) (implicitDefEqProofs := false) (maxDischargeDepth := 20) only [go_sem, ↓reduceIte, r0', r2', true_implies, false_implies]
      refine (CAlike_at name (hPrev.sl.old o3) (hRow.sl.old o3)).mono ?_
      rintro w m4 ⟨rfl, o4⟩
      have om := o3.trans o4
      have k0 := (om.get hl0).trans h0
      have k1 := (om.get hl1).trans h1
      have k2 := (om.get hl2).trans h2
      by_cases hal : alikeL name pxs rxs = true
      · simp only at hal ⊢
        rw [hal]
        simp (decide := true) (implicitDefEqProofs := false) (maxDischargeDepth := 20) only [go_sem, ↓reduceIte, k1, true_implies, false_implies]
        obtain ⟨A', h3, h4, h5⟩ := bad m4 om (by rw [hokR]; simp only [hg, hal]; rfl)
        exact ⟨A', h3, h4, .inl trivial, h5⟩
      · have hal : alikeL name pxs rxs = false := by simpa using hal
        simp only at hal ⊢
        rw [hal]
        simp (decide := true) (implicitDefEqProofs := false) (maxDischargeDepth := 20) only [go_sem, ↓reduceIte, k2, true_implies, false_implies]
        refine ⟨A, (om.chg _).put _ _ (.inl (.inl ((hA _).2 (.inr (.inr rfl))))), fun i hi => ⟨by rw [size_put]; exact Nat.lt_of_lt_of_le (o1 i hi).1 om.size, .inl (.inl hi)⟩, ?_, ?_, ?_, ?_, hA⟩
        · rw [getM_put, if_neg (by omega)]; exact k0
        · rw [getM_put, if_neg (by omega)]; exact k1
        · rw [hnext, getM_put, if_pos ⟨rfl, Nat.lt_of_lt_of_le hl2 om.size⟩]; rfl
        · intro j hj
          rcases Nat.lt_or_eq_of_le (Nat.le_of_lt_succ hj) with h | rfl
          · exact hok j h
          · rw [hokR]; simp only [hg, hal]; rfl
    · have hg : goodL name rxs = false := by simpa using hg
      simp only at hg ⊢
      rw [hg]
      simp (decide := true) (implicitDefEqProofs := false) (maxDischargeDepth := 20) only [go_sem, ↓reduceIte, g1, true_implies, false_implies]
      obtain ⟨A', h3, h4, h5⟩ := bad m3 o3 (by rw [hokR]; simp only [hg]; rfl)
      exact ⟨A', h3, h4, .inl trivial, h5⟩
  · rintro m' A' z' o' ow ⟨h0, h1, h2, hok, hA⟩ c1 c2
    have l1 := getM_lt h1
    simp (decide := true) (implicitDefEqProofs := false) (maxDischargeDepth := 20) only [go_sem, ↓reduceIte, h1, l1, true_implies, false_implies]
    refine ⟨⟨by rw [size_put]; have := c1.size; omega, fun i hi hna => ?_⟩, .inl ⟨rfl, hs.locO _ m' _ ow fun i hi => ?_, hok⟩⟩
    · rw [getM_put, if_neg (by omega), c1.get i (by omega) (fun e => e.elim (fun e => by omega) hna), ho.get hi]
    · rw [getM_put, if_neg (by have := (hF i hi).1; omega)]
  · rintro k x m' A' hk z' o' ow hx ⟨rfl, h1, hb, hok, -⟩ c1 c2
    have r1 := get_at0 h1
    simp (decide := true) (implicitDefEqProofs := false) (maxDischargeDepth := 20) only [go_sem, ↓reduceIte, r1, true_implies, false_implies]
    refine ⟨⟨by have := c1.size; omega, fun i hi hna => ?_⟩, .inr ⟨k, hk, rfl, ow, hb, hok⟩⟩
    rw [c1.get i (by omega) (fun e => e.elim (fun e => by omega) hna), ho.get hi]
end Go.Proofs.Ytgbpgkfmmhlkoaa.W
