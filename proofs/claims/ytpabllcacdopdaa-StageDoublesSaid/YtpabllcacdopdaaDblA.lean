/-
  stage.Doubles; an iterator over rows that counts.
-/
import Derived.Test.YtpabllcacdopdaaStgA
import Derived.Test.YtpabllcacdopdaaCodeLaw
import Derived.Test.YtpabllcacdopdaaAbs30
namespace Go.Proofs.Ytpabllcacdopdaa.W
open Go.Abs
set_option linter.unusedSimpArgs false
set_option linter.unusedVariables false

/-- What was counted. -/
def CntO (nb n : Nat) : Nat → Mem → Prop := fun k m => m.get nb = some (.cells false true [vI (min k n : Nat)])

set_option maxRecDepth 100000 in
set_option maxHeartbeats 4000000 in
theorem CountR {Z : Nat → Option Blk} {lb nb : Nat} {ro tg : Bool} {a : Option Addr} {n c : Nat} {rs : List HRow} (hb1 : Z lb = some (.cells ro tg [.slice a n c])) (hs : ∀ m, Frozen Z m → SlA m 1 a n c (rs.map HRow.v)) (hn : n ≤ 1000000) :
    Iter E Z (fun i => i = nb) (.func (.func F_sheaflaw17_StageDoubles_1) #[] #[ptr lb, ptr nb]) n (CntO nb n) (pureEl (rowsEl rs)) where
  fn := ⟨_, _, _, rfl⟩
  locO := fun k m m' h hk => (hk nb rfl).trans h
  locE := pureEl_loc _
  go := by
    intro y hy I D lI lD step m A z o hF own0 i0
    have own0 : m.get nb = some (.cells false true [vI (min 0 n : Nat)]) := own0
    rw [Nat.zero_min] at own0
    have hnb := hF nb rfl
    rw [CallF_func]
    refine ⟨by simp only [go_sem], ?_⟩
    have e : (#[] ++ [y].toArray ++ #[ptr lb, ptr nb] : Array Value) = [y, ptr lb, ptr nb].toArray := by simp
    rw [e]
    refine .enter fn_sheaflaw17_StageDoubles_1 (by simp) ?_
    have r0 := frozen_at z hb1
    simp (decide := true) (implicitDefEqProofs := false) (maxDischargeDepth := 20) only [go_sem, ↓reduceIte, r0, true_implies, false_implies]
    simp only [c_sheaflaw17_StageDoubles_1_10_at, wpM_block, c_sheaflaw17_StageDoubles_1_9_at]
    refine wpM_loopA (fun j t' m' => ∃ i A', i ≤ n ∧ j = n - i ∧ t' 8 = .int .i64 (i : Nat) ∧ Adv Z (fun i => i = nb) A m m' A' ∧ I i m' A' ∧ m'.get nb = some (.cells false true [vI (i : Nat)])) n ⟨0, A, by omega, rfl, by simp (decide := true) only [go_sem, ↓reduceIte]; try rfl, .refl z o, i0, own0⟩ ?_
    rintro j t' m' ha ⟨i, A', hi, rfl, e8, adv, hI, hc⟩
    have a0 := ha 0 (by decide +kernel)
    have a2 := ha 2 (by decide +kernel)
    have a6 := ha 6 (by decide +kernel)
    have a7 := ha 7 (by decide +kernel)
    simp (decide := true) only [go_sem, ↓reduceIte] at a0 a2 a6 a7
    by_cases hlt : i < n
    · have d1 : decide ((i : Int) < (n : Int)) = true := by simp; omega
      have w1 : IntKind.wrap .i64 ((i : Int) + 1) = ((i + 1 : Nat) : Int) := by rw [wrap_i64_id _ (by omega) (by omega)]; omega
      have z0 : (0 : Int) ≤ (i : Int) := by omega
      have z1 : (i : Int) < (n : Int) := by omega
      have S := hs m' adv.fz
      have hl : rs.length = n := by have := S.len; simpa using this
      obtain ⟨ab, ao, asp, rfl⟩ := S.addr (by omega)
      have r := S.at_map hlt
      have el : rowsEl rs i = [(rs[i]'(by omega)).v] := by unfold rowsEl; simp only [List.getD_eq_getElem?_getD, List.getElem?_eq_getElem (show i < rs.length by omega), Option.getD_some]
      generalize rs[i]'(by omega) = row at *
      obtain ⟨rad, rn', rc, rxs⟩ := row
      have r : m'.at ab (ao + i) = some (.slice rad rn' rc) := r
      have rn := get_at0 hc
      have ln := getM_lt hc
      have hA' : ∀ i, A' i → i ≠ nb := fun i hi => (adv.own i hi).2.2
      obtain ⟨m1, hm1⟩ : ∃ m1, m1 = m'.put nb (some (.cells false true [vI ((i + 1 : Nat) : Int)])) := ⟨_, rfl⟩
      have g1 : ∀ q, q ≠ nb → m1.get q = m'.get q := fun q hq => by rw [hm1, getM_put, if_neg (fun e => hq e.1)]
      have s1 : m1.size = m'.size := by rw [hm1, size_put]
      have c1 : m1.get nb = some (.cells false true [vI ((i + 1 : Nat) : Int)]) := by rw [hm1, getM_put, if_pos ⟨rfl, ln⟩]
      have adv1 : Adv Z (fun i => i = nb) A m m1 A' := ⟨⟨by rw [s1]; exact adv.chg.size, fun q hq hna => by rw [g1 q (fun e => hna (.inr e))]; exact adv.chg.get q hq hna⟩, fun q hq => by rw [s1]; exact adv.new q hq, fun q b hq => by
        rw [g1 q (fun e => by rw [e, hnb.2] at hq; cases hq)]; exact adv.fz q b hq, fun q hq => by rw [s1]; exact adv.own q hq⟩
      have hI1 : I i m1 A' := lI i m' m1 A' hI (fun q hq => g1 q (hA' q hq)) (by rw [s1]; exact Nat.le_refl _)
      have own1 : CntO nb n (i + 1) m1 := by unfold CntO; rw [Nat.min_eq_left (by omega)]; exact c1
      simp (decide := true) (implicitDefEqProofs := false) (maxDischargeDepth := 20) only [go_sem, ↓reduceIte, a0, a2, a6, a7, e8, d1, z0, z1, r, rn, hc, w1, Int.toNat_natCast, ← hm1, true_implies, false_implies]
      refine CallF.step ((step i [.slice rad rn' rc] m1 A' none' hlt adv1.fz adv1.own (fun _ h => h.elim) (fun _ _ h => h) (fun q hq => by rw [s1, hq]; exact ln) own1 hI1 ?_).mono ?_)
      · unfold pureEl
        rw [el]
        rfl
      rintro w m2 ⟨A2, k1, k2, hw⟩
      have adv2 := adv1.step k1 k2 (fun _ h => h.elim) (fun i hi => (hF i hi).1)
      have c2 : m2.get nb = some (.cells false true [vI ((i + 1 : Nat) : Int)]) := by
        rw [k1.get nb (by rw [s1]; exact ln) (fun h => h.elim (fun h => hA' nb h rfl) fun h => h), c1]
      rcases hw with ⟨rfl, hI2⟩ | ⟨rfl, hD⟩
      · simp (decide := true) (implicitDefEqProofs := false) (maxDischargeDepth := 20) only [go_sem, ↓reduceIte, a0, a2, a6, a7, e8, w1, true_implies, false_implies]
        exact ⟨n - (i + 1), by omega, i + 1, A2, by omega, rfl, rfl, adv2, hI2, c2⟩
      · simp (decide := true) (implicitDefEqProofs := false) (maxDischargeDepth := 20) only [go_sem, ↓reduceIte, a0, a2, a6, a7, e8, w1, true_implies, false_implies]
        exact ⟨A2, adv2.chg, adv2.new, .inr ⟨i, hlt, by unfold CntO; rw [Nat.min_eq_left (by omega)]; exact c2, hD⟩⟩
    · have d1 : decide ((i : Int) < (n : Int)) = false := by simp; omega
      have hin : i = n := by omega
      subst hin
      simp (decide := true) (implicitDefEqProofs := false) (maxDischargeDepth := 20) only [go_sem, ↓reduceIte, a0, a2, a6, a7, e8, d1, true_implies, false_implies]
      exact ⟨A', adv.chg, adv.new, .inl ⟨by unfold CntO; rw [Nat.min_eq_right (by omega)]; exact hc, hI⟩⟩

set_option maxRecDepth 100000 in
theorem Doubles_at {m : Mem} {sf : Fn} {sa sb : Array Value} : CallQ E F_stage_Doubles [.func sf sa sb].toArray m fun w m' => ∃ b1, w = .func (.func F_stage_Doubles_1) #[] #[ptr b1] ∧ cap1 m' b1 (.func sf sa sb) ∧ m.size ≤ b1 ∧ Old m m' := by
  refine .enter fn_stage_Doubles (by simp) ?_
  simp (decide := true) (implicitDefEqProofs := false) (maxDischargeDepth := 20) only [go_sem, ↓reduceIte, true_implies, false_implies]
  exact ⟨m.size, rfl, by unfold cap1; rw [getM_push, if_pos rfl], Nat.le_refl _⟩

/-! ### The doubles -/
def at0 (rs : List HRow) (k : Nat) : Int := (rs.getD k noRow).xs.getD 0 0
/-- Has row k the number of the one ahead of it? -/
def sameB (rs : List HRow) (k : Nat) : Bool := decide (0 < k) && at0 rs (k - 1) == at0 rs k
def dblW (rs : List HRow) (n : Nat) (k : Nat) : Int := if (sameB rs k || (decide (k + 1 < n) && sameB rs (k + 1))) = true then 2 else 0
def OwnD (Own : Nat → Mem → Prop) (n : Nat) : Nat → Mem → Prop := fun k => match k with
  | 0 => Own 0
  | k + 1 => Own (min (k + 2) (n + 1))

structure DblJ (rs : List HRow) (yb kb hb db tb : Nat) (y : Value) (k : Nat) (m : Mem) (A1 A : Set') : Prop where
  gy : m.get yb = some (.cells false true [y])
  gt : m.get tb = some (.cells false true [.func (.func F_stage_Doubles_1_1) #[] #[ptr db, ptr yb, ptr kb]])
  gh : m.get hb = some (.cells false true [.bool (decide (0 < k))])
  gd : m.get db = some (.cells false true [.bool (decide (0 < k) && sameB rs (k - 1))])
  gk : match k with
    | 0 => m.get kb = some (.cells false true [.slice none 0 0])
    | k + 1 => ∃ ac, m.get kb = some (.cells false true [.slice ac (rs.getD k noRow).n (rs.getD k noRow).n]) ∧ Vec 0 m 1 ac (rs.getD k noRow).n ((rs.getD k noRow).xs.map (.int .i64)) ∧ ∀ x, ac = some x → A x.block ∧ ¬ A1 x.block ∧ x.block ≠ yb ∧ x.block ≠ kb ∧ x.block ≠ hb ∧ x.block ≠ db ∧ x.block ≠ tb
  ay : A yb ∧ ¬ A1 yb
  ak : A kb ∧ ¬ A1 kb
  ah : A hb ∧ ¬ A1 hb
  ad : A db ∧ ¬ A1 db
  at_ : A tb ∧ ¬ A1 tb
  sub : ∀ i, A1 i → A i
theorem DblJ.loc {rs : List HRow} {yb kb hb db tb : Nat} {y : Value} {k : Nat} {m m' : Mem} {A1 A : Set'} (h : DblJ rs yb kb hb db tb y k m A1 A) (hk : ∀ i, A i → m'.get i = m.get i) : DblJ rs yb kb hb db tb y k m' A1 A where
  gy := (hk _ h.ay.1).trans h.gy
  gt := (hk _ h.at_.1).trans h.gt
  gh := (hk _ h.ah.1).trans h.gh
  gd := (hk _ h.ad.1).trans h.gd
  gk := by
    have := h.gk
    cases k with
    | zero => exact (hk _ h.ak.1).trans this
    | succ k =>
      obtain ⟨ac, h1, h2, h3⟩ := this
      exact ⟨ac, (hk _ h.ak.1).trans h1, h2.keep fun x hx => hk _ (h3 x hx).1, h3⟩
  ay := h.ay
  ak := h.ak
  ah := h.ah
  ad := h.ad
  at_ := h.at_
  sub := h.sub

theorem dbl_boxes (P : Mem → Prop) (m : Mem) (v0 v1 : Value) (v2 v3 v4 w2 w3 w4 : Value) (h : ∀ m', m'.get m.size = some (.cells false true [v0]) → m'.get (m.size + 1) = some (.cells false true [v1]) → m'.get (m.size + (1 + 1)) = some (.cells false true [w2]) → m'.get (m.size + (1 + (1 + 1))) = some (.cells false true [w3]) → m'.get (m.size + (1 + (1 + (1 + 1)))) = some (.cells false true [w4]) → Old m m' → m'.size = m.size + 5 → P m') :
    P ((((((((m.push (.cells false true [v0])).push (.cells false true [v1])).push (.cells false true [v2])).push (.cells false true [v3])).put (m.size + (1 + 1)) (some (.cells false true [w2]))).put (m.size + (1 + (1 + 1))) (some (.cells false true [w3]))).push (.cells false true [v4])).put (m.size + (1 + (1 + (1 + 1)))) (some (.cells false true [w4]))) := by
  refine h _ ?_ ?_ ?_ ?_ ?_ (.of_get (by simp [size_put, size_push]; omega) fun i hi => ?_) (by simp)
  all_goals simp only [getM_put, getM_push, size_put, size_push]
  · rw [if_neg (by omega), if_neg (by omega), if_neg (by omega), if_neg (by omega), if_neg (by omega), if_neg (by omega), if_neg (by omega), if_pos trivial]
  · rw [if_neg (by omega), if_neg (by omega), if_neg (by omega), if_neg (by omega), if_neg (by omega), if_neg (by omega), if_pos trivial]
  · rw [if_neg (by omega), if_neg (by omega), if_neg (by omega), if_pos (by simp <;> omega)]
  · rw [if_neg (by omega), if_neg (by omega), if_pos (by simp <;> omega)]
  · rw [if_pos (by simp <;> omega)]
  · rw [if_neg (by omega), if_neg (by omega), if_neg (by omega), if_neg (by omega), if_neg (by omega), if_neg (by omega), if_neg (by omega), if_neg (by omega)]

set_option maxRecDepth 100000 in
theorem DTell {m : Mem} {db yb kb : Nat} {d : Bool} {v : Value} {yf : Fn} {ya yc : Array Value} (gd : m.get db = some (.cells false true [.bool d])) (gy : m.get yb = some (.cells false true [.func yf ya yc])) (gk : m.get kb = some (.cells false true [v])) (hv : ∃ a n c, v = .slice a n c) {K : Value → Mem → Prop}
    (hK : CallF E (.func yf ya yc) [v, vI (if d then 2 else 0)] m K) : CallQ E F_stage_Doubles_1_1 [ptr db, ptr yb, ptr kb].toArray m K := by
  refine .enter fn_stage_Doubles_1_1 (by simp) ?_
  obtain ⟨a, n, c, rfl⟩ := hv
  have rd := get_at0 gd
  have ry := get_at0 gy
  have rk := get_at0 gk
  cases d with
  | true =>
    simp (decide := true) (implicitDefEqProofs := false) (maxDischargeDepth := 20) only [go_sem, ↓reduceIte, rd, ry, rk, true_implies, false_implies]
    refine CallF.step (hK.mono fun w m' h => ?_)
    simp (decide := true) (implicitDefEqProofs := false) (maxDischargeDepth := 20) only [go_sem, ↓reduceIte, true_implies, false_implies]
    exact h
  | false =>
    simp (decide := true) (implicitDefEqProofs := false) (maxDischargeDepth := 20) only [go_sem, ↓reduceIte, rd, ry, rk, true_implies, false_implies]
    refine CallF.step (hK.mono fun w m' h => ?_)
    simp (decide := true) (implicitDefEqProofs := false) (maxDischargeDepth := 20) only [go_sem, ↓reduceIte, true_implies, false_implies]
    exact h
end Go.Proofs.Ytpabllcacdopdaa.W
