/-
  stage.found: what another file has.
-/
import Derived.Test.YtpabllcacdopdaaJnC
import Derived.Test.YtpabllcacdopdaaCodeWide
import Derived.Test.YtpabllcacdopdaaSrtA
namespace Go.Proofs.Ytpabllcacdopdaa.W
open Go.Abs
set_option linter.unusedSimpArgs false
set_option linter.unusedVariables false

theorem NaN_ans (x : Int) : Ans E F_cmp_isNaN_int [.int .i64 x] (.bool false) := by
  refine .of fn_cmp_isNaN_int (by simp) fun m => ?_
  have d1 : (x != x) = false := by simp
  simp (decide := true) (implicitDefEqProofs := false) (maxDischargeDepth := 20) only [go_sem, ↓reduceIte, d1, true_implies, false_implies]
set_option maxRecDepth 100000 in
theorem CmpI_ans (x y : Int) : Ans E F_cmp_Compare_int [.int .i64 x, .int .i64 y] (.int .i64 (cmpI x y)) := by
  refine .of fn_cmp_Compare_int (by simp) fun m => ?_
  have nx := NaN_ans x
  have ny := NaN_ans y
  unfold cmpI
  by_cases h : x < y
  · have d1 : decide (x < y) = true := by simpa using h
    rw [if_pos h]
    simp (decide := true) (implicitDefEqProofs := false) (maxDischargeDepth := 20) only [go_sem, ↓reduceIte, d1, nx.eq, ny.eq, true_implies, false_implies]
  · have d1 : decide (x < y) = false := by simpa using h
    rw [if_neg h]
    by_cases k : y < x
    · have d2 : decide (x > y) = true := by simpa using k
      rw [if_pos k]
      simp (decide := true) (implicitDefEqProofs := false) (maxDischargeDepth := 20) only [go_sem, ↓reduceIte, d1, d2, nx.eq, ny.eq, true_implies, false_implies]
    · have d2 : decide (x > y) = false := by simpa using k
      rw [if_neg k]
      simp (decide := true) (implicitDefEqProofs := false) (maxDischargeDepth := 20) only [go_sem, ↓reduceIte, d1, d2, nx.eq, ny.eq, true_implies, false_implies]

def cmpR (col : Nat) (a b : HRow) : Int := cmpI (a.xs.getD col 0) (b.xs.getD 0 0)
set_option maxRecDepth 100000 in
theorem Order_ok {Z : Nat → Option Blk} {bc col : Nat} {ro tg : Bool} (hb : Z bc = some (.cells ro tg [vI (col : Nat)])) (hcol : col ≤ 1000) (a b : HRow) (ha : RowZ Z a) (hbz : RowZ Z b) : PureF E Z (.func (.func F_stage_found_1_1) #[] #[ptr bc]) [a.v, b.v] (vI (cmpR col a b)) := fun m z => by
  obtain ⟨aad, an, ac, axs⟩ := a
  obtain ⟨bad, bn, bcc, bxs⟩ := b
  have rc := frozen_at z hb
  refine callF_of (by simp only [go_sem]) (l := [.slice aad an ac, .slice bad bn bcc, ptr bc]) (by simp [HRow.v]) (.enter fn_stage_found_1_1 (by simp) ?_)
  simp (decide := true) (implicitDefEqProofs := false) (maxDischargeDepth := 20) only [go_sem, rc, ↓reduceIte, true_implies, false_implies]
  refine (At_at col (ha m z).sl (by omega)).mono ?_
  rintro w m1 ⟨rfl, o1⟩
  simp (decide := true) (implicitDefEqProofs := false) (maxDischargeDepth := 20) only [go_sem, ↓reduceIte, true_implies, false_implies]
  refine (At_at 0 ((hbz m z).sl.old o1) (by omega)).mono ?_
  rintro w m2 ⟨rfl, o2⟩
  simp (decide := true) (implicitDefEqProofs := false) (maxDischargeDepth := 20) only [go_sem, ↓reduceIte, true_implies, false_implies]
  refine ((CmpI_ans _ _) m2).mono ?_
  rintro w m3 ⟨rfl, o3⟩
  simp (decide := true) (implicitDefEqProofs := false) (maxDischargeDepth := 20) only [go_sem, ↓reduceIte, true_implies, false_implies]
  exact ⟨rfl, o1.trans (o2.trans o3)⟩

/-- What is laid behind a row that has found its like. -/
def PutOk (Z : Nat → Option Blk) (f : Value) (putL : List Int → List Int → List Int) : Prop := ∀ (m : Mem) (B : Nat) (a : Option Addr) (n : Nat) (xs : List Int) (y : HRow), Frozen Z m → RowZ Z y → B ≤ m.size → n ≤ 1000 → Vec B m 1 a n (xs.map (.int .i64)) →
  CallF E f [.slice a n n, y.v] m fun w m' => ∃ a', w = .slice a' (putL xs y.xs).length (putL xs y.xs).length ∧ Vec B m' 1 a' (putL xs y.xs).length ((putL xs y.xs).map (.int .i64)) ∧ m.size ≤ m'.size ∧ ∀ i, i < B → m'.get i = m.get i

set_option maxRecDepth 100000 in
theorem Entities_ok (Z : Nat → Option Blk) : PutOk Z (.func (.func F_stage_Entities_1) #[] #[]) fun r x => r ++ [x.getD 1 0, x.getD 2 0] := fun m B a n xs y z hy hB hn V => by
  obtain ⟨yad, yn, yc, yxs⟩ := y
  refine callF_of (by simp only [go_sem]) (l := [.slice a n n, .slice yad yn yc]) (by simp [HRow.v]) (.enter fn_stage_Entities_1 (by simp) ?_)
  have hl : xs.length = n := by have := V.len; simpa using this
  simp (decide := true) (implicitDefEqProofs := false) (maxDischargeDepth := 20) only [go_sem, ↓reduceIte, true_implies, false_implies]
  refine (At_at 1 (hy m z).sl (by omega)).mono ?_
  rintro w m1 ⟨rfl, o1⟩
  simp (decide := true) (implicitDefEqProofs := false) (maxDischargeDepth := 20) only [go_sem, ↓reduceIte, true_implies, false_implies]
  refine (At_at 2 ((hy m z).sl.old o1) (by omega)).mono ?_
  rintro w m2 ⟨rfl, o2⟩
  have o02 := o1.trans o2
  have s02 := o02.size
  simp (decide := true) (implicitDefEqProofs := false) (maxDischargeDepth := 20) only [go_sem, ↓reduceIte, true_implies, false_implies]
  obtain ⟨mp, hmp⟩ : ∃ mp, mp = m2.push (.cells false true [.int .i64 (yxs.getD 1 0), .int .i64 (yxs.getD 2 0)]) := ⟨_, rfl⟩
  have op : Old m2 mp := by rw [hmp]; exact .push (.refl m2) _
  have sp : mp.size = m2.size + 1 := by rw [hmp, size_push]
  have S : SlA mp 1 (some ⟨m2.size, 0, none⟩) 2 2 [.int .i64 (yxs.getD 1 0), .int .i64 (yxs.getD 2 0)] := .new (by rw [hmp, getM_push, if_pos rfl]) rfl rfl
  rw [← hmp]
  refine (V.old (o02.trans op)).append (by omega) (S.appended' (by decide +kernel) (by decide)) rfl (by decide +kernel) rfl (by omega) fun m3 a3 v3 k3 h3 => ?_
  simp (decide := true) (implicitDefEqProofs := false) (maxDischargeDepth := 20) only [go_sem, ↓reduceIte, true_implies, false_implies]
  have e1 : (xs ++ [yxs.getD 1 0, yxs.getD 2 0]).length = n + 2 := by simp [hl]
  refine ⟨a3, by rw [e1], ?_, by have := k3.1; omega, fun i hi => ?_⟩
  · rw [e1, List.map_append]
    exact v3
  · rw [k3.2 i (by omega) fun x hx e => by have := (V.blk x hx).1; omega, (o02.trans op).get (by omega)]
theorem Partners_ok (Z : Nat → Option Blk) : PutOk Z (.func (.func F_stage_Partners_1) #[] #[]) fun r x => r := fun m B a n xs y z hy hB hn V => by
  obtain ⟨yad, yn, yc, yxs⟩ := y
  refine callF_of (by simp only [go_sem]) (l := [.slice a n n, .slice yad yn yc]) (by simp [HRow.v]) (.enter fn_stage_Partners_1 (by simp) ?_)
  have hl : xs.length = n := by have := V.len; simpa using this
  simp (decide := true) (implicitDefEqProofs := false) (maxDischargeDepth := 20) only [go_sem, ↓reduceIte, true_implies, false_implies]
  exact ⟨a, by rw [hl], by rw [hl]; exact ⟨V, fun _ _ => trivial⟩⟩

/-- The row that comes out, and why it doesn't stand. -/
def foundR (putL : List Int → List Int → List Int) (r : HRow) (hit : Option HRow) : List Int := match hit with
  | some y => putL r.xs y.xs
  | none => r.xs
def foundW (col : Nat) (why : Int) (r : HRow) (hit : Option HRow) : Int := match hit with
  | some _ => 0
  | none => if col = 5 ∧ r.xs.getD 5 0 = 0 then 0 else why
def foundEl (putL : List Int → List Int → List Int) (col : Nat) (why : Int) (hit : Nat → Option HRow) (xs : List HRow) : Nat → List Value → Mem → Set' → Prop := fun k vs m B =>
  ∃ a, vs = [.slice a (foundR putL (xs.getD k noRow) (hit k)).length (foundR putL (xs.getD k noRow) (hit k)).length, vI (foundW col why (xs.getD k noRow) (hit k))] ∧
    Vec 0 m 1 a (foundR putL (xs.getD k noRow) (hit k)).length ((foundR putL (xs.getD k noRow) (hit k)).map (.int .i64)) ∧ ∀ i, B i ↔ ∃ x, a = some x ∧ i = x.block
theorem foundEl_loc (putL : List Int → List Int → List Int) (col : Nat) (why : Int) (hit : Nat → Option HRow) (xs : List HRow) (k : Nat) (vs : List Value) : LocP (foundEl putL col why hit xs k vs) := by
  rintro m m' A ⟨a, h1, h2, h3⟩ hk hs
  exact ⟨a, h1, h2.keep fun x hx => hk _ ((h3 _).2 ⟨x, hx, rfl⟩), h3⟩
theorem CurAt.sub {Z : Nat → Option Blk} {b : Nat} {l : List HRow} {m : Mem} (h : CurAt Z b l m) : b < m.size := h.lt
end Go.Proofs.Ytpabllcacdopdaa.W
