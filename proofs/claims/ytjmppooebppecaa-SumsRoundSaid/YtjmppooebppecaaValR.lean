/-
  An iterator over a list of rows.
-/
import Derived.Test.YtjmppooebppecaaCodeFlow
import Derived.Test.YtjmppooebppecaaAbs29
namespace Go.Proofs.Ytjmppooebppecaa.W
open Go.Abs
set_option linter.unusedSimpArgs false
set_option linter.unusedVariables false

abbrev ptr (b : Nat) : Value := .pointer (some ⟨b, 0, none⟩)
abbrev vI (x : Int) : Value := .int .i64 x
def noRow : HRow := ⟨none, 0, 0, []⟩
theorem noRow_at (m : Mem) : noRow.At m := ⟨.empty 1, rfl, fun x hx => by simp [noRow] at hx⟩
def rowsEl (rs : List HRow) : Nat → List Value := fun k => [(rs.getD k noRow).v]
def cap1 (m : Mem) (b : Nat) (v : Value) : Prop := m.get b = some (.cells false true [v])
theorem cap1.old {m m' : Mem} {b : Nat} {v : Value} (h : cap1 m b v) (k : Old m m') : cap1 m' b v := (k.get (getM_lt h)).trans h

def noD : Nat → Exit → Mem → Set' → Prop := fun _ _ _ _ => False
theorem noD_loc (k : Nat) (x : Exit) : LocP (noD k x) := fun _ _ _ h _ _ => h

set_option maxRecDepth 100000 in
theorem From_at {m : Mem} {a : Option Addr} {n c : Nat} : CallQ E F_flow_From_Sint [.slice a n c].toArray m fun w m' => ∃ b, w = .func (.func F_slices_Values_SSint_Sint_1) #[] #[ptr b] ∧ cap1 m' b (.slice a n c) ∧ m.size ≤ b ∧ Old m m' := by
  refine .enter fn_flow_From_Sint (by simp) ?_
  simp (decide := true) (implicitDefEqProofs := false) (maxDischargeDepth := 20) only [go_sem, ↓reduceIte, true_implies, false_implies]
  refine .enter fn_slices_Values_SSint_Sint (by simp) ?_
  simp (decide := true) (implicitDefEqProofs := false) (maxDischargeDepth := 20) only [go_sem, ↓reduceIte, true_implies, false_implies]
  exact ⟨m.size, rfl, by unfold cap1; rw [getM_push, if_pos rfl], Nat.le_refl _⟩

set_option maxRecDepth 100000 in
theorem ValuesR {Z : Nat → Option Blk} {F : Set'} {b : Nat} {ro tg : Bool} {a : Option Addr} {n c : Nat} {rs : List HRow} (hb : Z b = some (.cells ro tg [.slice a n c])) (hs : ∀ m, Frozen Z m → SlA m 1 a n c (rs.map HRow.v)) (hn : n ≤ 1000000) :
    Iter E Z F (.func (.func F_slices_Values_SSint_Sint_1) #[] #[.pointer (some ⟨b, 0, none⟩)]) n anyO (pureEl (rowsEl rs)) where
  fn := ⟨_, _, _, rfl⟩
  locO := fun _ _ _ _ _ => trivial
  locE := pureEl_loc _
  go := by
    intro y hy I D lI lD step m A z o hF _ i0
    rw [CallF_func]
    refine ⟨by simp only [go_sem], ?_⟩
    have e : (#[] ++ [y].toArray ++ #[.pointer (some ⟨b, 0, none⟩)] : Array Value) = [y, .pointer (some ⟨b, 0, none⟩)].toArray := by simp
    rw [e]
    refine .enter fn_slices_Values_SSint_Sint_1 (by simp) ?_
    have r0 := frozen_at z hb
    simp (decide := true) (implicitDefEqProofs := false) (maxDischargeDepth := 20) only [go_sem, ↓reduceIte, r0, true_implies, false_implies]
    simp only [c_slices_Values_SSint_Sint_1_9_at, wpM_block, c_slices_Values_SSint_Sint_1_8_at]
    refine wpM_loopA (fun j t' m' => ∃ i A', i ≤ n ∧ j = n - i ∧ t' 7 = .int .i64 (i : Nat) ∧ Adv Z F A m m' A' ∧ I i m' A') n ⟨0, A, by omega, rfl, by simp (decide := true) only [go_sem, ↓reduceIte]; try rfl, .refl z o, i0⟩ ?_
    rintro j t' m' ha ⟨i, A', hi, rfl, e7, adv, hI⟩
    have a0 := ha 0 (by decide +kernel)
    have a5 := ha 5 (by decide +kernel)
    have a6 := ha 6 (by decide +kernel)
    simp (decide := true) only [go_sem, ↓reduceIte] at a0 a5 a6
    by_cases hlt : i < n
    · have d1 : decide ((i : Int) < (n : Int)) = true := by simp; omega
      have w1 : IntKind.wrap .i64 ((i : Int) + 1) = ((i + 1 : Nat) : Int) := by rw [wrap_i64_id _ (by omega) (by omega)]; omega
      have z0 : (0 : Int) ≤ (i : Int) := by omega
      have z1 : (i : Int) < (n : Int) := by omega
      have S := hs m' adv.fz
      have hl : rs.length = n := by have := S.len; simpa using this
      obtain ⟨ab, ao, asp, rfl⟩ := S.addr (by omega)
      have r := S.at_map hlt
      have el : rowsEl rs i = [(rs[i]'(by omega)).v] := by unfold rowsEl; simp only [List.getD_eq_getElem?_getD, List.getElem?_eq_getElem (show i < rs.length by omega), Option.getD_some]
      generalize rs[i]'(by omega) = row at *
      obtain ⟨rad, rn', rc, rxs⟩ := row
      have r : m'.at ab (ao + i) = some (.slice rad rn' rc) := r
      simp (decide := true) (implicitDefEqProofs := false) (maxDischargeDepth := 20) only [go_sem, ↓reduceIte, a0, a5, a6, e7, d1, z0, z1, r, Int.toNat_natCast, true_implies, false_implies]
      refine CallF.step ((step i [.slice rad rn' rc] m' A' none' hlt adv.fz adv.own (fun _ h => h.elim) (fun _ _ h => h) (fun q hq => Nat.lt_of_lt_of_le (hF q hq).1 adv.chg.size) trivial hI ?_).mono ?_)
      · unfold pureEl
        rw [el]
        rfl
      rintro w m2 ⟨A2, k1, k2, hw⟩
      have adv2 := adv.step k1 k2 (fun _ h => h.elim) (fun i hi => (hF i hi).1)
      rcases hw with ⟨rfl, hI2⟩ | ⟨rfl, hD⟩
      · simp (decide := true) (implicitDefEqProofs := false) (maxDischargeDepth := 20) only [go_sem, ↓reduceIte, a0, a5, a6, e7, w1, true_implies, false_implies]
        exact ⟨n - (i + 1), by omega, i + 1, A2, by omega, rfl, rfl, adv2, hI2⟩
      · simp (decide := true) (implicitDefEqProofs := false) (maxDischargeDepth := 20) only [go_sem, ↓reduceIte, a0, a5, a6, e7, w1, true_implies, false_implies]
        exact ⟨A2, adv2.chg, adv2.new, .inr ⟨i, hlt, trivial, hD⟩⟩
    · have d1 : decide ((i : Int) < (n : Int)) = false := by simp; omega
      have hin : i = n := by omega
      subst hin
      simp (decide := true) (implicitDefEqProofs := false) (maxDischargeDepth := 20) only [go_sem, ↓reduceIte, a0, a5, a6, e7, d1, true_implies, false_implies]
      exact ⟨A', adv.chg, adv.new, .inl ⟨trivial, hI⟩⟩
end Go.Proofs.Ytjmppooebppecaa.W
