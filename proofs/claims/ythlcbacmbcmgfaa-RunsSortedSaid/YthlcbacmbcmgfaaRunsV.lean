/-
  Iterators over lists; lists of iterators.
-/
import Derived.Test.YthlcbacmbcmgfaaCodeRuns
import Derived.Test.YthlcbacmbcmgfaaAbs28
namespace Go.Proofs.Ythlcbacmbcmgfaa.W
open Go.Abs
set_option linter.unusedSimpArgs false
set_option linter.unusedVariables false

def intsEl (xs : List Int) : Nat → List Value := fun k => [.int .i64 (xs.getD k 0)]

set_option maxRecDepth 100000 in
/-- slices.Values -/
theorem ValuesI {Z : Nat → Option Blk} {F : Set'} {b : Nat} {ro tg : Bool} {a : Option Addr} {n c : Nat} {xs : List Int} (hb : Z b = some (.cells ro tg [.slice a n c])) (hs : ∀ m, Frozen Z m → SlA m 1 a n c (xs.map (.int .i64))) (hn : n ≤ 1000000) :
    Iter E Z F (.func (.func F_slices_Values_Sint_int_1) #[] #[.pointer (some ⟨b, 0, none⟩)]) n anyO (pureEl (intsEl xs)) where
  fn := ⟨_, _, _, rfl⟩
  locO := fun _ _ _ _ _ => trivial
  locE := pureEl_loc _
  go := by
    intro y hy I D lI lD step m A z o hF _ i0
    rw [CallF_func]
    refine ⟨some70, ?_⟩
    have e : (#[] ++ [y].toArray ++ #[.pointer (some ⟨b, 0, none⟩)] : Array Value) = [y, .pointer (some ⟨b, 0, none⟩)].toArray := by simp
    rw [e]
    refine .enter fn_slices_Values_Sint_int_1 (by simp) ?_
    have r0 : m.at b 0 = some (.slice a n c) := by unfold Mem.at; rw [z b _ hb]; rfl
    simp (decide := true) (implicitDefEqProofs := false) (maxDischargeDepth := 20) only [go_sem, ↓reduceIte, r0, true_implies, false_implies]
    simp only [c_slices_Values_Sint_int_1_9_at, wpM_block, c_slices_Values_Sint_int_1_8_at]
    refine wpM_loopA (fun j t' m' => ∃ i A', i ≤ n ∧ j = n - i ∧ t' 7 = .int .i64 (i : Nat) ∧ Adv Z F A m m' A' ∧ I i m' A') n ⟨0, A, by omega, rfl, by simp (decide := true) only [go_sem, ↓reduceIte]; try rfl, .refl z o, i0⟩ ?_
    rintro j t' m' ha ⟨i, A', hi, rfl, e7, adv, hI⟩
    have a0 := ha 0 (by decide +kernel)
    have a5 := ha 5 (by decide +kernel)
    have a6 := ha 6 (by decide +kernel)
    simp (decide := true) only [go_sem, ↓reduceIte] at a0 a5 a6
    by_cases hlt : i < n
    · have d1 : decide ((i : Int) < (n : Int)) = true := by simp; omega
      have w1 : IntKind.wrap .i64 ((i : Int) + 1) = ((i + 1 : Nat) : Int) := by rw [wrap_i64_id _ (by omega) (by omega)]; omega
      have z0 : (0 : Int) ≤ (i : Int) := by omega
      have z1 : (i : Int) < (n : Int) := by omega
      have S := hs m' adv.fz
      have hl : xs.length = n := by have := S.len; simpa using this
      obtain ⟨ab, ao, asp, rfl⟩ := S.addr (by omega)
      have r := S.at_map hlt
      simp (decide := true) (implicitDefEqProofs := false) (maxDischargeDepth := 20) only [go_sem, ↓reduceIte, a0, a5, a6, e7, d1, z0, z1, r, Int.toNat_natCast, true_implies, false_implies]
      refine CallF.step ((step i [.int .i64 (xs[i]'(by omega))] m' A' none' hlt adv.fz adv.own (fun _ h => h.elim) (fun _ _ h => h) (fun i hi => Nat.lt_of_lt_of_le (hF i hi).1 adv.chg.size) trivial hI ?_).mono ?_)
      · unfold pureEl intsEl
        simp only [List.getD_eq_getElem?_getD, List.getElem?_eq_getElem (show i < xs.length by omega), Option.getD_some]
      rintro w m2 ⟨A2, c1, c2, ⟨rfl, hI2⟩ | ⟨rfl, hD⟩⟩
      · have adv2 := adv.step c1 c2 (fun _ h => h.elim) (fun i hi => (hF i hi).1)
        simp (decide := true) (implicitDefEqProofs := false) (maxDischargeDepth := 20) only [go_sem, ↓reduceIte, a0, a5, a6, e7, w1, true_implies, false_implies]
        exact ⟨n - (i + 1), by omega, i + 1, A2, by omega, rfl, rfl, adv2, hI2⟩
      · have adv2 := adv.step c1 c2 (fun _ h => h.elim) (fun i hi => (hF i hi).1)
        simp (decide := true) (implicitDefEqProofs := false) (maxDischargeDepth := 20) only [go_sem, ↓reduceIte, a0, a5, a6, e7, w1, true_implies, false_implies]
        exact ⟨A2, adv2.chg, adv2.new, .inr ⟨i, hlt, trivial, hD⟩⟩
    · have d1 : decide ((i : Int) < (n : Int)) = false := by simp; omega
      have hin : i = n := by omega
      subst hin
      simp (decide := true) (implicitDefEqProofs := false) (maxDischargeDepth := 20) only [go_sem, ↓reduceIte, a0, a5, a6, e7, d1, true_implies, false_implies]
      exact ⟨A', adv.chg, adv.new, .inl ⟨trivial, hI⟩⟩
end Go.Proofs.Ythlcbacmbcmgfaa.W
