/-
  A source that counts.
-/
import Derived.Test.YthlcbacmbcmgfaaRunsH
namespace Go.Proofs.Ythlcbacmbcmgfaa.W
open Go.Abs
set_option linter.unusedSimpArgs false
set_option linter.unusedVariables false

/-- What was counted. -/
def CntO (nb n q : Nat) : Nat → Mem → Prop := fun k m => m.get nb = some (.cells false true [vI (q + min k n : Nat)])

set_option maxRecDepth 100000 in
set_option maxHeartbeats 4000000 in
theorem CountI {Z : Nat → Option Blk} {b1 nb q0 : Nat} {ro tg : Bool} {a : Option Addr} {n c : Nat} {xs : List Int} (hb1 : Z b1 = some (.cells ro tg [.slice a n c])) (hs : ∀ m, Frozen Z m → SlA m 1 a n c (xs.map (.int .i64))) (hn : n ≤ 1000000) (hq0 : q0 ≤ 1000000) :
    Iter E Z (fun i => i = nb) (.func (.func F_sheaflaw11_RunsLeft_1) #[] #[ptr b1, ptr nb]) n (CntO nb n q0) (pureEl (intsEl xs)) where
  fn := ⟨_, _, _, rfl⟩
  locO := fun k m m' h hk => (hk nb rfl).trans h
  locE := pureEl_loc _
  go := by
    intro y hy I D lI lD step m A z o hF own0 i0
    have own0 : m.get nb = some (.cells false true [vI (q0 + min 0 n : Nat)]) := own0
    rw [Nat.zero_min, Nat.add_zero] at own0
    have hnb := hF nb rfl
    rw [CallF_func]
    refine ⟨some33, ?_⟩
    have e : (#[] ++ [y].toArray ++ #[ptr b1, ptr nb] : Array Value) = [y, ptr b1, ptr nb].toArray := by simp
    rw [e]
    refine .enter fn_sheaflaw11_RunsLeft_1 (by simp) ?_
    have r0 := frozen_at z hb1
    simp (decide := true) (implicitDefEqProofs := false) (maxDischargeDepth := 20) only [go_sem, ↓reduceIte, r0, true_implies, false_implies]
    simp only [c_sheaflaw11_RunsLeft_1_10_at, wpM_block, c_sheaflaw11_RunsLeft_1_9_at]
    refine wpM_loopA (fun j t' m' => ∃ i A', i ≤ n ∧ j = n - i ∧ t' 8 = .int .i64 (i : Nat) ∧ Adv Z (fun i => i = nb) A m m' A' ∧ I i m' A' ∧ m'.get nb = some (.cells false true [vI (q0 + i : Nat)])) n ⟨0, A, by omega, rfl, by simp (decide := true) only [go_sem, ↓reduceIte]; try rfl, .refl z o, i0, own0⟩ ?_
    rintro j t' m' ha ⟨i, A', hi, rfl, e8, adv, hI, hc⟩
    have a0 := ha 0 (by decide +kernel)
    have a2 := ha 2 (by decide +kernel)
    have a6 := ha 6 (by decide +kernel)
    have a7 := ha 7 (by decide +kernel)
    simp (decide := true) only [go_sem, ↓reduceIte] at a0 a2 a6 a7
    by_cases hlt : i < n
    · have d1 : decide ((i : Int) < (n : Int)) = true := by simp; omega
      have w1 : IntKind.wrap .i64 ((i : Int) + 1) = ((i + 1 : Nat) : Int) := by rw [wrap_i64_id _ (by omega) (by omega)]; omega
      have w3 : IntKind.wrap .i64 (((q0 + i : Nat) : Int) + 1) = ((q0 + (i + 1) : Nat) : Int) := by rw [wrap_i64_id _ (by omega) (by omega)]; omega
      have z0 : (0 : Int) ≤ (i : Int) := by omega
      have z1 : (i : Int) < (n : Int) := by omega
      have S := hs m' adv.fz
      have hl : xs.length = n := by have := S.len; simpa using this
      obtain ⟨ab, ao, asp, rfl⟩ := S.addr (by omega)
      have r := S.at_map hlt
      have rn := get_at0 hc
      have ln := getM_lt hc
      have hA' : ∀ i, A' i → i ≠ nb := fun i hi => (adv.own i hi).2.2
      obtain ⟨m1, hm1⟩ : ∃ m1, m1 = m'.put nb (some (.cells false true [vI ((q0 + (i + 1) : Nat) : Int)])) := ⟨_, rfl⟩
      have g1 : ∀ q, q ≠ nb → m1.get q = m'.get q := fun q hq => by rw [hm1, getM_put, if_neg (fun e => hq e.1)]
      have s1 : m1.size = m'.size := by rw [hm1, size_put]
      have c1 : m1.get nb = some (.cells false true [vI ((q0 + (i + 1) : Nat) : Int)]) := by rw [hm1, getM_put, if_pos ⟨rfl, ln⟩]
      have adv1 : Adv Z (fun i => i = nb) A m m1 A' := ⟨⟨by rw [s1]; exact adv.chg.size, fun q hq hna => by rw [g1 q (fun e => hna (.inr e))]; exact adv.chg.get q hq hna⟩, fun q hq => by rw [s1]; exact adv.new q hq, fun q b hq => by
        rw [g1 q (fun e => by rw [e, hnb.2] at hq; cases hq)]; exact adv.fz q b hq, fun q hq => by rw [s1]; exact adv.own q hq⟩
      have hI1 : I i m1 A' := lI i m' m1 A' hI (fun q hq => g1 q (hA' q hq)) (by rw [s1]; exact Nat.le_refl _)
      have own1 : CntO nb n q0 (i + 1) m1 := by unfold CntO; rw [Nat.min_eq_left (by omega)]; exact c1
      simp (decide := true) (implicitDefEqProofs := false) (maxDischargeDepth := 20) only [go_sem, ↓reduceIte, a0, a2, a6, a7, e8, d1, z0, z1, r, rn, hc, w1, w3, Int.toNat_natCast, ← hm1, true_implies, false_implies]
      refine CallF.step ((step i [.int .i64 (xs[i]'(by omega))] m1 A' none' hlt adv1.fz adv1.own (fun _ h => h.elim) (fun _ _ h => h) (fun q hq => by rw [s1, hq]; exact ln) own1 hI1 ?_).mono ?_)
      · unfold pureEl intsEl
        simp only [List.getD_eq_getElem?_getD, List.getElem?_eq_getElem (show i < xs.length by omega), Option.getD_some]
      rintro w m2 ⟨A2, k1, k2, hw⟩
      have adv2 := adv1.step k1 k2 (fun _ h => h.elim) (fun i hi => (hF i hi).1)
      have c2 : m2.get nb = some (.cells false true [vI ((q0 + (i + 1) : Nat) : Int)]) := by
        rw [k1.get nb (by rw [s1]; exact ln) (fun h => h.elim (fun h => hA' nb h rfl) fun h => h), c1]
      rcases hw with ⟨rfl, hI2⟩ | ⟨rfl, hD⟩
      · simp (decide := true) (implicitDefEqProofs := false) (maxDischargeDepth := 20) only [go_sem, ↓reduceIte, a0, a2, a6, a7, e8, w1, true_implies, false_implies]
        exact ⟨n - (i + 1), by omega, i + 1, A2, by omega, rfl, rfl, adv2, hI2, c2⟩
      · simp (decide := true) (implicitDefEqProofs := false) (maxDischargeDepth := 20) only [go_sem, ↓reduceIte, a0, a2, a6, a7, e8, w1, true_implies, false_implies]
        exact ⟨A2, adv2.chg, adv2.new, .inr ⟨i, hlt, by unfold CntO; rw [Nat.min_eq_left (by omega)]; exact c2, hD⟩⟩
    · have d1 : decide ((i : Int) < (n : Int)) = false := by simp; omega
      have hin : i = n := by omega
      subst hin
      simp (decide := true) (implicitDefEqProofs := false) (maxDischargeDepth := 20) only [go_sem, ↓reduceIte, a0, a2, a6, a7, e8, d1, true_implies, false_implies]
      exact ⟨A', adv.chg, adv.new, .inl ⟨by unfold CntO; rw [Nat.min_eq_right (by omega)]; exact hc, hI⟩⟩

end Go.Proofs.Ythlcbacmbcmgfaa.W
