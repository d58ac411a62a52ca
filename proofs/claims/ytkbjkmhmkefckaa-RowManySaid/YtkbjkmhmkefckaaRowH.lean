/-
  RowAlone, the law.
-/
import Derived.Test.YtkbjkmhmkefckaaRowG
import Derived.Test.YtkbjkmhmkefckaaBookI
import Derived.Test.YtkbjkmhmkefckaaBookB
import Derived.Test.YtkbjkmhmkefckaaCodeLaw
namespace Go.Proofs.Ytkbjkmhmkefckaa.W
open Go.Abs
set_option linter.unusedSimpArgs false
set_option linter.unusedVariables false

theorem put_len (r : List Int) (h : Ok64 r) : (put r).length ≤ 101 ∧ (r.length ≤ 10 → 1 ≤ (put r).length) := by
  unfold put
  have := putB_len r h
  split
  · simp only [List.length_cons]; omega
  · simp; omega

set_option maxRecDepth 100000 in
set_option maxHeartbeats 8000000 in
theorem RowAlone_law (m : Mem) (hro : ∀ i c, m.get i = some c → c.writable = false)
    (a0 : Option Addr) (l0 c0 : Nat) (xs0 : List Int) (hs0 : SlA m 1 a0 l0 c0 (xs0.map (.int .i64))) (hl0 : xs0.length = l0) (hx0 : ∀ x ∈ xs0, -9223372036854775808 ≤ x ∧ x < 9223372036854775808)
    (a1 : Option Addr) (l1 c1 : Nat) (xs1 : List Int) (hs1 : SlA m 1 a1 l1 c1 (xs1.map (.int .i64))) (hl1 : xs1.length = l1) (hx1 : ∀ x ∈ xs1, -9223372036854775808 ≤ x ∧ x < 9223372036854775808) :
    CallQ E F_sheaflaw13_RowAlone [.slice a0 l0 c0, .slice a1 l1 c1].toArray m fun v _ => v = .bool true := by
  obtain ⟨n0, g0⟩ : ∃ n, n = min l0 10 := ⟨_, rfl⟩
  obtain ⟨n1, g1⟩ : ∃ n, n = min l1 10 := ⟨_, rfl⟩
  have m0 : min (l0 : Int) 10 = (n0 : Int) := by omega
  have m1 : min (l1 : Int) 10 = (n1 : Int) := by omega
  obtain ⟨s0, A⟩ := hs0.sliceTo (E := E) (k := .i64) (show n0 ≤ l0 by omega)
  obtain ⟨s1, B⟩ := hs1.sliceTo (E := E) (k := .i64) (show n1 ≤ l1 by omega)
  rw [Nat.mul_one, ← List.map_take] at A B
  have okA : Ok64 (xs0.take n0) := fun x hx => hx0 x (List.mem_of_mem_take hx)
  have okB : Ok64 (xs1.take n1) := fun x hx => hx1 x (List.mem_of_mem_take hx)
  generalize xs0.take n0 = as0 at *
  generalize xs1.take n1 = bs at *
  have la : as0.length = n0 := by have := A.len; simpa using this
  have lb : bs.length = n1 := by have := B.len; simpa using this
  have pa := put_len as0 okA
  have pb := put_len bs okB
  have s0' := s0 24 (by decide +kernel)
  have s1' := s1 24 (by decide +kernel)
  refine .enter fn_sheaflaw13_RowAlone (by simp) ?_
  simp (decide := true) (implicitDefEqProofs := false) (maxDischargeDepth := 20) only [go_sem, ↓reduceIte, m0, m1, s0', s1', true_implies, false_implies]
  refine (Put_at A okA).mono ?_
  rintro w m2 ⟨p, np, rfl, V1, o1, -⟩
  simp (decide := true) (implicitDefEqProofs := false) (maxDischargeDepth := 20) only [go_sem, ↓reduceIte, m0, m1, s0', s1', true_implies, false_implies]
  refine (Put_at (B.old o1) okB).mono ?_
  rintro w m3 ⟨q, nq, rfl, V2, o2, -⟩
  have hp : (put as0).length = np := by have := V1.len; simpa using this
  have hq : (put bs).length = nq := by have := V2.len; simpa using this
  have d1 : decide ((np : Int) < 1) = false := by simp; omega
  have d2 : decide ((nq : Int) < 1) = false := by simp; omega
  have inj := put_inj as0 bs (by omega) (by omega) okA okB
  obtain ⟨k, hk⟩ : ∃ k, k = min np nq := ⟨_, rfl⟩
  have mk : min (np : Int) (nq : Int) = (k : Int) := by omega
  simp (decide := true) (implicitDefEqProofs := false) (maxDischargeDepth := 20) only [go_sem, ↓reduceIte, d1, d2, true_implies, false_implies]
  refine (SameB (V1.sl.old o2) V2.sl (by omega) (by omega)).mono ?_
  rintro w m4 ⟨rfl, o3⟩
  simp (decide := true) (implicitDefEqProofs := false) (maxDischargeDepth := 20) only [go_sem, ↓reduceIte, d1, d2, true_implies, false_implies]
  have o4 := o1.trans (o2.trans o3)
  refine (SameI (A.old o4) (B.old o4) (by omega) (by omega)).mono ?_
  rintro w m5 ⟨rfl, o5⟩
  obtain ⟨s2, P⟩ := (V1.sl.old (o2.trans (o3.trans o5))).sliceTo (E := E) (k := .i64) (show k ≤ np by omega)
  obtain ⟨s3, Q⟩ := (V2.sl.old (o3.trans o5)).sliceTo (E := E) (k := .i64) (show k ≤ nq by omega)
  have s2' := s2 22 (by decide +kernel)
  have s3' := s3 22 (by decide +kernel)
  rw [Nat.mul_one, ← List.map_take] at P Q
  by_cases he : as0 = bs
  · have e1 : decide (as0 = bs) = true := by simpa using he
    have e2 : decide (put as0 = put bs) = true := by simpa using inj.2 he
    rw [e1, e2]
    simp (decide := true) (implicitDefEqProofs := false) (maxDischargeDepth := 20) only [go_sem, ↓reduceIte, mk, s2', s3', true_implies, false_implies]
    refine (SameB P Q (by omega) (by omega)).mono ?_
    rintro w m6 ⟨rfl, o6⟩
    have e3 : decide ((put as0).take k = (put bs).take k) = true := by rw [inj.2 he]; simp
    have e4 : ((np : Int) == (nq : Int)) = true := by rw [← hp, ← hq, inj.2 he]; simp
    rw [e3]
    simp (decide := true) (implicitDefEqProofs := false) (maxDischargeDepth := 20) only [go_sem, ↓reduceIte, e4, true_implies, false_implies]
  · have e1 : decide (as0 = bs) = false := by simpa using he
    have e2 : decide (put as0 = put bs) = false := by simpa using fun h => he (inj.1 h)
    rw [e1, e2]
    simp (decide := true) (implicitDefEqProofs := false) (maxDischargeDepth := 20) only [go_sem, ↓reduceIte, mk, s2', s3', true_implies, false_implies]
    refine (SameB P Q (by omega) (by omega)).mono ?_
    rintro w m6 ⟨rfl, o6⟩
    have e3 : decide ((put as0).take k = (put bs).take k) = false := by
      simp only [decide_eq_false_iff_not]
      exact fun h => he (put_prefix as0 bs (by omega) (by omega) okA okB k (by omega) h)
    rw [e3]
    simp (decide := true) (implicitDefEqProofs := false) (maxDischargeDepth := 20) only [go_sem, ↓reduceIte, true_implies, false_implies]
end Go.Proofs.Ytkbjkmhmkefckaa.W
