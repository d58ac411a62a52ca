/-
  RowBack, the law.
-/
import Derived.Test.YtkbjkmhmkefckaaRowH
namespace Go.Proofs.Ytkbjkmhmkefckaa.W
open Go.Abs
set_option linter.unusedSimpArgs false
set_option linter.unusedVariables false

set_option maxRecDepth 100000 in
set_option maxHeartbeats 8000000 in
theorem RowBack_law (m : Mem) (hro : ∀ i c, m.get i = some c → c.writable = false)
    (a0 : Option Addr) (l0 c0 : Nat) (xs0 : List Int) (hs0 : SlA m 1 a0 l0 c0 (xs0.map (.int .i64))) (hl0 : xs0.length = l0) (hx0 : ∀ x ∈ xs0, -9223372036854775808 ≤ x ∧ x < 9223372036854775808)
    (a1 : Option Addr) (l1 c1 : Nat) (xs1 : List Int) (hs1 : SlA m 1 a1 l1 c1 (xs1.map (.int .u8))) (hl1 : xs1.length = l1) (hx1 : ∀ x ∈ xs1, 0 ≤ x ∧ x < 256)
    (cut : Int) (hc : -9223372036854775808 ≤ cut) (hc' : cut < 9223372036854775808) :
    CallQ E F_sheaflaw13_RowBack [.slice a0 l0 c0, .slice a1 l1 c1, .int .i64 cut].toArray m fun v _ => v = .bool true := by
  obtain ⟨n0, g0⟩ : ∃ n, n = min l0 10 := ⟨_, rfl⟩
  obtain ⟨n1, g1⟩ : ∃ n, n = min l1 20 := ⟨_, rfl⟩
  obtain ⟨n2, g2⟩ : ∃ n, n = min l1 60 := ⟨_, rfl⟩
  have m0 : min (l0 : Int) 10 = (n0 : Int) := by omega
  have m1 : min (l1 : Int) 20 = (n1 : Int) := by omega
  have m2 : min (l1 : Int) 60 = (n2 : Int) := by omega
  obtain ⟨s0, A⟩ := hs0.sliceTo (E := E) (k := .i64) (show n0 ≤ l0 by omega)
  obtain ⟨s1, B⟩ := hs1.sliceTo (E := E) (k := .i64) (show n1 ≤ l1 by omega)
  obtain ⟨s2, C⟩ := hs1.sliceTo (E := E) (k := .i64) (show n2 ≤ l1 by omega)
  rw [Nat.mul_one, ← List.map_take] at A B C
  have okA : Ok64 (xs0.take n0) := fun x hx => hx0 x (List.mem_of_mem_take hx)
  have bB : Byt (xs1.take n1) := fun x hx => hx1 x (List.mem_of_mem_take hx)
  have bC : Byt (xs1.take n2) := fun x hx => hx1 x (List.mem_of_mem_take hx)
  have la : (xs0.take n0).length = n0 := by have := A.len; simpa using this
  have lb : (xs1.take n1).length = n1 := by have := B.len; simpa using this
  have lc : (xs1.take n2).length = n2 := by have := C.len; simpa using this
  have tk : ∀ k : Nat, k ≤ n2 → (xs1.take n2).take k = xs1.take k := fun k hk => by rw [List.take_take, Nat.min_eq_left hk]
  generalize xs0.take n0 = as0 at *
  generalize xs1.take n1 = bs at *
  generalize xs1.take n2 = cs at *
  have pa := put_len as0 okA
  have s0' := s0 24 (by decide +kernel)
  have s1' := s1 22 (by decide +kernel)
  have s2' := s2 22 (by decide +kernel)
  refine .enter fn_sheaflaw13_RowBack (by simp) ?_
  simp (decide := true) (implicitDefEqProofs := false) (maxDischargeDepth := 20) only [go_sem, ↓reduceIte, m0, s0', true_implies, false_implies]
  refine (Put_at A okA).mono ?_
  rintro w q1 ⟨p, np, rfl, V1, o1, -⟩
  have hp : (put as0).length = np := by have := V1.len; simpa using this
  have d1 : decide ((np : Int) < 1) = false := by simp; omega
  have d2 : decide ((np : Int) > 256) = false := by simp; omega
  simp (decide := true) (implicitDefEqProofs := false) (maxDischargeDepth := 20) only [go_sem, ↓reduceIte, d1, d2, true_implies, false_implies]
  have v0 : Vec q1.size (q1.push (.cells false true [])) 1 (some ⟨q1.size, 0, none⟩) 0 [] := .built (Nat.le_refl _) rfl
  refine v0.append (by simp) ((V1.sl.push _).appended' (by decide +kernel) (by decide)) (by simp; omega) (by decide +kernel) (by simp [oneCell]) (by omega) fun q2 b2 v1 k1 _ => ?_
  have o2 : Old q1 q2 := v0.keepOld k1 (.push (.refl _) _)
  simp only [Nat.zero_add, List.nil_append] at v1
  simp (decide := true) (implicitDefEqProofs := false) (maxDischargeDepth := 20) only [go_sem, ↓reduceIte, m1, s1', true_implies, false_implies]
  have o12 := o1.trans o2
  refine v1.append o2.size ((B.old o12).appended' (by decide +kernel) (by decide)) (by simp; omega) (by decide +kernel) (by simp [oneCell]) (by omega) fun q3 b3 v3 k3 _ => ?_
  have o3 : Old q1 q3 := v1.keepOld k3 o2
  rw [← List.map_append] at v3
  have bput := put_byt' as0 okA
  have bab : Byt (put as0 ++ bs) := fun x hx => by
    rcases List.mem_append.1 hx with h | h
    · exact bput x h
    · exact bB x h
  simp (decide := true) (implicitDefEqProofs := false) (maxDischargeDepth := 20) only [go_sem, ↓reduceIte, true_implies, false_implies]
  refine (Get_at v3.sl bab (by omega)).mono ?_
  rintro w q4 ⟨y, ny, rfl, V4, o4⟩
  rw [getL_put as0 bs (by omega) okA] at V4 ⊢
  have w1 : IntKind.wrap .i64 ((np : Int) - 1) = (np : Int) - 1 := wrap_i64_id _ (by omega) (by omega)
  simp (decide := true) (implicitDefEqProofs := false) (maxDischargeDepth := 20) only [go_sem, ↓reduceIte, w1, true_implies, false_implies]
  refine ((Within_ans cut 0 ((np : Int) - 1) hc hc' (by omega) (by omega) (by omega) (by omega)) q4).mono ?_
  rintro w q5 ⟨rfl, o5⟩
  obtain ⟨k, hk⟩ : ∃ k : Nat, k = (cut % (np : Int)).toNat := ⟨_, rfl⟩
  have e0 := Int.emod_nonneg cut (show (np : Int) ≠ 0 by omega)
  have e1 := Int.emod_lt_of_pos cut (show 0 < (np : Int) by omega)
  have hk2 : 0 + cut % ((np : Int) - 1 - 0 + 1) = (k : Int) := by rw [show (np : Int) - 1 - 0 + 1 = (np : Int) by omega]; omega
  rw [hk2]
  have o15 := o3.trans (o4.trans o5)
  obtain ⟨s3, P⟩ := (V1.sl.old o15).sliceTo (E := E) (k := .i64) (show k ≤ np by omega)
  have s3' := s3 22 (by decide +kernel)
  rw [Nat.mul_one, ← List.map_take] at P
  simp (decide := true) (implicitDefEqProofs := false) (maxDischargeDepth := 20) only [go_sem, ↓reduceIte, s3', true_implies, false_implies]
  refine (Get_at P (fun x hx => bput x (List.mem_of_mem_take hx)) (by omega)).mono ?_
  rintro w q6 ⟨y2, ny2, rfl, V6, o6⟩
  rw [getL_cut as0 (by omega) k (by omega)]
  have d3 : ((((put as0).length : Nat) : Int) != (np : Int)) = false := by rw [hp]; simp
  simp (decide := true) (implicitDefEqProofs := false) (maxDischargeDepth := 20) only [go_sem, ↓reduceIte, d3, true_implies, false_implies]
  have om6 := o1.trans (o15.trans o6)
  have hny : as0.length = ny := by have := V4.len; simpa using this
  refine (SameI (V4.sl.old (o5.trans o6)) (A.old om6) (by omega) (by omega)).mono ?_
  rintro w q7 ⟨rfl, o7⟩
  have d4 : decide (as0 = as0) = true := by simp
  rw [d4]
  simp (decide := true) (implicitDefEqProofs := false) (maxDischargeDepth := 20) only [go_sem, ↓reduceIte, m2, s2', true_implies, false_implies]
  have om7 := om6.trans o7
  refine (Get_at (C.old om7) bC (by omega)).mono ?_
  rintro w q8 ⟨z, nz, rfl, V8, o8⟩
  have om8 := om7.trans o8
  have sp := getL_spec cs (getL cs).1 (getL cs).2 rfl bC
  have hnz : (getL cs).1.length = nz := by have := V8.len; simpa using this
  generalize (getL cs).1 = zs at *
  generalize (getL cs).2 = kk at *
  have last : ∀ q : Mem, Old m q → (n0 = l0 → True) → True := fun _ _ _ => trivial
  rcases sp with ⟨h1, h2, h3, h4⟩ | ⟨h1, h2⟩
  · have d5 : decide (kk > 0) = true := by simpa using h1
    have d6 : decide (kk ≤ 0) = false := by simp; omega
    obtain ⟨kn, rfl⟩ : ∃ kn : Nat, kk = kn := ⟨kk.toNat, by omega⟩
    simp (decide := true) (implicitDefEqProofs := false) (maxDischargeDepth := 20) only [go_sem, ↓reduceIte, d5, true_implies, false_implies]
    refine (Put_at V8.sl h4).mono ?_
    rintro w q9 ⟨pz, npz, rfl, V9, o9, -⟩
    have om9 := om8.trans o9
    obtain ⟨s4, R⟩ := (hs1.old om9).sliceTo (E := E) (k := .i64) (show kn ≤ l1 by omega)
    have s4' := s4 22 (by decide +kernel)
    rw [Nat.mul_one, ← List.map_take, ← tk kn (by omega)] at R
    have hpz : (put zs).length = npz := by have := V9.len; simpa using this
    simp (decide := true) (implicitDefEqProofs := false) (maxDischargeDepth := 20) only [go_sem, ↓reduceIte, s4', true_implies, false_implies]
    refine (SameB V9.sl R (by have := put_len zs h4; omega) (by omega)).mono ?_
    rintro w qa ⟨rfl, oa⟩
    have d7 : decide (put zs = cs.take kn) = true := by rw [h2, Int.toNat_natCast]; simp
    rw [d7]
    by_cases hl : l0 ≤ 10
    · have d8 : decide ((l0 : Int) ≤ 10) = true := by simp; omega
      simp (decide := true) (implicitDefEqProofs := false) (maxDischargeDepth := 20) only [go_sem, ↓reduceIte, d6, d8, true_implies, false_implies]
    · have d8 : decide ((l0 : Int) ≤ 10) = false := by simp; omega
      simp (decide := true) (implicitDefEqProofs := false) (maxDischargeDepth := 20) only [go_sem, ↓reduceIte, d6, d8, true_implies, false_implies]
      refine (Put_at (hs0.old (om9.trans oa)) hx0).mono ?_
      rintro w qb ⟨pb, nb, rfl, VB, ob, -⟩
      have : nb = 0 := by have := VB.len; unfold put at this; rw [if_neg (by omega)] at this; simpa using this.symm
      subst this
      simp (decide := true) (implicitDefEqProofs := false) (maxDischargeDepth := 20) only [go_sem, ↓reduceIte, true_implies, false_implies]
  · have d5 : decide (kk > 0) = false := by simp; omega
    have d6 : decide (kk ≤ 0) = true := by simpa using h1
    have hn0 : nz = 0 := by rw [← hnz, h2]; rfl
    subst hn0
    by_cases hl : l0 ≤ 10
    · have d8 : decide ((l0 : Int) ≤ 10) = true := by simp; omega
      simp (decide := true) (implicitDefEqProofs := false) (maxDischargeDepth := 20) only [go_sem, ↓reduceIte, d5, d6, d8, true_implies, false_implies]
    · have d8 : decide ((l0 : Int) ≤ 10) = false := by simp; omega
      simp (decide := true) (implicitDefEqProofs := false) (maxDischargeDepth := 20) only [go_sem, ↓reduceIte, d5, d6, d8, true_implies, false_implies]
      refine (Put_at (hs0.old om8) hx0).mono ?_
      rintro w qb ⟨pb, nb, rfl, VB, ob, -⟩
      have : nb = 0 := by have := VB.len; unfold put at this; rw [if_neg (by omega)] at this; simpa using this.symm
      subst this
      simp (decide := true) (implicitDefEqProofs := false) (maxDischargeDepth := 20) only [go_sem, ↓reduceIte, true_implies, false_implies]
end Go.Proofs.Ytkbjkmhmkefckaa.W
