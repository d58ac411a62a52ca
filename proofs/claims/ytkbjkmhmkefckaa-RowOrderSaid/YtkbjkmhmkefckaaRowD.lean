/-
  RowOrder, the law.
-/
import Derived.Test.YtkbjkmhmkefckaaRowC
import Derived.Test.YtkbjkmhmkefckaaBookI
import Derived.Test.YtkbjkmhmkefckaaCodeLaw
namespace Go.Proofs.Ytkbjkmhmkefckaa.W
open Go.Abs
set_option linter.unusedSimpArgs false
set_option linter.unusedVariables false

theorem cmpO_bd (p q : Option Int) : cmpO p q = -1 ∨ cmpO p q = 0 ∨ cmpO p q = 1 := by
  cases p <;> cases q <;> simp [cmpO]
  unfold cmpI
  split
  · simp
  · split <;> simp
theorem firstN_bd : ∀ (L : List Int), (∀ x ∈ L, x = -1 ∨ x = 0 ∨ x = 1) → firstN L = -1 ∨ firstN L = 0 ∨ firstN L = 1
  | [], _ => .inr (.inl rfl)
  | x :: L, h => by
    simp only [firstN]
    split
    · exact firstN_bd L fun y hy => h y (List.mem_cons_of_mem _ hy)
    · exact h x List.mem_cons_self
theorem cmpL_bd (xs ys cols : List Int) : cmpL xs ys cols = -1 ∨ cmpL xs ys cols = 0 ∨ cmpL xs ys cols = 1 :=
  firstN_bd _ fun x hx => by
    obtain ⟨c, _, rfl⟩ := List.mem_map.1 hx
    exact cmpO_bd _ _
theorem cmpL_first (xs ys cols : List Int) (k : Int) (h : colL xs ys k ≠ 0) : cmpL xs ys (k :: cols) = colL xs ys k := by
  unfold cmpL
  simp only [List.cons_append, List.map_cons, firstN]
  rw [if_neg h]

set_option maxRecDepth 100000 in
set_option maxHeartbeats 8000000 in
theorem RowOrder_law (m : Mem) (hro : ∀ i c, m.get i = some c → c.writable = false)
    (a0 : Option Addr) (l0 c0 : Nat) (xs0 : List Int) (hs0 : SlA m 1 a0 l0 c0 (xs0.map (.int .i64))) (hl0 : xs0.length = l0) (hx0 : ∀ x ∈ xs0, -9223372036854775808 ≤ x ∧ x < 9223372036854775808)
    (a1 : Option Addr) (l1 c1 : Nat) (xs1 : List Int) (hs1 : SlA m 1 a1 l1 c1 (xs1.map (.int .i64))) (hl1 : xs1.length = l1) (hx1 : ∀ x ∈ xs1, -9223372036854775808 ≤ x ∧ x < 9223372036854775808)
    (a2 : Option Addr) (l2 c2 : Nat) (xs2 : List Int) (hs2 : SlA m 1 a2 l2 c2 (xs2.map (.int .i64))) (hl2 : xs2.length = l2) (hx2 : ∀ x ∈ xs2, -9223372036854775808 ≤ x ∧ x < 9223372036854775808)
    (a3 : Option Addr) (l3 c3 : Nat) (xs3 : List Int) (hs3 : SlA m 1 a3 l3 c3 (xs3.map (.int .i64))) (hl3 : xs3.length = l3) (hx3 : ∀ x ∈ xs3, -9223372036854775808 ≤ x ∧ x < 9223372036854775808) :
    CallQ E F_sheaflaw13_RowOrder [.slice a0 l0 c0, .slice a1 l1 c1, .slice a2 l2 c2, .slice a3 l3 c3].toArray m fun v _ => v = .bool true := by
  obtain ⟨n0, g0⟩ : ∃ n, n = min l0 10 := ⟨_, rfl⟩
  obtain ⟨n1, g1⟩ : ∃ n, n = min l1 10 := ⟨_, rfl⟩
  obtain ⟨n2, g2⟩ : ∃ n, n = min l2 10 := ⟨_, rfl⟩
  obtain ⟨n3, g3⟩ : ∃ n, n = min l3 4 := ⟨_, rfl⟩
  have m0 : min (l0 : Int) 10 = (n0 : Int) := by omega
  have m1 : min (l1 : Int) 10 = (n1 : Int) := by omega
  have m2 : min (l2 : Int) 10 = (n2 : Int) := by omega
  have m3 : min (l3 : Int) 4 = (n3 : Int) := by omega
  obtain ⟨s0, A⟩ := hs0.sliceTo (E := E) (k := .i64) (show n0 ≤ l0 by omega)
  obtain ⟨s1, B⟩ := hs1.sliceTo (E := E) (k := .i64) (show n1 ≤ l1 by omega)
  obtain ⟨s2, C⟩ := hs2.sliceTo (E := E) (k := .i64) (show n2 ≤ l2 by omega)
  obtain ⟨s3, D⟩ := hs3.sliceTo (E := E) (k := .i64) (show n3 ≤ l3 by omega)
  rw [Nat.mul_one, ← List.map_take] at A B C D
  generalize xs0.take n0 = as0 at *
  generalize xs1.take n1 = bs at *
  generalize xs2.take n2 = cs at *
  generalize xs3.take n3 = ks at *
  have la : as0.length = n0 := by have := A.len; simpa using this
  have lb : bs.length = n1 := by have := B.len; simpa using this
  have lk : ks.length = n3 := by have := D.len; simpa using this
  obtain ⟨x, hx⟩ : ∃ x, x = cmpL as0 bs ks := ⟨_, rfl⟩
  obtain ⟨y, hy⟩ : ∃ y, y = cmpL bs cs ks := ⟨_, rfl⟩
  obtain ⟨z, hz⟩ : ∃ z, z = cmpL as0 cs ks := ⟨_, rfl⟩
  have R1 := fun (mm : Mem) (h : SlA mm 1 a0 n0 c0 (as0.map (.int .i64))) (h' : SlA mm 1 a1 n1 c1 (bs.map (.int .i64))) (k : SlA mm 1 a3 n3 c3 (ks.map (.int .i64))) (K : Value → Mem → Prop) => callQ_eq (Compare_at h h' k (by omega) (by omega) (by omega)) K
  have R2 := fun (mm : Mem) (h : SlA mm 1 a1 n1 c1 (bs.map (.int .i64))) (h' : SlA mm 1 a2 n2 c2 (cs.map (.int .i64))) (k : SlA mm 1 a3 n3 c3 (ks.map (.int .i64))) (K : Value → Mem → Prop) => callQ_eq (Compare_at h h' k (by omega) (by omega) (by omega)) K
  have R3 := fun (mm : Mem) (h : SlA mm 1 a0 n0 c0 (as0.map (.int .i64))) (h' : SlA mm 1 a2 n2 c2 (cs.map (.int .i64))) (k : SlA mm 1 a3 n3 c3 (ks.map (.int .i64))) (K : Value → Mem → Prop) => callQ_eq (Compare_at h h' k (by omega) (by omega) (by omega)) K
  have R4 := fun (mm : Mem) (h : SlA mm 1 a1 n1 c1 (bs.map (.int .i64))) (h' : SlA mm 1 a0 n0 c0 (as0.map (.int .i64))) (k : SlA mm 1 a3 n3 c3 (ks.map (.int .i64))) (K : Value → Mem → Prop) => callQ_eq (Compare_at h h' k (by omega) (by omega) (by omega)) K
  have R5 := fun (mm : Mem) (h : SlA mm 1 a0 n0 c0 (as0.map (.int .i64))) (k : SlA mm 1 a3 n3 c3 (ks.map (.int .i64))) (K : Value → Mem → Prop) => callQ_eq (Compare_at h h k (by omega) (by omega) (by omega)) K
  have R6 := fun (mm : Mem) (h : SlA mm 1 a0 n0 c0 (as0.map (.int .i64))) (h' : SlA mm 1 a1 n1 c1 (bs.map (.int .i64))) (K : Value → Mem → Prop) => callQ_eq (SameI h h' (by omega) (by omega)) K
  have aM := fun (g : FuncId) (args : Array Value) (ids : List Nat) (mm : Mem) (x : Option Addr) (n c : Nat) (l : List Int) (h : SlA mm 1 x n c (l.map (Value.int .i64))) => h.ansM (E := E) (g := g) (args := args) (ids := ids)
  have bx := cmpL_bd as0 bs ks
  have by_ := cmpL_bd bs cs ks
  have bz := cmpL_bd as0 cs ks
  have tri := cmpL_tri as0 bs cs ks
  have zero := cmpL_zero as0 bs ks
  rw [← hx] at R1 bx tri zero
  rw [← hy] at R2 by_ tri
  rw [← hz] at R3 bz tri
  rw [cmpL_neg as0 bs ks, ← hx] at R4
  rw [show cmpL as0 as0 ks = 0 from (cmpL_zero _ _ _).2 rfl] at R5
  have wx : IntKind.wrap .i64 (0 - x) = -x := by rw [wrap_i64_id _ (by omega) (by omega)]; omega
  have dz : decide (as0 = bs) = decide (x = 0) := by rw [decide_eq_decide]; exact zero.symm
  rw [dz] at R6
  unfold Tri at tri
  refine .enter fn_sheaflaw13_RowOrder (by simp) ?_
  have t1 : (x == 0) = decide (x = 0) := by rw [Bool.eq_iff_iff]; simp
  have wx' : IntKind.wrap .i64 (0 - x) = 0 - x := by rw [wrap_i64_id _ (by omega) (by omega)]
  by_cases k0 : n3 = 0
  · have e0 : decide ((0 : Int) < (n3 : Int)) = false := by simp; omega
    rcases bx with bx | bx | bx <;> rcases by_ with by_ | by_ | by_ <;> rcases bz with bz | bz | bz <;> subst bx <;> subst by_ <;> subst bz <;> first | (exfalso; omega) | (simp (decide := true) (implicitDefEqProofs := false) (maxDischargeDepth := 20) only [go_sem, ↓reduceIte, m0, m1, m2, m3, s0, s1, s2, s3, R1, R2, R3, R4, R5, R6, aM, A, B, C, D, wx, e0, true_implies, false_implies])
  · have e0 : decide ((0 : Int) < (n3 : Int)) = true := by simp; omega
    obtain ⟨k, hk⟩ : ∃ k, k = ks[0]'(by omega) := ⟨_, rfl⟩
    obtain ⟨db, dof, dsp, rfl⟩ := D.addr (by omega)
    have r3 : m.at db (dof + Int.toNat 0) = some (.int .i64 k) := by rw [hk]; exact D.at_map (show 0 < n3 by omega)
    have lD : db < m.size := D.lt (by intro e; simp at e; rw [e] at lk; simp at lk; omega)
    have z3 : (0 : Int) < (n3 : Int) := by omega
    by_cases k1 : 0 ≤ k
    · have e1 : decide (0 ≤ k) = true := by simpa using k1
      by_cases k2 : k < n0
      · have e2 : decide (k < (n0 : Int)) = true := by simpa using k2
        by_cases k3 : k < n1
        · have e3 : decide (k < (n1 : Int)) = true := by simpa using k3
          obtain ⟨kn, rfl⟩ : ∃ kn : Nat, k = kn := ⟨k.toNat, by omega⟩
          obtain ⟨ab, ao, asp, rfl⟩ := A.addr (by omega)
          obtain ⟨bb, bo, bsp, rfl⟩ := B.addr (by omega)
          have r4 : m.at ab (ao + ((kn : Int)).toNat) = some (.int .i64 (as0[kn]'(by omega))) := by rw [Int.toNat_natCast]; exact A.at_map (by omega)
          have r5 : m.at bb (bo + ((kn : Int)).toNat) = some (.int .i64 (bs[kn]'(by omega))) := by rw [Int.toNat_natCast]; exact B.at_map (by omega)
          have lA : ab < m.size := A.lt (by intro e; simp at e; rw [e] at la; simp at la; omega)
          have lB : bb < m.size := B.lt (by intro e; simp at e; rw [e] at lb; simp at lb; omega)
          have cl : colL as0 bs (kn : Int) = cmpI (as0[kn]'(by omega)) (bs[kn]'(by omega)) := by
            unfold colL cell
            rw [if_pos k1, if_pos k1, Int.toNat_natCast, List.getElem?_eq_getElem (by omega), List.getElem?_eq_getElem (by omega)]
            rfl
          have hks : ks = (kn : Int) :: ks.tail := by
            cases ks with
            | nil => simp at lk; omega
            | cons a r => simp at hk; rw [hk]; rfl
          have fst : cmpI (as0[kn]'(by omega)) (bs[kn]'(by omega)) ≠ 0 → x = cmpI (as0[kn]'(by omega)) (bs[kn]'(by omega)) := by
            intro h
            have e := cmpL_first as0 bs ks.tail (kn : Int) (by rw [cl]; exact h)
            rw [← hks, cl] at e
            rw [hx, e]
          clear hks cl
          generalize as0[kn]'(by omega) = P at *
          generalize bs[kn]'(by omega) = Q at *
          unfold cmpI at fst
          by_cases q1 : P < Q
          · have p1 : decide (P < Q) = true := by simpa using q1
            have p2 : decide (Q < P) = false := by simp; omega
            rw [if_pos q1] at fst
            have fx := fst (by omega)
            clear fst
            rcases bx with bx | bx | bx <;> rcases by_ with by_ | by_ | by_ <;> rcases bz with bz | bz | bz <;> subst bx <;> subst by_ <;> subst bz <;> first | (exfalso; omega) | (simp (decide := true) (implicitDefEqProofs := false) (maxDischargeDepth := 20) only [go_sem, ↓reduceIte, m0, m1, m2, m3, s0, s1, s2, s3, R1, R2, R3, R4, R5, R6, aM, A, B, C, D, wx, e0, e1, e2, e3, r3, r4, r5, lD, lA, lB, z3, k1, k2, k3, p1, p2, true_implies, false_implies])
          · have p1 : decide (P < Q) = false := by simpa using q1
            rw [if_neg q1] at fst
            by_cases q2 : Q < P
            · have p2 : decide (Q < P) = true := by simpa using q2
              rw [if_pos q2] at fst
              have fx := fst (by omega)
              clear fst
              rcases bx with bx | bx | bx <;> rcases by_ with by_ | by_ | by_ <;> rcases bz with bz | bz | bz <;> subst bx <;> subst by_ <;> subst bz <;> first | (exfalso; omega) | (simp (decide := true) (implicitDefEqProofs := false) (maxDischargeDepth := 20) only [go_sem, ↓reduceIte, m0, m1, m2, m3, s0, s1, s2, s3, R1, R2, R3, R4, R5, R6, aM, A, B, C, D, wx, e0, e1, e2, e3, r3, r4, r5, lD, lA, lB, z3, k1, k2, k3, p1, p2, true_implies, false_implies])
            · have p2 : decide (Q < P) = false := by simpa using q2
              clear fst
              rcases bx with bx | bx | bx <;> rcases by_ with by_ | by_ | by_ <;> rcases bz with bz | bz | bz <;> subst bx <;> subst by_ <;> subst bz <;> first | (exfalso; omega) | (simp (decide := true) (implicitDefEqProofs := false) (maxDischargeDepth := 20) only [go_sem, ↓reduceIte, m0, m1, m2, m3, s0, s1, s2, s3, R1, R2, R3, R4, R5, R6, aM, A, B, C, D, wx, e0, e1, e2, e3, r3, r4, r5, lD, lA, lB, z3, k1, k2, k3, p1, p2, true_implies, false_implies])
        · have e3 : decide (k < (n1 : Int)) = false := by simpa using k3
          rcases bx with bx | bx | bx <;> rcases by_ with by_ | by_ | by_ <;> rcases bz with bz | bz | bz <;> subst bx <;> subst by_ <;> subst bz <;> first | (exfalso; omega) | (simp (decide := true) (implicitDefEqProofs := false) (maxDischargeDepth := 20) only [go_sem, ↓reduceIte, m0, m1, m2, m3, s0, s1, s2, s3, R1, R2, R3, R4, R5, R6, aM, A, B, C, D, wx, e0, e1, e2, e3, r3, lD, z3, true_implies, false_implies])
      · have e2 : decide (k < (n0 : Int)) = false := by simpa using k2
        rcases bx with bx | bx | bx <;> rcases by_ with by_ | by_ | by_ <;> rcases bz with bz | bz | bz <;> subst bx <;> subst by_ <;> subst bz <;> first | (exfalso; omega) | (simp (decide := true) (implicitDefEqProofs := false) (maxDischargeDepth := 20) only [go_sem, ↓reduceIte, m0, m1, m2, m3, s0, s1, s2, s3, R1, R2, R3, R4, R5, R6, aM, A, B, C, D, wx, e0, e1, e2, r3, lD, z3, true_implies, false_implies])
    · have e1 : decide (0 ≤ k) = false := by simpa using k1
      rcases bx with bx | bx | bx <;> rcases by_ with by_ | by_ | by_ <;> rcases bz with bz | bz | bz <;> subst bx <;> subst by_ <;> subst bz <;> first | (exfalso; omega) | (simp (decide := true) (implicitDefEqProofs := false) (maxDischargeDepth := 20) only [go_sem, ↓reduceIte, m0, m1, m2, m3, s0, s1, s2, s3, R1, R2, R3, R4, R5, R6, aM, A, B, C, D, wx, e0, e1, r3, lD, z3, true_implies, false_implies])
end Go.Proofs.Ytkbjkmhmkefckaa.W
