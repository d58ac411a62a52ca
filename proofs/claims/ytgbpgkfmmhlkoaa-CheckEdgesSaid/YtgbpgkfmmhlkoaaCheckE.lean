/-
  The document's own Alike; the law CheckTells.
-/
import Derived.Test.YtgbpgkfmmhlkoaaCheckD
namespace Go.Proofs.Ytgbpgkfmmhlkoaa.W
open Go.Abs
set_option linter.unusedSimpArgs false
set_option linter.unusedVariables false

theorem Keys_at {m : Mem} (name : Int) : CallQ E F_sheafref16_keys [.int .i64 name].toArray m fun w m' => w = .int .i64 (keyN name : Nat) ∧ Old m m' := by
  refine .enter fn_sheafref16_keys (by simp) ?_
  unfold keyN
  by_cases h4 : name = 4
  · have e4 : (name == 4) = true := by simpa using h4
    rw [if_pos h4]
    simp (decide := true) (implicitDefEqProofs := false) (maxDischargeDepth := 20) only [go_sem, ↓reduceIte, e4, true_implies, false_implies]
    first | done | exact ⟨rfl, .refl m⟩ | rfl
  · have e4 : (name == 4) = false := by simpa using h4
    rw [if_neg h4]
    simp (decide := true) (implicitDefEqProofs := false) (maxDischargeDepth := 20) only [go_sem, ↓reduceIte, e4, true_implies, false_implies]
    first | done | exact ⟨rfl, .refl m⟩ | rfl

set_option maxRecDepth 100000 in
set_option maxHeartbeats 4000000 in
theorem RAlike_at {m : Mem} {a b : Option Addr} {n n' c c' : Nat} {xs ys : List Int} (name : Int) (h : SlA m 1 a n c (xs.map (.int .i64))) (k : SlA m 1 b n' c' (ys.map (.int .i64))) :
    CallQ E F_sheafref16_Alike [.int .i64 name, .slice a n c, .slice b n' c'].toArray m fun w m' => w = .bool (alikeL name xs ys) ∧ Old m m' := by
  refine .enter fn_sheafref16_Alike (by simp) ?_
  have hl : xs.length = n := by have := h.len; simpa using this
  have kl : ys.length = n' := by have := k.len; simpa using this
  have R := fun K => callQ_eq (Keys_at (m := m) name) K
  obtain ⟨q, hq⟩ : ∃ q, q = keyN name := ⟨_, rfl⟩
  have q2 : q ≤ 2 := by rw [hq]; unfold keyN; split <;> omega
  unfold alikeL
  rw [← hq] at R
  rw [← hq, hl, kl]
  have dq : decide ((n : Int) < (q : Int)) = !decide (q ≤ n) := by rw [← decide_not, decide_eq_decide]; omega
  have dq' : decide ((n' : Int) < (q : Int)) = !decide (q ≤ n') := by rw [← decide_not, decide_eq_decide]; omega
  by_cases l1 : q ≤ n
  · rw [decide_eq_true l1] at dq ⊢
    by_cases l2 : q ≤ n'
    · rw [decide_eq_true l2] at dq' ⊢
      rw [Bool.true_and, Bool.true_and]
      simp (decide := true) (implicitDefEqProofs := false) (maxDischargeDepth := 20) only [go_sem, ↓reduceIte, R, dq, dq', Bool.not_true, true_implies, false_implies]
      generalize hM : ansM E F_sheafref16_keys _ [] _ = M
      have oM : Old m M := by rw [← hM]; exact .ansM (.refl m)
      clear hM R
      have h2 := h.old oM
      have k2 := k.old oM
      simp only [c_sheafref16_Alike_13_at, wpM_block, c_sheafref16_Alike_12_at]
      refine wpM_loopA (fun j t' m' => m' = M ∧ ∃ i : Nat, i ≤ q ∧ j = q - i ∧ t' 22 = .int .i64 i ∧ xs.take i = ys.take i) q ⟨rfl, 0, by omega, rfl, by simp (decide := true) only [go_sem, ↓reduceIte]; rfl, by simp⟩ ?_
      rintro j t' m' ha ⟨rfl, i, hi, rfl, e13, hp⟩
      have a1 := ha 1 (by decide +kernel)
      have a2 := ha 2 (by decide +kernel)
      have a21 := ha 21 (by decide +kernel)
      simp (decide := true) only [go_sem, ↓reduceIte] at a1 a2 a21
      by_cases hlt : i < q
      · have d1 : decide ((i : Int) < (q : Int)) = true := by simp; omega
        have w1 : IntKind.wrap .i64 ((i : Int) + 1) = ((i + 1 : Nat) : Int) := by rw [wrap_i64_id _ (by omega) (by omega)]; omega
        obtain ⟨b1, o1, s1, rfl⟩ := h2.addr (by omega)
        obtain ⟨b2, o2, s2, rfl⟩ := k2.addr (by omega)
        have r1 := h2.at_map (show i < n by omega)
        have r2 := k2.at_map (show i < n' by omega)
        have z0 : (0 : Int) ≤ (i : Int) := by omega
        have z1 : (i : Int) < (n : Int) := by omega
        have z2 : (i : Int) < (n' : Int) := by omega
        have hx : ∀ zs : List Int, (hz : i < zs.length) → zs.take (i + 1) = zs.take i ++ [zs[i]] := fun zs hz => List.take_succ_eq_append_getElem hz
        by_cases he : xs[i]'(by omega) = ys[i]'(by omega)
        · have d2 : (xs[i]'(by omega) != ys[i]'(by omega)) = false := by simpa using he
          simp (decide := true) (implicitDefEqProofs := false) (maxDischargeDepth := 20) only [go_sem, ↓reduceIte, a1, a2, a21, e13, d1, d2, r1, r2, z0, z1, z2, w1, Int.toNat_natCast, Nat.mul_one, true_implies, false_implies]
          exact ⟨q - (i + 1), by omega, i + 1, by omega, rfl, rfl, by rw [hx xs (by omega), hx ys (by omega), hp, he]⟩
        · have d2 : (xs[i]'(by omega) != ys[i]'(by omega)) = true := by simpa using he
          have hne : decide (xs.take q = ys.take q) = false := by
            simp only [decide_eq_false_iff_not]
            intro e
            have := congrArg (·[i]?) e
            simp only [List.getElem?_take_of_lt hlt] at this
            rw [List.getElem?_eq_getElem (by omega), List.getElem?_eq_getElem (by omega)] at this
            exact he (Option.some.inj this)
          simp (decide := true) (implicitDefEqProofs := false) (maxDischargeDepth := 20) only [go_sem, ↓reduceIte, a1, a2, a21, e13, d1, d2, r1, r2, z0, z1, z2, w1, hne, Int.toNat_natCast, Nat.mul_one, true_implies, false_implies]
          first | done | exact oM
      · have d1 : decide ((i : Int) < (q : Int)) = false := by simp; omega
        have hin : i = q := by omega
        subst hin
        have he : decide (xs.take i = ys.take i) = true := by simpa using hp
        simp (decide := true) (implicitDefEqProofs := false) (maxDischargeDepth := 20) only [go_sem, ↓reduceIte, a21, e13, d1, he, true_implies, false_implies]
        first | done | exact oM
    · rw [decide_eq_false l2] at dq' ⊢
      simp (decide := true) (implicitDefEqProofs := false) (maxDischargeDepth := 20) only [go_sem, ↓reduceIte, R, dq, dq', Bool.not_true, Bool.not_false, Bool.true_and, Bool.false_and, true_implies, false_implies]
      first | done | exact .ansM (.refl m)
  · rw [decide_eq_false l1] at dq ⊢
    simp (decide := true) (implicitDefEqProofs := false) (maxDischargeDepth := 20) only [go_sem, ↓reduceIte, R, dq, Bool.not_true, Bool.not_false, Bool.true_and, Bool.false_and, true_implies, false_implies]
    first | done | exact .ansM (.refl m)

set_option maxRecDepth 100000 in
set_option maxHeartbeats 4000000 in
theorem CheckTells_law (m : Mem) (hro : ∀ i c, m.get i = some c → c.writable = false) (name : Int) (hn : -9223372036854775808 ≤ name) (hn' : name < 9223372036854775808)
    (a0 : Option Addr) (l0 c0 : Nat) (xs0 : List Int) (hs0 : SlA m 1 a0 l0 c0 (xs0.map (.int .i64))) (hl0 : xs0.length = l0) (hx0 : ∀ x ∈ xs0, -9223372036854775808 ≤ x ∧ x < 9223372036854775808)
    (a1 : Option Addr) (l1 c1 : Nat) (xs1 : List Int) (hs1 : SlA m 1 a1 l1 c1 (xs1.map (.int .i64))) (hl1 : xs1.length = l1) (hx1 : ∀ x ∈ xs1, -9223372036854775808 ≤ x ∧ x < 9223372036854775808) :
    CallQ E F_sheaflaw16_CheckTells [.int .i64 name, .slice a0 l0 c0, .slice a1 l1 c1].toArray m fun v _ => v = .bool true := by
  refine .enter fn_sheaflaw16_CheckTells (by simp) ?_
  have aM := fun (g : FuncId) (args : Array Value) (ids : List Nat) (mm : Mem) (x : Option Addr) (n c : Nat) (l : List Int) (h : SlA mm 1 x n c (l.map (Value.int .i64))) => h.ansM (E := E) (g := g) (args := args) (ids := ids)
  have R1 := fun (mm : Mem) (h : SlA mm 1 a0 l0 c0 (xs0.map (.int .i64))) (K : Value → Mem → Prop) => callQ_eq (CGood_at name h) K
  have R2 := fun (mm : Mem) (h : SlA mm 1 a0 l0 c0 (xs0.map (.int .i64))) (K : Value → Mem → Prop) => callQ_eq (RGood_at name h hx0) K
  have R3 := fun (mm : Mem) (h : SlA mm 1 a0 l0 c0 (xs0.map (.int .i64))) (k : SlA mm 1 a1 l1 c1 (xs1.map (.int .i64))) (K : Value → Mem → Prop) => callQ_eq (CAlike_at name h k) K
  have R4 := fun (mm : Mem) (h : SlA mm 1 a0 l0 c0 (xs0.map (.int .i64))) (k : SlA mm 1 a1 l1 c1 (xs1.map (.int .i64))) (K : Value → Mem → Prop) => callQ_eq (RAlike_at name h k) K
  simp (decide := true) (implicitDefEqProofs := false) (maxDischargeDepth := 20) only [go_sem, ↓reduceIte, R1, R2, R3, R4, aM, hs0, hs1, beq_self_eq_true, true_implies, false_implies]
end Go.Proofs.Ytgbpgkfmmhlkoaa.W
