/-
  check: the document's own answer, for one row.
-/
import Derived.Test.YtpabllcacdopdaaCheckA
namespace Go.Proofs.Ytpabllcacdopdaa.W
open Go.Abs
set_option linter.unusedSimpArgs false
set_option linter.unusedVariables false

theorem goodL_none (name : Int) (xs : List Int) (h : spansL name = []) : goodL name xs = false := by unfold goodL; rw [h]; rfl
theorem goodL_len (name : Int) (xs : List Int) (h : xs.length ≠ (spansL name).length) : goodL name xs = false := by
  unfold goodL; rw [decide_eq_false h]; simp

set_option maxRecDepth 100000 in
set_option maxHeartbeats 4000000 in
theorem RGood2 {m : Mem} {a : Option Addr} {n c : Nat} {xs : List Int} (h : SlA m 1 a n c (xs.map (.int .i64))) (hb : ∀ x ∈ xs, -9223372036854775808 ≤ x ∧ x < 9223372036854775808) : CallQ E F_sheafref16_Good [.int .i64 2, .slice a n c].toArray m fun w m' => w = .bool (goodL 2 xs) ∧ Old m m' := by
  have hl : xs.length = n := by have := h.len; simpa using this
  refine .enter fn_sheafref16_Good (by simp) ?_
  by_cases hn : n = 3
  · subst hn
    obtain ⟨x0, x1, x2, rfl⟩ : ∃ x0 x1 x2, xs = [x0, x1, x2] := by
      match xs, hl with
      | [x0, x1, x2], _ => exact ⟨_, _, _, rfl⟩
    have b0 := hb x0 (by simp)
    have b1 := hb x1 (by simp)
    have b2 := hb x2 (by simp)
    obtain ⟨b, o, s, rfl⟩ := h.addr (by omega)
    have r0 : m.at b (o + Int.toNat 0) = some (.int .i64 x0) := h.at_map (show 0 < 3 by omega)
    have r1 : m.at b (o + Int.toNat 1) = some (.int .i64 x1) := h.at_map (show 1 < 3 by omega)
    have r2 : m.at b (o + Int.toNat 2) = some (.int .i64 x2) := h.at_map (show 2 < 3 by omega)
    have g : goodL 2 [x0, x1, x2] = (decide (1 ≤ x0) && (decide (1 ≤ x1) && (decide (0 ≤ x2) && (decide (x2 ≤ 10000))))) := by
      rw [Bool.eq_iff_iff]
      simp [goodL, spansL, inside]
      omega
    rw [g]
    clear g
    cases f0 : decide (1 ≤ x0) with
    | false => simp (decide := true) (implicitDefEqProofs := false) (maxDischargeDepth := 20) only [go_sem, ↓reduceIte, r0, r1, r2, f0, Bool.and_false, Bool.false_and, Bool.true_and, true_implies, false_implies]
    | true =>
      cases f1 : decide (1 ≤ x1) with
      | false => simp (decide := true) (implicitDefEqProofs := false) (maxDischargeDepth := 20) only [go_sem, ↓reduceIte, r0, r1, r2, f0, f1, Bool.and_false, Bool.false_and, Bool.true_and, true_implies, false_implies]
      | true =>
        cases f2 : decide (0 ≤ x2) with
        | false => simp (decide := true) (implicitDefEqProofs := false) (maxDischargeDepth := 20) only [go_sem, ↓reduceIte, r0, r1, r2, f0, f1, f2, Bool.and_false, Bool.false_and, Bool.true_and, true_implies, false_implies]
        | true =>
          cases f3 : decide (x2 ≤ 10000) with
          | false => simp (decide := true) (implicitDefEqProofs := false) (maxDischargeDepth := 20) only [go_sem, ↓reduceIte, r0, r1, r2, f0, f1, f2, f3, Bool.and_false, Bool.false_and, Bool.true_and, true_implies, false_implies]
          | true =>
            simp (decide := true) (implicitDefEqProofs := false) (maxDischargeDepth := 20) only [go_sem, ↓reduceIte, r0, r1, r2, f0, f1, f2, f3, Bool.and_true, Bool.true_and, true_implies, false_implies]
  · have e : ((n : Int) == 3) = false := by simpa using (by omega : ¬ (n : Int) = 3)
    rw [goodL_len 2 xs (by rw [hl]; exact hn)]
    simp (decide := true) (implicitDefEqProofs := false) (maxDischargeDepth := 20) only [go_sem, ↓reduceIte, e, true_implies, false_implies]

set_option maxRecDepth 100000 in
set_option maxHeartbeats 4000000 in
theorem RGood3 {m : Mem} {a : Option Addr} {n c : Nat} {xs : List Int} (h : SlA m 1 a n c (xs.map (.int .i64))) (hb : ∀ x ∈ xs, -9223372036854775808 ≤ x ∧ x < 9223372036854775808) : CallQ E F_sheafref16_Good [.int .i64 3, .slice a n c].toArray m fun w m' => w = .bool (goodL 3 xs) ∧ Old m m' := by
  have hl : xs.length = n := by have := h.len; simpa using this
  refine .enter fn_sheafref16_Good (by simp) ?_
  by_cases hn : n = 2
  · subst hn
    obtain ⟨x0, x1, rfl⟩ : ∃ x0 x1, xs = [x0, x1] := by
      match xs, hl with
      | [x0, x1], _ => exact ⟨_, _, rfl⟩
    have b0 := hb x0 (by simp)
    have b1 := hb x1 (by simp)
    obtain ⟨b, o, s, rfl⟩ := h.addr (by omega)
    have r0 : m.at b (o + Int.toNat 0) = some (.int .i64 x0) := h.at_map (show 0 < 2 by omega)
    have r1 : m.at b (o + Int.toNat 1) = some (.int .i64 x1) := h.at_map (show 1 < 2 by omega)
    have g : goodL 3 [x0, x1] = (decide (1 ≤ x0) && (decide (1 ≤ x1) && (decide (x1 < 9000)))) := by
      rw [Bool.eq_iff_iff]
      simp [goodL, spansL, inside]
      omega
    rw [g]
    clear g
    cases f0 : decide (1 ≤ x0) with
    | false => simp (decide := true) (implicitDefEqProofs := false) (maxDischargeDepth := 20) only [go_sem, ↓reduceIte, r0, r1, f0, Bool.and_false, Bool.false_and, Bool.true_and, true_implies, false_implies]
    | true =>
      cases f1 : decide (1 ≤ x1) with
      | false => simp (decide := true) (implicitDefEqProofs := false) (maxDischargeDepth := 20) only [go_sem, ↓reduceIte, r0, r1, f0, f1, Bool.and_false, Bool.false_and, Bool.true_and, true_implies, false_implies]
      | true =>
        cases f2 : decide (x1 < 9000) with
        | false => simp (decide := true) (implicitDefEqProofs := false) (maxDischargeDepth := 20) only [go_sem, ↓reduceIte, r0, r1, f0, f1, f2, Bool.and_false, Bool.false_and, Bool.true_and, true_implies, false_implies]
        | true =>
          simp (decide := true) (implicitDefEqProofs := false) (maxDischargeDepth := 20) only [go_sem, ↓reduceIte, r0, r1, f0, f1, f2, Bool.and_true, Bool.true_and, true_implies, false_implies]
  · have e : ((n : Int) == 2) = false := by simpa using (by omega : ¬ (n : Int) = 2)
    rw [goodL_len 3 xs (by rw [hl]; exact hn)]
    simp (decide := true) (implicitDefEqProofs := false) (maxDischargeDepth := 20) only [go_sem, ↓reduceIte, e, true_implies, false_implies]

set_option maxRecDepth 100000 in
set_option maxHeartbeats 4000000 in
theorem RGood4 {m : Mem} {a : Option Addr} {n c : Nat} {xs : List Int} (h : SlA m 1 a n c (xs.map (.int .i64))) (hb : ∀ x ∈ xs, -9223372036854775808 ≤ x ∧ x < 9223372036854775808) : CallQ E F_sheafref16_Good [.int .i64 4, .slice a n c].toArray m fun w m' => w = .bool (goodL 4 xs) ∧ Old m m' := by
  have hl : xs.length = n := by have := h.len; simpa using this
  refine .enter fn_sheafref16_Good (by simp) ?_
  by_cases hn : n = 4
  · subst hn
    obtain ⟨x0, x1, x2, x3, rfl⟩ : ∃ x0 x1 x2 x3, xs = [x0, x1, x2, x3] := by
      match xs, hl with
      | [x0, x1, x2, x3], _ => exact ⟨_, _, _, _, rfl⟩
    have b0 := hb x0 (by simp)
    have b1 := hb x1 (by simp)
    have b2 := hb x2 (by simp)
    have b3 := hb x3 (by simp)
    obtain ⟨b, o, s, rfl⟩ := h.addr (by omega)
    have r0 : m.at b (o + Int.toNat 0) = some (.int .i64 x0) := h.at_map (show 0 < 4 by omega)
    have r1 : m.at b (o + Int.toNat 1) = some (.int .i64 x1) := h.at_map (show 1 < 4 by omega)
    have r2 : m.at b (o + Int.toNat 2) = some (.int .i64 x2) := h.at_map (show 2 < 4 by omega)
    have r3 : m.at b (o + Int.toNat 3) = some (.int .i64 x3) := h.at_map (show 3 < 4 by omega)
    have g : goodL 4 [x0, x1, x2, x3] = (decide (1 ≤ x0) && (decide (0 ≤ x1) && (decide (x1 ≤ 1073741824) && (decide (1 ≤ x2) && (decide (x2 ≤ 1099511627776) && (decide (1 ≤ x3) && (decide (x3 ≤ 1099511627776)))))))) := by
      rw [Bool.eq_iff_iff]
      simp [goodL, spansL, inside]
      omega
    rw [g]
    clear g
    cases f0 : decide (1 ≤ x0) with
    | false => simp (decide := true) (implicitDefEqProofs := false) (maxDischargeDepth := 20) only [go_sem, ↓reduceIte, r0, r1, r2, r3, f0, Bool.and_false, Bool.false_and, Bool.true_and, true_implies, false_implies]
    | true =>
      cases f1 : decide (0 ≤ x1) with
      | false => simp (decide := true) (implicitDefEqProofs := false) (maxDischargeDepth := 20) only [go_sem, ↓reduceIte, r0, r1, r2, r3, f0, f1, Bool.and_false, Bool.false_and, Bool.true_and, true_implies, false_implies]
      | true =>
        cases f2 : decide (x1 ≤ 1073741824) with
        | false => simp (decide := true) (implicitDefEqProofs := false) (maxDischargeDepth := 20) only [go_sem, ↓reduceIte, r0, r1, r2, r3, f0, f1, f2, Bool.and_false, Bool.false_and, Bool.true_and, true_implies, false_implies]
        | true =>
          cases f3 : decide (1 ≤ x2) with
          | false => simp (decide := true) (implicitDefEqProofs := false) (maxDischargeDepth := 20) only [go_sem, ↓reduceIte, r0, r1, r2, r3, f0, f1, f2, f3, Bool.and_false, Bool.false_and, Bool.true_and, true_implies, false_implies]
          | true =>
            cases f4 : decide (x2 ≤ 1099511627776) with
            | false => simp (decide := true) (implicitDefEqProofs := false) (maxDischargeDepth := 20) only [go_sem, ↓reduceIte, r0, r1, r2, r3, f0, f1, f2, f3, f4, Bool.and_false, Bool.false_and, Bool.true_and, true_implies, false_implies]
            | true =>
              cases f5 : decide (1 ≤ x3) with
              | false => simp (decide := true) (implicitDefEqProofs := false) (maxDischargeDepth := 20) only [go_sem, ↓reduceIte, r0, r1, r2, r3, f0, f1, f2, f3, f4, f5, Bool.and_false, Bool.false_and, Bool.true_and, true_implies, false_implies]
              | true =>
                cases f6 : decide (x3 ≤ 1099511627776) with
                | false => simp (decide := true) (implicitDefEqProofs := false) (maxDischargeDepth := 20) only [go_sem, ↓reduceIte, r0, r1, r2, r3, f0, f1, f2, f3, f4, f5, f6, Bool.and_false, Bool.false_and, Bool.true_and, true_implies, false_implies]
                | true =>
                  simp (decide := true) (implicitDefEqProofs := false) (maxDischargeDepth := 20) only [go_sem, ↓reduceIte, r0, r1, r2, r3, f0, f1, f2, f3, f4, f5, f6, Bool.and_true, Bool.true_and, true_implies, false_implies]
  · have e : ((n : Int) == 4) = false := by simpa using (by omega : ¬ (n : Int) = 4)
    rw [goodL_len 4 xs (by rw [hl]; exact hn)]
    simp (decide := true) (implicitDefEqProofs := false) (maxDischargeDepth := 20) only [go_sem, ↓reduceIte, e, true_implies, false_implies]

set_option maxRecDepth 100000 in
set_option maxHeartbeats 4000000 in
theorem RGood1 {m : Mem} {a : Option Addr} {n c : Nat} {xs : List Int} (h : SlA m 1 a n c (xs.map (.int .i64))) (hb : ∀ x ∈ xs, -9223372036854775808 ≤ x ∧ x < 9223372036854775808) : CallQ E F_sheafref16_Good [.int .i64 1, .slice a n c].toArray m fun w m' => w = .bool (goodL 1 xs) ∧ Old m m' := by
  have hl : xs.length = n := by have := h.len; simpa using this
  refine .enter fn_sheafref16_Good (by simp) ?_
  by_cases hn : n = 6
  · subst hn
    obtain ⟨x0, x1, x2, x3, x4, x5, rfl⟩ : ∃ x0 x1 x2 x3 x4 x5, xs = [x0, x1, x2, x3, x4, x5] := by
      match xs, hl with
      | [x0, x1, x2, x3, x4, x5], _ => exact ⟨_, _, _, _, _, _, rfl⟩
    have b0 := hb x0 (by simp)
    have b1 := hb x1 (by simp)
    have b2 := hb x2 (by simp)
    have b3 := hb x3 (by simp)
    have b4 := hb x4 (by simp)
    have b5 := hb x5 (by simp)
    obtain ⟨b, o, s, rfl⟩ := h.addr (by omega)
    have r0 : m.at b (o + Int.toNat 0) = some (.int .i64 x0) := h.at_map (show 0 < 6 by omega)
    have r1 : m.at b (o + Int.toNat 1) = some (.int .i64 x1) := h.at_map (show 1 < 6 by omega)
    have r2 : m.at b (o + Int.toNat 2) = some (.int .i64 x2) := h.at_map (show 2 < 6 by omega)
    have r3 : m.at b (o + Int.toNat 3) = some (.int .i64 x3) := h.at_map (show 3 < 6 by omega)
    have r4 : m.at b (o + Int.toNat 4) = some (.int .i64 x4) := h.at_map (show 4 < 6 by omega)
    have r5 : m.at b (o + Int.toNat 5) = some (.int .i64 x5) := h.at_map (show 5 < 6 by omega)
    have g : goodL 1 [x0, x1, x2, x3, x4, x5] = (decide (1 ≤ x0) && (decide (1 ≤ x1) && (decide (1 ≤ x2) && (decide (0 ≤ x3) && (decide (-9223372036854775808 < x4) && (decide (0 ≤ x5) && ((x5 != x1)))))))) := by
      rw [Bool.eq_iff_iff]
      simp [goodL, spansL, inside]
      omega
    rw [g]
    clear g
    cases f0 : decide (1 ≤ x0) with
    | false => simp (decide := true) (implicitDefEqProofs := false) (maxDischargeDepth := 20) only [go_sem, ↓reduceIte, r0, r1, r2, r3, r4, r5, f0, Bool.and_false, Bool.false_and, Bool.true_and, true_implies, false_implies]
    | true =>
      cases f1 : decide (1 ≤ x1) with
      | false => simp (decide := true) (implicitDefEqProofs := false) (maxDischargeDepth := 20) only [go_sem, ↓reduceIte, r0, r1, r2, r3, r4, r5, f0, f1, Bool.and_false, Bool.false_and, Bool.true_and, true_implies, false_implies]
      | true =>
        cases f2 : decide (1 ≤ x2) with
        | false => simp (decide := true) (implicitDefEqProofs := false) (maxDischargeDepth := 20) only [go_sem, ↓reduceIte, r0, r1, r2, r3, r4, r5, f0, f1, f2, Bool.and_false, Bool.false_and, Bool.true_and, true_implies, false_implies]
        | true =>
          cases f3 : decide (0 ≤ x3) with
          | false => simp (decide := true) (implicitDefEqProofs := false) (maxDischargeDepth := 20) only [go_sem, ↓reduceIte, r0, r1, r2, r3, r4, r5, f0, f1, f2, f3, Bool.and_false, Bool.false_and, Bool.true_and, true_implies, false_implies]
          | true =>
            cases f4 : decide (-9223372036854775808 < x4) with
            | false => simp (decide := true) (implicitDefEqProofs := false) (maxDischargeDepth := 20) only [go_sem, ↓reduceIte, r0, r1, r2, r3, r4, r5, f0, f1, f2, f3, f4, Bool.and_false, Bool.false_and, Bool.true_and, true_implies, false_implies]
            | true =>
              cases f5 : decide (0 ≤ x5) with
              | false => simp (decide := true) (implicitDefEqProofs := false) (maxDischargeDepth := 20) only [go_sem, ↓reduceIte, r0, r1, r2, r3, r4, r5, f0, f1, f2, f3, f4, f5, Bool.and_false, Bool.false_and, Bool.true_and, true_implies, false_implies]
              | true =>
                cases f6 : (x5 != x1) with
                | false => simp (decide := true) (implicitDefEqProofs := false) (maxDischargeDepth := 20) only [go_sem, ↓reduceIte, r0, r1, r2, r3, r4, r5, f0, f1, f2, f3, f4, f5, f6, Bool.and_false, Bool.false_and, Bool.true_and, true_implies, false_implies]
                | true =>
                  simp (decide := true) (implicitDefEqProofs := false) (maxDischargeDepth := 20) only [go_sem, ↓reduceIte, r0, r1, r2, r3, r4, r5, f0, f1, f2, f3, f4, f5, f6, Bool.and_true, Bool.true_and, true_implies, false_implies]
  · have e : ((n : Int) == 6) = false := by simpa using (by omega : ¬ (n : Int) = 6)
    rw [goodL_len 1 xs (by rw [hl]; exact hn)]
    simp (decide := true) (implicitDefEqProofs := false) (maxDischargeDepth := 20) only [go_sem, ↓reduceIte, e, true_implies, false_implies]

set_option maxRecDepth 100000 in
theorem RGood_at {m : Mem} {a : Option Addr} {n c : Nat} {xs : List Int} (name : Int) (h : SlA m 1 a n c (xs.map (.int .i64))) (hb : ∀ x ∈ xs, -9223372036854775808 ≤ x ∧ x < 9223372036854775808) : CallQ E F_sheafref16_Good [.int .i64 name, .slice a n c].toArray m fun w m' => w = .bool (goodL name xs) ∧ Old m m' := by
  by_cases h2 : name = 2
  · subst h2; exact RGood2 h hb
  by_cases h3 : name = 3
  · subst h3; exact RGood3 h hb
  by_cases h4 : name = 4
  · subst h4; exact RGood4 h hb
  by_cases h1 : name = 1
  · subst h1; exact RGood1 h hb
  refine .enter fn_sheafref16_Good (by simp) ?_
  have e1 : (name == 1) = false := by simpa using h1
  have e2 : (name == 2) = false := by simpa using h2
  have e3 : (name == 3) = false := by simpa using h3
  have e4 : (name == 4) = false := by simpa using h4
  rw [goodL_none name xs (by unfold spansL; rw [if_neg h2, if_neg h3, if_neg h4, if_neg h1])]
  simp (decide := true) (implicitDefEqProofs := false) (maxDischargeDepth := 20) only [go_sem, ↓reduceIte, e1, e2, e3, e4, true_implies, false_implies]
end Go.Proofs.Ytpabllcacdopdaa.W
