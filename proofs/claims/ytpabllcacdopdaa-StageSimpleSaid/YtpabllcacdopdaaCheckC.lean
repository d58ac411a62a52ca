/-
  check.Good.
-/
import Derived.Test.YtpabllcacdopdaaCheckB
namespace Go.Proofs.Ytpabllcacdopdaa.W
open Go.Abs
set_option linter.unusedSimpArgs false
set_option linter.unusedVariables false

theorem inside_iff (xs : List Int) (S : List (Int × Int)) : inside xs S = true ↔ ∀ i (h : i < xs.length) (k : i < S.length), S[i].1 ≤ xs[i] ∧ xs[i] ≤ S[i].2 := by
  unfold inside
  rw [List.all_eq_true]
  constructor
  · intro hh i h k
    have := hh (xs[i], S[i]) (by rw [List.mem_iff_getElem]; exact ⟨i, by simp; omega, by simp⟩)
    simpa using this
  · rintro hh ⟨x, p⟩ hm
    obtain ⟨i, hi, e⟩ := List.mem_iff_getElem.1 hm
    rw [List.getElem_zip] at e
    simp at hi
    have := hh i (by omega) (by omega)
    cases e
    simpa using this

theorem cells2_length (S : List (Int × Int)) : (cells2 S).length = 2 * S.length := by
  induction S with
  | nil => rfl
  | cons p S ih =>
    have e : cells2 (p :: S) = [.int .i64 p.1, .int .i64 p.2] ++ cells2 S := rfl
    rw [e, List.length_append, ih]
    simp; omega

theorem cells2_row : ∀ (S : List (Int × Int)) (i : Nat) (h : i < S.length), ((cells2 S).drop (i * 2)).take 2 = [.int .i64 S[i].1, .int .i64 S[i].2]
  | [], _, h => by simp at h
  | p :: S, 0, h => rfl
  | p :: S, i + 1, h => by
    have e : cells2 (p :: S) = [.int .i64 p.1, .int .i64 p.2] ++ cells2 S := rfl
    have e2 : (i + 1) * 2 = i * 2 + 2 := by omega
    rw [e, e2]
    show ((cells2 S).drop (i * 2)).take 2 = _
    exact cells2_row S i (by simpa using h)

set_option maxRecDepth 100000 in
set_option maxHeartbeats 4000000 in
theorem CGood_at {m : Mem} {a : Option Addr} {n c : Nat} {xs : List Int} (name : Int) (h : SlA m 1 a n c (xs.map (.int .i64))) : CallQ E F_check_Good [.int .i64 name, .slice a n c].toArray m fun w m' => w = .bool (goodL name xs) ∧ Old m m' := by
  have hl : xs.length = n := by have := h.len; simpa using this
  have hS6 : (spansL name).length ≤ 6 := by
    unfold spansL
    split
    · simp
    split
    · simp
    split
    · simp
    split
    · simp
    · simp
  refine .enter fn_check_Good (by simp) ?_
  simp (decide := true) (implicitDefEqProofs := false) (maxDischargeDepth := 20) only [go_sem, ↓reduceIte, true_implies, false_implies]
  refine Spans_at (fun m1 b o1 q1 x1 hne => ?_) (fun hN m1 o1 => ?_)
  · obtain ⟨S, hS⟩ : ∃ S, S = spansL name := ⟨_, rfl⟩
    rw [← hS] at x1 hne hS6 ⊢
    have hk : 0 < S.length := List.length_pos_iff.2 hne
    have d0 : (((S.length : Nat) : Int) == 0) = false := by simpa using hne
    by_cases hn : n = S.length
    · have dn : ((n : Int) != ((S.length : Nat) : Int)) = false := by rw [hn]; simp
      simp (decide := true) (implicitDefEqProofs := false) (maxDischargeDepth := 20) only [go_sem, ↓reduceIte, d0, dn, true_implies, false_implies]
      simp only [c_check_Good_13_at, wpM_block, c_check_Good_12_at]
      refine wpM_loopA (fun j t' m' => ∃ i : Nat, i ≤ S.length ∧ j = S.length - i ∧ t' 22 = .int .i64 i ∧ Old m1 m' ∧ ∀ j (h : j < xs.length) (k : j < S.length), j < i → S[j].1 ≤ xs[j] ∧ xs[j] ≤ S[j].2) S.length
        ⟨0, by omega, rfl, by simp (decide := true) only [go_sem, ↓reduceIte]; rfl, .refl _, fun j _ _ hj => by omega⟩ ?_
      rintro j t' m' ha ⟨i, hi, rfl, e22, o2, hin⟩
      have a0 := ha 0 (by decide +kernel)
      have a1 := ha 1 (by decide +kernel)
      have a20 := ha 20 (by decide +kernel)
      have a21 := ha 21 (by decide +kernel)
      simp (decide := true) only [go_sem, ↓reduceIte] at a0 a1 a20 a21
      have h2 := h.old (o1.trans o2)
      have x2 := x1.old o2
      by_cases hlt : i < S.length
      · have d1 : decide ((i : Int) < ((S.length : Nat) : Int)) = true := by simp; omega
        have w1 : IntKind.wrap .i64 ((i : Int) + 1) = ((i + 1 : Nat) : Int) := by rw [wrap_i64_id _ (by omega) (by omega)]; omega
        obtain ⟨ab, ao, asp, rfl⟩ := h2.addr (by omega)
        have r1 := h2.at_map (show i < n by omega)
        have z0 : (0 : Int) ≤ (i : Int) := by omega
        have z1 : (i : Int) < ((S.length : Nat) : Int) := by omega
        have z2 : (i : Int) < (n : Int) := by omega
        have row : m'.rows b (i * 2) 2 = some [.int .i64 S[i].1, .int .i64 S[i].2] := by
          obtain ⟨tg, g⟩ := x2
          unfold Mem.rows
          rw [g, Option.bind_some, blk_rows, if_pos (by rw [cells2_length]; omega), cells2_row S i hlt]
        have lb := x2.lt
        have lab : ab < m'.size := h2.lt (by intro e; simp at e; rw [e] at hl; simp at hl; omega)
        have nab : ¬ ab = m'.size := by omega
        have op : ∀ cs ds : List Value, Old m1 ((m'.push (.cells false true cs)).put m'.size (some (.cells false true ds))) := by
          intro cs ds
          refine o2.trans (.of_get (by rw [size_put, size_push]; omega) fun i hi => ?_)
          rw [getM_put, if_neg (by omega), getM_push, if_neg (by omega)]
        by_cases q1 : xs[i]'(by omega) < S[i].1
        · have t1 : decide (xs[i]'(by omega) < S[i].1) = true := by simpa using q1
          have g : goodL name xs = false := by
            unfold goodL
            rw [← hS, show inside xs S = false by
              rw [Bool.eq_false_iff]; intro e
              have := (inside_iff xs S).1 e i (by omega) hlt
              omega]
            simp
          rw [g]
          simp (decide := true) (implicitDefEqProofs := false) (maxDischargeDepth := 20) only [go_sem, ↓reduceIte, a0, a1, a20, a21, e22, d1, w1, z0, z1, z2, r1, row, nab, lab, t1, Int.toNat_natCast, true_implies, false_implies]
          exact o1.trans (op _ _)
        · have t1 : decide (xs[i]'(by omega) < S[i].1) = false := by simpa using q1
          by_cases q2 : S[i].2 < xs[i]'(by omega)
          · have t2 : decide (S[i].2 < xs[i]'(by omega)) = true := by simpa using q2
            have g : goodL name xs = false := by
              unfold goodL
              rw [← hS, show inside xs S = false by
                rw [Bool.eq_false_iff]; intro e
                have := (inside_iff xs S).1 e i (by omega) hlt
                omega]
              simp
            rw [g]
            simp (decide := true) (implicitDefEqProofs := false) (maxDischargeDepth := 20) only [go_sem, ↓reduceIte, a0, a1, a20, a21, e22, d1, w1, z0, z1, z2, r1, row, nab, lab, t1, t2, Int.toNat_natCast, true_implies, false_implies]
            exact o1.trans (op _ _)
          · have t2 : decide (S[i].2 < xs[i]'(by omega)) = false := by simpa using q2
            simp (decide := true) (implicitDefEqProofs := false) (maxDischargeDepth := 20) only [go_sem, ↓reduceIte, a0, a1, a20, a21, e22, d1, w1, z0, z1, z2, r1, row, nab, lab, t1, t2, Int.toNat_natCast, true_implies, false_implies]
            refine ⟨S.length - (i + 1), by omega, i + 1, by omega, rfl, rfl, op _ _, fun j hj hk hji => ?_⟩
            by_cases e : j = i
            · subst e; omega
            · exact hin j hj hk (by omega)
      · have d1 : decide ((i : Int) < ((S.length : Nat) : Int)) = false := by simp; omega
        have hi2 : i = S.length := by omega
        have gi : inside xs S = true := (inside_iff xs S).2 fun j hj hk => hin j hj hk (by omega)
        by_cases q1 : name = 1
        · subst q1
          have hS1 : S.length = 6 := by rw [hS]; rfl
          have n6 : n = 6 := by omega
          obtain ⟨ab, ao, asp, rfl⟩ := h2.addr (by omega)
          have r5 : m'.at ab (ao + Int.toNat 5) = some (.int .i64 (xs[5]'(by omega))) := h2.at_map (show 5 < n by omega)
          have r1 : m'.at ab (ao + Int.toNat 1) = some (.int .i64 (xs[1]'(by omega))) := h2.at_map (show 1 < n by omega)
          have z5 : (5 : Int) < (n : Int) := by omega
          have z1 : (1 : Int) < (n : Int) := by omega
          have g : goodL 1 xs = (xs[5]'(by omega) != xs[1]'(by omega)) := by
            unfold goodL
            rw [← hS, gi, decide_eq_true hne, decide_eq_true (show xs.length = S.length by omega)]
            have e5 : xs.getD 5 0 = xs[5]'(by omega) := by rw [List.getD_eq_getElem?_getD, List.getElem?_eq_getElem (by omega)]; rfl
            have e1 : xs.getD 1 0 = xs[1]'(by omega) := by rw [List.getD_eq_getElem?_getD, List.getElem?_eq_getElem (by omega)]; rfl
            rw [e5, e1, Bool.eq_iff_iff]
            simp
          rw [g]
          simp (decide := true) (implicitDefEqProofs := false) (maxDischargeDepth := 20) only [go_sem, ↓reduceIte, a0, a1, a20, a21, e22, d1, r1, r5, z1, z5, true_implies, false_implies]
          exact o1.trans o2
        · have n1 : (name != 1) = true := by simpa using q1
          have g : goodL name xs = true := by
            unfold goodL
            rw [← hS, gi, decide_eq_true hne, decide_eq_true (show xs.length = S.length by omega), decide_eq_true q1]
            rfl
          rw [g]
          simp (decide := true) (implicitDefEqProofs := false) (maxDischargeDepth := 20) only [go_sem, ↓reduceIte, a0, a1, a20, a21, e22, d1, n1, true_implies, false_implies]
          exact o1.trans o2
    · have dn : ((n : Int) != ((S.length : Nat) : Int)) = true := by simp; omega
      rw [goodL_len name xs (by rw [← hS, hl]; exact hn)]
      simp (decide := true) (implicitDefEqProofs := false) (maxDischargeDepth := 20) only [go_sem, ↓reduceIte, d0, dn, o1, true_implies, false_implies]
  · rw [goodL_none name xs hN]
    simp (decide := true) (implicitDefEqProofs := false) (maxDischargeDepth := 20) only [go_sem, ↓reduceIte, o1, true_implies, false_implies]
end Go.Proofs.Ytpabllcacdopdaa.W
