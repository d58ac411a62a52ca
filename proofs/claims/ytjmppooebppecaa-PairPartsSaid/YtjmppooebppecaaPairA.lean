/-
  sign, Cancel.
-/
import Derived.Test.YtjmppooebppecaaWideP
import Derived.Test.YtjmppooebppecaaBook
import Derived.Test.YtjmppooebppecaaCodePair
namespace Go.Proofs.Ytjmppooebppecaa.W
open Go.Abs
set_option linter.unusedSimpArgs false
set_option linter.unusedVariables false

/-- The sign of a difference. -/
def sg (x y : Int) : Int := if x < y then -1 else if y < x then 1 else 0

theorem Cmp_sg (x y : Int) (hx : -170141183460469231731687303715884105728 ≤ x) (hx' : x < 170141183460469231731687303715884105728) (hy : -170141183460469231731687303715884105728 ≤ y) (hy' : y < 170141183460469231731687303715884105728) :
    Ans E F_wide_Cmp [W x, W y] (.int .i64 (sg x y)) := Cmp_ans x y hx hx' hy hy'

theorem W_eq (x y : Int) (hx : -170141183460469231731687303715884105728 ≤ x) (hx' : x < 170141183460469231731687303715884105728) (hy : -170141183460469231731687303715884105728 ≤ y) (hy' : y < 170141183460469231731687303715884105728) :
    (IntKind.wrap .i64 (x / 18446744073709551616) == IntKind.wrap .i64 (y / 18446744073709551616) && x % 18446744073709551616 == y % 18446744073709551616) = decide (x = y) := by
  rw [wrap_i64_id _ (by omega) (by omega), wrap_i64_id _ (by omega) (by omega)]
  rw [Bool.eq_iff_iff]
  simp only [Bool.and_eq_true, beq_iff_eq, decide_eq_true_eq]
  omega

/-- A store into another block while one is kept. -/
theorem get_gm1 (m : Mem) (x i : Nat) (h : ¬ i = x) : (m.gm [x]).get i = m.get i := by rw [get_gm, if_neg (by simpa using h)]
theorem ugm_put1 (m : Mem) (x i : Nat) (c : Option Blk) (h : ¬ i = x) : m.ugm ((m.gm [x]).put i c) [x] = m.put i c := by
  have e := ugm_gm m [x]
  unfold Mem.ugm Mem.gm at *
  simp only [List.isEmpty_cons, Bool.false_eq_true, if_false] at *
  unfold Mem.unguard Mem.guard Mem.put at *
  have e2 := congrArg Mem.bl e
  congr 1
  apply List.ext_getElem?
  intro j
  have e3 := congrArg (fun l => l[j]?) e2
  simp only [List.getElem?_mapIdx, List.getElem?_set, List.length_mapIdx] at e3 ⊢
  by_cases hj : i = j
  · subst hj
    rw [if_pos rfl, if_pos rfl]
    split
    · rename_i hh
      exact absurd (by simpa using hh) h
    · simp
  · rw [if_neg hj, if_neg hj]
    exact e3

@[go_sem] theorem ResK_cc {t : Fr} {m : Mem} (K : Value → Mem → Prop) (i j : Nat) (a b : TypeId) : ResK E [.cell i a, .cell j b] K t m = match loadV E m a (t i) with
    | some v => (match loadV E m b (t j) with | some w => K (.tuple #[v, w]) m | none => False)
    | none => False := by
  unfold ResK resultsF resultsF resultsF
  cases loadV E m a (t i) with
  | none => rfl
  | some v => cases loadV E m b (t j) <;> rfl

set_option maxRecDepth 100000 in
set_option maxHeartbeats 1000000 in
theorem sign_ans (x : Int) (hx : -170141183460469231731687303715884105728 ≤ x) (hx' : x < 170141183460469231731687303715884105728) : Ans E F_pair_sign [W x] (.int .i64 (sg x 0)) := by
  have c := Cmp_sg x 0 hx hx' (by decide) (by decide)
  refine .of fn_pair_sign (by simp) fun m => ?_
  have w0 : W 0 = .agg #[.int .i64 0, .int .u64 0] := rfl
  rw [w0] at c
  simp only [W] at c ⊢
  simp (decide := true) (implicitDefEqProofs := false) (maxDischargeDepth := 20) only [go_sem, ↓reduceIte, c.eq, true_implies, false_implies]

/-- What is left of two that cancel. -/
def canP (x y : Int) : Int := if 0 ≤ sg x 0 * sg y 0 then x else if sg (x + y) 0 = sg x 0 then x + y else 0
def canQ (x y : Int) : Int := if 0 ≤ sg x 0 * sg y 0 then y else if sg (x + y) 0 = sg x 0 then 0 else x + y
theorem sg0 (x : Int) : sg x 0 = -1 ∧ x < 0 ∨ sg x 0 = 0 ∧ x = 0 ∨ sg x 0 = 1 ∧ 0 < x := by unfold sg; split <;> (try split) <;> omega

set_option maxRecDepth 100000 in
set_option maxHeartbeats 4000000 in
theorem Cancel_ans (x y : Int) (hx : -85070591730234615865843651857942052864 ≤ x) (hx' : x < 85070591730234615865843651857942052864) (hy : -85070591730234615865843651857942052864 ≤ y) (hy' : y < 85070591730234615865843651857942052864) :
    Ans E F_pair_Cancel [W x, W y] (.tuple #[W (canP x y), W (canQ x y)]) := by
  have s1 := sign_ans x (by omega) (by omega)
  have s2 := sign_ans y (by omega) (by omega)
  have s3 := sign_ans (x + y) (by omega) (by omega)
  have a1 := Add_ans x y
  have wz : W 0 = .agg #[.int .i64 0, .int .u64 0] := rfl
  refine .of fn_pair_Cancel (by simp) fun m => ?_
  by_cases h1 : 0 ≤ sg x 0 * sg y 0
  · have w1 : IntKind.wrap .i64 (sg x 0 * sg y 0) = sg x 0 * sg y 0 := by
      rcases sg0 x with h | h | h <;> rcases sg0 y with k | k | k <;> rw [h.1, k.1] <;> decide
    have d1 : decide (sg x 0 * sg y 0 ≥ 0) = true := by simpa using h1
    have e1 : canP x y = x := by unfold canP; rw [if_pos h1]
    have e2 : canQ x y = y := by unfold canQ; rw [if_pos h1]
    rw [e1, e2]
    simp only [W] at s1 s2 s3 a1 ⊢
    simp (decide := true) (implicitDefEqProofs := false) (maxDischargeDepth := 20) only [go_sem, ↓reduceIte, s1.eq, s2.eq, s3.eq, a1.eq, get_gm1, ugm_put1, w1, d1, true_implies, false_implies]
  · have w1 : IntKind.wrap .i64 (sg x 0 * sg y 0) = sg x 0 * sg y 0 := by
      rcases sg0 x with h | h | h <;> rcases sg0 y with k | k | k <;> rw [h.1, k.1] <;> decide
    have d1 : decide (sg x 0 * sg y 0 ≥ 0) = false := by simpa using h1
    by_cases h2 : sg (x + y) 0 = sg x 0
    · have d2 : (sg (x + y) 0 == sg x 0) = true := by simpa using h2
      have e1 : canP x y = x + y := by unfold canP; rw [if_neg h1, if_pos h2]
      have e2 : canQ x y = 0 := by unfold canQ; rw [if_neg h1, if_pos h2]
      rw [e1, e2, wz]
      simp only [W] at s1 s2 s3 a1 ⊢
      simp (decide := true) (implicitDefEqProofs := false) (maxDischargeDepth := 20) only [go_sem, ↓reduceIte, s1.eq, s2.eq, s3.eq, a1.eq, get_gm1, ugm_put1, w1, d1, d2, true_implies, false_implies]
    · have d2 : (sg (x + y) 0 == sg x 0) = false := by simpa using h2
      have e1 : canP x y = 0 := by unfold canP; rw [if_neg h1, if_neg h2]
      have e2 : canQ x y = x + y := by unfold canQ; rw [if_neg h1, if_neg h2]
      rw [e1, e2, wz]
      simp only [W] at s1 s2 s3 a1 ⊢
      simp (decide := true) (implicitDefEqProofs := false) (maxDischargeDepth := 20) only [go_sem, ↓reduceIte, s1.eq, s2.eq, s3.eq, a1.eq, get_gm1, ugm_put1, w1, d1, d2, true_implies, false_implies]
end Go.Proofs.Ytjmppooebppecaa.W
