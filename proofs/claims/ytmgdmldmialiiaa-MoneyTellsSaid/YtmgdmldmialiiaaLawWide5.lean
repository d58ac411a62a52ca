/-
  WideTells.
-/
import Derived.Test.YtmgdmldmialiiaaWideS
import Derived.Test.YtmgdmldmialiiaaWideT
import Derived.Test.YtmgdmldmialiiaaLawMoney
namespace Go.Proofs.Ytmgdmldmialiiaa.W
open Go.Abs
set_option linter.unusedSimpArgs false
set_option linter.unusedVariables false

theorem intA_form (x : Int) : ∃ p c, (if -9223372036854775808 ≤ x ∧ x < 9223372036854775808 then Value.tuple #[.int .i64 x, .bool true] else .tuple #[.int .i64 0, .bool false]) = Value.tuple #[.int .i64 p, .bool c] := by split; exact ⟨_, _, rfl⟩; exact ⟨_, _, rfl⟩

theorem mul_126 {a b : Int} (ha : -9223372036854775808 ≤ a) (ha' : a < 9223372036854775808) (hb : -9223372036854775808 ≤ b) (hb' : b < 9223372036854775808) : -85070591730234615865843651857942052864 ≤ a * b ∧ a * b ≤ 85070591730234615865843651857942052864 := by
  have h := mul_abs (a := 9223372036854775808) (b := 9223372036854775808) (x := a) (y := b) (by omega) (by omega) (by omega) (by omega) (by decide) (by decide)
  rw [show (9223372036854775808 : Int) * 9223372036854775808 = 85070591730234615865843651857942052864 by decide] at h
  exact ⟨by omega, by omega⟩

set_option maxRecDepth 100000 in
set_option maxHeartbeats 8000000 in
theorem WideTells_tru (a b c d : Int) (ha : -9223372036854775808 ≤ a) (ha' : a < 9223372036854775808) (hb : -9223372036854775808 ≤ b) (hb' : b < 9223372036854775808) (hc : -9223372036854775808 ≤ c) (hc' : c < 9223372036854775808) (hd : -9223372036854775808 ≤ d) (hd' : d < 9223372036854775808) :
    Tru E F_sheaflaw1_WideTells [.int .i64 a, .int .i64 b, .int .i64 c, .int .i64 d] := by
  have m1 := Mul_ans a b ha ha' hb hb'
  have n1 := rMul_ans a b ha ha' hb hb'
  obtain ⟨k1, k2⟩ := mul_126 ha ha' hb hb'
  generalize a * b = p at *
  have o1 := Of_W c hc hc'
  have p1 := rOf_ans c hc hc'
  have a1 := Add_ans p c
  have b1 := rAdd_ans p c
  obtain ⟨y, hy⟩ : ∃ y, y = p + c := ⟨_, rfl⟩
  rw [← hy] at a1 b1
  have i1 := Int_ans y (by omega) (by omega)
  have j1 := rInt_ans y (by omega) (by omega)
  obtain ⟨v, e, he⟩ := intA_form y
  rw [he] at i1 j1
  obtain ⟨qv, qe, q1, r1⟩ : ∃ qv qe, Ans E F_wide_Quo [W y, .int .i64 d] (.tuple #[.int .i64 qv, .bool qe]) ∧ Ans E F_sheafref1_Quo [W y, .int .i64 d] (.tuple #[.int .i64 qv, .bool qe]) := by
    by_cases h : d ≤ 0
    · exact ⟨0, false, Quo_none y d h, rQuo_none y d h⟩
    · obtain ⟨D, rfl⟩ := Int.eq_ofNat_of_zero_le (show 0 ≤ d by omega)
      have q1 := Quo_ans y (by omega) (by omega) D (by omega) hd'
      have r1 := rQuo_ans y (by omega) (by omega) D (by omega) hd'
      unfold quoA at q1 r1
      obtain ⟨s, t, hst⟩ := intA_form (quoI y D)
      rw [hst] at q1 r1
      exact ⟨s, t, q1, r1⟩
  have c1 := Cmp_ans p y (by omega) (by omega) (by omega) (by omega)
  have d1 := rCmp_ans p y (by omega) (by omega) (by omega) (by omega)
  generalize (if p < y then (-1 : Int) else if y < p then 1 else 0) = w at *
  clear he hy
  simp only [W] at m1 n1 o1 p1 a1 b1 i1 j1 q1 r1 c1 d1
  refine Tru.of fn_sheaflaw1_WideTells (by simp) fun m => ?_
  simp (decide := true) (implicitDefEqProofs := false) (maxDischargeDepth := 30) only [go_sem, ↓reduceIte, m1.eq, n1.eq, o1.eq, p1.eq, a1.eq, b1.eq, i1.eq, j1.eq, q1.eq, r1.eq, c1.eq, d1.eq, beq_self_eq_true, true_implies, false_implies]
end Go.Proofs.Ytmgdmldmialiiaa.W
