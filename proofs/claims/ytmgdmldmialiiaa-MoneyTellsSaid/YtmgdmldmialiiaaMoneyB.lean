/-
  Sums in memory.
-/
import Derived.Test.YtmgdmldmialiiaaMoneyA
namespace Go.Proofs.Ytmgdmldmialiiaa.W
open Go.Abs
set_option linter.unusedSimpArgs false
set_option linter.unusedVariables false

/-- The cells of a wide number. -/
def Wc (x : Int) : List Value := [.int .i64 (IntKind.wrap .i64 (x / 18446744073709551616)), .int .u64 (x % 18446744073709551616)]

set_option maxRecDepth 100000 in
theorem SumAdd {m : Mem} {b : Nat} {x n : Int} (hb : Box m b (Wc x)) (hn : -9223372036854775808 ≤ n) (hn' : n < 9223372036854775808) {K : Value → Mem → Prop} (hK : ∀ m', Upd m m' b → Box m' b (Wc (x + n)) → K (.tuple #[]) m') :
    CallQ E F_money_Sum_Add [.pointer (some ⟨b, 0, none⟩), .int .i64 n].toArray m K := by
  refine .enter fn_money_Sum_Add (by simp) ?_
  have hl := hb.lt
  have hr := hb.rows
  obtain ⟨tg, hg⟩ := hb
  have o1 := Of_W n hn hn'
  have a1 := Add_ans x n
  simp only [W] at o1 a1
  simp only [Wc, List.length_cons, List.length_nil, Nat.zero_add] at hr hg
  simp (decide := true) (implicitDefEqProofs := false) (maxDischargeDepth := 20) only [go_sem, ↓reduceIte, nilOk, hr, hg, hl, o1.eq, a1.eq]
  exact hK _ (Upd.put (by simp (decide := true) (maxDischargeDepth := 20) only [go_sem]) _ _) (.put (by simp (decide := true) (maxDischargeDepth := 20) only [go_sem, hl]))

set_option maxRecDepth 100000 in
theorem SumWide {m : Mem} {b : Nat} {x : Int} (hb : Box m b (Wc x)) : CallQ E F_money_Sum_Wide [.pointer (some ⟨b, 0, none⟩)].toArray m fun w m' => w = W x ∧ Old m m' := by
  refine .enter fn_money_Sum_Wide (by simp) ?_
  have hl := hb.lt
  have hr := hb.rows
  obtain ⟨tg, hg⟩ := hb
  have hne : ¬ b = m.size := by omega
  simp only [Wc, List.length_cons, List.length_nil, Nat.zero_add] at hr hg
  simp (decide := true) (implicitDefEqProofs := false) (maxDischargeDepth := 20) only [go_sem, ↓reduceIte, nilOk, hr, hg, hl, hne, W]

set_option maxRecDepth 100000 in
theorem SumJoin {m : Mem} {b : Nat} {x y : Int} (hb : Box m b (Wc x)) {K : Value → Mem → Prop} (hK : ∀ m', Upd m m' b → Box m' b (Wc (x + y)) → K (.tuple #[]) m') :
    CallQ E F_money_Sum_Join [.pointer (some ⟨b, 0, none⟩), W y].toArray m K := by
  refine .enter fn_money_Sum_Join (by simp) ?_
  have hl := hb.lt
  have hr := hb.rows
  obtain ⟨tg, hg⟩ := hb
  have a1 := Add_ans x y
  have hne : ¬ b = m.size := by omega
  simp only [W] at a1
  simp only [Wc, List.length_cons, List.length_nil, Nat.zero_add] at hr hg
  simp (decide := true) (implicitDefEqProofs := false) (maxDischargeDepth := 20) only [go_sem, ↓reduceIte, nilOk, hr, hg, hl, hne, a1.eq, W]
  exact hK _ (Upd.put (by simp (decide := true) (maxDischargeDepth := 20) only [go_sem]) _ _) (.put (by simp (decide := true) (maxDischargeDepth := 20) only [go_sem, hl]))

/-- What Int answers. -/
def intA (x : Int) : Value := if -9223372036854775808 ≤ x ∧ x < 9223372036854775808 then .tuple #[.int .i64 x, .bool true] else .tuple #[.int .i64 0, .bool false]
theorem Int_intA (x : Int) (h : -170141183460469231731687303715884105728 ≤ x) (h' : x < 170141183460469231731687303715884105728) : Ans E F_wide_Int [W x] (intA x) := Int_ans x h h'

set_option maxRecDepth 100000 in
theorem SumValue {m : Mem} {b : Nat} {x : Int} (hb : Box m b (Wc x)) (h : -170141183460469231731687303715884105728 ≤ x) (h' : x < 170141183460469231731687303715884105728) :
    CallQ E F_money_Sum_Value [.pointer (some ⟨b, 0, none⟩)].toArray m fun w m' => w = intA x ∧ Old m m' := by
  refine .enter fn_money_Sum_Value (by simp) ?_
  have hl := hb.lt
  have hr := hb.rows
  obtain ⟨tg, hg⟩ := hb
  have a1 := Int_intA x h h'
  simp only [W] at a1
  simp only [Wc, List.length_cons, List.length_nil, Nat.zero_add] at hr hg
  unfold intA at a1 ⊢
  by_cases hc : -9223372036854775808 ≤ x ∧ x < 9223372036854775808
  · rw [if_pos hc] at a1 ⊢
    simp (decide := true) (implicitDefEqProofs := false) (maxDischargeDepth := 20) only [go_sem, ↓reduceIte, nilOk, hr, hg, hl, a1.eq]
  · rw [if_neg hc] at a1 ⊢
    simp (decide := true) (implicitDefEqProofs := false) (maxDischargeDepth := 20) only [go_sem, ↓reduceIte, nilOk, hr, hg, hl, a1.eq]
end Go.Proofs.Ytmgdmldmialiiaa.W
