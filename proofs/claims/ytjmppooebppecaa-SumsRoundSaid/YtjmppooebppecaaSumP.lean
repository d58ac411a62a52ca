/-
  Sums in memory; slices.Equal (printed by wip/dev/gensrt.py from LawWide, MoneyB, CheckD).
-/
import Derived.Test.YtjmppooebppecaaWideP
import Derived.Test.YtjmppooebppecaaCodeMoney
import Derived.Test.YtjmppooebppecaaCodeBook
import Derived.Test.YtjmppooebppecaaAbs29
namespace Go.Proofs.Ytjmppooebppecaa.W
open Go.Abs
set_option linter.unusedSimpArgs false
set_option linter.unusedVariables false

theorem Of_W (a : Int) (h1 : -9223372036854775808 ≤ a) (h2 : a < 9223372036854775808) : Ans E F_wide_Of [.int .i64 a] (W a) := by
  have := Of_ans a h1 h2
  unfold W
  rw [wrap_i64_id _ (by omega) (by omega)]
  exact this
/-- The cells of a wide number. -/
def Wc (x : Int) : List Value := [.int .i64 (IntKind.wrap .i64 (x / 18446744073709551616)), .int .u64 (x % 18446744073709551616)]
set_option maxRecDepth 100000 in
theorem SumAdd {m : Mem} {b : Nat} {x n : Int} (hb : Box m b (Wc x)) (hn : -9223372036854775808 ≤ n) (hn' : n < 9223372036854775808) {K : Value → Mem → Prop} (hK : ∀ m', Upd m m' b → Box m' b (Wc (x + n)) → K (.tuple #[]) m') :
    CallQ E F_money_Sum_Add [.pointer (some ⟨b, 0, none⟩), .int .i64 n].toArray m K := by
  refine .enter fn_money_Sum_Add (by simp) ?_
  have hl := hb.lt
  have hr := hb.rows
  obtain ⟨tg, hg⟩ := hb
  have o1 := Of_W n hn hn'
  have a1 := Add_ans x n
  simp only [W] at o1 a1
  simp only [Wc, List.length_cons, List.length_nil, Nat.zero_add] at hr hg
  simp (decide := true) (implicitDefEqProofs := false) (maxDischargeDepth := 20) only [go_sem, ↓reduceIte, nilOk, hr, hg, hl, o1.eq, a1.eq]
  exact hK _ (Upd.put (by simp (decide := true) (maxDischargeDepth := 20) only [go_sem]) _ _) (.put (by simp (decide := true) (maxDischargeDepth := 20) only [go_sem, hl]))
set_option maxRecDepth 100000 in
theorem SumWide {m : Mem} {b : Nat} {x : Int} (hb : Box m b (Wc x)) : CallQ E F_money_Sum_Wide [.pointer (some ⟨b, 0, none⟩)].toArray m fun w m' => w = W x ∧ Old m m' := by
  refine .enter fn_money_Sum_Wide (by simp) ?_
  have hl := hb.lt
  have hr := hb.rows
  obtain ⟨tg, hg⟩ := hb
  have hne : ¬ b = m.size := by omega
  simp only [Wc, List.length_cons, List.length_nil, Nat.zero_add] at hr hg
  simp (decide := true) (implicitDefEqProofs := false) (maxDischargeDepth := 20) only [go_sem, ↓reduceIte, nilOk, hr, hg, hl, hne, W]
/-- What Int answers. -/
def intA (x : Int) : Value := if -9223372036854775808 ≤ x ∧ x < 9223372036854775808 then .tuple #[.int .i64 x, .bool true] else .tuple #[.int .i64 0, .bool false]
theorem Int_intA (x : Int) (h : -170141183460469231731687303715884105728 ≤ x) (h' : x < 170141183460469231731687303715884105728) : Ans E F_wide_Int [W x] (intA x) := Int_ans x h h'
set_option maxRecDepth 100000 in
theorem SumValue {m : Mem} {b : Nat} {x : Int} (hb : Box m b (Wc x)) (h : -170141183460469231731687303715884105728 ≤ x) (h' : x < 170141183460469231731687303715884105728) :
    CallQ E F_money_Sum_Value [.pointer (some ⟨b, 0, none⟩)].toArray m fun w m' => w = intA x ∧ Old m m' := by
  refine .enter fn_money_Sum_Value (by simp) ?_
  have hl := hb.lt
  have hr := hb.rows
  obtain ⟨tg, hg⟩ := hb
  have a1 := Int_intA x h h'
  simp only [W] at a1
  simp only [Wc, List.length_cons, List.length_nil, Nat.zero_add] at hr hg
  unfold intA at a1 ⊢
  by_cases hc : -9223372036854775808 ≤ x ∧ x < 9223372036854775808
  · rw [if_pos hc] at a1 ⊢
    simp (decide := true) (implicitDefEqProofs := false) (maxDischargeDepth := 20) only [go_sem, ↓reduceIte, nilOk, hr, hg, hl, a1.eq]
  · rw [if_neg hc] at a1 ⊢
    simp (decide := true) (implicitDefEqProofs := false) (maxDischargeDepth := 20) only [go_sem, ↓reduceIte, nilOk, hr, hg, hl, a1.eq]
set_option maxRecDepth 100000 in
set_option maxHeartbeats 4000000 in
theorem Equal_at {m : Mem} {a b : Option Addr} {n c c' : Nat} {xs ys : List Int} (h : SlA m 1 a n c (xs.map (.int .i64))) (k : SlA m 1 b n c' (ys.map (.int .i64))) (hn : n ≤ 1073741824) :
    CallQ E F_slices_Equal_Sint_int [.slice a n c, .slice b n c'].toArray m fun w m' => w = .bool (decide (xs = ys)) ∧ Old m m' := by
  refine .enter fn_slices_Equal_Sint_int (by simp) ?_
  have hl : xs.length = n := by have := h.len; simpa using this
  have kl : ys.length = n := by have := k.len; simpa using this
  simp (decide := true) (implicitDefEqProofs := false) (maxDischargeDepth := 20) only [go_sem, ↓reduceIte, bne_self_eq_false, true_implies, false_implies]
  simp only [c_slices_Equal_Sint_int_13_at, wpM_block, c_slices_Equal_Sint_int_12_at]
  refine wpM_loopA (fun j t' m' => m' = m ∧ ∃ i : Nat, i ≤ n ∧ j = n - i ∧ t' 13 = .int .i64 i ∧ xs.take i = ys.take i) n ⟨rfl, 0, by omega, rfl, by simp (decide := true) only [go_sem, ↓reduceIte]; rfl, by simp⟩ ?_
  rintro j t' m' ha ⟨rfl, i, hi, rfl, e13, hp⟩
  have a0 := ha 0 (by decide +kernel)
  have a1 := ha 1 (by decide +kernel)
  have a12 := ha 12 (by decide +kernel)
  simp (decide := true) only [go_sem, ↓reduceIte] at a0 a1 a12
  by_cases hlt : i < n
  · have d1 : decide ((i : Int) < (n : Int)) = true := by simp; omega
    have w1 : IntKind.wrap .i64 ((i : Int) + 1) = ((i + 1 : Nat) : Int) := by rw [wrap_i64_id _ (by omega) (by omega)]; omega
    obtain ⟨b1, o1, s1, rfl⟩ := h.addr (by omega)
    obtain ⟨b2, o2, s2, rfl⟩ := k.addr (by omega)
    have r1 := h.at_map hlt
    have r2 := k.at_map hlt
    have z0 : (0 : Int) ≤ (i : Int) := by omega
    have z1 : (i : Int) < (n : Int) := by omega
    have hx : ∀ zs : List Int, (hz : i < zs.length) → zs.take (i + 1) = zs.take i ++ [zs[i]] := fun zs hz => List.take_succ_eq_append_getElem hz
    by_cases he : xs[i]'(by omega) = ys[i]'(by omega)
    · have d2 : (xs[i]'(by omega) != ys[i]'(by omega)) = false := by simpa using he
      simp (decide := true) (implicitDefEqProofs := false) (maxDischargeDepth := 20) only [go_sem, ↓reduceIte, a0, a1, a12, e13, d1, d2, r1, r2, z0, z1, w1, Int.toNat_natCast, Nat.mul_one, true_implies, false_implies]
      exact ⟨n - (i + 1), by omega, i + 1, by omega, rfl, rfl, by rw [hx xs (by omega), hx ys (by omega), hp, he]⟩
    · have d2 : (xs[i]'(by omega) != ys[i]'(by omega)) = true := by simpa using he
      have hne : decide (xs = ys) = false := by simp; rintro rfl; exact he rfl
      simp (decide := true) (implicitDefEqProofs := false) (maxDischargeDepth := 20) only [go_sem, ↓reduceIte, a0, a1, a12, e13, d1, d2, r1, r2, z0, z1, w1, hne, Int.toNat_natCast, Nat.mul_one, true_implies, false_implies]
  · have d1 : decide ((i : Int) < (n : Int)) = false := by simp; omega
    have hin : i = n := by omega
    rw [List.take_of_length_le (by omega), List.take_of_length_le (by omega)] at hp
    have he : decide (xs = ys) = true := by simpa using hp
    simp (decide := true) (implicitDefEqProofs := false) (maxDischargeDepth := 20) only [go_sem, ↓reduceIte, a0, a1, a12, e13, d1, he, true_implies, false_implies]
end Go.Proofs.Ytjmppooebppecaa.W
