/-
  Cursor, Join.
-/
import Derived.Test.YtpabllcacdopdaaStgA
import Derived.Test.YtpabllcacdopdaaAbs28
namespace Go.Proofs.Ytpabllcacdopdaa.W
open Go.Abs
set_option linter.unusedSimpArgs false
set_option linter.unusedVariables false

def PureF (E : Env) (Z : Nat → Option Blk) (f : Value) (a : List Value) (v : Value) : Prop := ∀ m, Frozen Z m → CallF E f a m fun w m' => w = v ∧ Old m m'
theorem callF_of {E : Env} {g : FuncId} {cap : Array Value} {ys : List Value} {l : List Value} {m : Mem} {K : Value → Mem → Prop} (hs : (E.fn g).isSome = true) (e : #[] ++ ys.toArray ++ cap = l.toArray) (h : CallQ E g l.toArray m K) : CallF E (.func (.func g) #[] cap) ys m K := by
  rw [CallF_func, e]
  exact ⟨hs, h⟩
theorem snocInd {α : Type} {P : List α → Prop} (h0 : P []) (h1 : ∀ xs x, P xs → P (xs ++ [x])) (xs : List α) : P xs := by
  rw [← List.reverse_reverse xs]
  induction xs.reverse with
  | nil => exact h0
  | cons x t ih => rw [List.reverse_cons]; exact h1 _ _ ih
/-- A row that stays. -/
def RowZ (Z : Nat → Option Blk) (r : HRow) : Prop := ∀ m, Frozen Z m → r.At m

theorem RowZ.sub {Z0 Z : Nat → Option Blk} {r : HRow} (h : RowZ Z0 r) (h0 : SubZ Z0 Z) : RowZ Z r := fun m z => h m (h0.frozen z)

theorem Cursor_at {m : Mem} {a : Option Addr} {n c : Nat} : CallQ E F_flow_Cursor_Sint [.slice a n c].toArray m fun w m' => w = .func (.func F_flow_Cursor_Sint_1) #[] #[ptr m.size] ∧ cap1 m' m.size (.slice a n c) ∧ Old m m' := by
  refine .enter fn_flow_Cursor_Sint (by simp) ?_
  simp (decide := true) (implicitDefEqProofs := false) (maxDischargeDepth := 20) only [go_sem, HRow.v, ↓reduceIte, true_implies, false_implies]
  unfold cap1
  rw [getM_push, if_pos rfl]

theorem Join_at {m : Mem} {f g h : Fn} {fa fb ga gb ha hb : Array Value} : CallQ E F_flow_Join_Sint_Sint [.func f fa fb, .func g ga gb, .func h ha hb].toArray m fun w m' => ∃ b1 b2 b3, w = .func (.func F_flow_Join_Sint_Sint_1) #[] #[ptr b1, ptr b3, ptr b2] ∧ cap1 m' b1 (.func f fa fb) ∧ cap1 m' b2 (.func g ga gb) ∧ cap1 m' b3 (.func h ha hb) ∧ m.size ≤ b1 ∧ m.size ≤ b2 ∧ m.size ≤ b3 ∧ (b1 ≠ b2 ∧ b1 ≠ b3 ∧ b2 ≠ b3) ∧ Old m m' := by
  refine .enter fn_flow_Join_Sint_Sint (by simp) ?_
  simp (decide := true) (implicitDefEqProofs := false) (maxDischargeDepth := 20) only [go_sem, HRow.v, ↓reduceIte, true_implies, false_implies]
  refine ⟨m.size, m.size + 1, m.size + (1 + 1), rfl, ?_, ?_, ?_, by omega, by omega, by omega, by omega⟩
  · unfold cap1; rw [getM_push, if_neg (by simp; omega), getM_push, if_neg (by simp), getM_push, if_pos rfl]
  · unfold cap1; rw [getM_push, if_neg (by simp), getM_push, if_pos (by simp)]
  · unfold cap1; rw [getM_push, if_pos (by simp)]

/-- What a cursor has left, its box: the rest of a list that stays. -/
def CurAt (Z : Nat → Option Blk) (b : Nat) (l : List HRow) (m : Mem) : Prop := ∃ a c, cap1 m b (.slice a l.length c) ∧ ∀ m', Frozen Z m' → SlA m' 1 a l.length c (l.map HRow.v)

set_option maxRecDepth 100000 in
theorem Next_at {Z : Nat → Option Blk} {b : Nat} {l : List HRow} {m : Mem} (h : CurAt Z b l m) (z : Frozen Z m) (hl : l.length ≤ 1000000) : CallF E (.func (.func F_flow_Cursor_Sint_1) #[] #[ptr b]) [] m fun w m' => w = .tuple #[(l.headD noRow).v, .bool (!l.isEmpty)] ∧ CurAt Z b l.tail m' ∧ ChgS (fun i => i = b) m m' ∧ m'.size = m.size := by
  obtain ⟨a, c, hc, hs⟩ := h
  have r := get_at0 hc
  have lb := getM_lt hc
  refine callF_of some38 (l := [ptr b]) (by simp) (.enter fn_flow_Cursor_Sint_1 (by simp) ?_)
  cases l with
  | nil =>
    simp (decide := true) (implicitDefEqProofs := false) (maxDischargeDepth := 20) only [go_sem, HRow.v, r, List.length_nil, ↓reduceIte, true_implies, false_implies]
    exact ⟨rfl, ⟨a, c, hc, hs⟩, .refl _ _⟩
  | cons x t =>
    have S := hs m z
    obtain ⟨ab, ao, asp, rfl⟩ := S.addr (by simp)
    have hg : m.get b = some (.cells false true [.slice (some ⟨ab, ao, asp⟩) (t.length + 1) c]) := hc
    have rx : m.at ab (ao + Int.toNat 0) = some (x.v) := S.at_map (show 0 < (x :: t).length by simp)
    have d1 : (((t.length + 1 : Nat) : Int) == 0) = false := by rw [beq_eq_false_iff_ne]; omega
    have z1 : (0 : Int) < ((t.length + 1 : Nat) : Int) := by omega
    have sf := fun mm (hh : Frozen Z mm) => (hs mm hh).sliceFrom (E := E) (k := .i64) (show 1 ≤ (x :: t).length by simp)
    have s1 := (sf m z).1 23 (by decide +kernel)
    simp only [List.length_cons, Nat.add_sub_cancel, Nat.mul_one, Option.map_some, show ((1 : Nat) : Int) = 1 from rfl] at s1 sf
    simp (decide := true) (implicitDefEqProofs := false) (maxDischargeDepth := 20) only [go_sem, HRow.v, r, rx, d1, z1, s1, hg, lb, List.length_cons, ↓reduceIte, true_implies, false_implies]
    refine ⟨rfl, ⟨_, _, ?_, fun m' z' => (sf m' z').2⟩, (ChgS.refl _ _).put _ _ (.inl rfl)⟩
    unfold cap1
    rw [getM_put, if_pos ⟨rfl, lb⟩]
    rfl
theorem CurAt.keep {Z : Nat → Option Blk} {b : Nat} {l : List HRow} {m m' : Mem} (h : CurAt Z b l m) (k : m'.get b = m.get b) : CurAt Z b l m' := by
  obtain ⟨a, c, hc, hs⟩ := h
  exact ⟨a, c, k.trans hc, hs⟩

/-- Asked on: what the last one was, what is left, whether there was one: until it is not behind any more. -/
def skipL (cmp : HRow → HRow → Int) (x : HRow) : List HRow → HRow × List HRow × Bool
  | [] => (noRow, [], false)
  | y :: l => if cmp x y > 0 then skipL cmp x l else (y, l, true)
/-- A join's state: nothing was asked yet; or the last answer, and whether it was one. -/
structure JS where
  asked : Bool
  there : Bool
  last : HRow
  left : List HRow
def stepJ (cmp : HRow → HRow → Int) (s : JS) (x : HRow) : JS :=
  if s.asked = false ∨ (s.there = true ∧ cmp x s.last > 0) then ⟨true, (skipL cmp x s.left).2.2, (skipL cmp x s.left).1, (skipL cmp x s.left).2.1⟩ else s
def stJ (cmp : HRow → HRow → Int) (l : List HRow) (xs : List HRow) : JS := xs.foldl (stepJ cmp) ⟨false, false, noRow, l⟩
/-- What it finds for the last one. -/
def hitJ (cmp : HRow → HRow → Int) (s : JS) (x : HRow) : Option HRow := if s.there = true ∧ cmp x s.last = 0 then some s.last else none

theorem stJ_snoc (cmp : HRow → HRow → Int) (l xs : List HRow) (x : HRow) : stJ cmp l (xs ++ [x]) = stepJ cmp (stJ cmp l xs) x := by
  unfold stJ
  rw [List.foldl_append]
  rfl
theorem skipL_len (cmp : HRow → HRow → Int) (x : HRow) : ∀ l, (skipL cmp x l).2.1.length ≤ l.length
  | [] => Nat.le_refl _
  | y :: l => by
    unfold skipL
    split
    · exact Nat.le_succ_of_le (skipL_len cmp x l)
    · exact Nat.le_succ _
theorem stepJ_len (cmp : HRow → HRow → Int) (s : JS) (x : HRow) : (stepJ cmp s x).left.length ≤ s.left.length := by
  unfold stepJ
  split
  · exact skipL_len _ _ _
  · exact Nat.le_refl _
theorem stJ_len (cmp : HRow → HRow → Int) (l xs : List HRow) : (stJ cmp l xs).left.length ≤ l.length := by
  refine snocInd (P := fun xs => (stJ cmp l xs).left.length ≤ l.length) (Nat.le_refl _) (fun xs x ih => ?_) xs
  rw [stJ_snoc]
  exact Nat.le_trans (stepJ_len _ _ _) ih
end Go.Proofs.Ytpabllcacdopdaa.W
