/-
  Cursor, Join.
-/
import Derived.Test.YtgbpgkfmmhlkoaaFlowM
namespace Go.Proofs.Ytgbpgkfmmhlkoaa.W
open Go.Abs
set_option linter.unusedSimpArgs false
set_option linter.unusedVariables false

theorem Cursor_at {m : Mem} {a : Option Addr} {n c : Nat} : CallQ E F_flow_Cursor_int [.slice a n c].toArray m fun w m' => w = .func (.func F_flow_Cursor_int_1) #[] #[ptr m.size] ∧ cap1 m' m.size (.slice a n c) ∧ Old m m' := by
  refine .enter fn_flow_Cursor_int (by simp) ?_
  simp (decide := true) (implicitDefEqProofs := false) (maxDischargeDepth := 20) only [go_sem, ↓reduceIte, true_implies, false_implies]
  unfold cap1
  rw [getM_push, if_pos rfl]

theorem Join_at {m : Mem} {f g h : Fn} {fa fb ga gb ha hb : Array Value} : CallQ E F_flow_Join_int_int [.func f fa fb, .func g ga gb, .func h ha hb].toArray m fun w m' => ∃ b1 b2 b3, w = .func (.func F_flow_Join_int_int_1) #[] #[ptr b1, ptr b3, ptr b2] ∧ cap1 m' b1 (.func f fa fb) ∧ cap1 m' b2 (.func g ga gb) ∧ cap1 m' b3 (.func h ha hb) ∧ Old m m' := by
  refine .enter fn_flow_Join_int_int (by simp) ?_
  simp (decide := true) (implicitDefEqProofs := false) (maxDischargeDepth := 20) only [go_sem, ↓reduceIte, true_implies, false_implies]
  refine ⟨m.size, m.size + 1, m.size + (1 + 1), rfl, ?_, ?_, ?_⟩
  · unfold cap1; rw [getM_push, if_neg (by simp; omega), getM_push, if_neg (by simp), getM_push, if_pos rfl]
  · unfold cap1; rw [getM_push, if_neg (by simp), getM_push, if_pos (by simp)]
  · unfold cap1; rw [getM_push, if_pos (by simp)]

/-- What a cursor has left, its box: the rest of a list that stays. -/
def CurAt (Z : Nat → Option Blk) (b : Nat) (l : List Int) (m : Mem) : Prop := ∃ a c, cap1 m b (.slice a l.length c) ∧ ∀ m', Frozen Z m' → SlA m' 1 a l.length c (l.map vI)

set_option maxRecDepth 100000 in
theorem Next_at {Z : Nat → Option Blk} {b : Nat} {l : List Int} {m : Mem} (h : CurAt Z b l m) (z : Frozen Z m) (hb : Z b = none) (hl : l.length ≤ 1000000) : CallF E (.func (.func F_flow_Cursor_int_1) #[] #[ptr b]) [] m fun w m' => w = .tuple #[vI (l.headD 0), .bool (!l.isEmpty)] ∧ CurAt Z b l.tail m' ∧ ChgS (fun i => i = b) m m' ∧ m'.size = m.size := by
  obtain ⟨a, c, hc, hs⟩ := h
  have r := get_at0 hc
  have lb := getM_lt hc
  refine callF_of some60 (l := [ptr b]) (by simp) (.enter fn_flow_Cursor_int_1 (by simp) ?_)
  cases l with
  | nil =>
    simp (decide := true) (implicitDefEqProofs := false) (maxDischargeDepth := 20) only [go_sem, r, List.length_nil, ↓reduceIte, true_implies, false_implies]
    exact ⟨rfl, ⟨a, c, hc, hs⟩, .refl _ _⟩
  | cons x t =>
    have S := hs m z
    obtain ⟨ab, ao, asp, rfl⟩ := S.addr (by simp)
    have rx : m.at ab (ao + Int.toNat 0) = some (vI x) := S.at_map (show 0 < (x :: t).length by simp)
    have d1 : (((t.length + 1 : Nat) : Int) == 0) = false := by rw [beq_eq_false_iff_ne]; omega
    have z1 : (0 : Int) < ((t.length + 1 : Nat) : Int) := by omega
    have sf := fun mm (hh : Frozen Z mm) => (hs mm hh).sliceFrom (E := E) (k := .i64) (show 1 ≤ (x :: t).length by simp)
    have s1 := (sf m z).1 23 (by decide +kernel)
    simp only [List.length_cons, Nat.add_sub_cancel, Nat.mul_one, Option.map_some, show ((1 : Nat) : Int) = 1 from rfl] at s1 sf
    simp (decide := true) (implicitDefEqProofs := false) (maxDischargeDepth := 20) only [go_sem, r, rx, d1, z1, s1, hc, lb, List.length_cons, ↓reduceIte, true_implies, false_implies]
    refine ⟨rfl, ⟨_, _, ?_, fun m' z' => (sf m' z').2⟩, (ChgS.refl _ _).put _ _ (.inl rfl)⟩
    unfold cap1
    rw [getM_put, if_pos ⟨rfl, lb⟩]
    rfl
theorem CurAt.keep {Z : Nat → Option Blk} {b : Nat} {l : List Int} {m m' : Mem} (h : CurAt Z b l m) (k : m'.get b = m.get b) : CurAt Z b l m' := by
  obtain ⟨a, c, hc, hs⟩ := h
  exact ⟨a, c, k.trans hc, hs⟩

/-- Asked on: what the last one was, what is left, whether there was one: until it is not behind any more. -/
def skipL (cmp : Int → Int → Int) (x : Int) : List Int → Int × List Int × Bool
  | [] => (0, [], false)
  | y :: l => if cmp x y > 0 then skipL cmp x l else (y, l, true)
/-- A join's state: nothing was asked yet; or the last answer, and whether it was one. -/
structure JS where
  asked : Bool
  there : Bool
  last : Int
  left : List Int
def stepJ (cmp : Int → Int → Int) (s : JS) (x : Int) : JS :=
  if s.asked = false ∨ (s.there = true ∧ cmp x s.last > 0) then ⟨true, (skipL cmp x s.left).2.2, (skipL cmp x s.left).1, (skipL cmp x s.left).2.1⟩ else s
def stJ (cmp : Int → Int → Int) (l : List Int) (xs : List Int) : JS := xs.foldl (stepJ cmp) ⟨false, false, 0, l⟩
/-- What it finds for the last one. -/
def hitJ (cmp : Int → Int → Int) (s : JS) (x : Int) : Option Int := if s.there = true ∧ cmp x s.last = 0 then some s.last else none

theorem stJ_snoc (cmp : Int → Int → Int) (l xs : List Int) (x : Int) : stJ cmp l (xs ++ [x]) = stepJ cmp (stJ cmp l xs) x := by
  unfold stJ
  rw [List.foldl_append]
  rfl
theorem skipL_len (cmp : Int → Int → Int) (x : Int) : ∀ l, (skipL cmp x l).2.1.length ≤ l.length
  | [] => Nat.le_refl _
  | y :: l => by
    unfold skipL
    split
    · exact Nat.le_succ_of_le (skipL_len cmp x l)
    · exact Nat.le_succ _
theorem stepJ_len (cmp : Int → Int → Int) (s : JS) (x : Int) : (stepJ cmp s x).left.length ≤ s.left.length := by
  unfold stepJ
  split
  · exact skipL_len _ _ _
  · exact Nat.le_refl _
theorem stJ_len (cmp : Int → Int → Int) (l xs : List Int) : (stJ cmp l xs).left.length ≤ l.length := by
  refine snocInd (P := fun xs => (stJ cmp l xs).left.length ≤ l.length) (Nat.le_refl _) (fun xs x ih => ?_) xs
  rw [stJ_snoc]
  exact Nat.le_trans (stepJ_len _ _ _) ih
end Go.Proofs.Ytgbpgkfmmhlkoaa.W
