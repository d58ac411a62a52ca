/-
  The order of rows: column, Compare.
-/
import Derived.Test.YtkbjkmhmkefckaaCodeRow
import Derived.Test.YtkbjkmhmkefckaaCodeRef
namespace Go.Proofs.Ytkbjkmhmkefckaa.W
open Go.Abs
set_option linter.unusedSimpArgs false
set_option linter.unusedVariables false

def cmpI (x y : Int) : Int := if x < y then -1 else if y < x then 1 else 0
def cell (xs : List Int) (c : Int) : Option Int := if 0 ≤ c then xs[c.toNat]? else none
def cmpO : Option Int → Option Int → Int
  | some x, some y => cmpI x y
  | none, some _ => -1
  | some _, none => 1
  | none, none => 0
def colL (xs ys : List Int) (c : Int) : Int := cmpO (cell xs c) (cell ys c)

theorem NaN_ans (x : Int) : Ans E F_cmp_isNaN_int [.int .i64 x] (.bool false) := by
  refine .of fn_cmp_isNaN_int (by simp) fun m => ?_
  simp (decide := true) (implicitDefEqProofs := false) (maxDischargeDepth := 20) only [go_sem, ↓reduceIte, bne_self_eq_false, true_implies, false_implies]
  first | done | exact ⟨rfl, .refl m⟩ | exact .refl m

theorem Cmp_ans (x y : Int) : Ans E F_cmp_Compare_int [.int .i64 x, .int .i64 y] (.int .i64 (cmpI x y)) := by
  have n1 := (NaN_ans x).eq
  have n2 := (NaN_ans y).eq
  refine .of fn_cmp_Compare_int (by simp) fun m => ?_
  unfold cmpI
  by_cases h1 : x < y
  · have d1 : decide (x < y) = true := by simpa using h1
    rw [if_pos h1]
    simp (decide := true) (implicitDefEqProofs := false) (maxDischargeDepth := 20) only [go_sem, ↓reduceIte, n1, n2, d1, true_implies, false_implies]
    first | done | exact .ansM (.ansM (.refl m))
  · have d1 : decide (x < y) = false := by simpa using h1
    rw [if_neg h1]
    by_cases h2 : y < x
    · have d2 : decide (y < x) = true := by simpa using h2
      rw [if_pos h2]
      simp (decide := true) (implicitDefEqProofs := false) (maxDischargeDepth := 20) only [go_sem, ↓reduceIte, n1, n2, d1, d2, true_implies, false_implies]
      first | done | exact .ansM (.ansM (.refl m))
    · have d2 : decide (y < x) = false := by simpa using h2
      rw [if_neg h2]
      simp (decide := true) (implicitDefEqProofs := false) (maxDischargeDepth := 20) only [go_sem, ↓reduceIte, n1, n2, d1, d2, true_implies, false_implies]
      first | done | exact .ansM (.ansM (.refl m))

set_option maxRecDepth 100000 in
set_option maxHeartbeats 4000000 in
theorem Column_at {m : Mem} {a b : Option Addr} {n n' c c' : Nat} {xs ys : List Int} (k : Int) (h : SlA m 1 a n c (xs.map (.int .i64))) (h' : SlA m 1 b n' c' (ys.map (.int .i64))) :
    CallQ E F_row_column [.slice a n c, .slice b n' c', .int .i64 k].toArray m fun w m' => w = .int .i64 (colL xs ys k) ∧ Old m m' := by
  have hl : xs.length = n := by have := h.len; simpa using this
  have hl' : ys.length = n' := by have := h'.len; simpa using this
  refine .enter fn_row_column (by simp) ?_
  by_cases h0 : 0 ≤ k
  · have d0 : decide (0 ≤ k) = true := by simpa using h0
    obtain ⟨i, rfl⟩ : ∃ i : Nat, k = i := ⟨k.toNat, by omega⟩
    have cx : ∀ zs : List Int, cell zs (i : Int) = zs[i]? := fun zs => by unfold cell; rw [if_pos h0, Int.toNat_natCast]
    unfold colL
    rw [cx, cx]
    by_cases h1 : i < n
    · have d1 : decide ((i : Int) < (n : Int)) = true := by simp; omega
      obtain ⟨ab, ao, asp, rfl⟩ := h.addr (by omega)
      have r1 := h.at_map h1
      have z1 : (i : Int) < (n : Int) := by omega
      rw [List.getElem?_eq_getElem (show i < xs.length by omega)]
      by_cases h2 : i < n'
      · have d2 : decide ((i : Int) < (n' : Int)) = true := by simp; omega
        obtain ⟨bb, bo, bsp, rfl⟩ := h'.addr (by omega)
        have r2 := h'.at_map h2
        have z2 : (i : Int) < (n' : Int) := by omega
        rw [List.getElem?_eq_getElem (show i < ys.length by omega)]
        have q := (Cmp_ans (xs[i]'(by omega)) (ys[i]'(by omega))).eq
        simp (decide := true) (implicitDefEqProofs := false) (maxDischargeDepth := 20) only [go_sem, ↓reduceIte, d0, d1, d2, h0, z1, z2, r1, r2, q, Int.toNat_natCast, true_implies, false_implies]
        first | done | exact ⟨rfl, .ansM (.refl m)⟩ | exact rfl
      · have d2 : decide ((i : Int) < (n' : Int)) = false := by simp; omega
        rw [List.getElem?_eq_none (show ys.length ≤ i by omega)]
        simp (decide := true) (implicitDefEqProofs := false) (maxDischargeDepth := 20) only [go_sem, ↓reduceIte, d0, d1, d2, true_implies, false_implies]
        first | done | exact ⟨rfl, .refl m⟩ | exact rfl
    · have d1 : decide ((i : Int) < (n : Int)) = false := by simp; omega
      rw [List.getElem?_eq_none (show xs.length ≤ i by omega)]
      by_cases h2 : i < n'
      · have d2 : decide ((i : Int) < (n' : Int)) = true := by simp; omega
        rw [List.getElem?_eq_getElem (show i < ys.length by omega)]
        simp (decide := true) (implicitDefEqProofs := false) (maxDischargeDepth := 20) only [go_sem, ↓reduceIte, d0, d1, d2, true_implies, false_implies]
        first | done | exact ⟨rfl, .refl m⟩ | exact rfl
      · have d2 : decide ((i : Int) < (n' : Int)) = false := by simp; omega
        rw [List.getElem?_eq_none (show ys.length ≤ i by omega)]
        simp (decide := true) (implicitDefEqProofs := false) (maxDischargeDepth := 20) only [go_sem, ↓reduceIte, d0, d1, d2, true_implies, false_implies]
        first | done | exact ⟨rfl, .refl m⟩ | exact rfl
  · have d0 : decide (0 ≤ k) = false := by simpa using h0
    have e : colL xs ys k = 0 := by unfold colL cell; rw [if_neg h0, if_neg h0]; rfl
    rw [e]
    simp (decide := true) (implicitDefEqProofs := false) (maxDischargeDepth := 20) only [go_sem, ↓reduceIte, d0, true_implies, false_implies]
    first | done | exact ⟨rfl, .refl m⟩ | exact .refl m

/-- The first that is not nought. -/
def firstN : List Int → Int
  | [] => 0
  | x :: r => if x = 0 then firstN r else x
def cmpL (xs ys cols : List Int) : Int := firstN ((cols ++ (List.range (max xs.length ys.length)).map (fun i : Nat => (i : Int))).map (colL xs ys))
end Go.Proofs.Ytkbjkmhmkefckaa.W
