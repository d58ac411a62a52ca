/-
  A heap of ints in memory: New, Len, Top, Push.
-/
import Derived.Test.YthlcbacmbcmgfaaHeapP
import Derived.Test.YthlcbacmbcmgfaaCodeHeap
namespace Go.Proofs.Ythlcbacmbcmgfaa.W
open Go.Abs
set_option linter.unusedSimpArgs false
set_option linter.unusedVariables false

abbrev ptr (b : Nat) : Value := .pointer (some ⟨b, 0, none⟩)
abbrev vI (x : Int) : Value := .int .i64 x

/-- A function value that compares, and leaves all as it is. -/
def LessF (Z : Nat → Option Blk) (fv : Value) (lt : Int → Int → Bool) : Prop := ∀ a b m, Frozen Z m → CallF E fv [vI a, vI b] m fun w m' => w = .bool (lt a b) ∧ Old m m'

/-- The object, and the block of its list. -/
structure HeapB (m : Mem) (h : Nat) (fv : Value) (n c b : Nat) (s : Option Nat) (tg : Bool) (L : List Int) : Prop where
  obj : m.get h = some (.cells false true [fv, .slice (some ⟨b, 0, s⟩) n c])
  blk : m.get b = some (.cells false tg (L.map vI))
  ne : h ≠ b
  cap : c = L.length
  le : n ≤ c
  loose : looseOk ⟨b, 0, s⟩ 1 = true

/-- A heap with these in it; A are its blocks. -/
def HeapAt (m : Mem) (h : Nat) (fv : Value) (l : List Int) (A : Set') : Prop :=
  (m.get h = some (.cells false true [fv, .slice none 0 0]) ∧ l = [] ∧ ∀ i, A i ↔ i = h) ∨
  ∃ c b s tg rest, HeapB m h fv l.length c b s tg (l ++ rest) ∧ ∀ i, A i ↔ i = h ∨ i = b

theorem HeapB.keep {m m' : Mem} {h : Nat} {fv : Value} {n c b : Nat} {s : Option Nat} {tg : Bool} {L : List Int} (H : HeapB m h fv n c b s tg L) (k1 : m'.get h = m.get h) (k2 : m'.get b = m.get b) : HeapB m' h fv n c b s tg L :=
  ⟨k1.trans H.obj, k2.trans H.blk, H.ne, H.cap, H.le, H.loose⟩
theorem HeapAt.loc (h : Nat) (fv : Value) (l : List Int) : LocP fun m A => HeapAt m h fv l A := by
  rintro m m' A (⟨h1, h2, h3⟩ | ⟨c, b, s, tg, rest, H, hA⟩) hk hs
  · exact .inl ⟨by rw [hk h ((h3 h).2 rfl)]; exact h1, h2, h3⟩
  · exact .inr ⟨c, b, s, tg, rest, H.keep (hk h ((hA h).2 (.inl rfl))) (hk b ((hA b).2 (.inr rfl))), hA⟩
theorem HeapAt.lt {m : Mem} {h : Nat} {fv : Value} {l : List Int} {A : Set'} (H : HeapAt m h fv l A) : ∀ i, A i → i < m.size := by
  rcases H with ⟨h1, h2, h3⟩ | ⟨c, b, s, tg, rest, H, hA⟩
  · intro i hi; rw [(h3 i).1 hi]; exact getM_lt h1
  · intro i hi
    rcases (hA i).1 hi with rfl | rfl
    · exact getM_lt H.obj
    · exact getM_lt H.blk
theorem HeapAt.old {m m' : Mem} {h : Nat} {fv : Value} {l : List Int} {A : Set'} (H : HeapAt m h fv l A) (o : Old m m') : HeapAt m' h fv l A := HeapAt.loc h fv l m m' A H (fun i hi => o.get (H.lt i hi)) o.size

set_option maxRecDepth 100000 in
theorem New_at {m : Mem} {f : Fn} {fa fb : Array Value} : CallQ E F_heap_New_int [.func f fa fb].toArray m fun w m' => w = ptr m.size ∧ HeapAt m' m.size (.func f fa fb) [] (fun i => i = m.size) ∧ Old m m' := by
  refine .enter fn_heap_New_int (by simp) ?_
  simp (decide := true) (implicitDefEqProofs := false) (maxDischargeDepth := 20) only [go_sem, ↓reduceIte, true_implies, false_implies]
  exact .inl ⟨by rw [getM_push, if_pos rfl], rfl, fun _ => Iff.rfl⟩

set_option maxRecDepth 100000 in
theorem Len_at {m : Mem} {h : Nat} {fv : Value} {l : List Int} {A : Set'} (H : HeapAt m h fv l A) : CallQ E F_heap_Heap_int_Len [ptr h].toArray m fun w m' => w = .int .i64 l.length ∧ m' = m := by
  refine .enter fn_heap_Heap_int_Len (by simp) ?_
  rcases H with ⟨h1, rfl, h3⟩ | ⟨c, b, s, tg, rest, H, hA⟩
  · have r : m.at h (0 + 1) = some (.slice none 0 0) := by unfold Mem.at; rw [h1]; rfl
    simp (decide := true) (implicitDefEqProofs := false) (maxDischargeDepth := 20) only [go_sem, nilOk, r, ↓reduceIte, true_implies, false_implies]
    first | done | rfl
  · have r : m.at h (0 + 1) = some (.slice (some ⟨b, 0, s⟩) l.length c) := by unfold Mem.at; rw [H.obj]; rfl
    simp (decide := true) (implicitDefEqProofs := false) (maxDischargeDepth := 20) only [go_sem, nilOk, r, ↓reduceIte, true_implies, false_implies]

set_option maxRecDepth 100000 in
theorem Top_at {m : Mem} {h : Nat} {fv : Value} {l : List Int} {A : Set'} (H : HeapAt m h fv l A) : CallQ E F_heap_Heap_int_Top [ptr h].toArray m fun w m' => w = .tuple #[vI (if l = [] then 0 else gt l 0), .bool (!l.isEmpty)] ∧ m' = m := by
  refine .enter fn_heap_Heap_int_Top (by simp) ?_
  rcases H with ⟨h1, rfl, h3⟩ | ⟨c, b, s, tg, rest, H, hA⟩
  · have r : m.at h (0 + 1) = some (.slice none 0 0) := by unfold Mem.at; rw [h1]; rfl
    simp (decide := true) (implicitDefEqProofs := false) (maxDischargeDepth := 20) only [go_sem, nilOk, r, ↓reduceIte, true_implies, false_implies]
    first | done | rfl | exact ⟨rfl, rfl⟩
  · have r : m.at h (0 + 1) = some (.slice (some ⟨b, 0, s⟩) l.length c) := by unfold Mem.at; rw [H.obj]; rfl
    cases l with
    | nil =>
      simp (decide := true) (implicitDefEqProofs := false) (maxDischargeDepth := 20) only [go_sem, nilOk, r, List.length_nil, ↓reduceIte, true_implies, false_implies]
      first | done | rfl | exact ⟨rfl, rfl⟩
    | cons x t =>
      have d1 : (((t.length + 1 : Nat) : Int) == 0) = false := by rw [beq_eq_false_iff_ne]; omega
      have z1 : (0 : Int) < ((t.length + 1 : Nat) : Int) := by omega
      have rb : m.at b (Int.toNat 0) = some (vI x) := by unfold Mem.at; rw [H.blk]; rfl
      simp (decide := true) (implicitDefEqProofs := false) (maxDischargeDepth := 20) only [go_sem, nilOk, r, d1, z1, rb, List.length_cons, ↓reduceIte, true_implies, false_implies]
      first | done | rfl | exact ⟨rfl, rfl⟩
end Go.Proofs.Ythlcbacmbcmgfaa.W
