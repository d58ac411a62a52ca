/-
  A heap of pairs in memory: New, Top.
-/
import Derived.Test.YthlcbacmbcmgfaaHeapA
namespace Go.Proofs.Ythlcbacmbcmgfaa.W
open Go.Abs
set_option linter.unusedSimpArgs false
set_option linter.unusedVariables false

/-- A text of one byte; none of nought. -/
def bs (x : Int) : ByteArray := ⟨if x % 256 = 0 then #[] else #[UInt8.ofNat (x % 256).toNat]⟩
abbrev sv (x : Int) : Value := .string (bs x)
theorem sv0 : (Value.string ⟨#[]⟩) = sv 0 := rfl
/-- A pair's cells, and many pairs' cells. -/
def p2 (p : Int × Int) : List Value := [vI p.1, sv p.2]
def pV (p : Int × Int) : Value := .agg #[vI p.1, sv p.2]
def pC (l : List (Int × Int)) : List Value := (l.map p2).flatten
theorem pC_cons (p : Int × Int) (l : List (Int × Int)) : pC (p :: l) = vI p.1 :: sv p.2 :: pC l := by unfold pC; rw [List.map_cons, List.flatten_cons]; rfl
theorem pC_append (l r : List (Int × Int)) : pC (l ++ r) = pC l ++ pC r := by unfold pC; rw [List.map_append, List.flatten_append]
theorem pC_len : ∀ l : List (Int × Int), (pC l).length = l.length * 2
  | [] => rfl
  | p :: l => by rw [pC_cons, List.length_cons, List.length_cons, pC_len l, List.length_cons]; omega
theorem pC_row : ∀ (l : List (Int × Int)) (i : Nat), i < l.length → ((pC l).drop (i * 2)).take 2 = p2 (gt l i)
  | [], i, h => by simp at h
  | p :: l, 0, _ => by rw [pC_cons]; rfl
  | p :: l, i + 1, h => by
    rw [pC_cons, show (i + 1) * 2 = i * 2 + 2 by omega]
    show ((pC l).drop (i * 2)).take 2 = _
    rw [pC_row l i (by simpa using h)]
    rfl
theorem pC_set : ∀ (l : List (Int × Int)) (i : Nat) (p : Int × Int), i < l.length → ((pC l).set (i * 2) (vI p.1)).set (i * 2 + 1) (sv p.2) = pC (l.set i p)
  | [], i, p, h => by simp at h
  | q :: l, 0, p, _ => by rw [pC_cons]; show _ = pC (p :: l); rw [pC_cons]; rfl
  | q :: l, i + 1, p, h => by
    show _ = pC (q :: l.set i p)
    rw [pC_cons, pC_cons, show (i + 1) * 2 = (i * 2 + 1) + 1 by omega, show i * 2 + 1 + 1 + 1 = (i * 2 + 1 + 1) + 1 from rfl]
    rw [List.set_cons_succ, List.set_cons_succ, List.set_cons_succ, List.set_cons_succ, pC_set l i p (by simpa using h)]
theorem pC_take (l : List (Int × Int)) (n : Nat) : (pC l).take (n * 2) = pC (l.take n) := by
  induction l generalizing n with
  | nil => simp [pC]
  | cons p l ih =>
    cases n with
    | zero => simp [pC]
    | succ n =>
      rw [pC_cons, show (n + 1) * 2 = n * 2 + 1 + 1 by omega, List.take_succ_cons, List.take_succ_cons, ih, List.take_succ_cons, pC_cons]

/-- A function value that compares pairs, and leaves all as it is. -/
def LessP (Z : Nat → Option Blk) (fv : Value) (lt : Int × Int → Int × Int → Bool) : Prop := ∀ a b m, Frozen Z m → CallF E fv [pV a, pV b] m fun w m' => w = .bool (lt a b) ∧ Old m m'

structure HeapBP (m : Mem) (h : Nat) (fv : Value) (n c b : Nat) (s : Option Nat) (tg : Bool) (L : List (Int × Int)) : Prop where
  obj : m.get h = some (.cells false true [fv, .slice (some ⟨b, 0, s⟩) n c])
  blk : m.get b = some (.cells false tg (pC L))
  ne : h ≠ b
  cap : c = L.length
  le : n ≤ c
  loose : looseOk ⟨b, 0, s⟩ 2 = true
def HeapAtP (m : Mem) (h : Nat) (fv : Value) (l : List (Int × Int)) (A : Set') : Prop :=
  (m.get h = some (.cells false true [fv, .slice none 0 0]) ∧ l = [] ∧ ∀ i, A i ↔ i = h) ∨
  ∃ c b s tg rest, HeapBP m h fv l.length c b s tg (l ++ rest) ∧ ∀ i, A i ↔ i = h ∨ i = b

theorem HeapBP.keep {m m' : Mem} {h : Nat} {fv : Value} {n c b : Nat} {s : Option Nat} {tg : Bool} {L : List (Int × Int)} (H : HeapBP m h fv n c b s tg L) (k1 : m'.get h = m.get h) (k2 : m'.get b = m.get b) : HeapBP m' h fv n c b s tg L :=
  ⟨k1.trans H.obj, k2.trans H.blk, H.ne, H.cap, H.le, H.loose⟩
theorem HeapAtP.loc (h : Nat) (fv : Value) (l : List (Int × Int)) : LocP fun m A => HeapAtP m h fv l A := by
  rintro m m' A (⟨h1, h2, h3⟩ | ⟨c, b, s, tg, rest, H, hA⟩) hk hs
  · exact .inl ⟨by rw [hk h ((h3 h).2 rfl)]; exact h1, h2, h3⟩
  · exact .inr ⟨c, b, s, tg, rest, H.keep (hk h ((hA h).2 (.inl rfl))) (hk b ((hA b).2 (.inr rfl))), hA⟩
theorem HeapAtP.lt {m : Mem} {h : Nat} {fv : Value} {l : List (Int × Int)} {A : Set'} (H : HeapAtP m h fv l A) : ∀ i, A i → i < m.size := by
  rcases H with ⟨h1, h2, h3⟩ | ⟨c, b, s, tg, rest, H, hA⟩
  · intro i hi; rw [(h3 i).1 hi]; exact getM_lt h1
  · intro i hi
    rcases (hA i).1 hi with rfl | rfl
    · exact getM_lt H.obj
    · exact getM_lt H.blk
theorem HeapAtP.old {m m' : Mem} {h : Nat} {fv : Value} {l : List (Int × Int)} {A : Set'} (H : HeapAtP m h fv l A) (o : Old m m') : HeapAtP m' h fv l A := HeapAtP.loc h fv l m m' A H (fun i hi => o.get (H.lt i hi)) o.size
/-- What a load of a pair reads. -/
theorem HeapBP.row {m : Mem} {h : Nat} {fv : Value} {n c b : Nat} {s : Option Nat} {tg : Bool} {L : List (Int × Int)} (H : HeapBP m h fv n c b s tg L) {i : Nat} (hi : i < L.length) : m.rows b (i * 2) 2 = some [vI (gt L i).1, sv (gt L i).2] := by
  have r := pC_row L i hi
  have hl := pC_len L
  unfold Mem.rows
  rw [H.blk]
  simp only [Option.bind_some, Blk.rows]
  rw [if_pos (by omega), r]
  rfl

set_option maxRecDepth 100000 in
theorem NewP_at {m : Mem} {f : Fn} {fa fb : Array Value} : CallQ E F_heap_New_runs_Item_string [.func f fa fb].toArray m fun w m' => w = ptr m.size ∧ HeapAtP m' m.size (.func f fa fb) [] (fun i => i = m.size) ∧ Old m m' := by
  refine .enter fn_heap_New_runs_Item_string (by simp) ?_
  simp (decide := true) (implicitDefEqProofs := false) (maxDischargeDepth := 20) only [go_sem, ↓reduceIte, true_implies, false_implies]
  exact .inl ⟨by rw [getM_push, if_pos rfl], rfl, fun _ => Iff.rfl⟩

@[go_sem] theorem ResK_ct {t : Fr} {m : Mem} (K : Value → Mem → Prop) (i j : Nat) (a : TypeId) : ResK E [.cell i a, .tmp j] K t m = match loadV E m a (t i) with
    | some v => K (.tuple #[v, t j]) m
    | none => False := by
  unfold ResK resultsF resultsF resultsF
  cases loadV E m a (t i) <;> rfl

set_option maxRecDepth 100000 in
theorem TopP_at {m : Mem} {h : Nat} {fv : Value} {l : List (Int × Int)} {A : Set'} (H : HeapAtP m h fv l A) : CallQ E F_heap_Heap_runs_Item_string_Top [ptr h].toArray m fun w m' => w = .tuple #[pV (if l = [] then (0, 0) else gt l 0), .bool (!l.isEmpty)] ∧ Old m m' := by
  refine .enter fn_heap_Heap_runs_Item_string_Top (by simp) ?_
  rcases H with ⟨h1, rfl, h3⟩ | ⟨c, b, s, tg, rest, H, hA⟩
  · have r : m.at h (0 + 1) = some (.slice none 0 0) := by unfold Mem.at; rw [h1]; rfl
    have lh := getM_lt h1
    have n1 : ¬ h = m.size := by omega
    simp (decide := true) (implicitDefEqProofs := false) (maxDischargeDepth := 20) only [go_sem, nilOk, r, lh, n1, ↓reduceIte, true_implies, false_implies]
    rfl
  · have r : m.at h (0 + 1) = some (.slice (some ⟨b, 0, s⟩) l.length c) := by unfold Mem.at; rw [H.obj]; rfl
    have lh := getM_lt H.obj
    have lb := getM_lt H.blk
    have n1 : ¬ h = m.size := by omega
    have n2 : ¬ b = m.size := by omega
    cases l with
    | nil =>
      simp (decide := true) (implicitDefEqProofs := false) (maxDischargeDepth := 20) only [go_sem, nilOk, r, lh, n1, n2, List.length_nil, ↓reduceIte, true_implies, false_implies]
      rfl
    | cons x t =>
      have d1 : (((t.length + 1 : Nat) : Int) == 0) = false := by rw [beq_eq_false_iff_ne]; omega
      have z1 : (0 : Int) < ((t.length + 1 : Nat) : Int) := by omega
      have rb : m.rows b (Int.toNat 0 * 2) 2 = some [vI x.1, sv x.2] := H.row (i := 0) (by simp)
      simp (decide := true) (implicitDefEqProofs := false) (maxDischargeDepth := 20) only [go_sem, nilOk, r, lh, lb, n1, n2, d1, z1, rb, List.length_cons, ↓reduceIte, true_implies, false_implies]
      rfl
end Go.Proofs.Ythlcbacmbcmgfaa.W
