/-
  A heap of ints in memory: Pop.
-/
import Derived.Test.YthlcbacmbcmgfaaHeapC
namespace Go.Proofs.Ythlcbacmbcmgfaa.W
open Go.Abs
set_option linter.unusedSimpArgs false
set_option linter.unusedVariables false

theorem HeapB.sl {m : Mem} {h : Nat} {fv : Value} {c b : Nat} {s : Option Nat} {tg : Bool} {l rest : List Int} (H : HeapB m h fv l.length c b s tg (l ++ rest)) : SlA m 1 (some ⟨b, 0, s⟩) l.length c (l.map vI) where
  len := by simp
  cap := H.le
  loose := fun x hx => by cases hx; exact H.loose
  rows := fun x hx _ => by
    cases hx
    exact .of_blk H.blk (by simp) (by simp)
  nil := fun e => by cases e

theorem cut_eq (l rest : List Int) (h : 0 < l.length) : (((l ++ rest).map vI).set 0 (vI (gt l (l.length - 1)))).set (l.length - 1) (vI 0) = (cutL l ++ (0 :: rest)).map vI := by
  rw [← List.map_set, ← List.map_set]
  congr 1
  rw [List.set_append_left _ _ h, List.set_append_left _ _ (by simp; omega)]
  have e : (l.set 0 (gt l (l.length - 1))).set (l.length - 1) 0 = cutL l ++ [0] := by
    unfold cutL
    generalize hq : l.set 0 (gt l (l.length - 1)) = q
    have hl : q.length = l.length := by rw [← hq]; simp
    have hq0 : q = q.take (l.length - 1) ++ [q[l.length - 1]'(by omega)] := by
      conv => lhs; rw [← List.take_length (l := q), hl, show l.length = (l.length - 1) + 1 by omega, List.take_succ_eq_append_getElem (by omega)]
    have e2 : ∀ y, q.set (l.length - 1) y = q.take (l.length - 1) ++ [y] := by
      intro y
      conv => lhs; rw [hq0]
      have e3 : (q.take (l.length - 1)).length = l.length - 1 := by rw [List.length_take, hl]; omega
      rw [List.set_append_right _ _ (by omega), e3, Nat.sub_self]
      rfl
    exact e2 0
  rw [e, List.append_assoc]
  rfl

set_option maxRecDepth 100000 in
set_option maxHeartbeats 4000000 in
theorem Pop_at {Z : Nat → Option Blk} {m : Mem} {h : Nat} {fv : Value} {lt : Int → Int → Bool} {l : List Int} {A : Set'} (H : HeapAt m h fv l A) (hf : LessF Z fv lt) (z : Frozen Z m) (hz : ∀ i, A i → Z i = none) (hn : l.length ≤ 1000) :
    CallQ E F_heap_Heap_int_Pop [ptr h].toArray m fun w m' => w = .tuple #[vI (if l = [] then 0 else gt l 0), .bool (!l.isEmpty)] ∧ HeapAt m' h fv (popL lt l) A ∧ ChgS A m m' := by
  refine .enter fn_heap_Heap_int_Pop (by simp) ?_
  simp (decide := true) (implicitDefEqProofs := false) (maxDischargeDepth := 20) only [go_sem, ↓reduceIte, true_implies, false_implies]
  refine (Top_at H).mono ?_
  rintro w m1 ⟨rfl, rfl⟩
  by_cases hl : l = []
  · subst hl
    simp (decide := true) (implicitDefEqProofs := false) (maxDischargeDepth := 20) only [go_sem, List.isEmpty_nil, ↓reduceIte, true_implies, false_implies]
    exact ⟨rfl, H, .refl _ _⟩
  · have hl0 : 0 < l.length := List.length_pos_iff.2 hl
    have he : l.isEmpty = false := by simpa using hl
    rcases H with ⟨_, h2, _⟩ | ⟨c, b, s, tg, rest, H, hA⟩
    · exact absurd h2 hl
    have r1 := H.at1
    have ra := H.el (i := l.length - 1) (by rw [List.length_append]; omega)
    rw [gt_left _ _ (by omega)] at ra
    have gb := H.blk
    have lb := getM_lt gb
    have go := H.obj
    have lo := getM_lt go
    have w1 : IntKind.wrap .i64 ((l.length : Int) - 1) = ((l.length - 1 : Nat) : Int) := by rw [wrap_i64_id _ (by omega) (by omega)]; omega
    have z0 : (0 : Int) ≤ ((l.length - 1 : Nat) : Int) := by omega
    have z1 : ((l.length - 1 : Nat) : Int) < (l.length : Int) := by omega
    have z2 : (0 : Int) < (l.length : Int) := by omega
    have l1 : Int.toNat 0 + 1 ≤ (l ++ rest).length := by rw [List.length_append]; simp; omega
    have l2 : l.length - 1 + 1 ≤ (l ++ rest).length := by rw [List.length_append]; omega
    have sl := (H.sl.sliceTo (E := E) (k := .i64) (show l.length - 1 ≤ l.length by omega)).1 25 (by decide +kernel)
    have nhb := H.ne
    have nbh : ¬ b = h := fun e => nhb e.symm
    simp (decide := true) (implicitDefEqProofs := false) (maxDischargeDepth := 20) only [go_sem, he, nilOk, r1, ra, w1, z0, z1, z2, gb, lb, go, lo, l1, l2, sl, nhb, nbh, List.length_map, Int.toNat_natCast, ↓reduceIte, true_implies, false_implies]
    have ecut := cut_eq l rest hl0
    have e0 : Int.toNat 0 = 0 := rfl
    rw [e0, ecut]
    generalize hX : ((l ++ rest).map vI).set 0 (vI (gt l (l.length - 1))) = X
    have hlc : (cutL l).length = l.length - 1 := cutL_length l
    have hcap := H.cap
    rw [List.length_append] at hcap
    have H3 : HeapB (((m1.put b (some (.cells false tg X))).put b (some (.cells false tg ((cutL l ++ (0 :: rest)).map vI)))).put h (some (.cells false true [fv, .slice (some ⟨b, 0, s⟩) (l.length - 1) c]))) h fv (cutL l).length c b s tg (cutL l ++ (0 :: rest)) := by
      refine ⟨?_, ?_, nhb, by simp [hlc]; omega, by omega, H.loose⟩
      · rw [getM_put, if_pos ⟨rfl, by rw [size_put, size_put]; exact lo⟩, hlc]
      · rw [getM_put, if_neg (fun e => nbh e.1), getM_put, if_pos ⟨rfl, by rw [size_put]; exact lb⟩]
    have Ah : A h := (hA h).2 (.inl rfl)
    have Ab : A b := (hA b).2 (.inr rfl)
    have c1 : ChgS A m1 (((m1.put b (some (.cells false tg X))).put b (some (.cells false tg ((cutL l ++ (0 :: rest)).map vI)))).put h (some (.cells false true [fv, .slice (some ⟨b, 0, s⟩) (l.length - 1) c]))) :=
      (((ChgS.refl A m1).put _ _ (.inl Ab)).put _ _ (.inl Ab)).put _ _ (.inl Ah)
    refine (Sink_at H3 hf (z.chg c1 hz) ⟨hz h Ah, hz b Ab⟩ (by omega)).mono ?_
    rintro w m2 ⟨H4, c2⟩
    have epop : downL lt (cutL l).length (cutL l) 0 = popL lt l := by
      unfold popL
      rw [hlc]
      rfl
    rw [epop, hlc] at H4
    simp (decide := true) (implicitDefEqProofs := false) (maxDischargeDepth := 20) only [go_sem, ↓reduceIte, true_implies, false_implies]
    refine ⟨rfl, .inr ⟨c, b, s, tg, 0 :: rest, ?_, hA⟩, c1.trans c2 (fun _ h => h) fun i _ hi => (hA i).2 hi⟩
    rw [popL_length]
    exact H4
end Go.Proofs.Ythlcbacmbcmgfaa.W
