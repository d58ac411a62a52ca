/-
  RunsTexts: what a cut of texts that rise, or fall, yields.
-/
import Derived.Test.YthlcbacmbcmgfaaRSG
import Derived.Test.YthlcbacmbcmgfaaBook
namespace Go.Proofs.Ythlcbacmbcmgfaa.W
open Go.Abs
set_option linter.unusedSimpArgs false
set_option linter.unusedVariables false

theorem fillR_heap (xs : List Int) : IsHeap ltR (fillR xs) := by
  induction xs using snocInd with
  | h0 => exact heap_nil
  | h1 xs x ih => rw [fillR_snoc]; exact pushL_heap ltR_ord _ _ ih
theorem heapR_heap (xs : List Int) (b : Nat) : ∀ k, IsHeap ltR (heapR xs b k)
  | 0 => fillR_heap _
  | k + 1 => by
    rw [heapR_succ]
    split
    · exact pushL_heap ltR_ord _ _ (popL_heap ltR_ord _ (heapR_heap xs b k))
    · exact popL_heap ltR_ord _ (heapR_heap xs b k)

/-- What is in: each once, of what was taken. -/
structure InR (xs : List Int) (b k : Nat) (l : List (Int × Int)) : Prop where
  nd : (l.map Prod.snd).Nodup
  mem : ∀ p ∈ l, ∃ j, j < min xs.length (b + k) ∧ p.2 = xs.getD j 0

theorem fillR_snd (xs : List Int) : ((fillR xs).map Prod.snd).Perm xs := by
  induction xs using snocInd with
  | h0 => exact .refl _
  | h1 xs x ih =>
    rw [fillR_snoc]
    refine ((pushL_perm _ _).map Prod.snd).trans ?_
    rw [List.map_cons]
    exact (ih.cons x).trans (List.perm_append_singleton x xs).symm

section
variable {xs : List Int} {b : Nat} (hb : 0 < b) (inj : ∀ i j, i < xs.length → j < xs.length → xs.getD i 0 = xs.getD j 0 → i = j)
include hb inj

omit hb in
theorem xs_nodup : xs.Nodup := by
  rw [List.nodup_iff_pairwise_ne, List.pairwise_iff_getElem]
  intro i j hi hj hij e
  have := inj i j hi hj (by simp only [List.getD_eq_getElem?_getD, List.getElem?_eq_getElem hi, List.getElem?_eq_getElem hj, Option.getD_some]; exact e)
  omega

omit inj in
theorem yield_mem {k : Nat} (hk : k < xs.length) : yieldR xs b k ∈ heapR xs b k := by
  have hl := heapR_len xs b hb k (by omega)
  unfold yieldR
  rw [gt_getElem _ (by omega)]
  exact List.getElem_mem _

theorem heapR_in : ∀ k, k ≤ xs.length → InR xs b k (heapR xs b k)
  | 0, _ => by
    refine ⟨?_, fun p hp => ?_⟩
    · exact (fillR_snd (xs.take b)).nodup_iff.2 ((xs_nodup inj).sublist (List.take_sublist _ _))
    · have h1 : p.2 ∈ xs.take b := (fillR_snd (xs.take b)).subset (List.mem_map.2 ⟨p, hp, rfl⟩)
      obtain ⟨j, hj, e⟩ := List.getElem_of_mem h1
      rw [List.length_take] at hj
      refine ⟨j, by omega, ?_⟩
      rw [← e, List.getElem_take, List.getD_eq_getElem?_getD, List.getElem?_eq_getElem (by omega)]
      rfl
  | k + 1, h => by
    have ih := heapR_in k (by omega)
    have hl := heapR_len xs b hb k (by omega)
    have hne : heapR xs b k ≠ [] := by intro e; rw [e, List.length_nil] at hl; omega
    have pp := popL_perm (lt := ltR) (heapR xs b k) hne
    have nd1 := (pp.map Prod.snd).nodup_iff.2 ih.nd
    rw [List.map_cons, List.nodup_cons] at nd1
    have mem1 : ∀ p ∈ popL ltR (heapR xs b k), ∃ j, j < min xs.length (b + k) ∧ p.2 = xs.getD j 0 := fun p hp => ih.mem p (popL_sub hp)
    rw [heapR_succ]
    split
    · rename_i hlt
      refine ⟨?_, fun p hp => ?_⟩
      · refine ((pushL_perm _ _).map Prod.snd).nodup_iff.2 ?_
        rw [List.map_cons, List.nodup_cons]
        refine ⟨fun hm => ?_, nd1.2⟩
        obtain ⟨p, hp, e⟩ := List.mem_map.1 hm
        obtain ⟨j, hj, e2⟩ := mem1 p hp
        have e3 : xs.getD j 0 = xs.getD (b + k) 0 := by rw [← e2, e]; rfl
        have := inj j (b + k) (by omega) hlt e3
        omega
      · rcases List.mem_cons.1 ((pushL_perm _ _).subset hp) with rfl | hp
        · exact ⟨b + k, by omega, rfl⟩
        · obtain ⟨j, hj, e⟩ := mem1 p hp
          exact ⟨j, by omega, e⟩
    · exact ⟨nd1.2, fun p hp => by
        obtain ⟨j, hj, e⟩ := mem1 p hp
        exact ⟨j, by omega, e⟩⟩

/-- One yield behind the other. -/
theorem yield_step {k : Nat} (hk : k + 1 < xs.length) : ltR (yieldR xs b (k + 1)) (yieldR xs b k) = false ∧ (yieldR xs b (k + 1)).2 ≠ (yieldR xs b k).2 := by
  have hl := heapR_len xs b hb k (by omega)
  have hne : heapR xs b k ≠ [] := by intro e; rw [e, List.length_nil] at hl; omega
  have pp := popL_perm (lt := ltR) (heapR xs b k) hne
  have ih := heapR_in hb inj k (by omega)
  have nd1 := (pp.map Prod.snd).nodup_iff.2 ih.nd
  rw [List.map_cons, List.nodup_cons] at nd1
  have top : ∀ p ∈ popL ltR (heapR xs b k), ltR p (yieldR xs b k) = false ∧ p.2 ≠ (yieldR xs b k).2 := fun p hp => by
    obtain ⟨j, hj, e⟩ := gt_mem _ (popL_sub hp)
    refine ⟨?_, fun e2 => nd1.1 (List.mem_map.2 ⟨p, hp, e2⟩)⟩
    rw [← e]
    exact heap_top ltR_ord _ (heapR_heap xs b k) j hj
  have hm := yield_mem hb hk
  rw [heapR_succ] at hm
  split at hm
  · rename_i hlt
    rcases List.mem_cons.1 ((pushL_perm _ _).subset hm) with e | hm
    · rw [e]
      refine ⟨?_, ?_⟩
      · unfold nextR
        rw [ltR_false]
        simp only
        split <;> omega
      · obtain ⟨j, hj, e2⟩ := ih.mem _ (yield_mem hb (k := k) (by omega))
        rw [e2]
        intro e3
        have e4 : xs.getD (b + k) 0 = xs.getD j 0 := e3
        have := inj (b + k) j hlt (by omega) e4
        omega
    · exact top _ hm
  · exact top _ hm

/-- The runs of what is in, when what falls is cut. -/
theorem runs_down (hd : ∀ i j, i < j → j < xs.length → xs.getD j 0 % 256 < xs.getD i 0 % 256) : ∀ k, k ≤ xs.length → ((heapR xs b k).map Prod.fst).Perm ((List.range' k (min b (xs.length - k))).map fun j => ((j / b : Nat) : Int)) ∧ (k < xs.length → (yieldR xs b k).1 = ((k / b : Nat) : Int)) := by
  intro k
  -- the least run
  have least : ∀ k, k < xs.length → ((heapR xs b k).map Prod.fst).Perm ((List.range' k (min b (xs.length - k))).map fun j => ((j / b : Nat) : Int)) → (yieldR xs b k).1 = ((k / b : Nat) : Int) := by
    intro k hk hp
    have hm := hp.subset (List.mem_map.2 ⟨_, yield_mem hb hk, rfl⟩)
    obtain ⟨j, hj, e⟩ := List.mem_map.1 hm
    rw [List.mem_range'_1] at hj
    have h1 : k / b ≤ j / b := Nat.div_le_div_right hj.1
    have h2 : ((k / b : Nat) : Int) ∈ (heapR xs b k).map Prod.fst := hp.symm.subset (List.mem_map.2 ⟨k, by rw [List.mem_range'_1]; omega, rfl⟩)
    obtain ⟨p, hp2, e2⟩ := List.mem_map.1 h2
    obtain ⟨q, hq, e3⟩ := gt_mem _ hp2
    have h3 := heap_top ltR_ord _ (heapR_heap xs b k) q hq
    rw [e3, ltR_false] at h3
    have e4 : gt (heapR xs b k) 0 = yieldR xs b k := rfl
    rw [e4] at h3
    omega
  induction k with
  | zero =>
    intro h
    have e : ((heapR xs b 0).map Prod.fst).Perm ((List.range' 0 (min b (xs.length - 0))).map fun j => ((j / b : Nat) : Int)) := by
      have e1 : (heapR xs b 0).map Prod.fst = List.replicate (min b xs.length) 0 := by
        rw [List.eq_replicate_iff]
        refine ⟨by rw [List.length_map, heapR_len xs b hb 0 (by omega)]; rfl, fun x hx => ?_⟩
        obtain ⟨p, hp, rfl⟩ := List.mem_map.1 hx
        exact fillR_mem _ p hp
      have e2 : (List.range' 0 (min b (xs.length - 0))).map (fun j => ((j / b : Nat) : Int)) = List.replicate (min b xs.length) 0 := by
        rw [List.eq_replicate_iff]
        refine ⟨by rw [List.length_map, List.length_range']; rfl, fun x hx => ?_⟩
        obtain ⟨j, hj, rfl⟩ := List.mem_map.1 hx
        rw [List.mem_range'_1] at hj
        rw [Nat.div_eq_of_lt (by omega)]
        rfl
      rw [e1, e2]
    exact ⟨e, fun hk => least 0 hk e⟩
  | succ k ih =>
    intro h
    obtain ⟨ih1, ih2⟩ := ih (by omega)
    have ih2 := ih2 (by omega)
    have hl := heapR_len xs b hb k (by omega)
    have hne : heapR xs b k ≠ [] := by intro e; rw [e, List.length_nil] at hl; omega
    have pp := (popL_perm (lt := ltR) (heapR xs b k) hne).map Prod.fst
    rw [List.map_cons] at pp
    have er : List.range' k (min b (xs.length - k)) = k :: List.range' (k + 1) (min b (xs.length - k) - 1) := by
      conv => lhs; rw [show min b (xs.length - k) = (min b (xs.length - k) - 1) + 1 by omega]
      rfl
    have p1 := pp.trans ih1
    rw [er, List.map_cons, show (gt (heapR xs b k) 0).1 = ((k / b : Nat) : Int) from ih2] at p1
    have p2 := (List.perm_cons _).1 p1
    have e : ((heapR xs b (k + 1)).map Prod.fst).Perm ((List.range' (k + 1) (min b (xs.length - (k + 1)))).map fun j => ((j / b : Nat) : Int)) := by
      rw [heapR_succ]
      split
      · rename_i hlt
        refine ((pushL_perm _ _).map Prod.fst).trans ?_
        rw [List.map_cons]
        have hx : (nextR (yieldR xs b k) (xs.getD (b + k) 0)).1 = (((b + k) / b : Nat) : Int) := by
          obtain ⟨j, hj, e2⟩ := (heapR_in hb inj k (by omega)).mem _ (yield_mem hb (k := k) (by omega))
          have := hd j (b + k) (by omega) hlt
          unfold nextR
          rw [e2]
          simp only
          rw [if_pos this, ih2, Nat.add_div_left k hb]
          omega
        rw [hx, show min b (xs.length - (k + 1)) = (min b (xs.length - k) - 1) + 1 by omega, List.range'_1_concat, List.map_append, List.map_cons, List.map_nil]
        refine (p2.cons _).trans ?_
        rw [show k + 1 + (min b (xs.length - k) - 1) = b + k by omega]
        exact (List.perm_append_singleton _ _).symm
      · rename_i hlt
        rw [show min b (xs.length - (k + 1)) = min b (xs.length - k) - 1 by omega]
        exact p2
    exact ⟨e, fun hk => least (k + 1) hk e⟩

/-- Of what rises there is one run. -/
theorem runs_up (hu : ∀ i j, i < j → j < xs.length → xs.getD i 0 % 256 < xs.getD j 0 % 256) : ∀ k, k ≤ xs.length → (∀ p ∈ heapR xs b k, p.1 = 0) ∧ (k < xs.length → (yieldR xs b k).1 = 0) := by
  intro k
  induction k with
  | zero => intro h; exact ⟨fun p hp => fillR_mem _ p hp, fun hk => fillR_mem _ _ (yield_mem hb hk)⟩
  | succ k ih =>
    intro h
    obtain ⟨ih1, ih2⟩ := ih (by omega)
    have ih2 := ih2 (by omega)
    have e : ∀ p ∈ heapR xs b (k + 1), p.1 = 0 := by
      intro p hp
      rw [heapR_succ] at hp
      split at hp
      · rename_i hlt
        rcases List.mem_cons.1 ((pushL_perm _ _).subset hp) with rfl | hp
        · obtain ⟨j, hj, e2⟩ := (heapR_in hb inj k (by omega)).mem _ (yield_mem hb (k := k) (by omega))
          have := hu j (b + k) (by omega) hlt
          unfold nextR
          rw [e2]
          simp only
          rw [if_neg (by omega), ih2]
        · exact ih1 p (popL_sub hp)
      · exact ih1 p (popL_sub hp)
    exact ⟨e, fun hk => e _ (yield_mem hb hk)⟩
end

/-- The texts of a play. -/
def txt (k : Nat) (down : Bool) (i : Nat) : Int := 65 + (if down then (k : Int) - (i : Int) else (i : Int))
def txts (k : Nat) (down : Bool) : List Int := (List.range k).map (txt k down)
theorem txts_len (k : Nat) (down : Bool) : (txts k down).length = k := by simp [txts]
theorem txts_get {k : Nat} (down : Bool) {i : Nat} (h : i < k) : (txts k down).getD i 0 = txt k down i := by
  unfold txts
  rw [List.getD_eq_getElem?_getD, List.getElem?_map, List.getElem?_range h]
  rfl
theorem txts_take {k : Nat} (down : Bool) {i : Nat} (h : i < k) : (txts k down).take (i + 1) = (txts k down).take i ++ [txt k down i] := by
  have h' : i < (txts k down).length := by rw [txts_len]; exact h
  have e : (txts k down)[i]'h' = txt k down i := by
    have e2 := txts_get down h
    rw [List.getD_eq_getElem?_getD, List.getElem?_eq_getElem h'] at e2
    exact e2
  rw [List.take_succ_eq_append_getElem h', e]
/-- What is told of a play. -/
theorem play_told {k b : Nat} (hk : k ≤ 40) (hb : 0 < b) (down : Bool) {i : Nat} (hi : i < k) :
    (yieldR (txts k down) b i).1 = (if down then ((i / b : Nat) : Int) else 0) ∧ (0 < i → (yieldR (txts k down) b (i - 1)).1 = (yieldR (txts k down) b i).1 → (yieldR (txts k down) b (i - 1)).2 % 256 < (yieldR (txts k down) b i).2 % 256) := by
  have inj : ∀ i j, i < (txts k down).length → j < (txts k down).length → (txts k down).getD i 0 = (txts k down).getD j 0 → i = j := by
    intro i j hi hj e
    rw [txts_len] at hi hj
    rw [txts_get down hi, txts_get down hj] at e
    unfold txt at e
    cases down
    · simp only [Bool.false_eq_true, if_false] at e; omega
    · simp only [if_true] at e; omega
  refine ⟨?_, fun h0 e => ?_⟩
  · cases down with
    | true =>
      refine (runs_down hb inj (fun i j hij hj => ?_) i (by rw [txts_len]; omega)).2 (by rw [txts_len]; omega)
      rw [txts_len] at hj
      rw [txts_get true hj, txts_get true (by omega)]
      unfold txt
      simp only [if_true]
      omega
    | false =>
      refine (runs_up hb inj (fun i j hij hj => ?_) i (by rw [txts_len]; omega)).2 (by rw [txts_len]; omega)
      rw [txts_len] at hj
      rw [txts_get false hj, txts_get false (by omega)]
      unfold txt
      simp only [Bool.false_eq_true, if_false]
      omega
  · have h := yield_step hb inj (k := i - 1) (by rw [txts_len]; omega)
    rw [show i - 1 + 1 = i by omega] at h
    obtain ⟨h1, h2⟩ := h
    rw [ltR_false] at h1
    have rg : ∀ q, q < k → 65 ≤ (yieldR (txts k down) b q).2 ∧ (yieldR (txts k down) b q).2 ≤ 105 := fun q hq => by
      obtain ⟨j, hj, e2⟩ := (heapR_in hb inj q (by rw [txts_len]; omega)).mem _ (yield_mem hb (k := q) (by rw [txts_len]; omega))
      rw [txts_len] at hj
      rw [e2, txts_get down (by omega)]
      unfold txt
      split <;> omega
    have r1 := rg i hi
    have r2 := rg (i - 1) (by omega)
    omega
end Go.Proofs.Ythlcbacmbcmgfaa.W
