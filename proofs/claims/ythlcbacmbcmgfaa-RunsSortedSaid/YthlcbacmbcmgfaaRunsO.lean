/-
  RunsSorted: what a cut yields: each run rises, all is there, runs are long enough, what rises is one run. RunsSorted: the counts of what went in; what came out, step by step. RunsSorted: the law.
-/
import Derived.Test.YthlcbacmbcmgfaaRunsK
import Derived.Test.YthlcbacmbcmgfaaAbs31
namespace Go.Proofs.Ythlcbacmbcmgfaa.W
open Go.Abs
set_option linter.unusedSimpArgs false
set_option linter.unusedVariables false
set_option linter.unusedSectionVars false


/-! ### RunsM -/

section sorted
variable {xs : List Int} {b : Nat} (hb : 0 < b)
include hb

theorem heapR_ne {k : Nat} (hk : k < xs.length) : heapR xs b k ≠ [] := by
  intro e
  have := heapR_len xs b hb k (by omega)
  rw [e, List.length_nil] at this
  omega
theorem yield_in {k : Nat} (hk : k < xs.length) : yieldR xs b k ∈ heapR xs b k := by
  have hl := heapR_len xs b hb k (by omega)
  unfold yieldR
  rw [gt_getElem _ (by omega)]
  exact List.getElem_mem _
theorem yield_least {k : Nat} {p : Int × Int} (hp : p ∈ heapR xs b k) : ltR p (yieldR xs b k) = false := by
  obtain ⟨j, hj, e⟩ := gt_mem _ hp
  rw [← e]
  exact heap_top ltR_ord _ (heapR_heap xs b k) j hj
theorem heapR_perm {k : Nat} (hk : k < xs.length) : (yieldR xs b k :: heapR xs b (k + 1)).Perm (if b + k < xs.length then nextR (yieldR xs b k) (xs.getD (b + k) 0) :: heapR xs b k else heapR xs b k) := by
  have hp := popL_perm (lt := ltR) _ (heapR_ne hb hk)
  rw [heapR_succ]
  split
  · refine ((pushL_perm (lt := ltR) _ _).cons _).trans ((List.Perm.swap _ _ _).trans (List.Perm.cons _ hp))
  · exact hp
theorem heapR_old {k : Nat} (hk : k < xs.length) {p : Int × Int} (hp : p ∈ heapR xs b (k + 1)) : p ∈ heapR xs b k ∨ (b + k < xs.length ∧ p = nextR (yieldR xs b k) (xs.getD (b + k) 0)) := by
  have h := (heapR_perm hb hk).subset (List.mem_cons_of_mem _ hp)
  split at h
  · rename_i hlt
    rcases List.mem_cons.1 h with h | h
    · exact .inr ⟨hlt, h⟩
    · exact .inl h
  · exact .inl h

theorem heapR_two : ∀ k, k ≤ xs.length → ∃ r : Int, ∀ p ∈ heapR xs b k, r ≤ p.1 ∧ p.1 ≤ r + 1
  | 0, _ => ⟨0, fun p hp => by have := fillR_mem _ p hp; omega⟩
  | k + 1, h => by
    obtain ⟨r, hr⟩ := heapR_two k (by omega)
    have hy := hr _ (yield_in hb (k := k) (by omega))
    refine ⟨(yieldR xs b k).1, fun p hp => ?_⟩
    rcases heapR_old hb (by omega) hp with h1 | ⟨_, rfl⟩
    · have h2 := (ltR_false _ _).1 (yield_least hb h1)
      have h3 := hr p h1
      omega
    · unfold nextR
      simp only
      split <;> omega
/-- What is left lies behind what went out. -/
theorem heapR_after {k : Nat} (hk : k < xs.length) {p : Int × Int} (hp : p ∈ heapR xs b (k + 1)) : ltR p (yieldR xs b k) = false ∧ p.1 ≤ (yieldR xs b k).1 + 1 := by
  obtain ⟨r, hr⟩ := heapR_two hb (xs := xs) k (by omega)
  have hy := hr _ (yield_in hb hk)
  rcases heapR_old hb hk hp with h1 | ⟨_, rfl⟩
  · have h3 := hr p h1
    exact ⟨yield_least hb h1, by omega⟩
  · unfold nextR
    rw [ltR_false]
    simp only
    split <;> omega
theorem yield_next {k : Nat} (hk : k + 1 < xs.length) : (yieldR xs b k).1 ≤ (yieldR xs b (k + 1)).1 ∧ (yieldR xs b (k + 1)).1 ≤ (yieldR xs b k).1 + 1 ∧ ((yieldR xs b (k + 1)).1 = (yieldR xs b k).1 → (yieldR xs b k).2 ≤ (yieldR xs b (k + 1)).2) := by
  have h := heapR_after hb (xs := xs) (k := k) (by omega) (yield_in hb hk)
  have h1 := (ltR_false _ _).1 h.1
  have h2 := h.2
  refine ⟨by omega, h2, fun e => by omega⟩
theorem yield_zero (h : 0 < xs.length) : (yieldR xs b 0).1 = 0 := by
  have := yieldR_run xs b hb 0 h
  omega

theorem fillR_perm (ys : List Int) : ((fillR ys).map Prod.snd).Perm ys := by
  induction ys using snocInd with
  | h0 => exact List.Perm.nil
  | h1 ys x ih =>
    rw [fillR_snoc]
    refine ((pushL_perm (lt := ltR) _ _).map _).trans ?_
    exact (ih.cons x).trans (List.perm_append_singleton x ys).symm

theorem cut_perm : ∀ k, k ≤ xs.length → ((takeR (yieldR xs b) k).map Prod.snd ++ ((heapR xs b k).map Prod.snd ++ xs.drop (b + k))).Perm xs
  | 0, _ => by
    show ([] ++ ((fillR (xs.take b)).map Prod.snd ++ xs.drop (b + 0))).Perm xs
    have := (fillR_perm hb (xs.take b)).append_right (xs.drop b)
    rw [List.take_append_drop] at this
    exact this
  | k + 1, h => by
    have ih := cut_perm k (by omega)
    refine List.Perm.trans ?_ ih
    rw [takeR_succ, List.map_append, List.append_assoc]
    refine List.Perm.append_left _ ?_
    have hp := (heapR_perm hb (xs := xs) (b := b) (k := k) (by omega)).map Prod.snd
    show (Prod.snd (yieldR xs b k) :: ((heapR xs b (k + 1)).map Prod.snd ++ xs.drop (b + (k + 1)))).Perm _
    rw [← List.cons_append, ← List.map_cons]
    refine (hp.append_right _).trans ?_
    split
    · rename_i hlt
      rw [List.map_cons, List.drop_eq_getElem_cons hlt]
      have e : Prod.snd (nextR (yieldR xs b k) (xs.getD (b + k) 0)) = xs[b + k] := by
        unfold nextR
        rw [List.getD_eq_getElem?_getD, List.getElem?_eq_getElem hlt]
        rfl
      rw [e, List.cons_append]
      exact List.perm_middle.symm
    · rename_i hlt
      rw [List.drop_of_length_le (by omega), List.drop_of_length_le (by omega)]
/-- All that went in is there. -/
theorem cut_all : ((takeR (yieldR xs b) xs.length).map Prod.snd).Perm xs := by
  have h := cut_perm hb (xs := xs) xs.length (Nat.le_refl _)
  have hl := heapR_len xs b hb xs.length (Nat.le_refl _)
  rw [List.eq_nil_of_length_eq_zero (l := heapR xs b xs.length) (by omega), List.drop_of_length_le (by omega), List.map_nil, List.append_nil, List.append_nil] at h
  exact h

/-- How many are left of a run go out of it. -/
theorem left_out (r : Int) : ∀ j k, k + j = xs.length → (heapR xs b k).countP (fun p => p.1 == r) + ((takeR (yieldR xs b) k).map Prod.fst).count r ≤ ((takeR (yieldR xs b) xs.length).map Prod.fst).count r
  | 0, k, h => by
    have hl := heapR_len xs b hb k (by omega)
    rw [List.eq_nil_of_length_eq_zero (l := heapR xs b k) (by omega), show k = xs.length by omega]
    simp
  | j + 1, k, h => by
    have ih := left_out r j (k + 1) (by omega)
    rw [takeR_succ, List.map_append, List.count_append] at ih
    have hp := (heapR_perm hb (xs := xs) (b := b) (k := k) (by omega)).countP_eq (fun p => p.1 == r)
    rw [List.countP_cons] at hp
    have h1 : (heapR xs b k).countP (fun p => p.1 == r) ≤ (if b + k < xs.length then nextR (yieldR xs b k) (xs.getD (b + k) 0) :: heapR xs b k else heapR xs b k).countP (fun p => p.1 == r) := by
      split
      · rw [List.countP_cons]; omega
      · exact Nat.le_refl _
    have h2 : List.count r (List.map Prod.fst [yieldR xs b k]) = if ((yieldR xs b k).1 == r) = true then 1 else 0 := by
      simp only [List.map_cons, List.map_nil, List.count_singleton]
    rw [h2] at ih
    omega

/-- Where a run begins. -/
theorem first_of {r : Int} (hr : 0 < r) : ∀ k, k < xs.length → r ≤ (yieldR xs b k).1 → ∃ q, q + 1 ≤ k ∧ (yieldR xs b q).1 < r ∧ r ≤ (yieldR xs b (q + 1)).1
  | 0, h, hk => by have := yield_zero hb h; omega
  | k + 1, h, hk => by
    by_cases hq : r ≤ (yieldR xs b k).1
    · obtain ⟨q, h1, h2⟩ := first_of hr k (by omega) hq
      exact ⟨q, by omega, h2⟩
    · exact ⟨k, Nat.le_refl _, by omega, hk⟩

/-- When nothing is taken in any more, all that is left is of the run that all are of. -/
theorem last_run {r : Int} {k : Nat} (hk : xs.length ≤ b + k) (h : ∀ p ∈ heapR xs b k, p.1 = r) : ∀ j, k + j < xs.length → ∀ p ∈ heapR xs b (k + j), p.1 = r
  | 0, _ => h
  | j + 1, hj => fun p hp => by
    rcases heapR_old hb (k := k + j) (by omega) hp with h1 | ⟨h1, _⟩
    · exact last_run hk h j (by omega) p h1
    · omega

/-- Each run but the last is as long as the budget. -/
theorem run_long {r : Int} (h0 : 0 ≤ r) (hn : 0 < xs.length) (hr : r < (yieldR xs b (xs.length - 1)).1) : b ≤ ((takeR (yieldR xs b) xs.length).map Prod.fst).count r := by
  obtain ⟨k, hk, hall⟩ : ∃ k, k < xs.length ∧ ∀ p ∈ heapR xs b k, p.1 = r := by
    by_cases hz : r = 0
    · subst hz
      exact ⟨0, hn, fillR_mem _⟩
    · obtain ⟨q, h1, h2, h3⟩ := first_of hb (xs := xs) (r := r) (by omega) (xs.length - 1) (by omega) (by omega)
      refine ⟨q + 1, by omega, fun p hp => ?_⟩
      have h4 := heapR_after hb (xs := xs) (k := q) (by omega) hp
      have h5 := (ltR_false _ _).1 (yield_least hb hp)
      omega
  have hl := heapR_len xs b hb k (by omega)
  by_cases hlt : xs.length ≤ b + k
  · exfalso
    have := last_run hb hlt hall (xs.length - 1 - k) (by omega) _ (by
      have := yield_in hb (xs := xs) (k := k + (xs.length - 1 - k)) (by omega)
      exact this)
    rw [show k + (xs.length - 1 - k) = xs.length - 1 by omega] at this
    omega
  · have h1 := left_out hb (xs := xs) r (xs.length - k) k (by omega)
    have h2 : (heapR xs b k).countP (fun p => p.1 == r) = (heapR xs b k).length := by
      rw [List.countP_eq_length]
      intro p hp
      simpa using hall p hp
    omega

/-- What rises is one run. -/
theorem rise_one (hs : ∀ i j, i ≤ j → j < xs.length → xs.getD i 0 ≤ xs.getD j 0) : ∀ k, k ≤ xs.length → ∀ p ∈ heapR xs b k, p.1 = 0 ∧ ∃ i, i < b + k ∧ i < xs.length ∧ p.2 = xs.getD i 0
  | 0, _, p, hp => by
    refine ⟨fillR_mem _ p hp, ?_⟩
    have h1 : p.2 ∈ xs.take b := (fillR_perm hb _).subset (List.mem_map.2 ⟨p, hp, rfl⟩)
    obtain ⟨i, hi, e⟩ := List.getElem_of_mem h1
    rw [List.length_take] at hi
    refine ⟨i, by omega, by omega, ?_⟩
    rw [← e, List.getElem_take, List.getD_eq_getElem?_getD, List.getElem?_eq_getElem (by omega)]
    rfl
  | k + 1, h, p, hp => by
    have ih := rise_one hs k (by omega)
    rcases heapR_old hb (by omega) hp with h1 | ⟨hlt, rfl⟩
    · obtain ⟨h2, i, h3, h4, h5⟩ := ih p h1
      exact ⟨h2, i, by omega, h4, h5⟩
    · obtain ⟨h2, i, h3, h4, h5⟩ := ih _ (yield_in hb (k := k) (by omega))
      have h6 := hs i (b + k) (by omega) hlt
      unfold nextR
      simp only
      refine ⟨?_, b + k, by omega, hlt, rfl⟩
      rw [if_neg (by omega)]
      exact h2
theorem rise_zero (hs : ∀ i j, i ≤ j → j < xs.length → xs.getD i 0 ≤ xs.getD j 0) {k : Nat} (hk : k < xs.length) : (yieldR xs b k).1 = 0 := (rise_one hb hs k (by omega) _ (yield_in hb hk)).1
end sorted

/-- How often, as a map tells. -/
def cntK (l l' : List Int) : Int → Option Value := fun y => if l.count y = 0 then none else some (vI ((l.count y : Int) - (l'.count y : Int)))
theorem cntK_look (l l' : List Int) (x : Int) (h : l.count x = 0 → l'.count x = 0) : ((cntK l l') x).getD (vI 0) = vI ((l.count x : Int) - (l'.count x : Int)) := by
  unfold cntK
  split
  · rename_i h0; rw [h0, h h0]; rfl
  · rfl
theorem cntK_add (l : List Int) (x : Int) : ∀ y, updK (cntK l []) x (vI ((l.count x : Int) + 1)) y = cntK (l ++ [x]) [] y := by
  intro y
  unfold updK cntK
  rw [List.count_append, List.count_singleton]
  by_cases hy : y = x
  · subst hy
    rw [if_pos rfl, if_neg (by simp)]
    simp
  · have : (x == y) = false := by simpa using fun e => hy e.symm
    rw [if_neg hy, this]
    simp
theorem cntK_sub (l l' : List Int) (x : Int) (h : l.count x ≠ 0) : ∀ y, updK (cntK l l') x (vI ((l.count x : Int) - (l'.count x : Int) - 1)) y = cntK l (l' ++ [x]) y := by
  intro y
  unfold updK cntK
  rw [List.count_append, List.count_singleton]
  by_cases hy : y = x
  · subst hy
    rw [if_pos rfl, if_neg h]
    simp only [beq_self_eq_true, if_true]
    congr 2
    omega
  · have : (x == y) = false := by simpa using fun e => hy e.symm
    rw [if_neg hy, this]
    simp


/-! ### RunsN -/

theorem kmap65 : IsKMap keyI E 65 (vI 0) := ⟨_, _, map65, rfl⟩
theorem lookI65 {m : Mem} {b N : Nat} {f : Int → Option Value} (h : KMap keyI m b f N) (x : Int) : lookupV E m 65 (.map (some b)) (.int .i64 x) false = some ((f x).getD (vI 0)) := h.look kmap65 x
theorem updI65 {m : Mem} {b N : Nat} {f : Int → Option Value} (h : KMap keyI m b f N) (x : Int) (v : Value) : ∃ m', mapUpdateV E m 65 (.map (some b)) (.int .i64 x) v = some m' ∧ KMap keyI m' b (updK f x v) (if (f x).isSome then N else N + 1) ∧ m'.size = m.size ∧ ∀ i, i ≠ b → m'.get i = m.get i := h.upd kmap65 x v

set_option maxRecDepth 100000 in
set_option maxHeartbeats 8000000 in
theorem Sorted_count {m : Mem} {t : Fr} {a : Option Addr} {n c qb : Nat} {xs : List Int} (hl : xs.length = n) (hn : n ≤ 60) (hS : ∀ m', (∀ i, i ≠ qb → m'.get i = m.get i) → SlA m' 1 a n c (xs.map (.int .i64))) (hQ : KMap keyI m qb (fun _ => none) 0)
    (t5 : t 5 = .slice a n c) (t9 : t 9 = .map (some qb)) {K : Post3}
    (hK : ∀ t' m' N, Agree (writes c_sheaflaw11_RunsSorted_8) t t' → KMap keyI m' qb (cntK xs []) N → (∀ i, i ≠ qb → m'.get i = m.get i) → m'.size = m.size → K .normal t' m') :
    wpM E F_sheaflaw11_RunsSorted 189 none c_sheaflaw11_RunsSorted_8 K t m := by
  refine wpM_cut (fun t' m' => ∃ N, KMap keyI m' qb (cntK xs []) N ∧ (∀ i, i ≠ qb → m'.get i = m.get i) ∧ m'.size = m.size) ?_ fun t' m' ha ⟨N, h1, h2, h3⟩ => hK t' m' N ha h1 h2 h3
  simp (decide := true) (implicitDefEqProofs := false) (maxDischargeDepth := 20) only [c_sheaflaw11_RunsSorted_8_at, go_sem, ↓reduceIte, t5, true_implies, false_implies]
  refine wpM_loopA (fun j t' m' => ∃ i N, j = n - i ∧ i ≤ n ∧ t' 36 = .int .i64 (i : Nat) ∧ KMap keyI m' qb (cntK (xs.take i) []) N ∧ (∀ i, i ≠ qb → m'.get i = m.get i) ∧ m'.size = m.size) n ⟨0, 0, by omega, by omega, by simp (decide := true) only [go_sem, ↓reduceIte]; rfl, hQ.fn fun x => by simp [cntK], fun _ _ => rfl, rfl⟩ ?_
  rintro j t' m1 ha ⟨i, N, rfl, hi, e36, Q, hk, hz⟩
  have a9 := ha 9 (by decide +kernel)
  have a34 := ha 34 (by decide +kernel)
  have a35 := ha 35 (by decide +kernel)
  simp (decide := true) only [go_sem, t5, t9, ↓reduceIte] at a9 a34 a35
  by_cases hlt : i < n
  · have d1 : decide ((i : Int) < (n : Int)) = true := by simp; omega
    have w1 : IntKind.wrap .i64 ((i : Int) + 1) = ((i + 1 : Nat) : Int) := by rw [wrap_i64_id _ (by omega) (by omega)]; omega
    have S := hS m1 hk
    obtain ⟨ab, ao, asp, rfl⟩ := S.addr (by omega)
    have r0 : m1.at ab (ao + i) = some (.int .i64 (xs[i]'(by omega))) := S.at_map (show i < n by omega)
    have z0 : (0 : Int) ≤ (i : Int) := by omega
    have z1 : (i : Int) < (n : Int) := by omega
    obtain ⟨x, hx⟩ : ∃ x, x = xs[i]'(by omega) := ⟨_, rfl⟩
    rw [← hx] at r0
    have look := lookI65 Q x
    rw [cntK_look _ _ _ (fun _ => by simp)] at look
    simp only [List.count_nil, Int.ofNat_zero, Int.sub_zero, Int.natCast_zero] at look
    have hcl : (xs.take i).count x ≤ 60 := by
      have := List.count_le_length (a := x) (l := xs.take i)
      rw [List.length_take] at this
      omega
    have w2 : IntKind.wrap .i64 (((xs.take i).count x : Int) + 1) = ((xs.take i).count x : Int) + 1 := wrap_i64_id _ (by omega) (by omega)
    obtain ⟨m2, hu, Q2, s2, g2⟩ := updI65 Q x (vI (((xs.take i).count x : Int) + 1))
    simp (decide := true) (implicitDefEqProofs := false) (maxDischargeDepth := 20) only [go_sem, ↓reduceIte, a9, a34, a35, e36, d1, w1, w2, r0, z0, z1, look, hu, Option.map_some, Int.toNat_natCast, true_implies, false_implies]
    refine ⟨n - (i + 1), by omega, i + 1, _, rfl, by omega, rfl, (Q2.fn fun y => ?_), fun q hq => (g2 q hq).trans (hk q hq), s2.trans hz⟩
    rw [cntK_add, List.take_succ_eq_append_getElem (show i < xs.length by omega), ← hx]
  · have d1 : decide ((i : Int) < (n : Int)) = false := by simp; omega
    simp (decide := true) (implicitDefEqProofs := false) (maxDischargeDepth := 20) only [go_sem, ↓reduceIte, a35, e36, d1, true_implies, false_implies]
    rw [List.take_of_length_le (by omega)] at Q
    exact ⟨N, Q, hk, hz⟩

/-! ### The runs so far -/
def runsC (xs : List Int) (b k : Nat) : List Int := (takeR (yieldR xs b) k).map Prod.fst
def outC (xs : List Int) (b k : Nat) : List Int := (takeR (yieldR xs b) k).map Prod.snd
theorem runsC_succ (xs : List Int) (b k : Nat) : runsC xs b (k + 1) = runsC xs b k ++ [(yieldR xs b k).1] := by unfold runsC; rw [takeR_succ, List.map_append]; rfl
theorem outC_succ (xs : List Int) (b k : Nat) : outC xs b (k + 1) = outC xs b k ++ [(yieldR xs b k).2] := by unfold outC; rw [takeR_succ, List.map_append]; rfl
theorem runsC_len (xs : List Int) (b k : Nat) : (runsC xs b k).length = k := by unfold runsC; rw [List.length_map, takeR_len]
theorem outC_len (xs : List Int) (b k : Nat) : (outC xs b k).length = k := by unfold outC; rw [List.length_map, takeR_len]
theorem runsC_mem {xs : List Int} {b : Nat} (hb : 0 < b) : ∀ k, k < xs.length → ∀ r ∈ runsC xs b (k + 1), r ≤ (yieldR xs b k).1
  | 0, _, r, hr => by
    rw [runsC_succ] at hr
    simp [runsC, takeR] at hr
    omega
  | k + 1, h, r, hr => by
    rw [runsC_succ] at hr
    rcases List.mem_append.1 hr with hr | hr
    · have := runsC_mem hb k (by omega) r hr
      have := (yield_next hb (xs := xs) (k := k) h).1
      omega
    · rw [List.mem_singleton.1 hr]; omega
/-- How many runs there are. -/
def numC (xs : List Int) (b : Nat) : Nat → Nat
  | 0 => 0
  | k + 1 => ((yieldR xs b k).1 + 1).toNat
theorem numC_succ {xs : List Int} {b : Nat} (hb : 0 < b) (k : Nat) (h : k < xs.length) : (if ((cntK (runsC xs b k) []) (yieldR xs b k).1).isSome then numC xs b k else numC xs b k + 1) = numC xs b (k + 1) := by
  cases k with
  | zero =>
    have h1 := yield_zero hb h
    have h2 : runsC xs b 0 = [] := rfl
    rw [h2]
    unfold cntK
    simp [numC, h1]
  | succ k =>
    have h1 := yield_next hb h
    have h2 := runsC_mem hb (xs := xs) k (by omega)
    have h3 := (yieldR_run xs b hb k (by omega)).1
    by_cases he : (yieldR xs b (k + 1)).1 = (yieldR xs b k).1
    · have h4 : (runsC xs b (k + 1)).count (yieldR xs b (k + 1)).1 ≠ 0 := by
        rw [he, runsC_succ]
        simp
      unfold cntK
      rw [if_neg h4]
      simp only [Option.isSome_some, if_true]
      show ((yieldR xs b k).1 + 1).toNat = ((yieldR xs b (k + 1)).1 + 1).toNat
      rw [he]
    · have h4 : (runsC xs b (k + 1)).count (yieldR xs b (k + 1)).1 = 0 := by
        rw [List.count_eq_zero]
        intro hm
        have := h2 _ hm
        omega
      unfold cntK
      rw [if_pos h4]
      show ((yieldR xs b k).1 + 1).toNat + 1 = ((yieldR xs b (k + 1)).1 + 1).toNat
      omega
theorem gt_takeR' (f : Nat → Int × Int) {k i : Nat} (h : i < k) : gt (takeR f k) i = f i := by
  unfold gt takeR
  rw [List.getD_eq_getElem?_getD, List.getElem?_map, List.getElem?_range h]
  rfl

set_option maxRecDepth 100000 in
set_option maxHeartbeats 16000000 in
theorem Sorted_told {B : Nat} {m : Mem} {t : Fr} {a : Option Addr} {n b qb sb N : Nat} {xs : List Int} (hl : xs.length = n) (hn : n ≤ 60) (hb : 0 < b) (hV : ∀ m', (∀ i, i < m.size → i ≠ qb → i ≠ sb → m'.get i = m.get i) → m.size ≤ m'.size → Vec B m' 2 a n (pC (takeR (yieldR xs b) n)))
    (hQ : KMap keyI m qb (cntK xs []) N) (hR : KMap keyI m sb (fun _ => none) 0) (hne : qb ≠ sb) (t8 : t 8 = .slice a n n) (t9 : t 9 = .map (some qb)) (t12 : t 12 = .map (some sb)) {K : Post3}
    (hK : ∀ t' m' N', Agree (writes c_sheaflaw11_RunsSorted_22) t t' → KMap keyI m' qb (cntK xs (outC xs b n)) N' → KMap keyI m' sb (cntK (runsC xs b n) []) (numC xs b n) → (∀ i, i < m.size → i ≠ qb → i ≠ sb → m'.get i = m.get i) → m.size ≤ m'.size → K .normal t' m') :
    wpM E F_sheaflaw11_RunsSorted 189 none c_sheaflaw11_RunsSorted_22 K t m := by
  refine wpM_cut (fun t' m' => ∃ N', KMap keyI m' qb (cntK xs (outC xs b n)) N' ∧ KMap keyI m' sb (cntK (runsC xs b n) []) (numC xs b n) ∧ (∀ i, i < m.size → i ≠ qb → i ≠ sb → m'.get i = m.get i) ∧ m.size ≤ m'.size) ?_ fun t' m' ha ⟨N', h1, h2, h3, h4⟩ => hK t' m' N' ha h1 h2 h3 h4
  simp (decide := true) (implicitDefEqProofs := false) (maxDischargeDepth := 20) only [c_sheaflaw11_RunsSorted_22_at, go_sem, ↓reduceIte, t8, true_implies, false_implies]
  have lq0 := hQ.blk
  have ls0 := hR.blk
  refine wpM_loopA (fun j t' m' => ∃ i N', j = n - i ∧ i ≤ n ∧ t' 48 = .int .i64 (i : Nat) ∧ KMap keyI m' qb (cntK xs (outC xs b i)) N' ∧ KMap keyI m' sb (cntK (runsC xs b i) []) (numC xs b i) ∧ (∀ i, i < m.size → i ≠ qb → i ≠ sb → m'.get i = m.get i) ∧ m.size ≤ m'.size) n ⟨0, N, by omega, by omega, by simp (decide := true) only [go_sem, ↓reduceIte]; rfl, hQ.fn fun x => rfl, hR.fn fun x => by simp [cntK, runsC, takeR], fun _ _ _ _ => rfl, Nat.le_refl _⟩ ?_
  rintro j t' m1 ha ⟨i, N', rfl, hi, e48, Q, R, hk, hz⟩
  have a8 := ha 8 (by decide +kernel)
  have a9 := ha 9 (by decide +kernel)
  have a12 := ha 12 (by decide +kernel)
  have a46 := ha 46 (by decide +kernel)
  have a47 := ha 47 (by decide +kernel)
  simp (decide := true) only [go_sem, t8, t9, t12, ↓reduceIte] at a8 a9 a12 a46 a47
  by_cases hlt : i < n
  · have d1 : decide ((i : Int) < (n : Int)) = true := by simp; omega
    have w1 : IntKind.wrap .i64 ((i : Int) + 1) = ((i + 1 : Nat) : Int) := by rw [wrap_i64_id _ (by omega) (by omega)]; omega
    have V1 := hV m1 hk hz
    obtain ⟨bI, oI, sI, rfl⟩ := V1.sl.addr (by omega)
    obtain ⟨_, hoff, _⟩ := V1.blk _ rfl
    have hoff : oI = 0 := hoff
    subst hoff
    obtain ⟨r1, r2, r3⟩ := vecRowR V1 (i := i) (by rw [takeR_len]; exact hlt)
    rw [gt_takeR' _ hlt] at r1 r2 r3
    have lbI : bI < m1.size := V1.lt rfl
    have nbI : ¬ bI = m1.size := by omega
    have z0 : (0 : Int) ≤ (i : Int) := by omega
    have z1 : (i : Int) < (n : Int) := by omega
    have hyr := yieldR_run xs b hb i (by omega)
    have hnum := numC_succ hb i (by omega) (xs := xs)
    have hrs := runsC_succ xs b i
    have hos := outC_succ xs b i
    have hyin : xs.count (yieldR xs b i).2 ≠ 0 := by
      have h1 := (cut_all hb (xs := xs)).count_eq (yieldR xs b i).2
      rw [← h1]
      have : (yieldR xs b i).2 ∈ (takeR (yieldR xs b) xs.length).map Prod.snd := by
        refine List.mem_map.2 ⟨yieldR xs b i, ?_, rfl⟩
        unfold takeR
        exact List.mem_map.2 ⟨i, List.mem_range.2 (by omega), rfl⟩
      rw [Ne, List.count_eq_zero]
      exact fun h => h this
    have pp : 0 < i → (yieldR xs b (i - 1)).1 ≤ (yieldR xs b i).1 ∧ (yieldR xs b i).1 ≤ (yieldR xs b (i - 1)).1 + 1 ∧ ((yieldR xs b i).1 = (yieldR xs b (i - 1)).1 → (yieldR xs b (i - 1)).2 ≤ (yieldR xs b i).2) := fun h => by
      have := yield_next hb (xs := xs) (k := i - 1) (by omega)
      rw [show i - 1 + 1 = i by omega] at this
      exact this
    have pz : i = 0 → (yieldR xs b i).1 = 0 := fun h => by rw [h]; exact yield_zero hb (by omega)
    have hvr : 0 < i → 0 ≤ (yieldR xs b (i - 1)).1 ∧ (yieldR xs b (i - 1)).1 ≤ 60 := fun h => by
      have := yieldR_run xs b hb (i - 1) (by omega)
      omega
    obtain ⟨y, hy⟩ : ∃ y, y = yieldR xs b i := ⟨_, rfl⟩
    rw [← hy] at r1 r2 r3 hyr hnum hrs hos hyin pp pz
    -- the box of the round, and the maps in it
    obtain ⟨m2, hm2⟩ : ∃ m2, m2 = (m1.push (.cells false true [.int .i64 0, .int .i64 0])).put m1.size (some (.cells false true [vI y.1, vI y.2])) := ⟨_, rfl⟩
    have g2 : ∀ q, q < m1.size → m2.get q = m1.get q := fun q hq => by rw [hm2, getM_put, if_neg (by omega), getM_push, if_neg (by omega)]
    have s2 : m2.size = m1.size + 1 := by rw [hm2, size_put, size_push]
    have gx : m2.get m1.size = some (.cells false true [vI y.1, vI y.2]) := by rw [hm2, getM_put, if_pos ⟨rfl, by simp⟩]
    have x0 : m2.at m1.size 0 = some (vI y.1) := get_at0 gx
    have x1 : m2.at m1.size 1 = some (vI y.2) := by unfold Mem.at; rw [gx]; rfl
    have lq := Q.blk
    have ls := R.blk
    have Q2 := Q.keep (g2 qb lq)
    have R2 := R.keep (g2 sb ls)
    have look := lookI65 Q2 y.2
    rw [cntK_look _ _ _ (fun h => absurd h hyin)] at look
    have hc1 : xs.count y.2 ≤ 60 := by have := List.count_le_length (a := y.2) (l := xs); omega
    have hc2 : (outC xs b i).count y.2 ≤ 60 := by have := List.count_le_length (a := y.2) (l := outC xs b i); rw [outC_len] at this; omega
    have w3 : IntKind.wrap .i64 ((xs.count y.2 : Int) - ((outC xs b i).count y.2 : Int) - 1) = (xs.count y.2 : Int) - ((outC xs b i).count y.2 : Int) - 1 := wrap_i64_id _ (by omega) (by omega)
    obtain ⟨m3, hu3, Q3, s3, g3⟩ := updI65 Q2 y.2 (vI ((xs.count y.2 : Int) - ((outC xs b i).count y.2 : Int) - 1))
    have gx3 := (g3 m1.size (by omega)).trans gx
    have x3 : m3.at m1.size 0 = some (vI y.1) := get_at0 gx3
    have R3 := R2.keep (g3 sb (Ne.symm hne))
    have look3 := lookI65 R3 y.1
    rw [cntK_look _ _ _ (fun _ => by simp)] at look3
    simp only [List.count_nil, Int.sub_zero, Int.natCast_zero] at look3
    have hc3 : (runsC xs b i).count y.1 ≤ 60 := by have := List.count_le_length (a := y.1) (l := runsC xs b i); rw [runsC_len] at this; omega
    have w4 : IntKind.wrap .i64 (((runsC xs b i).count y.1 : Int) + 1) = ((runsC xs b i).count y.1 : Int) + 1 := wrap_i64_id _ (by omega) (by omega)
    obtain ⟨m4, hu4, R4, s4, g4⟩ := updI65 R3 y.1 (vI (((runsC xs b i).count y.1 : Int) + 1))
    have fin : ∃ j, j < n - i ∧ ∃ i' N', j = n - i' ∧ i' ≤ n ∧ (Value.int .i64 ((i + 1 : Nat) : Int)) = .int .i64 (i' : Nat) ∧ KMap keyI m4 qb (cntK xs (outC xs b i')) N' ∧ KMap keyI m4 sb (cntK (runsC xs b i') []) (numC xs b i') ∧ (∀ i, i < m.size → i ≠ qb → i ≠ sb → m4.get i = m.get i) ∧ m.size ≤ m4.size := by
      refine ⟨n - (i + 1), by omega, i + 1, _, rfl, by omega, rfl, (Q3.keep (g4 qb hne)).fn fun z => ?_, ?_, fun q h1 h2 h3 => ?_, by omega⟩
      · rw [cntK_sub _ _ _ hyin, hos]
      · have h := R4.fn (g := cntK (runsC xs b (i + 1)) []) fun z => by rw [cntK_add, hrs]
        rw [hnum] at h
        exact h
      · rw [g4 q h3, g3 q h2, g2 q (by omega), hk q h1 h2 h3]
    by_cases h0 : i = 0
    · have d2 : decide ((i : Int) > 0) = false := by simp; omega
      have d3 : ((i : Int) == 0) = true := by simp; omega
      have q1 : (y.1 != 0) = false := by simp [pz h0]
      simp (decide := true) (implicitDefEqProofs := false) (maxDischargeDepth := 20) only [go_sem, ↓reduceIte, a8, a9, a12, a46, a47, e48, d1, d2, d3, w1, w3, w4, r1, r2, r3, nbI, z0, z1, q1, ← hm2, x0, x1, x3, look, hu3, look3, hu4, Option.map_some, Int.toNat_natCast, true_implies, false_implies]
      exact fin
    · have d2 : decide ((i : Int) > 0) = true := by simp; omega
      have d3 : ((i : Int) == 0) = false := by simp; omega
      obtain ⟨u1, u2, u3⟩ := vecRowR V1 (i := i - 1) (by rw [takeR_len]; omega)
      rw [gt_takeR' _ (by omega)] at u1 u2 u3
      have pp := pp (by omega)
      have hvr := hvr (by omega)
      obtain ⟨v, hv⟩ : ∃ v, v = yieldR xs b (i - 1) := ⟨_, rfl⟩
      rw [← hv] at u1 u2 u3 pp hvr
      have w2 : IntKind.wrap .i64 ((i : Int) - 1) = ((i - 1 : Nat) : Int) := by rw [wrap_i64_id _ (by omega) (by omega)]; omega
      have w5 : IntKind.wrap .i64 (v.1 + 1) = v.1 + 1 := wrap_i64_id _ (by omega) (by omega)
      have y0 : (0 : Int) ≤ ((i - 1 : Nat) : Int) := by omega
      have y1 : ((i - 1 : Nat) : Int) < (n : Int) := by omega
      have u22 : m2.at bI ((i - 1) * 2) = some (vI v.1) := by unfold Mem.at at u2 ⊢; rw [g2 _ lbI]; exact u2
      have u33 : m2.at bI ((i - 1) * 2 + 1) = some (vI v.2) := by unfold Mem.at at u3 ⊢; rw [g2 _ lbI]; exact u3
      have d4 : decide (y.1 < v.1) = false := by simp; omega
      have d5 : decide (y.1 > v.1 + 1) = false := by simp; omega
      by_cases he : y.1 = v.1
      · have d6 : (y.1 == v.1) = true := by simpa using he
        have d7 : decide (y.2 < v.2) = false := by have := pp.2.2 he; simp; omega
        simp (decide := true) (implicitDefEqProofs := false) (maxDischargeDepth := 20) only [go_sem, ↓reduceIte, a8, a9, a12, a46, a47, e48, d1, d2, d3, d4, d5, d6, d7, w1, w2, w3, w4, w5, r1, r2, r3, u22, u33, nbI, z0, z1, y0, y1, ← hm2, x0, x1, x3, look, hu3, look3, hu4, Option.map_some, Int.toNat_natCast, true_implies, false_implies]
        exact fin
      · have d6 : (y.1 == v.1) = false := by simpa using he
        simp (decide := true) (implicitDefEqProofs := false) (maxDischargeDepth := 20) only [go_sem, ↓reduceIte, a8, a9, a12, a46, a47, e48, d1, d2, d3, d4, d5, d6, w1, w2, w3, w4, w5, r1, r2, r3, u22, u33, nbI, z0, z1, y0, y1, ← hm2, x0, x1, x3, look, hu3, look3, hu4, Option.map_some, Int.toNat_natCast, true_implies, false_implies]
        exact fin
  · have d1 : decide ((i : Int) < (n : Int)) = false := by simp; omega
    obtain rfl : i = n := by omega
    simp (decide := true) (implicitDefEqProofs := false) (maxDischargeDepth := 20) only [go_sem, ↓reduceIte, a47, e48, d1, true_implies, false_implies]
    exact ⟨N', Q, R, hk, hz⟩


/-! ### RunsO -/

theorem CallX_enter {f : FuncId} {n i : Nat} {c : MC} (hf : FnIs E f n [.tmp i] c) (hmo : ((E.fn f).map fun i => mapsOk E i.code) = some true) {args : List Value} (hs : args.length ≤ n) {m : Mem}
    (hro : ∀ i c, m.get i = some c → c.writable = false) (h : WpX E f n c (retK fun t m' => resultsF E m' t [.tmp i] = some [.bool true]) (initU 0 args undefF) m) : CallX Try.prog tab f args m :=
  CallX.of_wpx facts hf hmo hs hro h

set_option maxRecDepth 100000 in
set_option maxHeartbeats 8000000 in
theorem Sorted_rise {m : Mem} {t : Fr} {a : Option Addr} {n c : Nat} {xs : List Int} (hl : xs.length = n) (hn : n ≤ 60) (S : SlA m 1 a n c (xs.map (.int .i64))) (t5 : t 5 = .slice a n c) (t18 : t 18 = .bool true) {K : Post3}
    (hK : ∀ t' (v : Bool), Agree (writes c_sheaflaw11_RunsSorted_55) t t' → t' 18 = .bool v → (v = true → ∀ j, j + 1 < n → xs.getD j 0 ≤ xs.getD (j + 1) 0) → K .normal t' m) :
    wpM E F_sheaflaw11_RunsSorted 189 none c_sheaflaw11_RunsSorted_55 K t m := by
  refine wpM_cut (fun t' m' => m' = m ∧ ∃ v : Bool, t' 18 = .bool v ∧ (v = true → ∀ j, j + 1 < n → xs.getD j 0 ≤ xs.getD (j + 1) 0)) ?_ fun t' m' ha ⟨h1, v, h2, h3⟩ => by subst h1; exact hK t' v ha h2 h3
  simp (decide := true) (implicitDefEqProofs := false) (maxDischargeDepth := 20) only [c_sheaflaw11_RunsSorted_55_at, go_sem, ↓reduceIte, true_implies, false_implies]
  refine wpM_loopA (fun j t' m' => m' = m ∧ ∃ (i : Nat) (v : Bool), 1 ≤ i ∧ i ≤ n + 1 ∧ j = n + 1 - i ∧ t' 19 = .int .i64 (i : Nat) ∧ t' 18 = .bool v ∧ (v = true → ∀ j, j + 1 < i → j + 1 < n → xs.getD j 0 ≤ xs.getD (j + 1) 0)) n ⟨rfl, 1, true, by omega, by omega, by omega, by simp (decide := true) only [go_sem, ↓reduceIte]; rfl, by simp (decide := true) only [go_sem, t18, ↓reduceIte], fun _ j h1 => by omega⟩ ?_
  rintro j t' m1 ha ⟨rfl, i, v, hi1, hi, rfl, e19, e18, hv⟩
  have a5 := ha 5 (by decide +kernel)
  simp (decide := true) only [go_sem, t5, ↓reduceIte] at a5
  by_cases hlt : i < n
  · have d1 : decide ((i : Int) < (n : Int)) = true := by simp; omega
    have w1 : IntKind.wrap .i64 ((i : Int) + 1) = ((i + 1 : Nat) : Int) := by rw [wrap_i64_id _ (by omega) (by omega)]; omega
    have w2 : IntKind.wrap .i64 ((i : Int) - 1) = ((i - 1 : Nat) : Int) := by rw [wrap_i64_id _ (by omega) (by omega)]; omega
    obtain ⟨ab, ao, asp, rfl⟩ := S.addr (by omega)
    have at_ : ∀ k, k < n → m1.at ab (ao + k) = some (.int .i64 (xs.getD k 0)) := fun k hk => by
      rw [S.at_map hk, List.getD_eq_getElem?_getD, List.getElem?_eq_getElem (by omega)]; rfl
    have r0 := at_ i hlt
    have r1 := at_ (i - 1) (by omega)
    have z0 : (0 : Int) ≤ (i : Int) := by omega
    have z1 : (i : Int) < (n : Int) := by omega
    have y0 : (0 : Int) ≤ ((i - 1 : Nat) : Int) := by omega
    have y1 : ((i - 1 : Nat) : Int) < (n : Int) := by omega
    cases v with
    | false =>
      simp (decide := true) (implicitDefEqProofs := false) (maxDischargeDepth := 20) only [go_sem, ↓reduceIte, a5, e18, e19, d1, w1, w2, r0, r1, z0, z1, y0, y1, Int.toNat_natCast, true_implies, false_implies]
      exact ⟨n + 1 - (i + 1), by omega, i + 1, false, by omega, by omega, rfl, rfl, rfl, fun h => by cases h⟩
    | true =>
      obtain ⟨p, hp⟩ : ∃ p : Bool, p = decide (xs.getD (i - 1) 0 ≤ xs.getD i 0) := ⟨_, rfl⟩
      simp (decide := true) (implicitDefEqProofs := false) (maxDischargeDepth := 20) only [go_sem, ↓reduceIte, a5, e18, e19, d1, w1, w2, r0, r1, z0, z1, y0, y1, ← hp, Int.toNat_natCast, true_implies, false_implies]
      refine ⟨n + 1 - (i + 1), by omega, i + 1, p, by omega, by omega, rfl, rfl, rfl, fun h j h1 h2 => ?_⟩
      by_cases hj : j + 1 < i
      · exact hv rfl j hj h2
      · have : j = i - 1 := by omega
        subst this
        rw [h] at hp
        rw [show i - 1 + 1 = i by omega]
        exact of_decide_eq_true hp.symm
  · have d1 : decide ((i : Int) < (n : Int)) = false := by simp; omega
    simp (decide := true) (implicitDefEqProofs := false) (maxDischargeDepth := 20) only [go_sem, ↓reduceIte, a5, e18, e19, d1, true_implies, false_implies]
    exact ⟨v, rfl, fun h j h1 => hv h j (by omega) h1⟩

set_option maxRecDepth 100000 in
set_option maxHeartbeats 8000000 in
theorem Sorted_long {m : Mem} {t : Fr} {b sb N : Nat} {R : List Int} {v1 : Value} (hN : N ≤ 1000) (hR : KMap keyI m sb (cntK R []) N) (hlen : ∀ r : Nat, r + 1 < N → b ≤ R.count (r : Int)) (t5 : t 5 = v1) (t6 : t 6 = vI b) (t12 : t 12 = .map (some sb)) {K : Post3}
    (hK : ∀ t', t' 5 = v1 → t' 12 = .map (some sb) → K .normal t' m) :
    WpX E F_sheaflaw11_RunsSorted 189 c_sheaflaw11_RunsSorted_47 K t m := by
  refine .pre ?_
  simp (decide := true) (implicitDefEqProofs := false) (maxDischargeDepth := 20) only [go_sem, ↓reduceIte, true_implies, false_implies]
  refine .block (.loop (fun j t' m' => m' = m ∧ t' 5 = v1 ∧ t' 6 = vI b ∧ t' 12 = .map (some sb) ∧ ∃ r : Nat, r ≤ N ∧ j = N - r ∧ t' 17 = .int .i64 (r : Nat)) N ⟨rfl, by simp (decide := true) only [go_sem, t5, ↓reduceIte], by simp (decide := true) only [go_sem, t6, ↓reduceIte], by simp (decide := true) only [go_sem, t12, ↓reduceIte], 0, by omega, by omega, by simp (decide := true) only [go_sem, ↓reduceIte]; rfl⟩ ?_)
  rintro j t' m' ⟨rfl, e5, e6, e12, r, hr, rfl, e17⟩
  obtain ⟨es, clock, hg, _, _, hlN, _⟩ := hR.ents
  have w1 : IntKind.wrap .i64 ((r : Int) + 1) = ((r + 1 : Nat) : Int) := by rw [wrap_i64_id _ (by omega) (by omega)]; omega
  refine .post ?_
  refine .post ?_
  refine .opsX ⟨⟨some 151, .call ⟨.builtin .len, #[.tmp 150], #[65]⟩, none⟩, by simp, by kernel_rfl⟩ (.split 3 ?_)
  simp (decide := true) (implicitDefEqProofs := false) (maxDischargeDepth := 20) only [List.take_succ_cons, List.take_zero, List.drop_succ_cons, List.drop_zero, go_sem, ↓reduceIte, e17, e12, w1, true_implies, false_implies]
  refine .len (mb := sb) (es := es) (clock := clock) (by simp (decide := true) only [go_sem, ↓reduceIte]) hg desc65 (fun _ => ?_) (fun h => by cases h)
  rw [hlN]
  refine .o ?_
  by_cases hlt : r + 1 < N
  · have d1 : decide (((r + 1 : Nat) : Int) < (N : Int)) = true := by simp; omega
    have look := lookI65 hR (r : Int)
    rw [cntK_look _ _ _ (fun _ => by simp)] at look
    simp only [List.count_nil, Int.sub_zero, Int.natCast_zero] at look
    have hb := hlen r hlt
    have d2 : decide ((R.count (r : Int) : Int) < (b : Int)) = false := by simp; omega
    simp (decide := true) (implicitDefEqProofs := false) (maxDischargeDepth := 20) only [go_sem, ↓reduceIte, d1, true_implies, false_implies]
    refine .m ?_
    simp (decide := true) (implicitDefEqProofs := false) (maxDischargeDepth := 20) only [go_sem, ↓reduceIte, true_implies, false_implies]
    refine .m ?_
    simp (decide := true) (implicitDefEqProofs := false) (maxDischargeDepth := 20) only [go_sem, ↓reduceIte, e5, e6, e12, e17, w1, look, d2, true_implies, false_implies]
    exact ⟨N - (r + 1), by omega, r + 1, by omega, rfl, rfl⟩
  · have d1 : decide (((r + 1 : Nat) : Int) < (N : Int)) = false := by simp; omega
    simp (decide := true) (implicitDefEqProofs := false) (maxDischargeDepth := 20) only [go_sem, ↓reduceIte, d1, true_implies, false_implies]
    refine .m ?_
    simp (decide := true) (implicitDefEqProofs := false) (maxDischargeDepth := 20) only [go_sem, ↓reduceIte, true_implies, false_implies]
    refine hK _ ?_ ?_
    · simp (decide := true) only [go_sem, e5, ↓reduceIte]
    · simp (decide := true) only [go_sem, e12, ↓reduceIte]

theorem mk65 (m : Mem) : makeMapV E m 65 none = some (.map (some m.size), m.push (.map [] 0)) := makeMapV_K kmap65

set_option maxRecDepth 100000 in
set_option maxHeartbeats 8000000 in
theorem RunsSorted_law (m : Mem) (hro : ∀ i c, m.get i = some c → c.writable = false)
    (a0 : Option Addr) (l0 c0 : Nat) (xs0 : List Int) (hs0 : SlA m 1 a0 l0 c0 (xs0.map (.int .i64))) (hl0 : xs0.length = l0) (hx0 : ∀ x ∈ xs0, -9223372036854775808 ≤ x ∧ x < 9223372036854775808)
    (budget : Int) (hbm : -9223372036854775808 ≤ budget) (hbm' : budget < 9223372036854775808) :
    CallX Try.prog tab F_sheaflaw11_RunsSorted [.slice a0 l0 c0, .int .i64 budget] m := by
  obtain ⟨n, g0⟩ : ∃ n, n = min l0 60 := ⟨_, rfl⟩
  have m0 : min (l0 : Int) 60 = (n : Int) := by omega
  obtain ⟨s0, A⟩ := hs0.sliceTo (E := E) (k := .i64) (show n ≤ l0 by omega)
  rw [Nat.mul_one, ← List.map_take] at A
  generalize xs0.take n = xs at *
  have lx : xs.length = n := by have := A.len; simpa using this
  have s0' := s0 25 (by decide +kernel)
  have hn : n ≤ 60 := by omega
  have wb := Within_ans budget 1 12 hbm hbm' (by decide) (by decide) (by decide) (by decide)
  obtain ⟨b, hb⟩ : ∃ b : Nat, (b : Int) = 1 + budget % (12 - 1 + 1) := ⟨(1 + budget % (12 - 1 + 1)).toNat, by omega⟩
  rw [← hb] at wb
  have hb1 : 1 ≤ b ∧ b ≤ 12 := by omega
  clear hb
  refine CallX_enter fn_sheaflaw11_RunsSorted (by kernel_rfl) (by simp) hro ?_
  refine .pre ?_
  simp (decide := true) (implicitDefEqProofs := false) (maxDischargeDepth := 20) only [go_sem, ↓reduceIte, true_implies, false_implies]
  refine .pre ?_
  simp (decide := true) (implicitDefEqProofs := false) (maxDischargeDepth := 20) only [go_sem, ↓reduceIte, m0, s0', true_implies, false_implies]
  refine .pre ?_
  simp (decide := true) (implicitDefEqProofs := false) (maxDischargeDepth := 20) only [go_sem, ↓reduceIte, true_implies, false_implies]
  refine (wb m).mono ?_
  rintro w m1 ⟨rfl, o1⟩
  simp (decide := true) (implicitDefEqProofs := false) (maxDischargeDepth := 20) only [go_sem, ↓reduceIte, true_implies, false_implies]
  refine .pre ?_
  simp (decide := true) (implicitDefEqProofs := false) (maxDischargeDepth := 20) only [go_sem, ↓reduceIte, true_implies, false_implies]
  refine .pre ?_
  simp (decide := true) (implicitDefEqProofs := false) (maxDischargeDepth := 20) only [go_sem, ↓reduceIte, true_implies, false_implies]
  have oB : Old m (m1.push (.cells false true [.int .i64 0, .int .i64 0])) := o1.push _
  have gB : (m1.push (.cells false true [.int .i64 0, .int .i64 0])).get m1.size = some (.cells false true [.int .i64 0, .int .i64 0]) := by rw [getM_push, if_pos rfl]
  have zB : (m1.push (.cells false true [.int .i64 0, .int .i64 0])).size = m1.size + 1 := by simp
  generalize m1.push (.cells false true [.int .i64 0, .int .i64 0]) = mB at *
  have z1 := o1.size
  refine (items_at A oB (show m.size ≤ m1.size by omega) (show MeterAt mB m1.size 0 0 from gB) (by decide) (b : Int) (by omega) (by omega)).mono ?_
  rintro w m3 ⟨a', rfl, v3, met3, c3⟩
  have eb : budN (b : Int) = b := by unfold budN; omega
  rw [eb] at v3 met3
  have z3 := c3.size
  obtain ⟨mb, hmb⟩ : ∃ q, q = m1.size := ⟨_, rfl⟩
  rw [← hmb] at met3 c3 ⊢
  simp (decide := true) (implicitDefEqProofs := false) (maxDischargeDepth := 20) only [go_sem, ↓reduceIte, true_implies, false_implies]
  refine .pre ?_
  simp (decide := true) (implicitDefEqProofs := false) (maxDischargeDepth := 20) only [go_sem, mk65, ↓reduceIte, true_implies, false_implies]
  obtain ⟨qb, hqb⟩ : ∃ q, q = m3.size := ⟨_, rfl⟩
  have g4 : ∀ i, i < m3.size → (m3.push (.map [] 0)).get i = m3.get i := fun i hi => by rw [getM_push, if_neg (by omega)]
  have gq4 : (m3.push (.map [] 0)).get m3.size = some (.map [] 0) := by rw [getM_push, if_pos rfl]
  have z4 : (m3.push (.map [] 0)).size = m3.size + 1 := by simp
  generalize m3.push (.map [] 0) = m4 at *
  rw [← hqb] at gq4 ⊢
  refine .pre ?_
  refine Sorted_count lx hn (fun m' hk => A.keep fun x hx hne => ?_) (.new gq4) (by simp (decide := true) only [go_sem, ↓reduceIte]) (by simp (decide := true) only [go_sem, ↓reduceIte]) fun t5 m5 N5 ag Q5 k5' z5 => ?_
  · have hlt := (A.rows x hx hne).lt
    rw [hk _ (by omega), g4 _ (by omega), c3.get _ (by omega) (by omega), oB.get hlt]
  have e5 := ag 5 (by decide +kernel)
  have e6 := ag 6 (by decide +kernel)
  have e7 := ag 7 (by decide +kernel)
  have e8 := ag 8 (by decide +kernel)
  have e9 := ag 9 (by decide +kernel)
  simp (decide := true) only [go_sem, ↓reduceIte] at e5 e6 e7 e8 e9
  clear ag
  show WpX E 10 189 _ _ _ _
  refine .pre ?_
  simp (decide := true) (implicitDefEqProofs := false) (maxDischargeDepth := 20) only [go_sem, mk65, ↓reduceIte, true_implies, false_implies]
  obtain ⟨sb, hsb⟩ : ∃ q, q = m5.size := ⟨_, rfl⟩
  have g6 : ∀ i, i < m5.size → (m5.push (.map [] 0)).get i = m5.get i := fun i hi => by rw [getM_push, if_neg (by omega)]
  have gs6 : (m5.push (.map [] 0)).get m5.size = some (.map [] 0) := by rw [getM_push, if_pos rfl]
  have z6 : (m5.push (.map [] 0)).size = m5.size + 1 := by simp
  generalize m5.push (.map [] 0) = m6 at *
  rw [← hsb] at gs6 ⊢
  refine .pre ?_
  refine Sorted_told (B := mB.size) (b := b) lx hn (by omega) (fun m' hk hz => v3.keep fun x hx => ?_) (Q5.keep (g6 _ (by omega))) (.new gs6) (by omega) (by simp (decide := true) only [go_sem, e8, ↓reduceIte]) (by simp (decide := true) only [go_sem, e9, ↓reduceIte]) (by simp (decide := true) only [go_sem, ↓reduceIte]) fun t7 m7 N7 ag Q7 R7 k7 z7 => ?_
  · have h1 := (v3.blk x hx).1
    have h2 := v3.lt hx
    rw [hk _ (by omega) (by omega) (by omega), g6 _ (by omega), k5' _ (by omega), g4 _ (by omega)]
  have f5 := ag 5 (by decide +kernel)
  have f6 := ag 6 (by decide +kernel)
  have f7 := ag 7 (by decide +kernel)
  have f8 := ag 8 (by decide +kernel)
  have f9 := ag 9 (by decide +kernel)
  have f12 := ag 12 (by decide +kernel)
  simp (decide := true) only [go_sem, e5, e6, e7, e8, e9, ↓reduceIte] at f5 f6 f7 f8 f9 f12
  clear ag
  have met7 : MeterAt m7 mb 0 (max 0 (min b n : Nat)) := by
    unfold MeterAt at *
    rw [k7 _ (by omega) (by omega) (by omega), g6 _ (by omega), k5' _ (by omega), g4 _ (by omega)]
    exact met3
  show WpX E 10 189 _ _ _ _
  refine .post ?_
  obtain ⟨es, clock, hg, hnd, hltc, _, hent⟩ := Q7.ents
  show WpX E 10 189 (rangeC 120 121 122 123 124 4 5 65 (.tmp 9) [⟨some 125, .extract (.tmp 124) 1, none⟩, ⟨some 16, .assign (.tmp 125), none⟩] c_sheaflaw11_RunsSorted_26) _ _ _
  refine .range (mb := qb) (es := es) (clock := clock) f9 hg map65 hnd hltc (by decide +kernel) (fun en hen tg m' ho hag => ?_) fun tg m8 o8 hag => ?_
  · obtain ⟨x, _, hv⟩ := hent en hen
    have hv0 : en.val = vI 0 := by
      have hp := (cut_all (b := b) (by omega) (xs := xs)).count_eq x
      rw [lx] at hp
      have hp : (outC xs b n).count x = xs.count x := hp
      unfold cntK at hv
      rw [hp] at hv
      split at hv
      · cases hv
      · rw [← Option.some.inj hv, Int.sub_self]
    simp (decide := true) (implicitDefEqProofs := false) (maxDischargeDepth := 20) only [go_sem, hv0, bne_self_eq_false, ↓reduceIte, true_implies, false_implies]
  have h5 := (hag 5 (by decide +kernel)).trans f5
  have h6 := (hag 6 (by decide +kernel)).trans f6
  have h7 := (hag 7 (by decide +kernel)).trans f7
  have h8 := (hag 8 (by decide +kernel)).trans f8
  have h12 := (hag 12 (by decide +kernel)).trans f12
  clear hag
  have met8 : MeterAt m8 mb 0 (max 0 (min b n : Nat)) := (o8.get (getM_lt met7)).trans met7
  have r0 : m8.at mb 0 = some (vI 0) := get_at0 met8
  have r1 : m8.at mb 1 = some (vI (max 0 ((min b n : Nat) : Int))) := by unfold Mem.at; rw [met8]; rfl
  have d1 : decide (max 0 ((min b n : Nat) : Int) > (b : Int)) = false := by simp; omega
  show WpX E 10 189 _ _ _ _
  refine .pre ?_
  simp (decide := true) (implicitDefEqProofs := false) (maxDischargeDepth := 20) only [go_sem, nilOk, h5, h6, h7, h8, r0, r1, d1, bne_self_eq_false, ↓reduceIte, true_implies, false_implies]
  refine .post ?_
  have hnum : numC xs b n ≤ 61 ∧ (∀ r : Nat, r + 1 < numC xs b n → b ≤ (runsC xs b n).count (r : Int)) ∧ ((∀ j, j + 1 < n → xs.getD j 0 ≤ xs.getD (j + 1) 0) → numC xs b n ≤ 1) := by
    cases hn0 : n with
    | zero => exact ⟨by simp [numC], fun r h => by simp [numC] at h, fun _ => by simp [numC]⟩
    | succ k =>
      have hk : k < xs.length := by omega
      have hyr := yieldR_run xs b (by omega) k hk
      have en : numC xs b (k + 1) = ((yieldR xs b k).1 + 1).toNat := rfl
      refine ⟨by omega, fun r hr => ?_, fun hs => ?_⟩
      · have := run_long (b := b) (by omega) (xs := xs) (r := (r : Int)) (by omega) (by omega) (by rw [show xs.length - 1 = k by omega]; omega)
        rw [show xs.length = k + 1 by omega] at this
        exact this
      · have := rise_zero (b := b) (by omega) (xs := xs) (fun i j hij hj => by
          obtain ⟨d, rfl⟩ : ∃ d, j = i + d := ⟨j - i, by omega⟩
          clear hij
          induction d with
          | zero => exact Int.le_refl _
          | succ d ih => exact Int.le_trans (ih (by omega)) (hs (i + d) (by omega))) hk
        omega
  refine Sorted_long (m := m8) (b := b) (sb := sb) (N := numC xs b n) (R := runsC xs b n) (v1 := .slice a0 n c0) (by omega) (R7.old o8) hnum.2.1 (by simp (decide := true) only [go_sem, h5, ↓reduceIte]) (by simp (decide := true) only [go_sem, h6, ↓reduceIte]) (by simp (decide := true) only [go_sem, h12, ↓reduceIte]) fun t9 k5 k12 => ?_
  show WpX E 10 189 _ _ _ _
  refine .pre ?_
  simp (decide := true) (implicitDefEqProofs := false) (maxDischargeDepth := 20) only [go_sem, ↓reduceIte, true_implies, false_implies]
  refine .pre ?_
  have A8 : SlA m8 1 a0 n c0 (xs.map (.int .i64)) := A.keep fun x hx hne => by
    have hlt := (A.rows x hx hne).lt
    rw [o8.get (by omega), k7 _ (by omega) (by omega) (by omega), g6 _ (by omega), k5' _ (by omega), g4 _ (by omega), c3.get _ (by omega) (by omega), oB.get hlt]
  refine Sorted_rise (n := n) lx hn A8 (by simp (decide := true) only [go_sem, k5, ↓reduceIte]) (by simp (decide := true) only [go_sem, ↓reduceIte]) fun t10 v ag e18 hv => ?_
  have k12' := ag 12 (by decide +kernel)
  simp (decide := true) only [go_sem, k12, ↓reduceIte] at k12'
  clear ag
  show WpX E 10 189 _ _ _ _
  cases v with
  | false =>
    refine .m ?_
    simp (decide := true) (implicitDefEqProofs := false) (maxDischargeDepth := 20) only [go_sem, e18, ↓reduceIte, true_implies, false_implies]
    exact resultsF_1 (by simp (decide := true) only [go_sem, ↓reduceIte])
  | true =>
    have h1 := hnum.2.2 (hv rfl)
    refine .post (.opsX ⟨⟨some 183, .call ⟨.builtin .len, #[.tmp 182], #[65]⟩, some (some 181, false)⟩, by simp, by kernel_rfl⟩ (.split 4 ?_))
    simp (decide := true) (implicitDefEqProofs := false) (maxDischargeDepth := 20) only [List.take_succ_cons, List.take_zero, List.drop_succ_cons, List.drop_zero, go_sem, ↓reduceIte, e18, k12', true_implies, false_implies]
    obtain ⟨es, clock, hg, _, _, hlN, _⟩ := (R7.old o8).ents
    refine .len (mb := sb) (es := es) (clock := clock) (by simp (decide := true) only [go_sem, k12', ↓reduceIte]) hg desc65 (fun _ => ?_) (fun h => by exfalso; revert h; simp [wantedF, upd])
    rw [hlN]
    have d2 : decide ((numC xs b n : Int) ≤ 1) = true := by simp; omega
    refine .o ?_
    simp (decide := true) (implicitDefEqProofs := false) (maxDischargeDepth := 20) only [go_sem, d2, ↓reduceIte, true_implies, false_implies]
    refine .m ?_
    simp (decide := true) (implicitDefEqProofs := false) (maxDischargeDepth := 20) only [go_sem, ↓reduceIte, true_implies, false_implies]
    exact resultsF_1 (by simp (decide := true) only [go_sem, ↓reduceIte])

end Go.Proofs.Ythlcbacmbcmgfaa.W
