/-
  Sorted: rows by their order.
-/
import Derived.Test.YtpabllcacdopdaaSrtA
namespace Go.Proofs.Ytpabllcacdopdaa.W
open Go.Abs
set_option linter.unusedSimpArgs false
set_option linter.unusedVariables false

/-- A row put among those ahead of it, the last one first. -/
def insR (cols : List Int) (r : HRow) : List HRow → List HRow
  | [] => [r]
  | y :: ys => if cmpL r.xs y.xs cols < 0 then y :: insR cols r ys else r :: y :: ys
def sortR (cols : List Int) (rs : List HRow) : List HRow := rs.foldl (fun acc r => insR cols r acc) []
def sortL (cols : List Int) (rs : List HRow) : List HRow := (sortR cols rs).reverse

theorem insR_perm (cols : List Int) (r : HRow) : ∀ l, (insR cols r l).Perm (r :: l)
  | [] => .refl _
  | y :: ys => by
    unfold insR
    split
    · exact (List.Perm.cons y (insR_perm cols r ys)).trans (List.Perm.swap r y ys)
    · exact .refl _
theorem sortR_snoc (cols : List Int) (rs : List HRow) (r : HRow) : sortR cols (rs ++ [r]) = insR cols r (sortR cols rs) := by unfold sortR; rw [List.foldl_append]; rfl
theorem foldl_ins_perm (cols : List Int) : ∀ (rs acc : List HRow), (rs.foldl (fun acc r => insR cols r acc) acc).Perm (rs ++ acc)
  | [], acc => .refl _
  | r :: rs, acc => by
    rw [List.foldl_cons]
    exact (foldl_ins_perm cols rs _).trans (((insR_perm cols r acc).append_left rs).trans (by simp))
theorem sortR_perm (cols : List Int) (rs : List HRow) : (sortR cols rs).Perm rs := by
  have := foldl_ins_perm cols rs []
  rwa [List.append_nil] at this
theorem sortL_perm (cols : List Int) (rs : List HRow) : (sortL cols rs).Perm rs := (List.reverse_perm _).trans (sortR_perm cols rs)

theorem cmp_trans (cols : List Int) {a b c : List Int} (h : 0 ≤ cmpL a b cols) (k : 0 ≤ cmpL b c cols) : 0 ≤ cmpL a c cols := by
  have t := (cmpL_tri c b a cols).2
  rw [cmpL_neg b c, cmpL_neg a b, cmpL_neg a c] at t
  by_cases h1 : cmpL b c cols = 0
  · rw [(cmpL_zero b c cols).1 h1] at h; exact h
  · omega
theorem insR_sorted (cols : List Int) (r : HRow) : ∀ l : List HRow, l.Pairwise (fun a b => 0 ≤ cmpL a.xs b.xs cols) → (insR cols r l).Pairwise (fun a b => 0 ≤ cmpL a.xs b.xs cols)
  | [], _ => by simp [insR]
  | y :: ys, h => by
    rw [List.pairwise_cons] at h
    unfold insR
    split
    · rename_i hlt
      rw [List.pairwise_cons]
      refine ⟨fun x hx => ?_, insR_sorted cols r ys h.2⟩
      rcases List.mem_cons.1 ((insR_perm cols r ys).mem_iff.1 hx) with rfl | hx
      · rw [cmpL_neg]; omega
      · exact h.1 x hx
    · rename_i hge
      rw [List.pairwise_cons, List.pairwise_cons]
      refine ⟨fun x hx => ?_, h⟩
      rcases List.mem_cons.1 hx with rfl | hx
      · omega
      · exact cmp_trans cols (by omega) (h.1 x hx)
theorem foldl_ins_sorted (cols : List Int) : ∀ (rs acc : List HRow), acc.Pairwise (fun a b => 0 ≤ cmpL a.xs b.xs cols) → (rs.foldl (fun acc r => insR cols r acc) acc).Pairwise (fun a b => 0 ≤ cmpL a.xs b.xs cols)
  | [], _, h => h
  | r :: rs, acc, h => foldl_ins_sorted cols rs _ (insR_sorted cols r acc h)
/-- The rows rise. -/
theorem sortL_sorted (cols : List Int) (rs : List HRow) : (sortL cols rs).Pairwise (fun a b => cmpL a.xs b.xs cols ≤ 0) := by
  unfold sortL
  rw [List.pairwise_reverse]
  refine (foldl_ins_sorted cols rs [] List.Pairwise.nil).imp fun {a b} h => ?_
  rw [cmpL_neg]; omega

theorem swap_set {α : Type} (P Q : List α) (y r : α) : ((P ++ y :: r :: Q).set (P.length + 1) y).set P.length r = P ++ r :: y :: Q := by
  rw [List.set_append_right _ _ (by omega), List.set_append_right _ _ (by omega)]
  simp

set_option maxRecDepth 100000 in
set_option maxHeartbeats 4000000 in
theorem Sorted_at {m : Mem} {a d : Option Addr} {n c q c' : Nat} {rs : List HRow} {cols : List Int} (h : SlA m 1 a n c (rs.map HRow.v)) (hr : ∀ r ∈ rs, r.At m) (hrn : ∀ r ∈ rs, r.n ≤ 1000000) (hc : SlA m 1 d q c' (cols.map (.int .i64))) (hn : n ≤ 1000000) (hq : q ≤ 1000000) :
    CallQ E F_sheafref12_Sorted [.slice a n c, .slice d q c'].toArray m fun w m' => ∃ b s, w = .slice (some ⟨b, 0, s⟩) n n ∧ Vec m.size m' 1 (some ⟨b, 0, s⟩) n ((sortL cols rs).map HRow.v) ∧ Old m m' := by
  have hl : rs.length = n := by have := h.len; simpa using this
  refine .enter fn_sheafref12_Sorted (by simp) ?_
  simp (decide := true) (implicitDefEqProofs := false) (maxDischargeDepth := 20) only [go_sem, ↓reduceIte, true_implies, false_implies]
  have v0 : Vec m.size (m.push (.cells false true [])) 1 (some ⟨m.size, 0, none⟩) 0 [] := .built (Nat.le_refl _) rfl
  have hone : (rs.map HRow.v).all oneCell = true := by
    rw [List.all_eq_true]
    intro x hx
    obtain ⟨y, _, rfl⟩ := List.mem_map.1 hx
    rfl
  refine v0.append (by simp) ((h.push _).appended' (by decide +kernel) (by decide)) (by simp; omega) (by decide +kernel) hone (by omega) fun m1 b2 v1 k1 hb2 => ?_
  have o1 : Old m m1 := v0.keepOld k1 (.push (.refl _) _)
  simp only [Nat.zero_add, List.nil_append] at v1 ⊢
  obtain ⟨b, s, rfl⟩ : ∃ b s, b2 = some ⟨b, 0, s⟩ := by
    rcases hb2 with rfl | ⟨s, rfl⟩
    · exact ⟨_, _, rfl⟩
    · exact ⟨_, _, rfl⟩
  simp (decide := true) (implicitDefEqProofs := false) (maxDischargeDepth := 20) only [go_sem, ↓reduceIte, true_implies, false_implies]
  simp only [c_sheafref12_Sorted_14_at, wpM_block, c_sheafref12_Sorted_13_at]
  refine wpM_loopA (fun j t' m' => ∃ i : Nat, 1 ≤ i ∧ j = n - i ∧ i ≤ max 1 n ∧ t' 6 = .int .i64 (i : Nat) ∧ Vec m.size m' 1 (some ⟨b, 0, s⟩) n (((sortR cols (rs.take i)).reverse ++ rs.drop i).map HRow.v) ∧ Old m m') (n - 1)
    ⟨1, by omega, rfl, by omega, by simp (decide := true) only [go_sem, ↓reduceIte]; try rfl, ?_, o1⟩ ?_
  · cases rs with
    | nil => exact v1
    | cons r l => exact v1
  rintro j t' m' ha ⟨i, hi1, rfl, hi, e6, V, o⟩
  have a1 := ha 1 (by decide +kernel)
  have a5 := ha 5 (by decide +kernel)
  simp (decide := true) only [go_sem, ↓reduceIte] at a1 a5
  by_cases hlt : i < n
  · have d1 : decide ((i : Int) < (n : Int)) = true := by simp; omega
    have w1 : IntKind.wrap .i64 ((i : Int) + 1) = ((i + 1 : Nat) : Int) := by rw [wrap_i64_id _ (by omega) (by omega)]; omega
    have hdrop : rs.drop i = rs[i] :: rs.drop (i + 1) := List.drop_eq_getElem_cons (by omega)
    have htk : rs.take (i + 1) = rs.take i ++ [rs[i]] := List.take_succ_eq_append_getElem (by omega)
    have hst : sortR cols (rs.take (i + 1)) = insR cols rs[i] (sortR cols (rs.take i)) := by rw [htk, sortR_snoc]
    have hal : (sortR cols (rs.take i)).length = i := by rw [(sortR_perm cols (rs.take i)).length_eq, List.length_take]; omega
    have hrr : rs[i] ∈ rs := List.getElem_mem _
    have hmem : ∀ x ∈ sortR cols (rs.take i), x ∈ rs := fun x hx => List.mem_of_mem_take ((sortR_perm cols _).mem_iff.1 hx)
    rw [hdrop] at V
    generalize rs[i] = r at *
    generalize sortR cols (rs.take i) = acc at *
    obtain ⟨rest, hrest⟩ : ∃ x, x = rs.drop (i + 1) := ⟨_, rfl⟩
    rw [← hrest] at V hdrop
    simp (decide := true) (implicitDefEqProofs := false) (maxDischargeDepth := 20) only [go_sem, ↓reduceIte, a1, a5, e6, d1, true_implies, false_implies]
    simp only [c_sheafref12_Sorted_8_at, wpM_block, c_sheafref12_Sorted_7_at]
    refine wpM_loopA (fun j t2 m2 => ∃ (arev B : List HRow), j = arev.length ∧ arev.length ≤ i ∧ t2 7 = .int .i64 (arev.length : Nat) ∧ insR cols r acc = B.reverse ++ insR cols r arev ∧ (∀ x ∈ arev, x ∈ rs) ∧ Vec m.size m2 1 (some ⟨b, 0, s⟩) n ((arev.reverse ++ r :: (B ++ rest)).map HRow.v) ∧ Old m m2) i
      ⟨acc, [], hal.symm, by omega, by simp (decide := true) only [go_sem, ↓reduceIte, hal]; try rfl, rfl, hmem, by simpa using V, o⟩ ?_
    rintro j t2 m2 hb ⟨arev, B, rfl, hai, e7, hins, hmem2, V2, o2⟩
    have b1 := hb 1 (by decide +kernel)
    have b5 := hb 5 (by decide +kernel)
    have b6 := hb 6 (by decide +kernel)
    simp (decide := true) only [go_sem, ↓reduceIte, a1, a5, e6] at b1 b5 b6
    cases arev with
    | nil =>
      have d2 : decide (((([] : List HRow).length : Nat) : Int) > 0) = false := by decide
      simp (decide := true) (implicitDefEqProofs := false) (maxDischargeDepth := 20) only [go_sem, ↓reduceIte, b1, b5, b6, e7, d2, w1, true_implies, false_implies]
      refine ⟨n - (i + 1), by omega, i + 1, by omega, rfl, by omega, rfl, ?_, o2⟩
      rw [hst, hins, ← hrest]
      simpa [insR] using V2
    | cons y ys =>
      have e7 : t2 7 = .int .i64 ((ys.length + 1 : Nat) : Int) := e7
      have hlen := V2.len
      simp only [List.length_map, List.length_append, List.length_reverse, List.length_cons, Nat.mul_one] at hlen hai
      have d2 : decide (((ys.length + 1 : Nat) : Int) > 0) = true := by simp only [decide_eq_true_eq]; omega
      have w2 : IntKind.wrap .i64 (((ys.length + 1 : Nat) : Int) - 1) = ((ys.length : Nat) : Int) := by rw [wrap_i64_id _ (by omega) (by omega)]; omega
      have z0 : (0 : Int) ≤ ((ys.length + 1 : Nat) : Int) := by omega
      have z1 : ((ys.length + 1 : Nat) : Int) < (n : Int) := by omega
      have z2 : (0 : Int) ≤ ((ys.length : Nat) : Int) := by omega
      have z3 : ((ys.length : Nat) : Int) < (n : Int) := by omega
      obtain ⟨_, _, tg, hg⟩ := V2.blk _ rfl
      simp only at hg
      have eL : ((y :: ys).reverse ++ r :: (B ++ rest)).map HRow.v = (ys.reverse.map HRow.v) ++ y.v :: r.v :: ((B ++ rest).map HRow.v) := by simp
      rw [eL] at hg V2
      have ll : (ys.reverse.map HRow.v).length = ys.length := by simp
      have r1 : m2.at b (ys.length + 1) = some r.v := by
        unfold Mem.at
        rw [hg]
        show ((ys.reverse.map HRow.v) ++ y.v :: r.v :: ((B ++ rest).map HRow.v))[ys.length + 1]? = _
        rw [List.getElem?_append_right (by simp), ll]
        simp
      have r2 : m2.at b ys.length = some y.v := by
        unfold Mem.at
        rw [hg]
        show ((ys.reverse.map HRow.v) ++ y.v :: r.v :: ((B ++ rest).map HRow.v))[ys.length]? = _
        rw [List.getElem?_append_right (by simp), ll]
        simp
      have hrA := (hr r hrr).old o2
      have hyA := (hr y (hmem2 y (by simp))).old o2
      have hrN := hrn r hrr
      have hyN := hrn y (hmem2 y (by simp))
      have hcm := hc.old o2
      have hsw := swap_set (ys.reverse.map HRow.v) ((B ++ rest).map HRow.v) y.v r.v
      rw [ll] at hsw
      have hcsl : ((ys.reverse.map HRow.v) ++ y.v :: r.v :: ((B ++ rest).map HRow.v)).length = n := by simp; omega
      generalize hcs : (ys.reverse.map HRow.v) ++ y.v :: r.v :: ((B ++ rest).map HRow.v) = cs at *
      have hyy : (y :: ys).length = ys.length + 1 := rfl
      have hfin : insR cols r (y :: ys) = if cmpL r.xs y.xs cols < 0 then y :: insR cols r ys else r :: y :: ys := rfl
      have heR : ys.reverse.map HRow.v ++ r.v :: y.v :: ((B ++ rest).map HRow.v) = (ys.reverse ++ r :: ((y :: B) ++ rest)).map HRow.v := by simp
      rw [heR] at hsw
      have hv1 : y.v = .slice y.ad y.n y.c := rfl
      have hv2 : r.v = .slice r.ad r.n r.c := rfl
      rw [hv2] at r1
      rw [hv1] at r2
      rw [hv1, hv2] at hsw
      simp (decide := true) (implicitDefEqProofs := false) (maxDischargeDepth := 20) only [go_sem, ↓reduceIte, b1, b5, b6, e7, d2, w2, z0, z1, z2, z3, r1, r2, Int.toNat_natCast, true_implies, false_implies]
      refine (rCompare_at hrA.sl hyA.sl hcm (by omega) (by omega) (by omega)).mono ?_
      rintro w m3 ⟨rfl, o3⟩
      have hg3 := (o3.get (getM_lt hg)).trans hg
      have r13 : m3.at b (ys.length + 1) = some (.slice r.ad r.n r.c) := by rw [← r1]; unfold Mem.at; rw [hg3, hg]
      have r23 : m3.at b ys.length = some (.slice y.ad y.n y.c) := by rw [← r2]; unfold Mem.at; rw [hg3, hg]
      by_cases hcmp : cmpL r.xs y.xs cols < 0
      · have d3 : decide (cmpL r.xs y.xs cols < 0) = true := by simpa using hcmp
        rw [if_pos hcmp] at hfin
        have lx1 : decide (ys.length + (1 + 1) ≤ cs.length) = true := by simp; omega
        have lx2 : decide (ys.length + 1 ≤ cs.length) = true := by simp; omega
        have lb3 := getM_lt hg3
        simp (decide := true) (implicitDefEqProofs := false) (maxDischargeDepth := 20) only [go_sem, ↓reduceIte, b1, b5, b6, e7, d2, d3, w2, z0, z1, z2, z3, r13, r23, hg3, lx1, lx2, lb3, List.length_set, Int.toNat_natCast, true_implies, false_implies]
        refine ⟨ys.length, by omega, ys, y :: B, rfl, by omega, rfl, ?_, fun x hx => hmem2 x (List.mem_cons_of_mem _ hx), ?_, ?_⟩
        · rw [hins, hfin]; simp
        · rw [← hsw]
          exact ((V2.old o3).set (tg := tg) _ _).set (tg := tg) _ _
        · exact ((o2.trans o3).put _ _ (V2.blk _ rfl).1).put _ _ (V2.blk _ rfl).1
      · have d3 : decide (cmpL r.xs y.xs cols < 0) = false := by simpa using hcmp
        rw [if_neg hcmp] at hfin
        simp (decide := true) (implicitDefEqProofs := false) (maxDischargeDepth := 20) only [go_sem, ↓reduceIte, b1, b5, b6, e7, d2, d3, w1, Int.toNat_natCast, true_implies, false_implies]
        refine ⟨n - (i + 1), by omega, i + 1, by omega, rfl, by omega, rfl, ?_, o2.trans o3⟩
        have V3 := V2.old o3
        rw [hst, hins, hfin, ← hrest]
        have : (B.reverse ++ r :: y :: ys).reverse ++ rest = (y :: ys).reverse ++ r :: (B ++ rest) := by simp
        rw [this, eL]
        exact V3
  · have d1 : decide ((i : Int) < (n : Int)) = false := by simp; omega
    simp (decide := true) (implicitDefEqProofs := false) (maxDischargeDepth := 20) only [go_sem, ↓reduceIte, a1, a5, e6, d1, true_implies, false_implies]
    refine ⟨b, s, rfl, ?_, o⟩
    unfold sortL
    rw [List.take_of_length_le (by omega), List.drop_of_length_le (by omega), List.append_nil] at V
    exact V
end Go.Proofs.Ytpabllcacdopdaa.W
