/-
  StageJoins: what is found.
-/
import Derived.Test.YtpabllcacdopdaaJnF
import Derived.Test.YtpabllcacdopdaaSrtB
namespace Go.Proofs.Ytpabllcacdopdaa.W
open Go.Abs
set_option linter.unusedSimpArgs false
set_option linter.unusedVariables false

def fk (f : HRow) : Int := f.xs.getD 0 0
theorem cmpI_gt (a b : Int) : cmpI a b > 0 ↔ b < a := by unfold cmpI; split <;> (try split) <;> constructor <;> intro h <;> omega
theorem cmpI_eq (a b : Int) : cmpI a b = 0 ↔ a = b := by unfold cmpI; split <;> (try split) <;> constructor <;> intro h <;> omega
theorem cmpR_gt (col : Nat) (a b : HRow) : cmpR col a b > 0 ↔ fk b < a.xs.getD col 0 := cmpI_gt _ _
theorem cmpR_eq (col : Nat) (a b : HRow) : cmpR col a b = 0 ↔ a.xs.getD col 0 = fk b := cmpI_eq _ _

/-- What was passed is behind; what is at hand is not. -/
def InvJ (ys : List HRow) (s : JS) (x : Int) : Prop := s.asked = true ∧ ((s.there = true ∧ ∃ pre, ys = pre ++ s.last :: s.left ∧ (∀ z ∈ pre, fk z < x) ∧ x ≤ fk s.last) ∨ (s.there = false ∧ s.left = [] ∧ ∀ z ∈ ys, fk z < x))

theorem skip_inv (col : Nat) (ys : List HRow) (x : HRow) : ∀ (left pre : List HRow), ys = pre ++ left → (∀ z ∈ pre, fk z < x.xs.getD col 0) → InvJ ys ⟨true, (skipL (cmpR col) x left).2.2, (skipL (cmpR col) x left).1, (skipL (cmpR col) x left).2.1⟩ (x.xs.getD col 0)
  | [], pre, h, hp => ⟨rfl, .inr ⟨rfl, rfl, by rw [h, List.append_nil]; exact hp⟩⟩
  | y :: left, pre, h, hp => by
    unfold skipL
    by_cases hc : cmpR col x y > 0
    · rw [if_pos hc]
      rw [cmpR_gt] at hc
      exact skip_inv col ys x left (pre ++ [y]) (by rw [h]; simp) fun z hz => by
        rcases List.mem_append.1 hz with hz | hz
        · exact hp z hz
        · rw [List.mem_singleton.1 hz]; exact hc
    · rw [if_neg hc]
      rw [cmpR_gt] at hc
      exact ⟨rfl, .inl ⟨rfl, pre, h, hp, by show x.xs.getD col 0 ≤ fk y; omega⟩⟩

theorem step_inv (col : Nat) (ys : List HRow) (s : JS) (x : Int) (x' : HRow) (hx : x ≤ x'.xs.getD col 0) (h : InvJ ys s x) : InvJ ys (stepJ (cmpR col) s x') (x'.xs.getD col 0) := by
  obtain ⟨ha, h⟩ := h
  unfold stepJ
  rcases h with ⟨ht, pre, hy, hp, hl⟩ | ⟨ht, hl, hy⟩
  · by_cases hc : cmpR col x' s.last > 0
    · rw [if_pos (.inr ⟨ht, hc⟩)]
      rw [cmpR_gt] at hc
      exact skip_inv col ys x' s.left (pre ++ [s.last]) (by rw [hy]; simp) fun z hz => by
        rcases List.mem_append.1 hz with hz | hz
        · have := hp z hz; omega
        · rw [List.mem_singleton.1 hz]; exact hc
    · rw [if_neg (by rintro (h | h); rw [ha] at h; cases h; exact hc h.2)]
      rw [cmpR_gt] at hc
      exact ⟨ha, .inl ⟨ht, pre, hy, fun z hz => by have := hp z hz; omega, by omega⟩⟩
  · rw [if_neg (by rintro (h | h); rw [ha] at h; cases h; rw [ht] at h; cases h.1)]
    exact ⟨ha, .inr ⟨ht, hl, fun z hz => by have := hy z hz; omega⟩⟩

theorem find_none {ys : List HRow} {x : Int} (h : ∀ z ∈ ys, fk z ≠ x) : ys.find? (fun f => fk f == x) = none := by
  rw [List.find?_eq_none]
  intro z hz
  simpa using h z hz
theorem hit_find (col : Nat) (ys : List HRow) (hs : ys.Pairwise (fun a b => fk a < fk b)) (s : JS) (x : HRow) (h : InvJ ys s (x.xs.getD col 0)) : hitJ (cmpR col) s x = ys.find? (fun f => fk f == x.xs.getD col 0) := by
  obtain ⟨ha, h⟩ := h
  unfold hitJ
  rcases h with ⟨ht, pre, hy, hp, hl⟩ | ⟨ht, hl, hy⟩
  · have hn : pre.find? (fun f => fk f == x.xs.getD col 0) = none := find_none fun z hz => by have := hp z hz; omega
    by_cases hc : x.xs.getD col 0 = fk s.last
    · rw [if_pos ⟨ht, (cmpR_eq _ _ _).2 hc⟩, hy, List.find?_append, hn, List.find?_cons_of_pos (by rw [hc]; simp)]
      rfl
    · rw [if_neg (fun h => hc ((cmpR_eq _ _ _).1 h.2))]
      symm
      refine find_none fun z hz => ?_
      rw [hy] at hz hs
      rcases List.mem_append.1 hz with hz | hz
      · have := hp z hz; omega
      · rcases List.mem_cons.1 hz with hz | hz
        · rw [hz]; exact fun e => hc e.symm
        · have := (List.pairwise_cons.1 (List.pairwise_append.1 hs).2.1).1 z hz
          omega
  · rw [if_neg (fun h => by rw [ht] at h; cases h.1)]
    symm
    exact find_none fun z hz => by have := hy z hz; omega

theorem hit_inv (col : Nat) (ys xs : List HRow) (hr : ∀ j, j + 1 < xs.length → (xs.getD j noRow).xs.getD col 0 ≤ (xs.getD (j + 1) noRow).xs.getD col 0) : ∀ k, k < xs.length → InvJ ys (stJ (cmpR col) ys (xs.take (k + 1))) ((xs.getD k noRow).xs.getD col 0) := by
  intro k
  induction k with
  | zero =>
    intro hk
    rw [List.take_succ_eq_append_getElem hk, stJ_snoc]
    have e : xs.getD 0 noRow = xs[0] := by simp [List.getD_eq_getElem?_getD, hk]
    rw [e]
    show InvJ ys (stepJ (cmpR col) ⟨false, false, noRow, ys⟩ xs[0]) _
    unfold stepJ
    rw [if_pos (.inl rfl)]
    exact skip_inv col ys _ ys [] rfl fun z hz => by simp at hz
  | succ k ih =>
    intro hk
    rw [List.take_succ_eq_append_getElem hk, stJ_snoc]
    have e : xs.getD (k + 1) noRow = xs[k + 1] := by simp [List.getD_eq_getElem?_getD, hk]
    rw [← e]
    exact step_inv col ys _ _ _ (hr k hk) (ih (by omega))
theorem hitR_find (col : Nat) (ys xs : List HRow) (hs : ys.Pairwise (fun a b => fk a < fk b)) (hr : ∀ j, j + 1 < xs.length → (xs.getD j noRow).xs.getD col 0 ≤ (xs.getD (j + 1) noRow).xs.getD col 0) (k : Nat) (hk : k < xs.length) : hitR col ys xs k = ys.find? (fun f => fk f == (xs.getD k noRow).xs.getD col 0) := hit_find col ys hs _ _ (hit_inv col ys xs hr k hk)

theorem cell_at (x : List Int) (c : Nat) (h : c < x.length) : cell x (c : Int) = some (x.getD c 0) := by
  unfold cell
  rw [if_pos (by omega), Int.toNat_natCast, List.getElem?_eq_getElem h]
  simp [List.getD_eq_getElem?_getD, h]
theorem col_of_cmp (x y : List Int) (c : Nat) (cs : List Int) (hx : c < x.length) (hy : c < y.length) (h : cmpL x y ((c : Int) :: cs) ≤ 0) : x.getD c 0 ≤ y.getD c 0 := by
  unfold cmpL at h
  rw [List.cons_append, List.map_cons] at h
  have e : colL x y (c : Int) = cmpI (x.getD c 0) (y.getD c 0) := by unfold colL; rw [cell_at x c hx, cell_at y c hy]; rfl
  rw [e] at h
  unfold firstN at h
  by_cases h0 : cmpI (x.getD c 0) (y.getD c 0) = 0
  · rw [cmpI_eq] at h0; omega
  · rw [if_neg h0] at h
    have := (cmpI_gt (x.getD c 0) (y.getD c 0))
    omega

def ownV : Option HRow → Value
  | none => .slice none 0 0
  | some f => f.v

set_option maxRecDepth 100000 in
set_option maxHeartbeats 8000000 in
/-- The last file with the row's number. -/
theorem Jn_own {m : Mem} {t : Fr} {aF aX : Option Addr} {nF cF nX cX vb col l : Nat} {fs : List HRow} {X : List Int} (hF : SlA m 1 aF nF cF (fs.map HRow.v)) (hAt : ∀ f ∈ fs, f.At m) (h3 : ∀ f ∈ fs, f.n = 3) (hN : nF ≤ 1000) (hX : SlA m 1 aX nX cX (X.map (.int .i64))) (hcol : col < nX) (hvb : m.get vb = some (.cells false true [vI (col : Nat)])) (hs : fs.Pairwise (fun a b => fk a < fk b))
    (t112 : t 112 = .slice aF nF cF) (t113 : t 113 = .int .i64 (nF : Nat)) (t114 : t 114 = .int .i64 0) (t16 : t 16 = .slice aX nX cX) (t7 : t 7 = ptr vb) (t18 : t 18 = .slice none 0 0) {K : Post3}
    (hK : ∀ t', Agree (writes c_sheaflaw17_StageJoins_39) t t' → t' 18 = ownV (fs.find? (fun f => fk f == X.getD col 0)) → K .normal t' m) :
    wpM E F_sheaflaw17_StageJoins 221 (some l) c_sheaflaw17_StageJoins_39 K t m := by
  refine wpM_cut (fun t' m' => m' = m ∧ t' 18 = ownV (fs.find? (fun f => fk f == X.getD col 0))) ?_ fun t' m' ha ⟨h1, h2⟩ => by rw [h1]; exact hK t' ha h2
  have hl : fs.length = nF := by have := hF.len; simpa using this
  have hlX : X.length = nX := by have := hX.len; simpa using this
  simp only [c_sheaflaw17_StageJoins_39_at, wpM_block, c_sheaflaw17_StageJoins_38_at]
  refine wpM_loopA (fun j t' m' => m' = m ∧ ∃ k : Nat, k ≤ nF ∧ j = nF - k ∧ t' 114 = .int .i64 (k : Nat) ∧ t' 18 = ownV ((fs.take k).find? (fun f => fk f == X.getD col 0))) nF ⟨rfl, 0, by omega, rfl, t114, t18⟩ ?_
  rintro j t' m' ha ⟨rfl, k, hk, rfl, e114, e18⟩
  have e112 := (ha 112 (by decide +kernel)).trans t112
  have e113 := (ha 113 (by decide +kernel)).trans t113
  have e16 := (ha 16 (by decide +kernel)).trans t16
  have e7 := (ha 7 (by decide +kernel)).trans t7
  have rv := get_at0 hvb
  by_cases hlt : k < nF
  · have d1 : decide ((k : Int) < (nF : Int)) = true := by simp; omega
    have w1 : IntKind.wrap .i64 ((k : Int) + 1) = ((k + 1 : Nat) : Int) := by rw [wrap_i64_id _ (by omega) (by omega)]; omega
    have z0 : (0 : Int) ≤ (k : Int) := by omega
    have z1 : (k : Int) < (nF : Int) := by omega
    have c0 : (0 : Int) ≤ (col : Int) := by omega
    have c1 : (col : Int) < (nX : Int) := by omega
    obtain ⟨ab, ao, asp, rfl⟩ := hF.addr (by omega)
    obtain ⟨xb, xo, xsp, rfl⟩ := hX.addr (by omega)
    have r0 : m'.at ab (ao + k) = some (HRow.v (fs[k]'(by omega))) := hF.at_map hlt
    have rx : m'.at xb (xo + col) = some (.int .i64 (X.getD col 0)) := by
      have := hX.at_map hcol
      rw [this]
      simp [List.getD_eq_getElem?_getD, List.getElem?_eq_getElem (show col < X.length by omega)]
    have hm : fs[k]'(by omega) ∈ fs := List.getElem_mem _
    have A := hAt _ hm
    have hn3 := h3 _ hm
    have htk : (fs.take (k + 1)).find? (fun f => fk f == X.getD col 0) = ((fs.take k).find? (fun f => fk f == X.getD col 0)).or ([fs[k]'(by omega)].find? (fun f => fk f == X.getD col 0)) := by
      rw [List.take_succ_eq_append_getElem (by omega), List.find?_append]
    have hearlier : fk (fs[k]'(by omega)) = X.getD col 0 → (fs.take k).find? (fun f => fk f == X.getD col 0) = none := fun e => find_none fun z hz => by
      obtain ⟨i, hi, rfl⟩ := List.getElem_of_mem hz
      rw [List.length_take] at hi
      rw [List.getElem_take]
      have := List.pairwise_iff_getElem.1 hs i k (by omega) (by omega) (by omega)
      omega
    generalize fs[k]'(by omega) = f at *
    obtain ⟨fad, fn, fc, fxs⟩ := f
    simp only at hn3
    subst hn3
    have r1 : m'.at ab (ao + k) = some (.slice fad 3 fc) := r0
    have hfl := A.len
    simp only at hfl
    obtain ⟨gb, go, gs, hg⟩ := A.sl.addr (show 0 < 3 by omega)
    simp only at hg
    subst hg
    have rf : m'.at gb (go + Int.toNat 0) = some (.int .i64 (fxs.getD 0 0)) := by
      have := A.sl.at_map (show 0 < 3 by omega)
      rw [show fxs.getD 0 0 = fxs[0]'(by omega) by simp [List.getD_eq_getElem?_getD, List.getElem?_eq_getElem (show 0 < fxs.length by omega)]]
      exact this
    by_cases heq : fxs.getD 0 0 = X.getD col 0
    · have de : (fxs.getD 0 0 == X.getD col 0) = true := by simpa using heq
      have hf : (fs.take (k + 1)).find? (fun f => fk f == X.getD col 0) = some ⟨some ⟨gb, go, gs⟩, 3, fc, fxs⟩ := by
        rw [htk, hearlier heq, List.find?_cons_of_pos (p := fun f => fk f == X.getD col 0) (a := ⟨some ⟨gb, go, gs⟩, 3, fc, fxs⟩) de]
        rfl
      simp (decide := true) (implicitDefEqProofs := false) (maxDischargeDepth := 20) only [go_sem, ↓reduceIte, e112, e113, e114, e16, e7, d1, w1, z0, z1, c0, c1, r1, rf, rv, rx, de, Int.toNat_natCast, true_implies, false_implies]
      exact ⟨nF - (k + 1), by omega, k + 1, by omega, rfl, rfl, by rw [hf]; rfl⟩
    · have de : (fxs.getD 0 0 == X.getD col 0) = false := by simpa using heq
      have hf : (fs.take (k + 1)).find? (fun f => fk f == X.getD col 0) = (fs.take k).find? (fun f => fk f == X.getD col 0) := by
        rw [htk, List.find?_cons_of_neg (by rw [show (fk ⟨some ⟨gb, go, gs⟩, 3, fc, fxs⟩ == X.getD col 0) = false from de]; exact Bool.noConfusion)]
        simp
      simp (decide := true) (implicitDefEqProofs := false) (maxDischargeDepth := 20) only [go_sem, ↓reduceIte, e112, e113, e114, e16, e7, d1, w1, z0, z1, c0, c1, r1, rf, rv, rx, de, Int.toNat_natCast, true_implies, false_implies]
      exact ⟨nF - (k + 1), by omega, k + 1, by omega, rfl, rfl, by rw [hf]; exact e18⟩
  · have d1 : decide ((k : Int) < (nF : Int)) = false := by simp; omega
    rw [List.take_of_length_le (by omega)] at e18
    simp (decide := true) (implicitDefEqProofs := false) (maxDischargeDepth := 20) only [go_sem, ↓reduceIte, e112, e113, e114, d1, true_implies, false_implies]
    exact e18
end Go.Proofs.Ytpabllcacdopdaa.W
