/-
  The order of rows; the document's Compare (printed by wip/dev/gensrt.py from RowA, RowB, RowC, RowT). Sorted: rows by their order.
-/
import Derived.Test.YtjmppooebppecaaCodeRef
import Derived.Test.YtjmppooebppecaaAbs29
namespace Go.Proofs.Ytjmppooebppecaa.W
open Go.Abs
set_option linter.unusedSimpArgs false
set_option linter.unusedVariables false


/-! ### SrtA -/

def cmpI (x y : Int) : Int := if x < y then -1 else if y < x then 1 else 0
def cell (xs : List Int) (c : Int) : Option Int := if 0 ≤ c then xs[c.toNat]? else none
def cmpO : Option Int → Option Int → Int
  | some x, some y => cmpI x y
  | none, some _ => -1
  | some _, none => 1
  | none, none => 0
def colL (xs ys : List Int) (c : Int) : Int := cmpO (cell xs c) (cell ys c)
/-- The first that is not nought. -/
def firstN : List Int → Int
  | [] => 0
  | x :: r => if x = 0 then firstN r else x
def cmpL (xs ys cols : List Int) : Int := firstN ((cols ++ (List.range (max xs.length ys.length)).map (fun i : Nat => (i : Int))).map (colL xs ys))
theorem firstN_drop (L : List Int) (i : Nat) (h : i < L.length) : firstN (L.drop i) = if L[i] = 0 then firstN (L.drop (i + 1)) else L[i] := by
  rw [List.drop_eq_getElem_cons h]; rfl
def colsL (xs ys cols : List Int) : List Int := (cols ++ (List.range (max xs.length ys.length)).map (fun i : Nat => (i : Int))).map (colL xs ys)
theorem colsL_length (xs ys cols : List Int) : (colsL xs ys cols).length = cols.length + max xs.length ys.length := by simp [colsL]
theorem colsL_1 (xs ys cols : List Int) (i : Nat) (h : i < cols.length) : (colsL xs ys cols)[i]'(by rw [colsL_length]; omega) = colL xs ys cols[i] := by
  unfold colsL
  rw [List.getElem_map, List.getElem_append_left h]
theorem colsL_2 (xs ys cols : List Int) (i : Nat) (h : i < max xs.length ys.length) : (colsL xs ys cols)[cols.length + i]'(by rw [colsL_length]; omega) = colL xs ys i := by
  unfold colsL
  rw [List.getElem_map, List.getElem_append_right (by omega)]
  simp
/-- What three comparisons owe each other. -/
def Tri (f g h : Int) : Prop := ¬ (f = 0 ∧ g = 0 ∧ h ≠ 0) ∧ ¬ (f ≤ 0 ∧ g ≤ 0 ∧ (f ≠ 0 ∨ g ≠ 0) ∧ 0 ≤ h)
theorem cmpO_neg (p q : Option Int) : cmpO q p = -cmpO p q := by
  cases p <;> cases q <;> simp [cmpO]
  unfold cmpI
  split <;> split <;> (try split) <;> omega
theorem cmpO_tri (p q r : Option Int) : Tri (cmpO p q) (cmpO q r) (cmpO p r) := by
  unfold Tri
  cases p <;> cases q <;> cases r <;> simp [cmpO] <;> unfold cmpI <;> (repeat' split) <;> omega
theorem cmpO_zero (p q : Option Int) : cmpO p q = 0 ↔ p = q := by
  cases p <;> cases q <;> simp [cmpO]
  unfold cmpI
  split
  · simp; omega
  · split
    · simp; omega
    · simp; omega
theorem firstN_neg : ∀ (L : List Int), firstN (L.map fun x => -x) = -firstN L
  | [] => rfl
  | x :: L => by
    simp only [List.map_cons, firstN]
    by_cases h : x = 0
    · rw [if_pos (by omega), if_pos h, firstN_neg L]
    · rw [if_neg (by omega), if_neg h]
theorem firstN_zero : ∀ (L : List Int), firstN L = 0 ↔ ∀ x ∈ L, x = 0
  | [] => by simp [firstN]
  | x :: L => by
    simp only [firstN, List.mem_cons, forall_eq_or_imp]
    by_cases h : x = 0
    · rw [if_pos h, firstN_zero L]; simp [h]
    · rw [if_neg h]; simp [h]
theorem tri_ite (f0 g0 h0 f1 g1 h1 : Int) (t : Tri f0 g0 h0) (i : Tri f1 g1 h1) : Tri (if f0 = 0 then f1 else f0) (if g0 = 0 then g1 else g0) (if h0 = 0 then h1 else h0) := by
  unfold Tri at *
  by_cases hf : f0 = 0
  · rw [if_pos hf]
    by_cases hg : g0 = 0
    · rw [if_pos hg]
      by_cases hh : h0 = 0
      · rw [if_pos hh]; exact i
      · exfalso; omega
    · rw [if_neg hg]
      by_cases hh : h0 = 0
      · rw [if_pos hh]
        constructor
        · rintro ⟨_, h, _⟩; exact hg h
        · rintro ⟨_, h, _⟩; omega
      · rw [if_neg hh]
        constructor
        · rintro ⟨_, h, _⟩; exact hg h
        · rintro ⟨_, h, _⟩; omega
  · rw [if_neg hf]
    constructor
    · rintro ⟨h, _⟩; exact hf h
    · rintro ⟨ha, hb, hc, hd⟩
      by_cases hh : h0 = 0
      · rw [if_pos hh] at hd
        by_cases hg : g0 = 0
        · omega
        · rw [if_neg hg] at hb; omega
      · rw [if_neg hh] at hd
        by_cases hg : g0 = 0
        · omega
        · rw [if_neg hg] at hb; omega
theorem firstN_tri (F G H : Int → Int) (T : ∀ c, Tri (F c) (G c) (H c)) : ∀ (L : List Int), Tri (firstN (L.map F)) (firstN (L.map G)) (firstN (L.map H))
  | [] => by unfold Tri; simp [firstN]
  | c :: L => tri_ite _ _ _ _ _ _ (T c) (firstN_tri F G H T L)
theorem firstN_append_zero (L R : List Int) (h : ∀ x ∈ R, x = 0) : firstN (L ++ R) = firstN L := by
  induction L with
  | nil => rw [List.nil_append]; exact (firstN_zero R).2 h
  | cons x L ih => simp only [List.cons_append, firstN, ih]
/-- More columns change nothing. -/
theorem cmpL_more (xs ys cols : List Int) (N : Nat) (h : max xs.length ys.length ≤ N) : cmpL xs ys cols = firstN ((cols ++ (List.range N).map (fun i : Nat => (i : Int))).map (colL xs ys)) := by
  unfold cmpL
  obtain ⟨k, rfl⟩ : ∃ k, N = max xs.length ys.length + k := ⟨N - max xs.length ys.length, by omega⟩
  have e0 : (cols ++ (List.range (max xs.length ys.length + k)).map (fun i : Nat => (i : Int))).map (colL xs ys) = (cols ++ (List.range (max xs.length ys.length)).map (fun i : Nat => (i : Int))).map (colL xs ys) ++ (((List.range k).map (fun i => max xs.length ys.length + i)).map (fun i : Nat => (i : Int))).map (colL xs ys) := by
    rw [List.range_add]
    simp only [List.map_append, List.append_assoc]
  rw [e0, firstN_append_zero]
  intro x hx
  simp only [List.map_map, List.mem_map, List.mem_range, Function.comp_apply] at hx
  obtain ⟨i, _, rfl⟩ := hx
  have e : ∀ zs : List Int, zs.length ≤ max xs.length ys.length → cell zs ((max xs.length ys.length + i : Nat) : Int) = none := by
    intro zs hz
    unfold cell
    rw [if_pos (by omega), Int.toNat_natCast, List.getElem?_eq_none (by omega)]
  unfold colL
  rw [e xs (by omega), e ys (by omega)]
  rfl
theorem cmpL_neg (xs ys cols : List Int) : cmpL ys xs cols = -cmpL xs ys cols := by
  unfold cmpL
  rw [← firstN_neg, List.map_map, Nat.max_comm]
  congr 1
  apply List.map_congr_left
  intro c _
  exact cmpO_neg _ _
theorem cmpL_tri (xs ys zs cols : List Int) : Tri (cmpL xs ys cols) (cmpL ys zs cols) (cmpL xs zs cols) := by
  rw [cmpL_more xs ys cols (xs.length + ys.length + zs.length) (by omega), cmpL_more ys zs cols (xs.length + ys.length + zs.length) (by omega), cmpL_more xs zs cols (xs.length + ys.length + zs.length) (by omega)]
  exact firstN_tri _ _ _ (fun c => cmpO_tri _ _ _) _
theorem cmpL_zero (xs ys cols : List Int) : cmpL xs ys cols = 0 ↔ xs = ys := by
  unfold cmpL
  rw [firstN_zero]
  constructor
  · intro h
    apply List.ext_getElem?
    intro i
    by_cases hi : i < max xs.length ys.length
    · have := h (colL xs ys (i : Int)) (List.mem_map.2 ⟨(i : Int), List.mem_append_right _ (List.mem_map.2 ⟨i, List.mem_range.2 hi, rfl⟩), rfl⟩)
      have := (cmpO_zero _ _).1 this
      unfold cell at this
      rwa [if_pos (by omega), if_pos (by omega), Int.toNat_natCast] at this
    · rw [List.getElem?_eq_none (by omega), List.getElem?_eq_none (by omega)]
  · rintro rfl x hx
    obtain ⟨c, _, rfl⟩ := List.mem_map.1 hx
    exact (cmpO_zero _ _).2 rfl
set_option maxRecDepth 100000 in
set_option maxHeartbeats 4000000 in
theorem rColumn_at {m : Mem} {a b : Option Addr} {n n' c c' : Nat} {xs ys : List Int} (k : Int) (h : SlA m 1 a n c (xs.map (.int .i64))) (h' : SlA m 1 b n' c' (ys.map (.int .i64))) :
    CallQ E F_sheafref12_column [.slice a n c, .slice b n' c', .int .i64 k].toArray m fun w m' => w = .int .i64 (colL xs ys k) ∧ Old m m' := by
  have hl : xs.length = n := by have := h.len; simpa using this
  have hl' : ys.length = n' := by have := h'.len; simpa using this
  refine .enter fn_sheafref12_column (by simp) ?_
  by_cases h0 : 0 ≤ k
  · have d0 : decide (k ≥ 0) = true := by simpa using h0
    obtain ⟨i, rfl⟩ : ∃ i : Nat, k = i := ⟨k.toNat, by omega⟩
    have cx : ∀ zs : List Int, cell zs (i : Int) = zs[i]? := fun zs => by unfold cell; rw [if_pos h0, Int.toNat_natCast]
    unfold colL
    rw [cx, cx]
    by_cases h1 : i < n
    · have d1 : decide ((i : Int) < (n : Int)) = true := by simp; omega
      obtain ⟨ab, ao, asp, rfl⟩ := h.addr (by omega)
      have r1 := h.at_map h1
      have z1 : (i : Int) < (n : Int) := by omega
      rw [List.getElem?_eq_getElem (show i < xs.length by omega)]
      by_cases h2 : i < n'
      · have d2 : decide ((i : Int) < (n' : Int)) = true := by simp; omega
        obtain ⟨bb, bo, bsp, rfl⟩ := h'.addr (by omega)
        have r2 := h'.at_map h2
        have z2 : (i : Int) < (n' : Int) := by omega
        rw [List.getElem?_eq_getElem (show i < ys.length by omega)]
        have e0 : cmpO (some (xs[i]'(by omega))) (some (ys[i]'(by omega))) = cmpI (xs[i]'(by omega)) (ys[i]'(by omega)) := rfl
        rw [e0]
        generalize xs[i]'(by omega) = x at *
        generalize ys[i]'(by omega) = y at *
        unfold cmpI
        by_cases h3 : x < y
        · have d3 : decide (x < y) = true := by simpa using h3
          rw [if_pos h3]
          simp (decide := true) (implicitDefEqProofs := false) (maxDischargeDepth := 20) only [go_sem, ↓reduceIte, d0, d1, d2, d3, h0, z1, z2, r1, r2, Int.toNat_natCast, true_implies, false_implies]
          first | done | exact ⟨rfl, .refl m⟩ | exact rfl
        · have d3 : decide (x < y) = false := by simpa using h3
          rw [if_neg h3]
          by_cases h4 : y < x
          · have d4 : decide (x > y) = true := by simpa using h4
            rw [if_pos h4]
            simp (decide := true) (implicitDefEqProofs := false) (maxDischargeDepth := 20) only [go_sem, ↓reduceIte, d0, d1, d2, d3, d4, h0, z1, z2, r1, r2, Int.toNat_natCast, true_implies, false_implies]
            first | done | exact ⟨rfl, .refl m⟩ | exact rfl
          · have d4 : decide (x > y) = false := by simpa using h4
            rw [if_neg h4]
            simp (decide := true) (implicitDefEqProofs := false) (maxDischargeDepth := 20) only [go_sem, ↓reduceIte, d0, d1, d2, d3, d4, h0, z1, z2, r1, r2, Int.toNat_natCast, true_implies, false_implies]
            first | done | exact ⟨rfl, .refl m⟩ | exact rfl
      · have d2 : decide ((i : Int) < (n' : Int)) = false := by simp; omega
        rw [List.getElem?_eq_none (show ys.length ≤ i by omega)]
        simp (decide := true) (implicitDefEqProofs := false) (maxDischargeDepth := 20) only [go_sem, ↓reduceIte, d0, d1, d2, true_implies, false_implies]
        first | done | exact ⟨rfl, .refl m⟩ | exact rfl
    · have d1 : decide ((i : Int) < (n : Int)) = false := by simp; omega
      rw [List.getElem?_eq_none (show xs.length ≤ i by omega)]
      by_cases h2 : i < n'
      · have d2 : decide ((i : Int) < (n' : Int)) = true := by simp; omega
        rw [List.getElem?_eq_getElem (show i < ys.length by omega)]
        simp (decide := true) (implicitDefEqProofs := false) (maxDischargeDepth := 20) only [go_sem, ↓reduceIte, d0, d1, d2, true_implies, false_implies]
        first | done | exact ⟨rfl, .refl m⟩ | exact rfl
      · have d2 : decide ((i : Int) < (n' : Int)) = false := by simp; omega
        rw [List.getElem?_eq_none (show ys.length ≤ i by omega)]
        simp (decide := true) (implicitDefEqProofs := false) (maxDischargeDepth := 20) only [go_sem, ↓reduceIte, d0, d1, d2, true_implies, false_implies]
        first | done | exact ⟨rfl, .refl m⟩ | exact rfl
  · have d0 : decide (k ≥ 0) = false := by simpa using h0
    have e : colL xs ys k = 0 := by unfold colL cell; rw [if_neg h0, if_neg h0]; rfl
    rw [e]
    simp (decide := true) (implicitDefEqProofs := false) (maxDischargeDepth := 20) only [go_sem, ↓reduceIte, d0, true_implies, false_implies]
    first | done | exact ⟨rfl, .refl m⟩ | exact .refl m
set_option maxRecDepth 100000 in
set_option maxHeartbeats 4000000 in
theorem rCompare_at {m : Mem} {a b d : Option Addr} {n n' q c c' c'' : Nat} {xs ys cols : List Int} (h : SlA m 1 a n c (xs.map (.int .i64))) (h' : SlA m 1 b n' c' (ys.map (.int .i64))) (hc : SlA m 1 d q c'' (cols.map (.int .i64))) (hn : n ≤ 1000000) (hn' : n' ≤ 1000000) (hq : q ≤ 1000000) :
    CallQ E F_sheafref12_Compare [.slice a n c, .slice b n' c', .slice d q c''].toArray m fun w m' => w = .int .i64 (cmpL xs ys cols) ∧ Old m m' := by
  have hl : xs.length = n := by have := h.len; simpa using this
  have hl' : ys.length = n' := by have := h'.len; simpa using this
  have hlc : cols.length = q := by have := hc.len; simpa using this
  show CallQ E F_sheafref12_Compare [.slice a n c, .slice b n' c', .slice d q c''].toArray m fun w m' => w = .int .i64 (firstN (colsL xs ys cols)) ∧ Old m m'
  have LL := colsL_length xs ys cols
  refine .enter fn_sheafref12_Compare (by simp) ?_
  simp (decide := true) (implicitDefEqProofs := false) (maxDischargeDepth := 20) only [go_sem, ↓reduceIte]
  simp only [c_sheafref12_Compare_11_at, wpM_block, c_sheafref12_Compare_10_at]
  refine wpM_loopA (fun j t' m' => ∃ i : Nat, i ≤ q ∧ j = q - i ∧ t' 14 = .int .i64 i ∧ Old m m' ∧ firstN ((colsL xs ys cols).drop i) = firstN (colsL xs ys cols)) q ⟨0, by omega, rfl, by simp (decide := true) only [go_sem, ↓reduceIte]; try rfl, .refl m, rfl⟩ ?_
  rintro j t' m' ha ⟨i, hi, rfl, e14, o1, hf⟩
  have a0 := ha 0 (by decide +kernel)
  have a1 := ha 1 (by decide +kernel)
  have a12 := ha 12 (by decide +kernel)
  have a13 := ha 13 (by decide +kernel)
  simp (decide := true) only [go_sem, ↓reduceIte] at a0 a1 a12 a13
  have h1 := h.old o1
  have h1' := h'.old o1
  have hc1 := hc.old o1
  by_cases hlt : i < q
  · have d1 : decide ((i : Int) < (q : Int)) = true := by simp; omega
    have w1 : IntKind.wrap .i64 ((i : Int) + 1) = ((i + 1 : Nat) : Int) := by rw [wrap_i64_id _ (by omega) (by omega)]; omega
    have z0 : (0 : Int) ≤ (i : Int) := by omega
    have z1 : (i : Int) < (q : Int) := by omega
    obtain ⟨db, dof, dsp, rfl⟩ := hc1.addr (by omega)
    have R := fun K => callQ_eq (rColumn_at (cols[i]'(by omega)) h1 h1') K
    have s := firstN_drop (colsL xs ys cols) i (by omega)
    rw [colsL_1 xs ys cols i (by omega)] at s
    have r := hc1.at_map hlt
    by_cases hz : colL xs ys (cols[i]'(by omega)) = 0
    · rw [if_pos hz, hf] at s
      rw [hz] at R
      simp (decide := true) (implicitDefEqProofs := false) (maxDischargeDepth := 20) only [go_sem, ↓reduceIte, a0, a1, a12, a13, e14, d1, w1, z0, z1, r, R, Int.toNat_natCast, true_implies, false_implies]
      exact ⟨q - (i + 1), by omega, i + 1, by omega, rfl, rfl, o1.trans (.ansM (.refl _)), s.symm⟩
    · rw [if_neg hz, hf] at s
      have nz : (colL xs ys (cols[i]'(by omega)) != 0) = true := by simpa using hz
      rw [s]
      simp (decide := true) (implicitDefEqProofs := false) (maxDischargeDepth := 20) only [go_sem, ↓reduceIte, a0, a1, a12, a13, e14, d1, w1, z0, z1, r, R, nz, Int.toNat_natCast, true_implies, false_implies]
      exact o1.trans (.ansM (.refl _))
  · have d1 : decide ((i : Int) < (q : Int)) = false := by simp; omega
    have hiq : i = q := by omega
    subst hiq
    have mx : max (n : Int) (n' : Int) = ((max n n' : Nat) : Int) := by omega
    simp (decide := true) (implicitDefEqProofs := false) (maxDischargeDepth := 20) only [go_sem, ↓reduceIte, a0, a1, a12, a13, e14, d1, mx, true_implies, false_implies]
    simp only [c_sheafref12_Compare_23_at, wpM_block, c_sheafref12_Compare_22_at]
    refine wpM_loopA (fun j t' m' => ∃ k : Nat, k ≤ max n n' ∧ j = max n n' - k ∧ t' 10 = .int .i64 k ∧ Old m m' ∧ firstN ((colsL xs ys cols).drop (i + k)) = firstN (colsL xs ys cols)) (max n n') ⟨0, by omega, rfl, by simp (decide := true) only [go_sem, ↓reduceIte]; try rfl, o1, hf⟩ ?_
    rintro j t2 m2 hb ⟨k, hk, rfl, e10, o2, hf2⟩
    have b0 := hb 0 (by decide +kernel)
    have b1 := hb 1 (by decide +kernel)
    simp (decide := true) only [go_sem, ↓reduceIte, a0, a1] at b0 b1
    have h2 := h.old o2
    have h2' := h'.old o2
    by_cases hlt2 : k < max n n'
    · by_cases hA : k < n
      · have d2 : decide ((k : Int) < (n : Int)) = true := by simp; omega
        have w1 : IntKind.wrap .i64 ((k : Int) + 1) = ((k + 1 : Nat) : Int) := by rw [wrap_i64_id _ (by omega) (by omega)]; omega
        have R := fun K => callQ_eq (rColumn_at (k : Int) h2 h2') K
        have s := firstN_drop (colsL xs ys cols) (i + k) (by omega)
        have s2 := colsL_2 xs ys cols k (by omega)
        simp only [hlc] at s2
        rw [s2] at s
        by_cases hz : colL xs ys (k : Int) = 0
        · rw [if_pos hz, hf2] at s
          rw [hz] at R
          simp (decide := true) (implicitDefEqProofs := false) (maxDischargeDepth := 20) only [go_sem, ↓reduceIte, b0, b1, e10, d2, w1, R, true_implies, false_implies]
          exact ⟨max n n' - (k + 1), by omega, k + 1, by omega, rfl, rfl, o2.trans (.ansM (.refl _)), s.symm⟩
        · rw [if_neg hz, hf2] at s
          have nz : (colL xs ys (k : Int) != 0) = true := by simpa using hz
          rw [s]
          simp (decide := true) (implicitDefEqProofs := false) (maxDischargeDepth := 20) only [go_sem, ↓reduceIte, b0, b1, e10, d2, w1, R, nz, true_implies, false_implies]
          exact o2.trans (.ansM (.refl _))
      · have d2 : decide ((k : Int) < (n : Int)) = false := by simp; omega
        have d3 : decide ((k : Int) < (n' : Int)) = true := by simp; omega
        have w1 : IntKind.wrap .i64 ((k : Int) + 1) = ((k + 1 : Nat) : Int) := by rw [wrap_i64_id _ (by omega) (by omega)]; omega
        have R := fun K => callQ_eq (rColumn_at (k : Int) h2 h2') K
        have s := firstN_drop (colsL xs ys cols) (i + k) (by omega)
        have s2 := colsL_2 xs ys cols k (by omega)
        simp only [hlc] at s2
        rw [s2] at s
        by_cases hz : colL xs ys (k : Int) = 0
        · rw [if_pos hz, hf2] at s
          rw [hz] at R
          simp (decide := true) (implicitDefEqProofs := false) (maxDischargeDepth := 20) only [go_sem, ↓reduceIte, b0, b1, e10, d2, d3, w1, R, true_implies, false_implies]
          exact ⟨max n n' - (k + 1), by omega, k + 1, by omega, rfl, rfl, o2.trans (.ansM (.refl _)), s.symm⟩
        · rw [if_neg hz, hf2] at s
          have nz : (colL xs ys (k : Int) != 0) = true := by simpa using hz
          rw [s]
          simp (decide := true) (implicitDefEqProofs := false) (maxDischargeDepth := 20) only [go_sem, ↓reduceIte, b0, b1, e10, d2, d3, w1, R, nz, true_implies, false_implies]
          exact o2.trans (.ansM (.refl _))
    · have d2 : decide ((k : Int) < (n : Int)) = false := by simp; omega
      have d3 : decide ((k : Int) < (n' : Int)) = false := by simp; omega
      rw [List.drop_of_length_le (by omega)] at hf2
      rw [← hf2]
      simp (decide := true) (implicitDefEqProofs := false) (maxDischargeDepth := 20) only [go_sem, ↓reduceIte, b0, b1, e10, d2, d3, true_implies, false_implies]
      first | done | exact ⟨rfl, o2⟩ | exact o2


/-! ### SrtB -/

/-- A row put among those ahead of it, the last one first. -/
def insR (cols : List Int) (r : HRow) : List HRow → List HRow
  | [] => [r]
  | y :: ys => if cmpL r.xs y.xs cols < 0 then y :: insR cols r ys else r :: y :: ys
def sortR (cols : List Int) (rs : List HRow) : List HRow := rs.foldl (fun acc r => insR cols r acc) []
def sortL (cols : List Int) (rs : List HRow) : List HRow := (sortR cols rs).reverse

theorem insR_perm (cols : List Int) (r : HRow) : ∀ l, (insR cols r l).Perm (r :: l)
  | [] => .refl _
  | y :: ys => by
    unfold insR
    split
    · exact (List.Perm.cons y (insR_perm cols r ys)).trans (List.Perm.swap r y ys)
    · exact .refl _
theorem sortR_snoc (cols : List Int) (rs : List HRow) (r : HRow) : sortR cols (rs ++ [r]) = insR cols r (sortR cols rs) := by unfold sortR; rw [List.foldl_append]; rfl
theorem foldl_ins_perm (cols : List Int) : ∀ (rs acc : List HRow), (rs.foldl (fun acc r => insR cols r acc) acc).Perm (rs ++ acc)
  | [], acc => .refl _
  | r :: rs, acc => by
    rw [List.foldl_cons]
    exact (foldl_ins_perm cols rs _).trans (((insR_perm cols r acc).append_left rs).trans (by simp))
theorem sortR_perm (cols : List Int) (rs : List HRow) : (sortR cols rs).Perm rs := by
  have := foldl_ins_perm cols rs []
  rwa [List.append_nil] at this
theorem sortL_perm (cols : List Int) (rs : List HRow) : (sortL cols rs).Perm rs := (List.reverse_perm _).trans (sortR_perm cols rs)

theorem cmp_trans (cols : List Int) {a b c : List Int} (h : 0 ≤ cmpL a b cols) (k : 0 ≤ cmpL b c cols) : 0 ≤ cmpL a c cols := by
  have t := (cmpL_tri c b a cols).2
  rw [cmpL_neg b c, cmpL_neg a b, cmpL_neg a c] at t
  by_cases h1 : cmpL b c cols = 0
  · rw [(cmpL_zero b c cols).1 h1] at h; exact h
  · omega
theorem insR_sorted (cols : List Int) (r : HRow) : ∀ l : List HRow, l.Pairwise (fun a b => 0 ≤ cmpL a.xs b.xs cols) → (insR cols r l).Pairwise (fun a b => 0 ≤ cmpL a.xs b.xs cols)
  | [], _ => by simp [insR]
  | y :: ys, h => by
    rw [List.pairwise_cons] at h
    unfold insR
    split
    · rename_i hlt
      rw [List.pairwise_cons]
      refine ⟨fun x hx => ?_, insR_sorted cols r ys h.2⟩
      rcases List.mem_cons.1 ((insR_perm cols r ys).mem_iff.1 hx) with rfl | hx
      · rw [cmpL_neg]; omega
      · exact h.1 x hx
    · rename_i hge
      rw [List.pairwise_cons, List.pairwise_cons]
      refine ⟨fun x hx => ?_, h⟩
      rcases List.mem_cons.1 hx with rfl | hx
      · omega
      · exact cmp_trans cols (by omega) (h.1 x hx)
theorem foldl_ins_sorted (cols : List Int) : ∀ (rs acc : List HRow), acc.Pairwise (fun a b => 0 ≤ cmpL a.xs b.xs cols) → (rs.foldl (fun acc r => insR cols r acc) acc).Pairwise (fun a b => 0 ≤ cmpL a.xs b.xs cols)
  | [], _, h => h
  | r :: rs, acc, h => foldl_ins_sorted cols rs _ (insR_sorted cols r acc h)
/-- The rows rise. -/
theorem sortL_sorted (cols : List Int) (rs : List HRow) : (sortL cols rs).Pairwise (fun a b => cmpL a.xs b.xs cols ≤ 0) := by
  unfold sortL
  rw [List.pairwise_reverse]
  refine (foldl_ins_sorted cols rs [] List.Pairwise.nil).imp fun {a b} h => ?_
  rw [cmpL_neg]; omega

theorem swap_set {α : Type} (P Q : List α) (y r : α) : ((P ++ y :: r :: Q).set (P.length + 1) y).set P.length r = P ++ r :: y :: Q := by
  rw [List.set_append_right _ _ (by omega), List.set_append_right _ _ (by omega)]
  simp

set_option maxRecDepth 100000 in
set_option maxHeartbeats 4000000 in
theorem Sorted_at {m : Mem} {a d : Option Addr} {n c q c' : Nat} {rs : List HRow} {cols : List Int} (h : SlA m 1 a n c (rs.map HRow.v)) (hr : ∀ r ∈ rs, r.At m) (hrn : ∀ r ∈ rs, r.n ≤ 1000000) (hc : SlA m 1 d q c' (cols.map (.int .i64))) (hn : n ≤ 1000000) (hq : q ≤ 1000000) :
    CallQ E F_sheafref12_Sorted [.slice a n c, .slice d q c'].toArray m fun w m' => ∃ b s, w = .slice (some ⟨b, 0, s⟩) n n ∧ Vec m.size m' 1 (some ⟨b, 0, s⟩) n ((sortL cols rs).map HRow.v) ∧ Old m m' := by
  have hl : rs.length = n := by have := h.len; simpa using this
  refine .enter fn_sheafref12_Sorted (by simp) ?_
  simp (decide := true) (implicitDefEqProofs := false) (maxDischargeDepth := 20) only [go_sem, ↓reduceIte, true_implies, false_implies]
  have v0 : Vec m.size (m.push (.cells false true [])) 1 (some ⟨m.size, 0, none⟩) 0 [] := .built (Nat.le_refl _) rfl
  have hone : (rs.map HRow.v).all oneCell = true := by
    rw [List.all_eq_true]
    intro x hx
    obtain ⟨y, _, rfl⟩ := List.mem_map.1 hx
    rfl
  refine v0.append (by simp) ((h.push _).appended' (by decide +kernel) (by decide)) (by simp; omega) (by decide +kernel) hone (by omega) fun m1 b2 v1 k1 hb2 => ?_
  have o1 : Old m m1 := v0.keepOld k1 (.push (.refl _) _)
  simp only [Nat.zero_add, List.nil_append] at v1 ⊢
  obtain ⟨b, s, rfl⟩ : ∃ b s, b2 = some ⟨b, 0, s⟩ := by
    rcases hb2 with rfl | ⟨s, rfl⟩
    · exact ⟨_, _, rfl⟩
    · exact ⟨_, _, rfl⟩
  simp (decide := true) (implicitDefEqProofs := false) (maxDischargeDepth := 20) only [go_sem, ↓reduceIte, true_implies, false_implies]
  simp only [c_sheafref12_Sorted_14_at, wpM_block, c_sheafref12_Sorted_13_at]
  refine wpM_loopA (fun j t' m' => ∃ i : Nat, 1 ≤ i ∧ j = n - i ∧ i ≤ max 1 n ∧ t' 6 = .int .i64 (i : Nat) ∧ Vec m.size m' 1 (some ⟨b, 0, s⟩) n (((sortR cols (rs.take i)).reverse ++ rs.drop i).map HRow.v) ∧ Old m m') (n - 1)
    ⟨1, by omega, rfl, by omega, by simp (decide := true) only [go_sem, ↓reduceIte]; try rfl, ?_, o1⟩ ?_
  · cases rs with
    | nil => exact v1
    | cons r l => exact v1
  rintro j t' m' ha ⟨i, hi1, rfl, hi, e6, V, o⟩
  have a1 := ha 1 (by decide +kernel)
  have a5 := ha 5 (by decide +kernel)
  simp (decide := true) only [go_sem, ↓reduceIte] at a1 a5
  by_cases hlt : i < n
  · have d1 : decide ((i : Int) < (n : Int)) = true := by simp; omega
    have w1 : IntKind.wrap .i64 ((i : Int) + 1) = ((i + 1 : Nat) : Int) := by rw [wrap_i64_id _ (by omega) (by omega)]; omega
    have hdrop : rs.drop i = rs[i] :: rs.drop (i + 1) := List.drop_eq_getElem_cons (by omega)
    have htk : rs.take (i + 1) = rs.take i ++ [rs[i]] := List.take_succ_eq_append_getElem (by omega)
    have hst : sortR cols (rs.take (i + 1)) = insR cols rs[i] (sortR cols (rs.take i)) := by rw [htk, sortR_snoc]
    have hal : (sortR cols (rs.take i)).length = i := by rw [(sortR_perm cols (rs.take i)).length_eq, List.length_take]; omega
    have hrr : rs[i] ∈ rs := List.getElem_mem _
    have hmem : ∀ x ∈ sortR cols (rs.take i), x ∈ rs := fun x hx => List.mem_of_mem_take ((sortR_perm cols _).mem_iff.1 hx)
    rw [hdrop] at V
    generalize rs[i] = r at *
    generalize sortR cols (rs.take i) = acc at *
    obtain ⟨rest, hrest⟩ : ∃ x, x = rs.drop (i + 1) := ⟨_, rfl⟩
    rw [← hrest] at V hdrop
    simp (decide := true) (implicitDefEqProofs := false) (maxDischargeDepth := 20) only [go_sem, ↓reduceIte, a1, a5, e6, d1, true_implies, false_implies]
    simp only [c_sheafref12_Sorted_8_at, wpM_block, c_sheafref12_Sorted_7_at]
    refine wpM_loopA (fun j t2 m2 => ∃ (arev B : List HRow), j = arev.length ∧ arev.length ≤ i ∧ t2 7 = .int .i64 (arev.length : Nat) ∧ insR cols r acc = B.reverse ++ insR cols r arev ∧ (∀ x ∈ arev, x ∈ rs) ∧ Vec m.size m2 1 (some ⟨b, 0, s⟩) n ((arev.reverse ++ r :: (B ++ rest)).map HRow.v) ∧ Old m m2) i
      ⟨acc, [], hal.symm, by omega, by simp (decide := true) only [go_sem, ↓reduceIte, hal]; try rfl, rfl, hmem, by simpa using V, o⟩ ?_
    rintro j t2 m2 hb ⟨arev, B, rfl, hai, e7, hins, hmem2, V2, o2⟩
    have b1 := hb 1 (by decide +kernel)
    have b5 := hb 5 (by decide +kernel)
    have b6 := hb 6 (by decide +kernel)
    simp (decide := true) only [go_sem, ↓reduceIte, a1, a5, e6] at b1 b5 b6
    cases arev with
    | nil =>
      have d2 : decide (((([] : List HRow).length : Nat) : Int) > 0) = false := by decide
      simp (decide := true) (implicitDefEqProofs := false) (maxDischargeDepth := 20) only [go_sem, ↓reduceIte, b1, b5, b6, e7, d2, w1, true_implies, false_implies]
      refine ⟨n - (i + 1), by omega, i + 1, by omega, rfl, by omega, rfl, ?_, o2⟩
      rw [hst, hins, ← hrest]
      simpa [insR] using V2
    | cons y ys =>
      have e7 : t2 7 = .int .i64 ((ys.length + 1 : Nat) : Int) := e7
      have hlen := V2.len
      simp only [List.length_map, List.length_append, List.length_reverse, List.length_cons, Nat.mul_one] at hlen hai
      have d2 : decide (((ys.length + 1 : Nat) : Int) > 0) = true := by simp only [decide_eq_true_eq]; omega
      have w2 : IntKind.wrap .i64 (((ys.length + 1 : Nat) : Int) - 1) = ((ys.length : Nat) : Int) := by rw [wrap_i64_id _ (by omega) (by omega)]; omega
      have z0 : (0 : Int) ≤ ((ys.length + 1 : Nat) : Int) := by omega
      have z1 : ((ys.length + 1 : Nat) : Int) < (n : Int) := by omega
      have z2 : (0 : Int) ≤ ((ys.length : Nat) : Int) := by omega
      have z3 : ((ys.length : Nat) : Int) < (n : Int) := by omega
      obtain ⟨_, _, tg, hg⟩ := V2.blk _ rfl
      simp only at hg
      have eL : ((y :: ys).reverse ++ r :: (B ++ rest)).map HRow.v = (ys.reverse.map HRow.v) ++ y.v :: r.v :: ((B ++ rest).map HRow.v) := by simp
      rw [eL] at hg V2
      have ll : (ys.reverse.map HRow.v).length = ys.length := by simp
      have r1 : m2.at b (ys.length + 1) = some r.v := by
        unfold Mem.at
        rw [hg]
        show ((ys.reverse.map HRow.v) ++ y.v :: r.v :: ((B ++ rest).map HRow.v))[ys.length + 1]? = _
        rw [List.getElem?_append_right (by simp), ll]
        simp
      have r2 : m2.at b ys.length = some y.v := by
        unfold Mem.at
        rw [hg]
        show ((ys.reverse.map HRow.v) ++ y.v :: r.v :: ((B ++ rest).map HRow.v))[ys.length]? = _
        rw [List.getElem?_append_right (by simp), ll]
        simp
      have hrA := (hr r hrr).old o2
      have hyA := (hr y (hmem2 y (by simp))).old o2
      have hrN := hrn r hrr
      have hyN := hrn y (hmem2 y (by simp))
      have hcm := hc.old o2
      have hsw := swap_set (ys.reverse.map HRow.v) ((B ++ rest).map HRow.v) y.v r.v
      rw [ll] at hsw
      have hcsl : ((ys.reverse.map HRow.v) ++ y.v :: r.v :: ((B ++ rest).map HRow.v)).length = n := by simp; omega
      generalize hcs : (ys.reverse.map HRow.v) ++ y.v :: r.v :: ((B ++ rest).map HRow.v) = cs at *
      have hyy : (y :: ys).length = ys.length + 1 := rfl
      have hfin : insR cols r (y :: ys) = if cmpL r.xs y.xs cols < 0 then y :: insR cols r ys else r :: y :: ys := rfl
      have heR : ys.reverse.map HRow.v ++ r.v :: y.v :: ((B ++ rest).map HRow.v) = (ys.reverse ++ r :: ((y :: B) ++ rest)).map HRow.v := by simp
      rw [heR] at hsw
      have hv1 : y.v = .slice y.ad y.n y.c := rfl
      have hv2 : r.v = .slice r.ad r.n r.c := rfl
      rw [hv2] at r1
      rw [hv1] at r2
      rw [hv1, hv2] at hsw
      simp (decide := true) (implicitDefEqProofs := false) (maxDischargeDepth := 20) only [go_sem, ↓reduceIte, b1, b5, b6, e7, d2, w2, z0, z1, z2, z3, r1, r2, Int.toNat_natCast, true_implies, false_implies]
      refine (rCompare_at hrA.sl hyA.sl hcm (by omega) (by omega) (by omega)).mono ?_
      rintro w m3 ⟨rfl, o3⟩
      have hg3 := (o3.get (getM_lt hg)).trans hg
      have r13 : m3.at b (ys.length + 1) = some (.slice r.ad r.n r.c) := by rw [← r1]; unfold Mem.at; rw [hg3, hg]
      have r23 : m3.at b ys.length = some (.slice y.ad y.n y.c) := by rw [← r2]; unfold Mem.at; rw [hg3, hg]
      by_cases hcmp : cmpL r.xs y.xs cols < 0
      · have d3 : decide (cmpL r.xs y.xs cols < 0) = true := by simpa using hcmp
        rw [if_pos hcmp] at hfin
        have lx1 : decide (ys.length + (1 + 1) ≤ cs.length) = true := by simp; omega
        have lx2 : decide (ys.length + 1 ≤ cs.length) = true := by simp; omega
        have lb3 := getM_lt hg3
        simp (decide := true) (implicitDefEqProofs := false) (maxDischargeDepth := 20) only [go_sem, ↓reduceIte, b1, b5, b6, e7, d2, d3, w2, z0, z1, z2, z3, r13, r23, hg3, lx1, lx2, lb3, List.length_set, Int.toNat_natCast, true_implies, false_implies]
        refine ⟨ys.length, by omega, ys, y :: B, rfl, by omega, rfl, ?_, fun x hx => hmem2 x (List.mem_cons_of_mem _ hx), ?_, ?_⟩
        · rw [hins, hfin]; simp
        · rw [← hsw]
          exact ((V2.old o3).set (tg := tg) _ _).set (tg := tg) _ _
        · exact ((o2.trans o3).put _ _ (V2.blk _ rfl).1).put _ _ (V2.blk _ rfl).1
      · have d3 : decide (cmpL r.xs y.xs cols < 0) = false := by simpa using hcmp
        rw [if_neg hcmp] at hfin
        simp (decide := true) (implicitDefEqProofs := false) (maxDischargeDepth := 20) only [go_sem, ↓reduceIte, b1, b5, b6, e7, d2, d3, w1, Int.toNat_natCast, true_implies, false_implies]
        refine ⟨n - (i + 1), by omega, i + 1, by omega, rfl, by omega, rfl, ?_, o2.trans o3⟩
        have V3 := V2.old o3
        rw [hst, hins, hfin, ← hrest]
        have : (B.reverse ++ r :: y :: ys).reverse ++ rest = (y :: ys).reverse ++ r :: (B ++ rest) := by simp
        rw [this, eL]
        exact V3
  · have d1 : decide ((i : Int) < (n : Int)) = false := by simp; omega
    simp (decide := true) (implicitDefEqProofs := false) (maxDischargeDepth := 20) only [go_sem, ↓reduceIte, a1, a5, e6, d1, true_implies, false_implies]
    refine ⟨b, s, rfl, ?_, o⟩
    unfold sortL
    rw [List.take_of_length_le (by omega), List.drop_of_length_le (by omega), List.append_nil] at V
    exact V

end Go.Proofs.Ytjmppooebppecaa.W
