/-
  Roomy and Intact for bytes.
-/
import Derived.Test.YtkbjkmhmkefckaaBookB
import Derived.Test.YtkbjkmhmkefckaaAbs24
namespace Go.Proofs.Ytkbjkmhmkefckaa.W
open Go.Abs
set_option linter.unusedSimpArgs false
set_option linter.unusedVariables false

def byteV (b : UInt8) : Value := .int .u8 (b.toNat : Int)
theorem byteV_oneCell (l : List UInt8) : (l.map byteV).all oneCell = true := by
  rw [List.all_eq_true]
  intro x hx
  obtain ⟨y, _, rfl⟩ := List.mem_map.1 hx
  rfl
theorem byteV_ints (l : List UInt8) : l.map byteV = (l.map fun b => (b.toNat : Int)).map (Value.int .u8) := by rw [List.map_map]; rfl
theorem bytes_ints (xs : List Int) (h : Byt xs) : (xs.map fun x => UInt8.ofNat x.toNat).map byteV = xs.map (Value.int .u8) := by
  rw [List.map_map]
  apply List.map_congr_left
  intro x hx
  have := h x hx
  show Value.int .u8 (((UInt8.ofNat x.toNat).toNat : Nat) : Int) = _
  rw [UInt8.toNat_ofNat']
  congr 1
  omega
theorem SameYY {m : Mem} {a b : Option Addr} {n n' c c' : Nat} {l : List UInt8} (h : SlA m 1 a n c (l.map byteV)) (k : SlA m 1 b n' c' (l.map byteV)) (hn : n ≤ 1073741824) (hn' : n' ≤ 1073741824) :
    CallQ E F_sheafbook_Same_byte [.slice a n c, .slice b n' c'].toArray m fun w m' => w = .bool (decide (l = l)) ∧ Old m m' := by
  rw [byteV_ints] at h k
  refine (SameB h k hn hn').mono ?_
  rintro w m' ⟨rfl, o⟩
  exact ⟨by simp, o⟩

theorem srcCells_SlA {m : Mem} {a : Option Addr} {n c dl : Nat} {xs : List Value} (h : SlA m 1 a n c xs) (hn : n ≤ dl) : srcCells m 1 (.slice a n c) dl = some (n, xs) := by
  have hm : Nat.min n dl = n := Nat.min_eq_left hn
  have hl : xs.length = n := by have := h.len; simpa using this
  cases a with
  | none =>
    have h0 := h.nil rfl
    have h1 := h.cap
    have : n = 0 := by omega
    subst this
    have : xs = [] := List.eq_nil_of_length_eq_zero hl
    subst this
    rfl
  | some b =>
    unfold srcCells
    simp only [hm]
    by_cases h0 : n = 0
    · subst h0
      have : xs = [] := List.eq_nil_of_length_eq_zero hl
      subst this
      rw [if_pos rfl]
    · rw [if_neg h0, row_rows, h.row (by rintro rfl; simp at hl; omega)]
      rfl

theorem StepQ_copy {m : Mem} {dt : TypeId} {b dl dc n c : Nat} {s : Option Nat} {a : Option Addr} {tg : Bool} {cs xs : List Value} (ht : isSl E dt 1 = true) (hg : m.get b = some (.cells false tg cs)) (h : SlA m 1 a n c xs) (hn : n ≤ dl) (hfit : n ≤ cs.length) (h1 : xs.all oneCell = true) {K : Value → Mem → Prop}
    (hK : ∀ m', Upd m m' b → m'.size = m.size → m'.get b = some (.cells false tg (xs ++ cs.drop n)) → K (.int .i64 (n : Int)) m') : StepQ E (val2? (copyV E m dt (.slice (some ⟨b, 0, s⟩) dl dc) (.slice a n c))) K := by
  obtain ⟨e, i, d1, d2, d3, d4⟩ := isSl_spec ht
  have hl : xs.length = n := by have := h.len; simpa using this
  unfold copyV
  simp only [d1, d2, d3, srcCells_SlA h hn]
  cases xs with
  | nil =>
    simp only [val2?_some, StepQ_val]
    have : n = 0 := by simpa using hl.symm
    subst this
    exact hK m (.refl _ _) rfl (by rw [hg]; simp)
  | cons y ys =>
    have h0 : 0 < dl := by simp at hl; omega
    have hw : m.write ⟨b, 0, s⟩ (y :: ys) = some (m.put b (some (.cells false tg (setRow cs 0 (y :: ys))))) := by
      unfold Mem.write
      simp only [hg]
      rw [if_pos]
      rw [Bool.and_eq_true, decide_eq_true_eq]
      exact ⟨by simp only [Nat.zero_add]; omega, h1⟩
    simp only [if_pos h0, hw, Option.map_some, val2?_some, StepQ_val]
    refine hK _ (.put (.refl m) _ _) (by simp) ?_
    rw [getM_put, if_pos ⟨rfl, getM_lt hg⟩, setRow_eq _ _ _ (by omega), Nat.zero_add, hl]
    rfl

theorem byteV_rep (n : Nat) (v : UInt8) : List.replicate n (byteV v) = (List.replicate n v).map byteV := by rw [List.map_replicate]

set_option maxRecDepth 100000 in
set_option maxHeartbeats 4000000 in
theorem Roomy_at {m : Mem} {a : Option Addr} {n c : Nat} {l : List UInt8} (h : SlA m 1 a n c (l.map byteV)) (hn : n ≤ 1000000) (v : UInt8) {K : Value → Mem → Prop}
    (hK : ∀ m' b, Old m m' → m.size ≤ b → Box m' b ((l ++ List.replicate 80 v).map byteV) → K (.slice (some ⟨b, 0, none⟩) (n + 80) (n + 80)) m') : CallQ E F_sheafbook_Roomy_byte [.slice a n c, .int .u8 (v.toNat : Int)].toArray m K := by
  refine .enter fn_sheafbook_Roomy_byte (by simp) ?_
  have hl : l.length = n := by have := h.len; simpa using this
  have w0 : IntKind.wrap .i64 ((n : Int) + 80) = ((n + 80 : Nat) : Int) := by rw [wrap_i64_id _ (by omega) (by omega)]; omega
  simp (decide := true) (implicitDefEqProofs := false) (maxDischargeDepth := 20) only [go_sem, ↓reduceIte, w0]
  refine StepQ_make (l := n + 80) (z := .int .u8 0) (by simp (decide := true) only [go_sem]) (by simp (decide := true) only [go_sem]) (Nat.le_refl _) (by omega) ?_
  simp (decide := true) (implicitDefEqProofs := false) (maxDischargeDepth := 20) only [go_sem, ↓reduceIte]
  have g0 : (m.push (.cells false true (List.replicate (n + 80) (Value.int .u8 0)))).get m.size = some (.cells false true (List.replicate (n + 80) (.int .u8 0))) := by rw [getM_push, if_pos rfl]
  refine StepQ_copy (by simp (decide := true) only [go_sem]) g0 (h.push _) (by omega) (by simp) (byteV_oneCell l) fun m1 u1 z1 g1 => ?_
  simp (decide := true) (implicitDefEqProofs := false) (maxDischargeDepth := 20) only [go_sem, ↓reduceIte]
  have e0 : l.map byteV ++ (List.replicate (n + 80) (Value.int .u8 0)).drop n = (l ++ List.replicate 0 v ++ List.replicate (80 - 0) 0).map byteV := by
    rw [List.drop_replicate, show n + 80 - n = 80 by omega, List.map_append, List.map_append, ← byteV_rep 80 0]
    simp; rfl
  rw [e0] at g1
  rw [size_push] at z1
  refine wpM_cut (fun t' m' => Upd m1 m' m.size ∧ m'.get m.size = some (.cells false true ((l ++ List.replicate 80 v).map byteV))) ?_ fun t' m' ha ⟨u2, g2⟩ => ?_
  · simp only [c_sheafbook_Roomy_byte_6_at, wpM_block, c_sheafbook_Roomy_byte_5_at]
    refine wpM_loopA (fun j t' m' => ∃ i : Nat, i ≤ 80 ∧ j = 80 - i ∧ t' 6 = .int .i64 ((n + i : Nat) : Int) ∧ Upd m1 m' m.size ∧ m'.get m.size = some (.cells false true ((l ++ List.replicate i v ++ List.replicate (80 - i) 0).map byteV))) 80
      ⟨0, by omega, rfl, by simp (decide := true) only [go_sem, ↓reduceIte], .refl _ _, g1⟩ ?_
    rintro j t' m' ha ⟨i, hi, rfl, e6, u2, g2⟩
    have a1 := ha 1 (by decide +kernel)
    have a5 := ha 5 (by decide +kernel)
    simp (decide := true) only [go_sem, ↓reduceIte] at a1 a5
    by_cases hlt : i < 80
    · have d1 : decide (((n + i : Nat) : Int) < ((n + 80 : Nat) : Int)) = true := by simp; omega
      have w1 : IntKind.wrap .i64 (((n + i : Nat) : Int) + 1) = ((n + (i + 1) : Nat) : Int) := by rw [wrap_i64_id _ (by omega) (by omega)]; omega
      have z0 : (0 : Int) ≤ ((n + i : Nat) : Int) := by omega
      have z2 : ((n + i : Nat) : Int) < ((n + 80 : Nat) : Int) := by omega
      have z5 : decide (n + i + 1 ≤ (l ++ List.replicate i v ++ List.replicate (80 - i) 0).length) = true := by simp; omega
      have z6 : decide (n + (i + 1) ≤ (l ++ List.replicate i v ++ List.replicate (80 - i) 0).length) = true := by simp; omega
      have lD := getM_lt g2
      simp (decide := true) (implicitDefEqProofs := false) (maxDischargeDepth := 20) only [go_sem, ↓reduceIte, a1, a5, e6, d1, w1, z0, z2, z5, z6, g2, lD, Int.toNat_natCast, List.length_map, true_implies, false_implies]
      refine ⟨80 - (i + 1), by omega, i + 1, by omega, rfl, rfl, u2.trans (.put (.refl _) _ _), ?_⟩
      have e : ((l ++ List.replicate i v ++ List.replicate (80 - i) 0).map byteV).set (n + i) (Value.int .u8 (v.toNat : Int)) = (l ++ List.replicate (i + 1) v ++ List.replicate (80 - (i + 1)) 0).map byteV := by
        have e1 : (l ++ List.replicate i v ++ List.replicate (80 - i) 0).set (n + i) v = l ++ List.replicate (i + 1) v ++ List.replicate (80 - (i + 1)) 0 := by
          rw [List.set_append_right _ _ (by simp; omega)]
          have e2 : n + i - (l ++ List.replicate i v).length = 0 := by simp; omega
          have e3 : 80 - i = 80 - (i + 1) + 1 := by omega
          rw [e2, e3, List.replicate_succ, List.set_cons_zero, List.replicate_succ' (n := i)]
          simp
        rw [← e1, List.map_set]; rfl
      rw [e]
    · have d1 : decide (((n + i : Nat) : Int) < ((n + 80 : Nat) : Int)) = false := by simp; omega
      have hin : i = 80 := by omega
      subst hin
      rw [show 80 - 80 = 0 from rfl, List.replicate_zero, List.append_nil] at g2
      simp (decide := true) (implicitDefEqProofs := false) (maxDischargeDepth := 20) only [go_sem, ↓reduceIte, a5, e6, d1, true_implies, false_implies]
      exact ⟨u2, g2⟩
  · have a5 := ha 5 (by decide +kernel)
    simp (decide := true) only [go_sem, ↓reduceIte] at a5
    simp (decide := true) (implicitDefEqProofs := false) (maxDischargeDepth := 20) only [go_sem, ↓reduceIte, a5]
    refine hK m' m.size (.of_get ?_ fun i hi => ?_) (Nat.le_refl _) ⟨true, g2⟩
    · have := u2.size; omega
    · rw [u2.get i (by omega) (by omega), u1.get i (by rw [size_push]; omega) (by omega), getM_push, if_neg (by omega)]

set_option maxRecDepth 100000 in
set_option maxHeartbeats 4000000 in
theorem Intact_at {m : Mem} {a b : Option Addr} {n c c' : Nat} {l : List UInt8} {v : UInt8} (h : SlA m 1 a (n + 80) c ((l ++ List.replicate 80 v).map byteV)) (k : SlA m 1 b n c' (l.map byteV)) (hn : n ≤ 1000000) :
    CallQ E F_sheafbook_Intact_byte [.slice a (n + 80) c, .slice b n c', .int .u8 (v.toNat : Int)].toArray m fun w m' => w = .bool true ∧ Old m m' := by
  refine .enter fn_sheafbook_Intact_byte (by simp) ?_
  have hl : l.length = n := by have := k.len; simpa using this
  have w0 : IntKind.wrap .i64 ((n : Int) + 80) = ((n + 80 : Nat) : Int) := by rw [wrap_i64_id _ (by omega) (by omega)]; omega
  obtain ⟨sl, s4⟩ := h.sliceTo (E := E) (k := .i64) (show n ≤ n + 80 by omega)
  have e4 : ((l ++ List.replicate 80 v).map byteV).take (n * 1) = l.map byteV := by
    rw [Nat.mul_one, List.map_append, ← hl, ← List.length_map (f := byteV), List.take_left]
  rw [e4] at s4
  have r1 := fun K => callQ_eq (SameYY s4 k (by omega) (by omega)) K
  rw [show decide (l = l) = true by simp] at r1
  simp (decide := true) (implicitDefEqProofs := false) (maxDischargeDepth := 20) only [go_sem, ↓reduceIte, w0, sl, r1, bne_self_eq_false, true_implies, false_implies, Bool.not_true]
  generalize hM : ansM E F_sheafbook_Same_byte _ [] _ = M
  have oM : Old m M := by rw [← hM]; exact .ansM (.refl m)
  clear hM r1
  have hM := h.old oM
  simp only [c_sheafbook_Intact_byte_12_at, wpM_block, c_sheafbook_Intact_byte_11_at]
  refine wpM_loopA (fun j t' m' => m' = M ∧ ∃ i : Nat, i ≤ 80 ∧ j = 80 - i ∧ t' 7 = .int .i64 ((n + i : Nat) : Int)) 80
      ⟨rfl, 0, by omega, rfl, by simp (decide := true) only [go_sem, ↓reduceIte]⟩ ?_
  rintro j t' m' ha ⟨rfl, i, hi, rfl, e7⟩
  have a0 := ha 0 (by decide +kernel)
  have a2 := ha 2 (by decide +kernel)
  simp (decide := true) only [go_sem, ↓reduceIte] at a0 a2
  by_cases hlt : i < 80
  · have d1 : decide (((n + i : Nat) : Int) < ((n + 80 : Nat) : Int)) = true := by simp; omega
    have w1 : IntKind.wrap .i64 (((n + i : Nat) : Int) + 1) = ((n + (i + 1) : Nat) : Int) := by rw [wrap_i64_id _ (by omega) (by omega)]; omega
    have z0 : (0 : Int) ≤ ((n + i : Nat) : Int) := by omega
    have z2 : ((n + i : Nat) : Int) < ((n + 80 : Nat) : Int) := by omega
    obtain ⟨b1, o1, s1, rfl⟩ := hM.addr (by omega)
    have r1 := hM.at_map (show n + i < n + 80 by omega)
    have r2 : (l ++ List.replicate 80 v)[n + i]'(by simp; omega) = v := by
      rw [List.getElem_append_right (by omega), List.getElem_replicate]
    rw [r2] at r1
    unfold byteV at r1
    simp (decide := true) (implicitDefEqProofs := false) (maxDischargeDepth := 20) only [go_sem, ↓reduceIte, a0, a2, e7, d1, w1, z0, z2, r1, Int.toNat_natCast, bne_self_eq_false, true_implies, false_implies]
    exact ⟨80 - (i + 1), by omega, i + 1, by omega, rfl, rfl⟩
  · have d1 : decide (((n + i : Nat) : Int) < ((n + 80 : Nat) : Int)) = false := by simp; omega
    simp (decide := true) (implicitDefEqProofs := false) (maxDischargeDepth := 20) only [go_sem, ↓reduceIte, a0, e7, d1, true_implies, false_implies]
    exact oM
end Go.Proofs.Ytkbjkmhmkefckaa.W
