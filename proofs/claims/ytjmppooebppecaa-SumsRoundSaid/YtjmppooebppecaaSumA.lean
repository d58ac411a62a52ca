/-
  sums: at, columns, the closure that tells.
-/
import Derived.Test.YtjmppooebppecaaSumP
import Derived.Test.YtjmppooebppecaaValR
import Derived.Test.YtjmppooebppecaaCodeSums
namespace Go.Proofs.Ytjmppooebppecaa.W
open Go.Abs
set_option linter.unusedSimpArgs false
set_option linter.unusedVariables false

theorem ints_all (xs : List Int) : (xs.map (Value.int .i64)).all oneCell = true := by
  rw [List.all_eq_true]
  intro x hx
  obtain ⟨y, _, rfl⟩ := List.mem_map.1 hx
  rfl

set_option maxRecDepth 100000 in
theorem SAt_at {m : Mem} {a : Option Addr} {n c : Nat} {xs : List Int} (k : Nat) (h : SlA m 1 a n c (xs.map (.int .i64))) :
    CallQ E F_sums_at [.slice a n c, .int .i64 (k : Nat)].toArray m fun w m' => w = .int .i64 (xs.getD k 0) ∧ Old m m' := by
  refine .enter fn_sums_at (by simp) ?_
  have hl : xs.length = n := by have := h.len; simpa using this
  have d0 : decide ((k : Int) < 0) = false := by simp
  by_cases hlt : n ≤ k
  · have d1 : decide ((k : Int) ≥ (n : Int)) = true := by simp; omega
    have e : xs.getD k 0 = 0 := by simp [List.getD_eq_getElem?_getD, List.getElem?_eq_none (show xs.length ≤ k by omega)]
    simp (decide := true) (implicitDefEqProofs := false) (maxDischargeDepth := 20) only [go_sem, ↓reduceIte, d0, d1, e, true_implies, false_implies]
  · have d1 : decide ((k : Int) ≥ (n : Int)) = false := by simp; omega
    have z0 : (0 : Int) ≤ (k : Int) := by omega
    have z1 : (k : Int) < (n : Int) := by omega
    obtain ⟨ab, ao, asp, rfl⟩ := h.addr (by omega)
    have r := h.at_map (show k < n by omega)
    have e : xs.getD k 0 = xs[k]'(by omega) := by simp [List.getD_eq_getElem?_getD, List.getElem?_eq_getElem (show k < xs.length by omega)]
    rw [e]
    simp (decide := true) (implicitDefEqProofs := false) (maxDischargeDepth := 20) only [go_sem, ↓reduceIte, d0, d1, z0, z1, r, Int.toNat_natCast, true_implies, false_implies]

def keyV (key : List Nat) (r : List Int) : List Int := key.map fun c => r.getD c 0
abbrev natV (c : Nat) : Value := .int .i64 (c : Nat)

set_option maxRecDepth 100000 in
set_option maxHeartbeats 4000000 in
theorem Columns_at {m : Mem} {a d : Option Addr} {n c q cq : Nat} {xs : List Int} {key : List Nat} (h : SlA m 1 a n c (xs.map (.int .i64))) (hk : SlA m 1 d q cq (key.map natV)) (hq : q ≤ 1000) :
    CallQ E F_sums_columns [.slice a n c, .slice d q cq].toArray m fun w m' => ∃ b, w = .slice (some ⟨b, 0, none⟩) q (q + 1) ∧ m.size ≤ b ∧ m'.get b = some (.cells false true ((keyV key xs).map (.int .i64) ++ [.int .i64 0])) ∧ Old m m' := by
  refine .enter fn_sums_columns (by simp) ?_
  have hl : key.length = q := by have := hk.len; simpa using this
  have w0 : IntKind.wrap .i64 ((q : Int) + 1) = ((q + 1 : Nat) : Int) := by rw [wrap_i64_id _ (by omega) (by omega)]; omega
  simp (decide := true) (implicitDefEqProofs := false) (maxDischargeDepth := 20) only [go_sem, ↓reduceIte, w0, true_implies, false_implies]
  refine StepQ_make (l := 0) (by decide +kernel) (z := .int .i64 0) (by simp (decide := true) only [go_sem]) (Nat.zero_le _) (by omega) ?_
  simp (decide := true) (implicitDefEqProofs := false) (maxDischargeDepth := 20) only [go_sem, ↓reduceIte, true_implies, false_implies]
  simp only [c_sums_columns_7_at, wpM_block, c_sums_columns_6_at]
  obtain ⟨b, hb⟩ : ∃ b, b = m.size := ⟨_, rfl⟩
  rw [← hb]
  refine wpM_loopA (fun j t' m' => ∃ i : Nat, i ≤ q ∧ j = q - i ∧ t' 14 = .int .i64 (i : Nat) ∧ t' 5 = .slice (some ⟨b, 0, none⟩) i (q + 1) ∧ m'.get b = some (.cells false true ((keyV (key.take i) xs).map (.int .i64) ++ List.replicate (q + 1 - i) (.int .i64 0))) ∧ Old m m') q
    ⟨0, by omega, rfl, by simp (decide := true) only [go_sem, ↓reduceIte]; try rfl, by simp (decide := true) only [go_sem, ↓reduceIte]; try rfl, by rw [hb, getM_push, if_pos rfl]; simp [keyV], .push (.refl m) _⟩ ?_
  rintro j t' m' ha ⟨i, hi, rfl, e14, e5, hg, o⟩
  have a0 := ha 0 (by decide +kernel)
  have a12 := ha 12 (by decide +kernel)
  have a13 := ha 13 (by decide +kernel)
  simp (decide := true) only [go_sem, ↓reduceIte] at a0 a12 a13
  by_cases hlt : i < q
  · have d1 : decide ((i : Int) < (q : Int)) = true := by simp; omega
    have w1 : IntKind.wrap .i64 ((i : Int) + 1) = ((i + 1 : Nat) : Int) := by rw [wrap_i64_id _ (by omega) (by omega)]; omega
    have z0 : (0 : Int) ≤ (i : Int) := by omega
    have z1 : (i : Int) < (q : Int) := by omega
    obtain ⟨ab, ao, asp, rfl⟩ := hk.addr (by omega)
    have r : m'.at ab (ao + i) = some (.int .i64 (key[i]'(by omega) : Nat)) := (hk.old o).at_map hlt
    have ht : key.take (i + 1) = key.take i ++ [key[i]'(by omega)] := List.take_succ_eq_append_getElem (by omega)
    generalize key[i]'(by omega) = kc at *
    simp (decide := true) (implicitDefEqProofs := false) (maxDischargeDepth := 20) only [go_sem, ↓reduceIte, a0, a12, a13, e14, e5, d1, z0, z1, r, Int.toNat_natCast, true_implies, false_implies]
    refine (SAt_at kc (h.old o)).mono ?_
    rintro w m2 ⟨rfl, o2⟩
    simp (decide := true) (implicitDefEqProofs := false) (maxDischargeDepth := 20) only [go_sem, ↓reduceIte, a0, a12, a13, e14, e5, true_implies, false_implies]
    have hg2 := (o2.get (getM_lt hg)).trans hg
    have lb2 := getM_lt hg2
    have hg3 : (m2.push (.cells false true [.int .i64 (xs.getD kc 0)])).get b = some (.cells false true ((keyV (key.take i) xs).map (.int .i64) ++ List.replicate (q + 1 - i) (.int .i64 0))) := by rw [getM_push, if_neg (by omega)]; exact hg2
    have S : SlA (m2.push (.cells false true [.int .i64 (xs.getD kc 0)])) 1 (some ⟨m2.size, 0, none⟩) 1 1 [.int .i64 (xs.getD kc 0)] := .new (by rw [getM_push, if_pos rfl]) rfl rfl
    have hkl : ((keyV (key.take i) xs).map (Value.int .i64)).length = i := by simp [keyV]; omega
    refine append_in (sz := 1) (k := 1) rfl hg3 (by omega) (S.appended' (by decide +kernel) (by decide)) rfl (by decide +kernel) rfl (by rw [List.length_append, hkl, List.length_replicate]; omega) fun m4 u s4 g4 => ?_
    simp (decide := true) (implicitDefEqProofs := false) (maxDischargeDepth := 20) only [go_sem, ↓reduceIte, a0, a12, a13, e14, w1, true_implies, false_implies]
    refine ⟨q - (i + 1), by omega, i + 1, by omega, rfl, rfl, rfl, ?_, ?_⟩
    · rw [g4]
      congr 2
      rw [Nat.zero_add, Nat.mul_one, List.take_append_of_le_length (by omega), List.take_of_length_le (by omega), List.drop_append, hkl, ht]
      rw [List.drop_of_length_le (by rw [hkl]; simp)]
      simp only [List.nil_append, List.length_singleton, List.drop_replicate, keyV, List.map_append, List.map_cons, List.map_nil]
      congr 2
      omega
    · refine .of_get (by have := o.size; have := o2.size; rw [s4, size_push]; omega) fun x hx => ?_
      have := o.size
      have := o2.size
      rw [u.get x (by rw [size_push]; omega) (by omega), getM_push, if_neg (by omega), o2.get (by omega), o.get hx]
  · have d1 : decide ((i : Int) < (q : Int)) = false := by simp; omega
    have hin : i = q := by omega
    subst hin
    simp (decide := true) (implicitDefEqProofs := false) (maxDischargeDepth := 20) only [go_sem, ↓reduceIte, a0, a12, a13, e14, e5, d1, true_implies, false_implies]
    refine ⟨b, rfl, by omega, ?_, o⟩
    rw [List.take_of_length_le (by omega), show i + 1 - i = 1 by omega] at hg
    exact hg

set_option maxRecDepth 100000 in
theorem Tell_nil {m : Mem} {kb sb yb : Nat} (gk : m.get kb = some (.cells false true [.slice none 0 0])) : CallQ E F_sums_Total_1_1 [ptr kb, ptr sb, ptr yb].toArray m fun w m' => w = .bool true ∧ Old m m' := by
  refine .enter fn_sums_Total_1_1 (by simp) ?_
  have r := get_at0 gk
  simp (decide := true) (implicitDefEqProofs := false) (maxDischargeDepth := 20) only [go_sem, ↓reduceIte, r, true_implies, false_implies]

set_option maxRecDepth 100000 in
set_option maxHeartbeats 4000000 in
theorem Tell_some {m : Mem} {kb sb yb b L : Nat} {key : List Int} {s : Int} {yf : Fn} {ya yc : Array Value} (gk : m.get kb = some (.cells false true [.slice (some ⟨b, 0, none⟩) L (L + 1)])) (gb : m.get b = some (.cells false true (key.map (.int .i64) ++ [.int .i64 0]))) (hL : key.length = L) (hLm : L ≤ 1000)
    (gs : Box m sb (Wc s)) (hs : -9223372036854775808 ≤ s ∧ s < 9223372036854775808) (gy : m.get yb = some (.cells false true [.func yf ya yc])) (hbk : b ≠ kb) (hbs : b ≠ sb) (hby : b ≠ yb) {K : Value → Mem → Prop}
    (hK : ∀ m', m.size ≤ m'.size → (∀ i, i < m.size → i ≠ b → m'.get i = m.get i) → m'.get b = some (.cells false true ((key ++ [s]).map (.int .i64))) → CallF E (.func yf ya yc) [.slice (some ⟨b, 0, none⟩) (L + 1) (L + 1), .bool true] m' K) :
    CallQ E F_sums_Total_1_1 [ptr kb, ptr sb, ptr yb].toArray m K := by
  refine .enter fn_sums_Total_1_1 (by simp) ?_
  have rk := get_at0 gk
  simp (decide := true) (implicitDefEqProofs := false) (maxDischargeDepth := 20) only [go_sem, ↓reduceIte, rk, true_implies, false_implies]
  refine (SumValue gs (by omega) (by omega)).mono ?_
  rintro w m1 ⟨rfl, o1⟩
  have ei : intA s = .tuple #[.int .i64 s, .bool true] := by unfold intA; rw [if_pos hs]
  rw [ei]
  have gk1 := (o1.get (getM_lt gk)).trans gk
  have gy1 := (o1.get (getM_lt gy)).trans gy
  have gb1 := (o1.get (getM_lt gb)).trans gb
  have lb1 := getM_lt gb1
  have ly1 := getM_lt gy1
  have rk1 := get_at0 gk1
  have ry1 := get_at0 gy1
  have nk : ¬ kb = m1.size := by have := getM_lt gk1; omega
  simp (decide := true) (implicitDefEqProofs := false) (maxDischargeDepth := 20) only [go_sem, ↓reduceIte, rk1, ry1, nk, true_implies, false_implies]
  obtain ⟨mp, hmp⟩ : ∃ mp, mp = m1.push (.cells false true [.int .i64 s]) := ⟨_, rfl⟩
  rw [← hmp]
  have gp : ∀ i, i < m1.size → mp.get i = m1.get i := fun i hi => by rw [hmp, getM_push, if_neg (by omega)]
  have sp : mp.size = m1.size + 1 := by rw [hmp, size_push]
  have gpb : (mp.gm [yb]).get b = some (.cells false true (key.map (.int .i64) ++ [.int .i64 0])) := by rw [get_gmG _ _ _ hby, gp b lb1]; exact gb1
  have S : SlA (mp.gm [yb]) 1 (some ⟨m1.size, 0, none⟩) 1 1 [.int .i64 s] := by
    rw [SlA.gm]
    exact .new (by rw [hmp, getM_push, if_pos rfl]) rfl rfl
  have hkl : (key.map (Value.int .i64)).length = L := by simp [hL]
  refine append_in (sz := 1) (k := 1) rfl gpb (by omega) (S.appended' (by decide +kernel) (by decide)) rfl (by decide +kernel) rfl (by rw [List.length_append, hkl]; simp) fun m4 u s4 g4 => ?_
  rw [gm_size] at s4
  have gpy : mp.get yb = some (.cells false true [.func yf ya yc]) := (gp yb ly1).trans gy1
  obtain ⟨m5, hm5⟩ : ∃ m5, m5 = mp.ugm m4 [yb] := ⟨_, rfl⟩
  have s5 : m5.size = m4.size := by rw [hm5, size_ugm]
  have g5 : ∀ i, m5.get i = if i = yb then mp.get yb else m4.get i := fun i => by rw [hm5]; exact get_ugmG gpy (by omega) i
  simp (decide := true) (implicitDefEqProofs := false) (maxDischargeDepth := 20) only [go_sem, ↓reduceIte, ← hm5, true_implies, false_implies]
  have o1s := o1.size
  refine CallF.step ((hK m5 (by omega) (fun i hi hne => ?_) ?_).mono ?_)
  · rw [g5]
    split
    · rename_i e
      rw [e, gpy, gy]
    · rename_i e
      rw [u.get i (by rw [gm_size]; omega) hne, get_gmG _ _ _ e, gp i (by omega), o1.get hi]
  · rw [g5, if_neg hby, g4]
    congr 2
    rw [Nat.zero_add, Nat.mul_one, List.take_append_of_le_length (by omega), List.take_of_length_le (by omega)]
    rw [List.drop_of_length_le (by simp [hL]), List.append_nil, List.map_append]
    rfl
  · intro w m6 hk6
    simp (decide := true) (implicitDefEqProofs := false) (maxDischargeDepth := 20) only [go_sem, ↓reduceIte, true_implies, false_implies]
    exact hk6
end Go.Proofs.Ytjmppooebppecaa.W
