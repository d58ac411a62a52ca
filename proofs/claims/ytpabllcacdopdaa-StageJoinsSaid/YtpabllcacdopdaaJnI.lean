/-
  StageJoins, the law.
-/
import Derived.Test.YtpabllcacdopdaaJnH
namespace Go.Proofs.Ytpabllcacdopdaa.W
open Go.Abs
set_option linter.unusedSimpArgs false
set_option linter.unusedVariables false

set_option maxRecDepth 100000 in
theorem StFound_at {m : Mem} {sf nf pf : Fn} {sa sb na nb pa pb : Array Value} {col why : Int} : CallQ E F_stage_found [.func sf sa sb, .func nf na nb, vI col, vI why, .func pf pa pb].toArray m fun w m' => ∃ bc bi bn bw bp, w = .func (.func F_stage_found_1) #[] #[ptr bc, ptr bi, ptr bn, ptr bw, ptr bp] ∧
    cap1 m' bc (vI col) ∧ cap1 m' bi (.func sf sa sb) ∧ cap1 m' bn (.func nf na nb) ∧ cap1 m' bw (vI why) ∧ cap1 m' bp (.func pf pa pb) ∧ (m.size ≤ bc ∧ m.size ≤ bi ∧ m.size ≤ bn ∧ m.size ≤ bw ∧ m.size ≤ bp) ∧ Old m m' := by
  refine .enter fn_stage_found (by simp) ?_
  simp (decide := true) (implicitDefEqProofs := false) (maxDischargeDepth := 20) only [go_sem, ↓reduceIte, true_implies, false_implies]
  refine ⟨m.size + (1 + 1), m.size, m.size + 1, m.size + (1 + (1 + 1)), m.size + (1 + (1 + (1 + 1))), rfl, ?_, ?_, ?_, ?_, ?_, by omega⟩
  all_goals simp only [cap1, getM_push, size_push]
  · rw [if_neg (by omega), if_neg (by omega), if_pos trivial]
  · rw [if_neg (by omega), if_neg (by omega), if_neg (by omega), if_neg (by omega), if_pos trivial]
  · rw [if_neg (by omega), if_neg (by omega), if_neg (by omega), if_pos trivial]
  · rw [if_neg (by omega), if_pos trivial]
  · rw [if_pos trivial]
set_option maxRecDepth 100000 in
theorem Entities_at {m : Mem} {sf nf : Fn} {sa sb na nb : Array Value} : CallQ E F_stage_Entities [.func sf sa sb, .func nf na nb].toArray m fun w m' => ∃ bc bi bn bw bp, w = .func (.func F_stage_found_1) #[] #[ptr bc, ptr bi, ptr bn, ptr bw, ptr bp] ∧
    cap1 m' bc (vI 1) ∧ cap1 m' bi (.func sf sa sb) ∧ cap1 m' bn (.func nf na nb) ∧ cap1 m' bw (vI 4) ∧ cap1 m' bp (.func (.func F_stage_Entities_1) #[] #[]) ∧ (m.size ≤ bc ∧ m.size ≤ bi ∧ m.size ≤ bn ∧ m.size ≤ bw ∧ m.size ≤ bp) ∧ Old m m' := by
  refine .enter fn_stage_Entities (by simp) ?_
  simp (decide := true) (implicitDefEqProofs := false) (maxDischargeDepth := 20) only [go_sem, ↓reduceIte, true_implies, false_implies]
  refine (StFound_at).mono ?_
  rintro w m1 ⟨bc, bi, bn, bw, bp, rfl, h⟩
  simp (decide := true) (implicitDefEqProofs := false) (maxDischargeDepth := 20) only [go_sem, ↓reduceIte, true_implies, false_implies]
  exact ⟨bc, bi, bn, bw, bp, rfl, h⟩
set_option maxRecDepth 100000 in
theorem Partners_at {m : Mem} {sf nf : Fn} {sa sb na nb : Array Value} : CallQ E F_stage_Partners [.func sf sa sb, .func nf na nb].toArray m fun w m' => ∃ bc bi bn bw bp, w = .func (.func F_stage_found_1) #[] #[ptr bc, ptr bi, ptr bn, ptr bw, ptr bp] ∧
    cap1 m' bc (vI 5) ∧ cap1 m' bi (.func sf sa sb) ∧ cap1 m' bn (.func nf na nb) ∧ cap1 m' bw (vI 6) ∧ cap1 m' bp (.func (.func F_stage_Partners_1) #[] #[]) ∧ (m.size ≤ bc ∧ m.size ≤ bi ∧ m.size ≤ bn ∧ m.size ≤ bw ∧ m.size ≤ bp) ∧ Old m m' := by
  refine .enter fn_stage_Partners (by simp) ?_
  simp (decide := true) (implicitDefEqProofs := false) (maxDischargeDepth := 20) only [go_sem, ↓reduceIte, true_implies, false_implies]
  refine (StFound_at).mono ?_
  rintro w m1 ⟨bc, bi, bn, bw, bp, rfl, h⟩
  simp (decide := true) (implicitDefEqProofs := false) (maxDischargeDepth := 20) only [go_sem, ↓reduceIte, true_implies, false_implies]
  exact ⟨bc, bi, bn, bw, bp, rfl, h⟩

attribute [-go_sem] c_sheaflaw17_StageJoins_65_at c_sheaflaw17_StageJoins_22_at in
set_option maxRecDepth 100000 in
set_option maxHeartbeats 16000000 in
theorem Jn_main {m : Mem} {t : Fr} {a0 a1 : Option Addr} {l0 c0 l1 c1 B col : Nat} {xs ys : List Int} {par : Bool} (hs0 : SlA m 1 a0 l0 c0 (xs.map (.int .i64))) (hx0 : ∀ x ∈ xs, -9223372036854775808 ≤ x ∧ x < 9223372036854775808) (hs1 : SlA m 1 a1 l1 c1 (ys.map (.int .i64))) (hx1 : ∀ x ∈ ys, -9223372036854775808 ≤ x ∧ x < 9223372036854775808)
    (b0 : ∀ b, a0 = some b → xs ≠ [] → b.block < B) (b1 : ∀ b, a1 = some b → ys ≠ [] → b.block < B) (gP : cap1 m B (.bool par)) (gR : cap1 m (B + 1) (.bool false)) (gV : cap1 m (B + 2) (vI (col : Nat))) (gF : cap1 m (B + 3) (.slice none 0 0)) (gL : cap1 m (B + 4) (.slice none 0 0)) (hms : m.size = B + 5)
    (hpar : par = true ∧ col = 5 ∨ par = false ∧ col = 1)
    (t0 : t 0 = .slice a0 l0 c0) (t1 : t 1 = .slice a1 l1 c1) (t5 : t 5 = ptr B) (t6 : t 6 = ptr (B + 1)) (t7 : t 7 = ptr (B + 2)) (t8 : t 8 = ptr (B + 3)) (t9 : t 9 = ptr (B + 4)) (t10 : t 10 = vI 0) :
    wpM E F_sheaflaw17_StageJoins 221 none c_sheaflaw17_StageJoins_70 (retK (ResK E [.cell 6 4] fun v _ => v = .bool true)) t m := by
  simp (decide := true) (implicitDefEqProofs := false) (maxDischargeDepth := 20) only [go_sem, ↓reduceIte, true_implies, false_implies]
  refine Jn_files (fb := B + 3) hs1 hx1 gF (fun b hb hne => by have := b1 b hb hne; omega) (by simp (decide := true) only [go_sem, t1, ↓reduceIte]) (by simp (decide := true) only [go_sem, t8, ↓reduceIte]) (by simp (decide := true) only [go_sem, t10, ↓reduceIte]) (by simp (decide := true) only [go_sem, ↓reduceIte]) fun t2 m2 aF fs hag HF => ?_
  have e0 := hag 0 (by decide +kernel)
  have e5 := hag 5 (by decide +kernel)
  have e6 := hag 6 (by decide +kernel)
  have e7 := hag 7 (by decide +kernel)
  have e8 := hag 8 (by decide +kernel)
  have e9 := hag 9 (by decide +kernel)
  simp (decide := true) only [go_sem, t0, t5, t6, t7, t8, t9, ↓reduceIte] at e0 e5 e6 e7 e8 e9
  clear hag
  have s2 := HF.size
  have k2 : ∀ b v, cap1 m b v → b ≠ B + 3 → cap1 m2 b v := fun b v h hne => (HF.keep b (getM_lt h) hne).trans h
  have gP2 := k2 _ _ gP (by omega)
  have gR2 := k2 _ _ gR (by omega)
  have gV2 := k2 _ _ gV (by omega)
  have gL2 := k2 _ _ gL (by omega)
  have hs02 : SlA m2 1 a0 l0 c0 (xs.map (.int .i64)) := hs0.keep fun b hb hne => HF.keep _ ((hs0.rows b hb hne).lt) (by have := b0 b hb (by simpa using hne); omega)
  simp (decide := true) (implicitDefEqProofs := false) (maxDischargeDepth := 20) only [go_sem, ↓reduceIte, true_implies, false_implies]
  refine Jn_lines (lb := B + 4) (vb := B + 2) (col := col) hs02 hx0 gL2 (fun b hb hne => by have := b0 b hb hne; omega) gV2 (by omega) (by omega) (by simp (decide := true) only [go_sem, e0, ↓reduceIte]) (by simp (decide := true) only [go_sem, e7, ↓reduceIte]) (by simp (decide := true) only [go_sem, e9, ↓reduceIte]) (by simp (decide := true) only [go_sem, ↓reduceIte]) fun t3 m3 aL es hag HL => ?_
  have f5 := hag 5 (by decide +kernel)
  have f6 := hag 6 (by decide +kernel)
  have f7 := hag 7 (by decide +kernel)
  have f8 := hag 8 (by decide +kernel)
  have f9 := hag 9 (by decide +kernel)
  simp (decide := true) only [go_sem, e5, e6, e7, e8, e9, ↓reduceIte] at f5 f6 f7 f8 f9
  clear hag e0 e5 e6 e7 e8 e9
  have s3 := HL.size
  have k3 : ∀ b v, cap1 m2 b v → b ≠ B + 4 → cap1 m3 b v := fun b v h hne => (HL.keep b (getM_lt h) hne).trans h
  have gP3 := k3 _ _ gP2 (by omega)
  have gR3 := k3 _ _ gR2 (by omega)
  have gV3 := k3 _ _ gV2 (by omega)
  have gF3 := k3 _ _ HF.box (by omega)
  have rL3 := get_at0 HL.box
  have rV3 := get_at0 gV3
  obtain ⟨N, hN⟩ : ∃ N, N = min l0 15 := ⟨_, rfl⟩
  rw [← hN] at HL
  have hel : es.length = N := by have := congrArg List.length HL.xs; simpa [linesL] using this
  have he6 : ∀ r ∈ es, r.n = 6 := fun r hr => by
    have h1 : r.xs ∈ es.map HRow.xs := List.mem_map.2 ⟨r, hr, rfl⟩
    rw [HL.xs] at h1
    obtain ⟨i, _, h2⟩ := List.mem_map.1 h1
    rw [← (HL.row r hr).len, ← h2]
    unfold lineRw
    rw [List.length_set]
    rfl
  have nlv : ¬ B + 4 = m3.size := by have := getM_lt HL.box; omega
  simp (decide := true) (implicitDefEqProofs := false) (maxDischargeDepth := 20) only [go_sem, f5, f6, f7, f8, f9, rL3, rV3, ↓reduceIte, true_implies, false_implies]
  have hC : SlA (m3.push (.cells false true [.int .i64 (col : Nat)])) 1 (some ⟨m3.size, 0, none⟩) 1 1 (([(col : Int)] : List Int).map (.int .i64)) := .new (by rw [getM_push, if_pos rfl]; rfl) rfl rfl
  have o3p : Old m3 (m3.push (.cells false true [.int .i64 (col : Nat)])) := .push (.refl m3) _
  refine (Sorted_at (HL.vec.sl.old o3p) (fun r hr => (HL.row r hr).old o3p) (fun r hr => by rw [he6 r hr]; omega) hC (by omega) (by omega)).mono ?_
  rintro w m4 ⟨bS, sS, rfl, VS, o4⟩
  have o34 := o3p.trans o4
  obtain ⟨ls, hls⟩ : ∃ x, x = sortL [(col : Int)] es := ⟨_, rfl⟩
  have hperm : ls.Perm es := by rw [hls]; exact sortL_perm _ _
  rw [← hls] at VS
  have gL4 : m4.get (B + 4) = _ := (o34.get (getM_lt HL.box)).trans HL.box
  have lL4 := getM_lt gL4
  have gF4 : m4.get (B + 3) = some (.cells false true [.slice aF fs.length fs.length]) := (o34.get (getM_lt gF3)).trans gF3
  have rF4 := get_at0 gF4
  obtain ⟨m5, hm5⟩ : ∃ m5, m5 = m4.put (B + 4) (some (.cells false true [.slice (some ⟨bS, 0, sS⟩) es.length es.length])) := ⟨_, rfl⟩
  have g5 : ∀ i, i ≠ B + 4 → m5.get i = m4.get i := fun i h => by rw [hm5, getM_put, if_neg (fun e => h e.1)]
  have s5 : m5.size = m4.size := by rw [hm5, size_put]
  have gL5 : cap1 m5 (B + 4) (.slice (some ⟨bS, 0, sS⟩) es.length es.length) := by unfold cap1; rw [hm5, getM_put, if_pos ⟨rfl, lL4⟩]
  have gF5 : cap1 m5 (B + 3) (.slice aF fs.length fs.length) := (g5 _ (by omega)).trans gF4
  have rF5 := get_at0 gF5
  have rL5 := get_at0 gL5
  have k5 : ∀ b v, cap1 m3 b v → b ≠ B + 4 → cap1 m5 b v := fun b v h hne => (g5 b hne).trans ((o34.get (getM_lt h)).trans h)
  have gP5 := k5 _ _ gP3 (by omega)
  have gR5 := k5 _ _ gR3 (by omega)
  have gV5 := k5 _ _ gV3 (by omega)
  have s34 := o34.size
  simp (decide := true) (implicitDefEqProofs := false) (maxDischargeDepth := 20) only [go_sem, f5, f6, f7, f8, f9, gL4, lL4, ← hm5, rF5, rL5, ↓reduceIte, true_implies, false_implies]
  refine (From_at).mono ?_
  rintro w m6 ⟨bv, rfl, cv, hbv, o6⟩
  obtain ⟨el, rfl, -⟩ := o6.ugm
  have o56 : Old m5 (m5.ext el) := ⟨el, rfl⟩
  have cv : cap1 (m5.ext el) bv (.slice (some ⟨bS, 0, sS⟩) es.length es.length) := get_ugm cv
  rw [size_gm] at hbv
  simp (decide := true) (implicitDefEqProofs := false) (maxDischargeDepth := 20) only [go_sem, f5, f6, f7, f8, f9, ↓reduceIte, true_implies, false_implies]
  generalize m5.ext el = m6 at *
  refine (Cursor_at).mono ?_
  rintro w m7 ⟨rfl, cc, o67⟩
  simp (decide := true) (implicitDefEqProofs := false) (maxDischargeDepth := 20) only [go_sem, f5, f6, f7, f8, f9, ↓reduceIte, true_implies, false_implies]
  obtain ⟨cb, hcb⟩ : ∃ b, b = m6.size := ⟨_, rfl⟩
  rw [← hcb] at cc ⊢
  refine (Entities_at).mono ?_
  rintro w m8 ⟨bc, bi, bn, bw, bp, rfl, dc, di, dn, dw, dp, hb, o78⟩
  have s56 := o56.size
  have s67 := o67.size
  have s78 := o78.size
  -- the law's end, for either kind
  have hlsl : ls.length = es.length := hperm.length_eq
  have hso : ∀ j, j + 1 < ls.length → (ls.getD j noRow).xs.getD col 0 ≤ (ls.getD (j + 1) noRow).xs.getD col 0 := fun j hj => by
    have hp : ls.Pairwise (fun a b => cmpL a.xs b.xs [(col : Int)] ≤ 0) := by rw [hls]; exact sortL_sorted _ _
    have h := List.pairwise_iff_getElem.1 hp j (j + 1) (by omega) hj (by omega)
    have e1 : ls.getD j noRow = ls[j]'(by omega) := by simp [List.getD_eq_getElem?_getD, show j < ls.length by omega]
    have e2 : ls.getD (j + 1) noRow = ls[j + 1]'hj := by simp [List.getD_eq_getElem?_getD, hj]
    have len : ∀ r ∈ ls, col < r.xs.length := fun r hr => by
      have hr' := hperm.mem_iff.1 hr
      rw [(HL.row r hr').len, he6 r hr']
      omega
    rw [e1, e2]
    exact col_of_cmp _ _ col [] (len _ (List.getElem_mem _)) (len _ (List.getElem_mem _)) h
  have hfx : ∀ i (h : i < fs.length), fs[i].xs = fileR ys i := fun i h => by
    have e1 : (fs.map HRow.xs)[i]? = some fs[i].xs := by simp [h]
    rw [HF.xs] at e1
    have hn := congrArg List.length HF.xs
    simp [filesL] at hn
    have e2 : (filesL ys (min l1 8))[i]? = some (fileR ys i) := by simp [filesL, show i < min l1 8 by omega]
    rw [e2] at e1
    exact (Option.some.inj e1).symm
  have hst : fs.Pairwise (fun a b => fk a < fk b) := List.pairwise_iff_getElem.2 fun i j hi hj hij => by
    unfold fk
    rw [hfx i hi, hfx j hj]
    exact fAt_lt ys (show i + 1 < j + 1 by omega)
  have hf3 : ∀ f ∈ fs, f.n = 3 := fun f hf => by
    obtain ⟨i, hi, rfl⟩ := List.getElem_of_mem hf
    rw [← (HF.row _ (List.getElem_mem _)).len, hfx i hi]
    rfl
  have hfl : fs.length ≤ 8 := by
    have hn := congrArg List.length HF.xs
    simp [filesL] at hn
    omega
  have ending : ∀ (mZ : Mem) (bv cb bc bi bn bw bp : Nat) (pf : Value) (why : Int) (putL : List Int → List Int → List Int) (t' : Fr), Old m5 mZ → cap1 mZ bv (.slice (some ⟨bS, 0, sS⟩) es.length es.length) → cap1 mZ cb (.slice aF fs.length fs.length) → cap1 mZ bc (vI (col : Nat)) → cap1 mZ bi (.func (.func F_slices_Values_SSint_Sint_1) #[] #[ptr bv]) → cap1 mZ bn (.func (.func F_flow_Cursor_Sint_1) #[] #[ptr cb]) → cap1 mZ bw (vI why) → cap1 mZ bp pf → (∀ Z', PutOk Z' pf putL) → (∃ g a b, pf = .func g a b) → (par = true ∧ col = 5 ∧ why = 6 ∧ putL = putP ∨ par = false ∧ col = 1 ∧ why = 4 ∧ putL = putE) →
      (m5.size ≤ bv ∧ m5.size ≤ cb ∧ m5.size ≤ bc ∧ m5.size ≤ bi ∧ m5.size ≤ bn ∧ m5.size ≤ bw ∧ m5.size ≤ bp ∧ bv ≠ cb ∧ bc ≠ cb ∧ bi ≠ cb ∧ bn ≠ cb ∧ bw ≠ cb ∧ bp ≠ cb) → t' 14 = .func (.func F_stage_found_1) #[] #[ptr bc, ptr bi, ptr bn, ptr bw, ptr bp] → t' 5 = ptr B → t' 6 = ptr (B + 1) → t' 7 = ptr (B + 2) → t' 8 = ptr (B + 3) → t' 9 = ptr (B + 4) →
      wpM E F_sheaflaw17_StageJoins 221 none c_sheaflaw17_StageJoins_65 (retK (ResK E [.cell 6 4] fun v _ => v = .bool true)) t' mZ := by
    intro mZ bv cb bc bi bn bw bp pf why putL t' oZ cv cc dc di dn dw dp hput hpf hpar' hbs q14 q5 q6 q7 q8 q9
    have sZ := oZ.size
    simp only [c_sheaflaw17_StageJoins_65_at]
    simp (decide := true) (implicitDefEqProofs := false) (maxDischargeDepth := 20) only [go_sem, q14, ↓reduceIte, true_implies, false_implies]
    obtain ⟨nb, hnb⟩ : ∃ b, b = mZ.size := ⟨_, rfl⟩
    obtain ⟨mN, hmN⟩ : ∃ mN, mN = (mZ.push (.cells false true [.int .i64 0])).put nb (some (.cells false true [.int .i64 0])) := ⟨_, rfl⟩
    have gN : cap1 mN nb (vI 0) := by unfold cap1; rw [hmN, hnb, getM_put, if_pos ⟨rfl, by simp⟩]
    have oN : Old mZ mN := by rw [hmN, hnb]; exact .put (.push (.refl mZ) _) _ _ (Nat.le_refl _)
    rw [← hnb, ← hmN]
    clear hmN
    have o5N := oZ.trans oN
    have sN := oN.size
    have o3N : ∀ i, i < m3.size → i ≠ B + 4 → mN.get i = m3.get i := fun i hi h => by rw [o5N.get (by omega), g5 i h, o34.get hi]
    have rowN : ∀ r ∈ ls, r.At mN := fun r hr => (HL.row r (hperm.mem_iff.1 hr)).keep fun b hb hx => by
      obtain ⟨b', h1, h2, h3, _⟩ := HL.blk r (hperm.mem_iff.1 hr)
      rw [h1] at hb; cases hb
      exact o3N b' h3 (by omega)
    have fileN : ∀ f ∈ fs, f.At mN := fun f hf => (HF.row f hf).keep fun b hb hx => by
      obtain ⟨b', h1, h2, h3, _⟩ := HF.blk f hf
      rw [h1] at hb; cases hb
      show mN.get b' = m2.get b'
      rw [o3N b' (by omega) (by omega), HL.keep b' h3 (by omega)]
    have SN : SlA mN 1 (some ⟨bS, 0, sS⟩) es.length es.length (ls.map HRow.v) := VS.sl.keep fun b hb hx => by
      cases hb
      have h1 := (VS.blk _ rfl).1
      have h2 : bS < m4.size := VS.lt rfl
      simp only [size_push] at h1
      replace h1 : m3.size + 1 ≤ bS := h1
      show mN.get bS = m4.get bS
      rw [o5N.get (by omega), g5 bS (by omega)]
    have FN : SlA mN 1 aF fs.length fs.length (fs.map HRow.v) := HF.vec.sl.keep fun b hb hx => by
      have h1 := (HF.vec.blk b hb).1
      have h2 := HF.vec.lt hb
      rw [o3N b.block (by omega) (by omega), HL.keep b.block h2 (by omega)]
    have hSz := (VS.blk _ rfl).1
    have hSl : bS < m4.size := VS.lt rfl
    simp only [size_push] at hSz
    replace hSz : m3.size + 1 ≤ bS := hSz
    have nS : ∀ x, (some ⟨bS, 0, sS⟩ : Option Addr) = some x → x.block ≠ nb ∧ x.block ≠ cb := fun x hx => by cases hx; exact ⟨by show bS ≠ nb; omega, by show bS ≠ cb; omega⟩
    have nls : ∀ r ∈ ls, ∀ x, r.ad = some x → x.block ≠ nb ∧ x.block ≠ cb := fun r hr x hx => by
      obtain ⟨b', h1, h2, h3, _⟩ := HL.blk r (hperm.mem_iff.1 hr)
      rw [h1] at hx; cases hx
      exact ⟨by show b' ≠ nb; omega, by show b' ≠ cb; omega⟩
    have nF : ∀ x, aF = some x → x.block ≠ nb ∧ x.block ≠ cb := fun x hx => by have := HF.vec.lt hx; exact ⟨by omega, by omega⟩
    have nfs : ∀ r ∈ fs, ∀ x, r.ad = some x → x.block ≠ nb ∧ x.block ≠ cb := fun r hr x hx => by
      obtain ⟨b', h1, h2, h3, _⟩ := HF.blk r hr
      rw [h1] at hx; cases hx
      exact ⟨by show b' ≠ nb; omega, by show b' ≠ cb; omega⟩
    have zat : ∀ b v, cap1 mZ b v → b ≠ cb → butL mN [nb, cb] b = some (.cells false true [v]) := fun b v h hne => butL_at (h.old oN) (by have := getM_lt h; simp; omega)
    have hR : ∀ k, RowZ (butL mN [nb, cb]) (ls.getD k noRow) := fun k m' z => by
      rw [List.getD_eq_getElem?_getD]
      cases hg : ls[k]? with
      | none => exact noRow_at m'
      | some r =>
        have hm := List.mem_of_getElem? hg
        exact row_but (rowN r hm) z fun b hb hx => by have := nls r hm b hb; simp; exact this
    have hRn : ∀ k, (ls.getD k noRow).n ≤ 900 := fun k => by
      rw [List.getD_eq_getElem?_getD]
      cases hg : ls[k]? with
      | none => exact Nat.zero_le _
      | some r => have := he6 r (hperm.mem_iff.1 (List.mem_of_getElem? hg)); simp; omega
    have hFz : ∀ y ∈ fs, RowZ (butL mN [nb, cb]) y := fun f hf m' z => row_but (fileN f hf) z fun b hb hx => by have := nfs f hf b hb; simp; exact this
    have own0 : JO (butL mN [nb, cb]) cb (cmpR col) fs ls 0 mN := ⟨aF, fs.length, cc.old oN, fun m' z => sla_but FN z fun b hb hx => by have := nF b hb; simp; exact this⟩
    have it := FoundI (Z := butL mN [nb, cb]) (n := es.length) (col := col) (why := why) (xs := ls) (l := fs) (putL := putL) hlsl (by omega) (by omega) (fun Z' sub => ValuesR (sub _ _ (zat bv _ cv (by omega))) (fun m' z => sla_but SN (sub.frozen z) fun b hb hx => by have := nS b hb; simp; exact this) (by omega)) hR hRn hFz
      (zat bc _ dc (by omega)) (zat bi _ di (by omega)) (zat bn _ dn (by omega)) (zat bw _ dw (by omega)) (zat bp _ dp (by omega)) (fun Z' _ => hput Z') hpf
    have gPN := gP5.old o5N
    have gVN := gV5.old o5N
    have gFN := gF5.old o5N
    have gLN := gL5.old o5N
    have gRN : mN.get (B + 1) = some (.cells false true [.bool false]) := gR5.old o5N
    refine Jn_range (N := es.length) (nF := fs.length) (par := par) (why := why) (putL := putL) gLN SN rowN (fun r hr => he6 r (hperm.mem_iff.1 hr)) (by omega) gFN FN fileN hf3 hfl gVN gPN gN hst hso hpar' nS nls nF nfs (by have := getM_lt cc; omega) (by have := getM_lt cc; omega) it own0 (by simp (decide := true) only [go_sem, ↓reduceIte]) (by simp (decide := true) only [go_sem, q5, ↓reduceIte]) (by simp (decide := true) only [go_sem, q7, ↓reduceIte]) (by simp (decide := true) only [go_sem, q8, ↓reduceIte]) (by simp (decide := true) only [go_sem, q9, ↓reduceIte]) (by simp (decide := true) only [go_sem, ↓reduceIte]) fun m9 hn s9 k9 => ?_
    have rN9 := get_at0 hn
    have rL9 := get_at0 ((k9 (B + 4) (by omega) (by omega) (by omega)).trans gLN)
    have gR9 : m9.get (B + 1) = some (.cells false true [.bool false]) := (k9 (B + 1) (by omega) (by omega) (by omega)).trans gRN
    have lR9 := getM_lt gR9
    have dn9 : (((es.length : Nat) : Int) == ((es.length : Nat) : Int)) = true := by simp
    simp (decide := true) (implicitDefEqProofs := false) (maxDischargeDepth := 20) only [go_sem, q6, q9, rN9, rL9, gR9, lR9, dn9, ↓reduceIte, true_implies, false_implies]
  simp (decide := true) (implicitDefEqProofs := false) (maxDischargeDepth := 20) only [go_sem, f5, f6, f7, f8, f9, ↓reduceIte, true_implies, false_implies]
  have o58 := o56.trans (o67.trans o78)
  have rP8 := get_at0 (gP5.old o58)
  simp only [c_sheaflaw17_StageJoins_22_at]
  rcases hpar with ⟨rfl, rfl⟩ | ⟨rfl, rfl⟩
  · have rL8 := get_at0 (gL5.old o58)
    have rF8 := get_at0 (gF5.old o58)
    simp (decide := true) (implicitDefEqProofs := false) (maxDischargeDepth := 20) only [go_sem, f5, f6, f7, f8, f9, rP8, rL8, rF8, ↓reduceIte, true_implies, false_implies]
    refine (From_at).mono ?_
    rintro w m9 ⟨bv2, rfl, cv2, hbv2, o9⟩
    obtain ⟨el2, rfl, -⟩ := o9.ugm
    have o89 : Old m8 (m8.ext el2) := ⟨el2, rfl⟩
    have cv2 : cap1 (m8.ext el2) bv2 (.slice (some ⟨bS, 0, sS⟩) es.length es.length) := get_ugm cv2
    rw [size_gm] at hbv2
    simp (decide := true) (implicitDefEqProofs := false) (maxDischargeDepth := 20) only [go_sem, f5, f6, f7, f8, f9, ↓reduceIte, true_implies, false_implies]
    generalize m8.ext el2 = m9 at *
    refine (Cursor_at).mono ?_
    rintro w m10 ⟨rfl, cc2, o910⟩
    simp (decide := true) (implicitDefEqProofs := false) (maxDischargeDepth := 20) only [go_sem, f5, f6, f7, f8, f9, ↓reduceIte, true_implies, false_implies]
    refine (Partners_at).mono ?_
    rintro w m11 ⟨bc2, bi2, bn2, bw2, bp2, rfl, dc2, di2, dn2, dw2, dp2, hb2, o1011⟩
    have s89 := o89.size
    have s910 := o910.size
    have s1011 := o1011.size
    have lv2 := getM_lt cv2
    have lc2 := getM_lt cc2
    simp (decide := true) (implicitDefEqProofs := false) (maxDischargeDepth := 20) only [go_sem, f5, f6, f7, f8, f9, ↓reduceIte, true_implies, false_implies]
    exact ending m11 bv2 m9.size bc2 bi2 bn2 bw2 bp2 _ 6 putP _ (o58.trans (o89.trans (o910.trans o1011))) (cv2.old (o910.trans o1011)) (cc2.old o1011) dc2 di2 dn2 dw2 dp2 Partners_ok ⟨_, _, _, rfl⟩ (.inl ⟨rfl, rfl, rfl, rfl⟩) (by omega)
      (by simp (decide := true) only [go_sem, ↓reduceIte]) (by simp (decide := true) only [go_sem, f5, ↓reduceIte]) (by simp (decide := true) only [go_sem, f6, ↓reduceIte]) (by simp (decide := true) only [go_sem, f7, ↓reduceIte]) (by simp (decide := true) only [go_sem, f8, ↓reduceIte]) (by simp (decide := true) only [go_sem, f9, ↓reduceIte])
  · have lv := getM_lt cv
    have lc := getM_lt cc
    simp (decide := true) (implicitDefEqProofs := false) (maxDischargeDepth := 20) only [go_sem, f5, f6, f7, f8, f9, rP8, ↓reduceIte, true_implies, false_implies]
    exact ending m8 bv cb bc bi bn bw bp _ 4 putE _ o58 (cv.old (o67.trans o78)) (cc.old o78) dc di dn dw dp Entities_ok ⟨_, _, _, rfl⟩ (.inr ⟨rfl, rfl, rfl, rfl⟩) (by omega)
      (by simp (decide := true) only [go_sem, ↓reduceIte]) (by simp (decide := true) only [go_sem, f5, ↓reduceIte]) (by simp (decide := true) only [go_sem, f6, ↓reduceIte]) (by simp (decide := true) only [go_sem, f7, ↓reduceIte]) (by simp (decide := true) only [go_sem, f8, ↓reduceIte]) (by simp (decide := true) only [go_sem, f9, ↓reduceIte])

attribute [-go_sem] c_sheaflaw17_StageJoins_70_at in
set_option maxRecDepth 100000 in
set_option maxHeartbeats 16000000 in
theorem StageJoins_law (m : Mem) (hro : ∀ i c, m.get i = some c → c.writable = false)
    (a0 : Option Addr) (l0 c0 : Nat) (xs0 : List Int) (hs0 : SlA m 1 a0 l0 c0 (xs0.map (.int .i64))) (hl0 : xs0.length = l0) (hx0 : ∀ x ∈ xs0, -9223372036854775808 ≤ x ∧ x < 9223372036854775808)
    (a1 : Option Addr) (l1 c1 : Nat) (xs1 : List Int) (hs1 : SlA m 1 a1 l1 c1 (xs1.map (.int .i64))) (hl1 : xs1.length = l1) (hx1 : ∀ x ∈ xs1, -9223372036854775808 ≤ x ∧ x < 9223372036854775808)
    (par : Bool) :
    CallQ E F_sheaflaw17_StageJoins [.slice a0 l0 c0, .slice a1 l1 c1, .bool par].toArray m fun v _ => v = .bool true := by
  refine .enter fn_sheaflaw17_StageJoins (by simp) ?_
  have lt0 : ∀ b, a0 = some b → xs0 ≠ [] → b.block < m.size := fun b hb hne => (hs0.rows b hb (by simpa using hne)).lt
  have lt1 : ∀ b, a1 = some b → xs1 ≠ [] → b.block < m.size := fun b hb hne => (hs1.rows b hb (by simpa using hne)).lt
  obtain ⟨mA, hmA⟩ : ∃ mA, mA = (((m.push (.cells false true [.bool par])).push (.cells false true [.bool false])).push (.cells false true [.int .i64 0])).put (m.size + 2) (some (.cells false true [.int .i64 1])) := ⟨_, rfl⟩
  have oA : Old m mA := by
    rw [hmA]
    exact .put (.push (.push (.push (.refl m) _) _) _) _ _ (by omega)
  have sA : mA.size = m.size + 3 := by rw [hmA]; simp [size_put, size_push]
  have gP : cap1 mA m.size (.bool par) := by unfold cap1; rw [hmA, getM_put, if_neg (by omega), getM_push, if_neg (by simp only [size_push]; omega), getM_push, if_neg (by simp only [size_push]; omega), getM_push, if_pos rfl]
  have gR : cap1 mA (m.size + 1) (.bool false) := by unfold cap1; rw [hmA, getM_put, if_neg (by omega), getM_push, if_neg (by simp only [size_push]; omega), getM_push, if_pos (by simp only [size_push])]
  have gV : cap1 mA (m.size + 2) (vI 1) := by unfold cap1; rw [hmA, getM_put, if_pos ⟨rfl, by simp [size_push]⟩]
  have lV := getM_lt gV
  have fin : ∀ (mB : Mem) (col : Nat) (t' : Fr), Old m mB → mB.size = m.size + 3 → cap1 mB m.size (.bool par) → cap1 mB (m.size + 1) (.bool false) → cap1 mB (m.size + 2) (vI (col : Nat)) → (par = true ∧ col = 5 ∨ par = false ∧ col = 1) →
      t' 0 = .slice a0 l0 c0 → t' 1 = .slice a1 l1 c1 → t' 5 = ptr m.size → t' 6 = ptr (m.size + 1) → t' 7 = ptr (m.size + 2) → t' 8 = ptr (m.size + 3) → t' 9 = ptr (m.size + 4) → t' 10 = vI 0 →
      wpM E F_sheaflaw17_StageJoins 221 none c_sheaflaw17_StageJoins_70 (retK (ResK E [.cell 6 4] fun v _ => v = .bool true)) t' ((mB.push (.cells false true [.slice none 0 0])).push (.cells false true [.slice none 0 0])) := by
    intro mB col t' oB sB gP gR gV hp q0 q1 q5 q6 q7 q8 q9 q10
    have oC : Old mB ((mB.push (.cells false true [.slice none 0 0])).push (.cells false true [.slice none 0 0])) := .push (.push (.refl mB) _) _
    refine Jn_main (B := m.size) (col := col) (par := par) (hs0.old (oB.trans oC)) hx0 (hs1.old (oB.trans oC)) hx1 lt0 lt1 (gP.old oC) (gR.old oC) (gV.old oC) ?_ ?_ (by simp only [size_push, sB]) hp q0 q1 q5 q6 q7 q8 q9 q10
    · unfold cap1; rw [getM_push, if_neg (by simp only [size_push]; omega), getM_push, if_pos (by omega)]
    · unfold cap1; rw [getM_push, if_pos (by simp only [size_push]; omega)]
  simp (decide := true) (implicitDefEqProofs := false) (maxDischargeDepth := 20) only [go_sem, ↓reduceIte, true_implies, false_implies]
  refine ⟨fun hp => ?_, fun hp => ?_⟩
  · refine fin ((((m.push (.cells false true [.bool par])).push (.cells false true [.bool false])).push (.cells false true [.int .i64 0])).put (m.size + 2) (some (.cells false true [.int .i64 1])) |>.put (m.size + 2) (some (.cells false true [.int .i64 5]))) 5 _ ?_ ?_ ?_ ?_ ?_ (.inl ⟨hp, rfl⟩) ?_ ?_ ?_ ?_ ?_ ?_ ?_ ?_
    · rw [← hmA]; exact .put oA _ _ (by omega)
    · rw [← hmA, size_put, sA]
    · rw [← hmA]; unfold cap1; rw [getM_put, if_neg (by omega)]; exact gP
    · rw [← hmA]; unfold cap1; rw [getM_put, if_neg (by omega)]; exact gR
    · rw [← hmA]; unfold cap1; rw [getM_put, if_pos ⟨rfl, lV⟩]; rfl
    all_goals simp (decide := true) only [go_sem, ↓reduceIte]
  · refine fin ((((m.push (.cells false true [.bool par])).push (.cells false true [.bool false])).push (.cells false true [.int .i64 0])).put (m.size + 2) (some (.cells false true [.int .i64 1]))) 1 _ ?_ ?_ ?_ ?_ ?_ (.inr ⟨hp, rfl⟩) ?_ ?_ ?_ ?_ ?_ ?_ ?_ ?_
    · rw [← hmA]; exact oA
    · rw [← hmA, sA]
    · rw [← hmA]; exact gP
    · rw [← hmA]; exact gR
    · rw [← hmA]; exact gV
    all_goals simp (decide := true) only [go_sem, ↓reduceIte]
end Go.Proofs.Ytpabllcacdopdaa.W
