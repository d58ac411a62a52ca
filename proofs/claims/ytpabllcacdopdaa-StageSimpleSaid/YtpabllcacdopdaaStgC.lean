/-
  StageSimple: the list of rows.
-/
import Derived.Test.YtpabllcacdopdaaStgB
import Derived.Test.YtpabllcacdopdaaCodeLaw
namespace Go.Proofs.Ytpabllcacdopdaa.W
open Go.Abs
set_option linter.unusedSimpArgs false
set_option linter.unusedVariables false

/-- Rows in blocks of their own, a list of them in a box. -/
structure OwnL (m0 m : Mem) (ob : Nat) (a : Option Addr) (es : List HRow) (xss : List (List Int)) : Prop where
  box : cap1 m ob (.slice a es.length es.length)
  vec : Vec m0.size m 1 a es.length (es.map HRow.v)
  xs : es.map HRow.xs = xss
  row : ∀ e ∈ es, e.At m
  blk : ∀ e ∈ es, ∃ b s, e.ad = some ⟨b, 0, s⟩ ∧ m0.size ≤ b ∧ b < m.size ∧ ∀ y, a = some y → b ≠ y.block
  size : m0.size ≤ m.size
  keep : ∀ i, i < m0.size → i ≠ ob → m.get i = m0.get i



set_option maxRecDepth 100000 in
set_option maxHeartbeats 4000000 in
theorem Simple_own {m0 : Mem} {t : Fr} {a0 : Option Addr} {l c0 ob : Nat} {rs : List HRow} (hs : SlA m0 1 a0 l c0 (rs.map HRow.v)) (hr : ∀ r ∈ rs, r.At m0) (hl : rs.length = l) (hob : cap1 m0 ob (.slice none 0 0)) (hob2 : ∀ r ∈ rs, ∀ b, r.ad = some b → r.xs ≠ [] → b.block ≠ ob) (hob3 : ∀ b, a0 = some b → rs ≠ [] → b.block ≠ ob)
    (t0 : t 0 = .slice a0 l c0) (t8 : t 8 = ptr ob) (t10 : t 10 = .int .i64 0) {K : Post3}
    (hK : ∀ t' m' a es, Agree (writes c_sheaflaw17_StageSimple_6) t t' → OwnL m0 m' ob a es ((rs.take 20).map fun r => r.xs.take 10) → K .normal t' m') :
    wpM E F_sheaflaw17_StageSimple 196 none c_sheaflaw17_StageSimple_6 K t m0 := by
  refine wpM_cut (fun t' m' => ∃ a es, OwnL m0 m' ob a es ((rs.take 20).map fun r => r.xs.take 10)) ?_ fun t' m' ha ⟨a, es, h1⟩ => hK t' m' a es ha h1
  simp only [c_sheaflaw17_StageSimple_6_at, wpM_block, c_sheaflaw17_StageSimple_5_at]
  refine wpM_loopA (fun j t' m' => ∃ k a es, k ≤ min l 20 ∧ j = min l 20 - k ∧ t' 10 = .int .i64 (k : Nat) ∧ OwnL m0 m' ob a es ((rs.take k).map fun r => r.xs.take 10)) (min l 20)
    ⟨0, none, [], by omega, rfl, t10, ⟨hob, .nil _ _ _, rfl, fun e h => by simp at h, fun e h => by simp at h, Nat.le_refl _, fun _ _ _ => rfl⟩⟩ ?_
  rintro j t' m' ha ⟨k, a, es, hk, rfl, e10, H⟩
  have e0 := (ha 0 (by decide +kernel)).trans t0
  have e8 := (ha 8 (by decide +kernel)).trans t8
  have hobl : ob < m0.size := getM_lt hob
  by_cases hlt : k < min l 20
  · have d1 : decide ((k : Int) < (l : Int)) = true := by simp; omega
    have d2 : decide ((k : Int) < 20) = true := by simp; omega
    have w1 : IntKind.wrap .i64 ((k : Int) + 1) = ((k + 1 : Nat) : Int) := by rw [wrap_i64_id _ (by omega) (by omega)]; omega
    have z0 : (0 : Int) ≤ (k : Int) := by omega
    have z1 : (k : Int) < (l : Int) := by omega
    have hkl : k < rs.length := by omega
    have hS : SlA m' 1 a0 l c0 (rs.map HRow.v) := hs.keep fun b hb hne => H.keep _ ((hs.rows b hb hne).lt) (hob3 b hb (by simpa using hne))
    obtain ⟨ab, ao, asp, rfl⟩ := hS.addr (by omega)
    have r0 : m'.at ab (ao + k) = some (HRow.v rs[k]) := hS.at_map (by omega)
    have hAt : (rs[k]).At m' := (hr rs[k] (List.getElem_mem _)).keep fun b hb hne => H.keep _ (((hr rs[k] (List.getElem_mem _)).sl.rows b hb (by simpa using hne)).lt) (hob2 _ (List.getElem_mem _) b hb hne)
    have ht : rs.take (k + 1) = rs.take k ++ [rs[k]] := List.take_succ_eq_append_getElem hkl
    have hel : es.length = k := by
      have := congrArg List.length H.xs
      simp at this
      omega
    generalize rs[k] = r at *
    obtain ⟨rad, rn, rc, rxs⟩ := r
    have r1 : m'.at ab (ao + k) = some (.slice rad rn rc) := r0
    have mn : min (rn : Int) 10 = ((min rn 10 : Nat) : Int) := by omega
    obtain ⟨s0, S⟩ := hAt.sl.sliceTo (E := E) (k := .i64) (show min rn 10 ≤ rn by omega)
    have s0' := s0 22 (by decide +kernel)
    rw [Nat.mul_one, ← List.map_take] at S
    have rb := get_at0 H.box
    have nab : ¬ ab = m'.size := by
      have h : ab < m'.size := hS.lt (by simp; intro e; subst e; simp at hkl)
      omega
    simp only [] at s0'
    simp (decide := true) (implicitDefEqProofs := false) (maxDischargeDepth := 20) only [go_sem, ↓reduceIte, e0, e8, e10, d1, d2, r1, rb, nab, mn, s0', z0, z1, Int.toNat_natCast, true_implies, false_implies]
    obtain ⟨mp, hmp⟩ : ∃ mp, mp = m'.push (.cells false true []) := ⟨_, rfl⟩
    have gp : ∀ i, i < m'.size → mp.get i = m'.get i := fun i hi => by rw [hmp, getM_push, if_neg (by omega)]
    have sp : mp.size = m'.size + 1 := by rw [hmp, size_push]
    have hobm : ob < m'.size := getM_lt H.box
    have v0 : Vec m'.size (mp.gm [ob]) 1 (some ⟨m'.size, 0, none⟩) 0 [] := by
      have v : Vec m'.size mp 1 (some ⟨m'.size, 0, none⟩) 0 [] := by rw [hmp]; exact .built (Nat.le_refl _) rfl
      exact v.keep fun x hx => by cases hx; exact get_gmG _ _ _ (by show m'.size ≠ ob; omega)
    have S' : SlA (mp.gm [ob]) 1 rad (min rn 10) rc ((rxs.take (min rn 10)).map (.int .i64)) := by rw [SlA.gm, hmp]; exact S.push _
    rw [← hmp]
    refine v0.append (by rw [gm_size]; omega) (S'.appended' (by decide +kernel) (by decide)) (by rw [S'.len, Nat.mul_one]) (by decide +kernel) (ints_all _) (by omega) fun q2 b2 v1 k1 hb2 => ?_
    have gob : mp.get ob = some (.cells false true [.slice a es.length es.length]) := (gp ob hobm).trans H.box
    have sq := k1.1
    rw [gm_size] at sq
    simp only [Nat.zero_add, List.nil_append] at v1 ⊢
    obtain ⟨m2, hm2⟩ : ∃ m2, m2 = mp.ugm q2 [ob] := ⟨_, rfl⟩
    have s2 : m2.size = q2.size := by rw [hm2, size_ugm]
    have g2 : ∀ i, m2.get i = if i = ob then mp.get ob else q2.get i := fun i => by rw [hm2]; exact get_ugmG gob (by omega) i
    have gob2 : m2.get ob = some (.cells false true [.slice a es.length es.length]) := by rw [g2, if_pos rfl]; exact gob
    have old2 : ∀ i, i < m'.size → m2.get i = m'.get i := fun i hi => by
      rw [g2]
      split
      · rename_i e; rw [e, gp ob hobm]
      · rename_i e
        rw [k1.2 i (by rw [gm_size]; omega) (fun x hx => by cases hx; show i ≠ m'.size; omega), get_gmG _ _ _ e, gp i hi]
    obtain ⟨bb, sb, rfl, hbb⟩ : ∃ b s, b2 = some ⟨b, 0, s⟩ ∧ m'.size ≤ b := by
      rcases hb2 with rfl | ⟨s, rfl⟩
      · exact ⟨_, _, rfl, Nat.le_refl _⟩
      · exact ⟨_, _, rfl, by rw [gm_size]; omega⟩
    have hbl : bb < m2.size := by rw [s2]; exact v1.lt rfl
    have v2 : Vec m'.size m2 1 (some ⟨bb, 0, sb⟩) (min rn 10) ((rxs.take (min rn 10)).map (.int .i64)) := v1.keep fun x hx => by
      cases hx
      show m2.get bb = q2.get bb
      rw [g2, if_neg (by omega)]
    have hv : Vec m0.size m2 1 a es.length (es.map HRow.v) := H.vec.keep fun x hx => old2 _ (H.vec.lt hx)
    simp (decide := true) (implicitDefEqProofs := false) (maxDischargeDepth := 20) only [go_sem, ↓reduceIte, ← hm2, true_implies, false_implies]
    refine hv.append1' (by have := H.size; omega) rfl (by decide) (by decide +kernel) (by decide +kernel) rfl (by omega) fun m4 b4 s4 v4 k4 hb4 => ?_
    have hbx : ∀ x, a = some x → x.block < m'.size := fun x hx => H.vec.lt hx
    have hba : ∀ x, a = some x → ob ≠ x.block := fun x hx e => by have := (H.vec.blk x hx).1; omega
    have gob4 : m4.get ob = some (.cells false true [.slice a es.length es.length]) := by rw [k4.2 ob (by omega) hba]; exact gob2
    have l4 : b4 < m4.size := v4.lt rfl
    simp (decide := true) (implicitDefEqProofs := false) (maxDischargeDepth := 20) only [go_sem, ↓reduceIte, e0, e8, e10, gob4, w1, true_implies, false_implies]
    obtain ⟨m5, hm5⟩ : ∃ m5, m5 = m4.put ob (some (.cells false true [.slice (some ⟨b4, 0, s4⟩) (es.length + 1) (es.length + 1)])) := ⟨_, rfl⟩
    rw [← hm5]
    have s5 : m5.size = m4.size := by rw [hm5, size_put]
    have g5 : ∀ i, i ≠ ob → m5.get i = m4.get i := fun i hi => by rw [hm5, getM_put, if_neg (fun e => hi e.1)]
    have s24 := k4.1
    have g25 : ∀ i, i < m2.size → i ≠ ob → (∀ x, a = some x → i ≠ x.block) → m5.get i = m2.get i := fun i h1 h2 h3 => (g5 i h2).trans (k4.2 i h1 h3)
    have hsz := H.size
    refine ⟨min l 20 - (k + 1), by omega, k + 1, some ⟨b4, 0, s4⟩, es ++ [⟨some ⟨bb, 0, sb⟩, min rn 10, min rn 10, rxs.take (min rn 10)⟩], by omega, rfl, rfl, ?_, ?_, ?_, ?_, ?_, ?_, ?_⟩
    · unfold cap1
      rw [hm5, getM_put, if_pos ⟨rfl, getM_lt gob4⟩, List.length_append]
      rfl
    · rw [List.length_append, List.map_append]
      exact v4.keep fun x hx => by cases hx; exact g5 _ (by show b4 ≠ ob; omega)
    · have hrl := hAt.len
      simp only at hrl
      rw [List.map_append, H.xs, ht, List.map_append]
      congr 1
      simp only [List.map_cons, List.map_nil]
      rw [← hrl, Nat.min_comm, ← List.take_eq_take_min]
    · intro e he
      rcases List.mem_append.1 he with he | he
      · obtain ⟨b, s, hb1, hb2, hb3, hb4'⟩ := H.blk e he
        exact (H.row e he).keep fun x hx hne => by
          rw [hb1] at hx; cases hx
          show m5.get b = m'.get b
          rw [g25 b (by omega) (by omega) hb4', old2 b hb3]
      · rw [List.mem_singleton.1 he]
        refine ⟨v2.sl.keep fun x hx hne => ?_, by have := v2.len; simpa using this, fun x hx => hAt.bd x (List.mem_of_mem_take hx)⟩
        cases hx
        exact g25 bb hbl (by omega) fun y hy => by have := hbx y hy; omega
    · intro e he
      rcases List.mem_append.1 he with he | he
      · obtain ⟨b, s, hb1, hb2, hb3, hb4'⟩ := H.blk e he
        exact ⟨b, s, hb1, hb2, by omega, fun y hy => by cases hy; show b ≠ b4; omega⟩
      · rw [List.mem_singleton.1 he]
        exact ⟨bb, sb, rfl, by omega, by omega, fun y hy => by cases hy; show bb ≠ b4; omega⟩
    · omega
    · intro i hi hne
      rw [g25 i (by omega) hne (fun x hx => by have := (H.vec.blk x hx).1; omega), old2 i (by omega), H.keep i hi hne]
  · have hkk : k = min l 20 := by omega
    have fin : ((rs.take k).map fun r => r.xs.take 10) = ((rs.take 20).map fun r => r.xs.take 10) := by rw [hkk, ← hl, Nat.min_comm, ← List.take_eq_take_min]
    rw [fin] at H
    by_cases h12 : k < l
    · have d1 : decide ((k : Int) < (l : Int)) = true := by simp; omega
      have d2 : decide ((k : Int) < 20) = false := by simp; omega
      simp (decide := true) (implicitDefEqProofs := false) (maxDischargeDepth := 20) only [go_sem, ↓reduceIte, e0, e8, e10, d1, d2, true_implies, false_implies]
      exact ⟨a, es, H⟩
    · have d1 : decide ((k : Int) < (l : Int)) = false := by simp; omega
      simp (decide := true) (implicitDefEqProofs := false) (maxDischargeDepth := 20) only [go_sem, ↓reduceIte, e0, e8, e10, d1, true_implies, false_implies]
      exact ⟨a, es, H⟩
end Go.Proofs.Ytpabllcacdopdaa.W
