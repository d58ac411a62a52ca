/-
  RowMany: the loops.
-/
import Derived.Test.YtkbjkmhmkefckaaRowH
import Derived.Test.YtkbjkmhmkefckaaAbs29
namespace Go.Proofs.Ytkbjkmhmkefckaa.W
open Go.Abs
set_option linter.unusedSimpArgs false
set_option linter.unusedVariables false

def cutR (r : HRow) : HRow := ⟨r.ad, min r.n 10, r.c, r.xs.take 10⟩
theorem cutR_at {m : Mem} {r : HRow} (h : r.At m) : (cutR r).At m := by
  have hl := h.len
  have e : r.xs.take (min r.n 10) = r.xs.take 10 := by rw [← hl, Nat.min_comm, ← List.take_eq_take_min]
  refine ⟨?_, ?_, fun x hx => h.bd x (List.mem_of_mem_take hx)⟩
  · have := (h.sl.sliceTo (E := E) (k := .i64) (show min r.n 10 ≤ r.n by omega)).2
    rw [Nat.mul_one, ← List.map_take, e] at this
    exact this
  · show (r.xs.take 10).length = min r.n 10
    rw [List.length_take]; omega

/-- The bytes of rows. -/
def puts (rs : List HRow) : List Int := (rs.map fun r => put r.xs).flatten
theorem puts_append (a b : List HRow) : puts (a ++ b) = puts a ++ puts b := by unfold puts; rw [List.map_append, List.flatten_append]
theorem puts_len {m : Mem} : ∀ (rs : List HRow), (∀ r ∈ rs, r.At m) → (puts rs).length ≤ 101 * rs.length
  | [], _ => by simp [puts]
  | r :: rs, h => by
    have h1 := puts_len rs fun x hx => h x (by simp [hx])
    have h2 := (put_len r.xs (h r (by simp)).bd).1
    simp only [puts, List.map_cons, List.flatten_cons, List.length_append, List.length_cons] at h1 ⊢
    omega
theorem puts_byt {m : Mem} : ∀ (rs : List HRow), (∀ r ∈ rs, r.At m) → Byt (puts rs)
  | [], _ => fun x hx => by simp [puts] at hx
  | r :: rs, h => fun x hx => by
    rcases List.mem_append.1 (show x ∈ put r.xs ++ puts rs from hx) with h1 | h1
    · exact put_byt' r.xs (h r (by simp)).bd x h1
    · exact puts_byt rs (fun y hy => h y (by simp [hy])) x h1

set_option maxRecDepth 100000 in
set_option maxHeartbeats 4000000 in
theorem RowMany_fill {m0 m : Mem} {t : Fr} {a0 : Option Addr} {l c0 : Nat} {rs : List HRow} (hs : SlA m0 1 a0 l c0 (rs.map HRow.v)) (hr : ∀ r ∈ rs, r.At m0) (hl : rs.length = l)
    (t0 : t 0 = .slice a0 l c0) (t3 : t 3 = .slice none 0 0) (t4 : t 4 = .slice none 0 0) (t5 : t 5 = .int .i64 0) (o : Old m0 m) {K : Post3}
    (hK : ∀ t' m' a3 a4 nb, Agree (writes c_sheaflaw13_RowMany_8) t t' → t' 3 = .slice a3 (min l 12) (min l 12) → Vec m0.size m' 1 a3 (min l 12) (((rs.take 12).map cutR).map HRow.v) → t' 4 = .slice a4 nb nb → Vec m0.size m' 1 a4 nb ((puts ((rs.take 12).map cutR)).map (.int .u8)) → Old m0 m' → K .normal t' m') :
    wpM E F_sheaflaw13_RowMany 97 none c_sheaflaw13_RowMany_8 K t m := by
  refine wpM_cut (fun t' m' => ∃ a3 a4 nb, t' 3 = .slice a3 (min l 12) (min l 12) ∧ Vec m0.size m' 1 a3 (min l 12) (((rs.take 12).map cutR).map HRow.v) ∧ t' 4 = .slice a4 nb nb ∧ Vec m0.size m' 1 a4 nb ((puts ((rs.take 12).map cutR)).map (.int .u8)) ∧ Old m0 m') ?_ fun t' m' ha ⟨a3, a4, nb, h1, h2, h3, h4, h5⟩ => hK t' m' a3 a4 nb ha h1 h2 h3 h4 h5
  simp only [c_sheaflaw13_RowMany_8_at, wpM_block, c_sheaflaw13_RowMany_7_at]
  refine wpM_loopA (fun j t' m' => ∃ k a3 a4 nb, k ≤ min l 12 ∧ j = min l 12 - k ∧ t' 5 = .int .i64 (k : Nat) ∧ t' 3 = .slice a3 k k ∧ t' 4 = .slice a4 nb nb ∧ Vec m0.size m' 1 a3 k (((rs.take k).map cutR).map HRow.v) ∧ Vec m0.size m' 1 a4 nb ((puts ((rs.take k).map cutR)).map (.int .u8)) ∧ (∀ x y, a3 = some x → a4 = some y → x.block ≠ y.block) ∧ Old m0 m') (min l 12)
    ⟨0, none, none, 0, by omega, rfl, t5, t3, t4, .nil _ _ _, .nil _ _ _, fun x y h => by simp at h, o⟩ ?_
  rintro j t' m' ha ⟨k, a3, a4, nb, hk, rfl, e5, e3, e4, V3, V4, dis, o⟩
  have a0' := ha 0 (by decide +kernel)
  rw [t0] at a0'
  by_cases hlt : k < min l 12
  · have d1 : decide ((k : Int) < (l : Int)) = true := by simp; omega
    have d2 : decide ((k : Int) < 12) = true := by simp; omega
    have w1 : IntKind.wrap .i64 ((k : Int) + 1) = ((k + 1 : Nat) : Int) := by rw [wrap_i64_id _ (by omega) (by omega)]; omega
    have z0 : (0 : Int) ≤ (k : Int) := by omega
    have z1 : (k : Int) < (l : Int) := by omega
    obtain ⟨ab, ao, asp, rfl⟩ := hs.addr (by omega)
    have hkl : k < rs.length := by omega
    have r0 : m'.at ab (ao + k) = some (HRow.v rs[k]) := (hs.old o).at_map (by omega)
    have hAt := hr rs[k] (List.getElem_mem _)
    have ht : rs.take (k + 1) = rs.take k ++ [rs[k]] := List.take_succ_eq_append_getElem hkl
    have hlen3 : ∀ r ∈ (rs.take k).map cutR, r.At m0 := fun r h => by
      obtain ⟨r', h1, rfl⟩ := List.mem_map.1 h
      exact cutR_at (hr r' (List.mem_of_mem_take h1))
    have hpl := puts_len _ hlen3
    rw [List.length_map, List.length_take] at hpl
    have hnb : (puts ((rs.take k).map cutR)).length = nb := by have := V4.len; simpa using this
    generalize rs[k] = r at *
    obtain ⟨rad, rn, rc, rxs⟩ := r
    have r1 : m'.at ab (ao + k) = some (.slice rad rn rc) := r0
    have mn : min (rn : Int) 10 = ((min rn 10 : Nat) : Int) := by omega
    obtain ⟨s0, -⟩ := hAt.sl.sliceTo (E := E) (k := .i64) (show min rn 10 ≤ rn by omega)
    have s0' := s0 24 (by decide +kernel)
    have hCut := cutR_at hAt
    simp only [] at s0'
    simp (decide := true) (implicitDefEqProofs := false) (maxDischargeDepth := 20) only [go_sem, ↓reduceIte, a0', e5, e3, e4, d1, d2, r1, mn, s0', z0, z1, Int.toNat_natCast, true_implies, false_implies]
    refine V3.append1' o.size rfl (by decide) (by decide +kernel) (by decide +kernel) rfl (by omega) fun m2 b s V3' k2 hb2 => ?_
    have o2 : Old m0 m2 := V3.keepOld k2 o
    have V4' : Vec m0.size m2 1 a4 nb _ := V4.keep fun x hx => k2.2 _ (V4.lt hx) fun y hy e => dis y x hy hx e.symm
    simp (decide := true) (implicitDefEqProofs := false) (maxDischargeDepth := 20) only [go_sem, ↓reduceIte, a0', e5, e3, e4, true_implies, false_implies]
    refine (Put_at (hCut.sl.old o2) hCut.bd).mono ?_
    rintro w m3 ⟨p, np, rfl, V1, o3, -⟩
    have hp : (put (cutR ⟨rad, rn, rc, rxs⟩).xs).length = np := by have := V1.len; simpa using this
    have hp2 := (put_len (cutR ⟨rad, rn, rc, rxs⟩).xs hCut.bd).1
    simp (decide := true) (implicitDefEqProofs := false) (maxDischargeDepth := 20) only [go_sem, ↓reduceIte, a0', e5, e3, e4, true_implies, false_implies]
    have V3b := V3'.old o3
    refine (V4'.old o3).append (Nat.le_trans o2.size o3.size) (V1.sl.appended' (by decide +kernel) (by decide)) (by simp; omega) (by decide +kernel) ?_ (by omega) fun m4 b4 v4 k4 hb4 => ?_
    · rw [List.all_eq_true]
      intro x hx
      obtain ⟨y, _, rfl⟩ := List.mem_map.1 hx
      rfl
    simp (decide := true) (implicitDefEqProofs := false) (maxDischargeDepth := 20) only [go_sem, ↓reduceIte, a0', e5, e3, e4, w1, true_implies, false_implies]
    have hbs : b < m2.size := V3'.lt rfl
    have dis3 : ∀ y, a4 = some y → b ≠ y.block := fun y hy e => by
      have := V4.lt hy
      have : b ≥ m'.size := hb2
      omega
    refine ⟨min l 12 - (k + 1), by omega, k + 1, _, b4, nb + np, by omega, rfl, rfl, rfl, rfl, ?_, ?_, ?_, (V4'.old o3).keepOld k4 (o2.trans o3)⟩
    · rw [ht, List.map_append, List.map_append]
      refine V3b.keep fun x hx => ?_
      cases hx
      exact k4.2 b (Nat.lt_of_lt_of_le hbs o3.size) fun y hy e => dis3 y hy e
    · rw [ht, List.map_append, puts_append, List.map_append]
      have : puts (List.map cutR [(⟨rad, rn, rc, rxs⟩ : HRow)]) = put (cutR ⟨rad, rn, rc, rxs⟩).xs := by simp [puts]
      rw [this]
      exact v4
    · rintro x y hx hy
      cases hx
      rcases hb4 with rfl | ⟨s', rfl⟩
      · exact dis3 y hy
      · cases hy
        have := o3.size
        show b ≠ m3.size
        omega
  · have hkk : k = min l 12 := by omega
    have fin : ((rs.take k).map cutR) = ((rs.take 12).map cutR) := by rw [hkk, ← hl, Nat.min_comm, ← List.take_eq_take_min]
    rw [fin] at V3 V4
    by_cases h12 : k < l
    · have d1 : decide ((k : Int) < (l : Int)) = true := by simp; omega
      have d2 : decide ((k : Int) < 12) = false := by simp; omega
      simp (decide := true) (implicitDefEqProofs := false) (maxDischargeDepth := 20) only [go_sem, ↓reduceIte, a0', e5, e3, e4, d1, d2, true_implies, false_implies]
      exact ⟨a3, a4, nb, by rw [← hkk], by rw [← hkk]; exact V3, rfl, V4, o⟩
    · have d1 : decide ((k : Int) < (l : Int)) = false := by simp; omega
      simp (decide := true) (implicitDefEqProofs := false) (maxDischargeDepth := 20) only [go_sem, ↓reduceIte, a0', e5, e3, e4, d1, true_implies, false_implies]
      exact ⟨a3, a4, nb, by rw [← hkk], by rw [← hkk]; exact V3, rfl, V4, o⟩

set_option maxRecDepth 100000 in
set_option maxHeartbeats 4000000 in
theorem RowMany_read {m : Mem} {t : Fr} {a3 a4 : Option Addr} {N nb : Nat} {rs : List HRow} (hs : SlA m 1 a3 N N (rs.map HRow.v)) (hr : ∀ r ∈ rs, r.At m) (hl : rs.length = N) (h10 : ∀ r ∈ rs, r.xs.length ≤ 10) (hN : N ≤ 12)
    (t3 : t 3 = .slice a3 N N) (t4 : t 4 = .slice a4 nb nb) (hb : SlA m 1 a4 nb nb ((puts rs).map (.int .u8))) (t42 : t 42 = .int .i64 (N : Nat)) (t43 : t 43 = .int .i64 0) {K : Post3}
    (hK : ∀ t' m' a c, Agree (writes c_sheaflaw13_RowMany_22) t t' → t' 4 = .slice a 0 c → SlA m' 1 a 0 c ((([] : List Int)).map (.int .u8)) → Old m m' → K .normal t' m') :
    wpM E F_sheaflaw13_RowMany 97 none c_sheaflaw13_RowMany_22 K t m := by
  refine wpM_cut (fun t' m' => ∃ a c, t' 4 = .slice a 0 c ∧ SlA m' 1 a 0 c ((([] : List Int)).map (.int .u8)) ∧ Old m m') ?_ fun t' m' ha ⟨a, c, h1, h2, h3⟩ => hK t' m' a c ha h1 h2 h3
  simp only [c_sheaflaw13_RowMany_22_at, wpM_block, c_sheaflaw13_RowMany_21_at]
  refine wpM_loopA (fun j t' m' => ∃ k a n c, k ≤ N ∧ j = N - k ∧ t' 43 = .int .i64 (k : Nat) ∧ t' 4 = .slice a n c ∧ SlA m' 1 a n c ((puts (rs.drop k)).map (.int .u8)) ∧ Old m m') N
    ⟨0, a4, nb, nb, by omega, rfl, t43, t4, hb, .refl m⟩ ?_
  rintro j t' m' ha ⟨k, a, n, c, hk, rfl, e43, e4, H, o⟩
  have e3 := ha 3 (by decide +kernel)
  have e42 := ha 42 (by decide +kernel)
  rw [t3] at e3
  rw [t42] at e42
  by_cases hlt : k < N
  · have d1 : decide ((k : Int) < (N : Int)) = true := by simp; omega
    have w1 : IntKind.wrap .i64 ((k : Int) + 1) = ((k + 1 : Nat) : Int) := by rw [wrap_i64_id _ (by omega) (by omega)]; omega
    have z0 : (0 : Int) ≤ (k : Int) := by omega
    have z1 : (k : Int) < (N : Int) := by omega
    obtain ⟨ab, ao, asp, rfl⟩ := hs.addr (by omega)
    have hkl : k < rs.length := by omega
    have hAt := hr rs[k] (List.getElem_mem _)
    have hx10 := h10 rs[k] (List.getElem_mem _)
    have ht : rs.drop k = rs[k] :: rs.drop (k + 1) := List.drop_eq_getElem_cons hkl
    have hdr : ∀ r ∈ rs.drop (k + 1), r.At m := fun r h => hr r (List.mem_of_mem_drop h)
    have hpl := puts_len _ hdr
    have hpb := puts_byt _ hdr
    rw [List.length_drop] at hpl
    rw [ht] at H
    have r0 : ∀ q, Old m q → q.at ab (ao + k) = some (HRow.v rs[k]) := fun q oq => (hs.old oq).at_map (by omega)
    generalize rs[k] = r at *
    obtain ⟨rad, rn, rc, rxs⟩ := r
    have r1 : ∀ q, Old m q → q.at ab (ao + k) = some (.slice rad rn rc) := r0
    have hbd := hAt.bd
    have hrl := hAt.len
    simp only at hbd hrl hx10
    have hpt := put_len rxs hbd
    have hps : puts (⟨rad, rn, rc, rxs⟩ :: rs.drop (k + 1)) = put rxs ++ puts (rs.drop (k + 1)) := rfl
    rw [hps] at H
    have hn : (put rxs).length + (puts (rs.drop (k + 1))).length = n := by have := H.len; simpa using this
    simp (decide := true) (implicitDefEqProofs := false) (maxDischargeDepth := 20) only [go_sem, ↓reduceIte, e3, e42, e43, e4, d1, true_implies, false_implies]
    refine (Get_at H (fun x hx => ?_) (by omega)).mono ?_
    · rcases List.mem_append.1 hx with h1 | h1
      · exact put_byt' rxs hbd x h1
      · exact hpb x h1
    rintro w m2 ⟨y, ny, rfl, V, o2⟩
    rw [getL_put rxs _ hx10 hbd] at V ⊢
    have hny : rxs.length = ny := by have := V.len; simpa using this
    have d2 : decide ((((put rxs).length : Nat) : Int) ≤ 0) = false := by simp; have := hpt.2 hx10; rintro h; rw [h] at this; simp at this
    have d3 : decide ((((put rxs).length : Nat) : Int) > (n : Int)) = false := by simp; omega
    have r2 := r1 m2 (o.trans o2)
    simp (decide := true) (implicitDefEqProofs := false) (maxDischargeDepth := 20) only [go_sem, ↓reduceIte, e3, e42, e43, e4, d2, d3, r2, z0, z1, Int.toNat_natCast, true_implies, false_implies]
    refine (SameI V.sl (hAt.sl.old (o.trans o2)) (by omega) (by simp only; omega)).mono ?_
    rintro w m3 ⟨rfl, o3⟩
    have d4 : decide (rxs = rxs) = true := by simp
    have r3 := r1 m3 ((o.trans o2).trans o3)
    simp (decide := true) (implicitDefEqProofs := false) (maxDischargeDepth := 20) only [go_sem, ↓reduceIte, e3, e42, e43, e4, d4, r3, z0, z1, Int.toNat_natCast, true_implies, false_implies]
    have hC : SlA (m3.push (.cells false true [.int .i64 0, .int .i64 2])) 1 (some ⟨m3.size, 0, none⟩) 2 2 (([0, 2] : List Int).map (.int .i64)) := .new (by rw [getM_push, if_pos rfl]; rfl) rfl rfl
    refine (Compare_at ((V.sl.old o3).push _) ((hAt.sl.old ((o.trans o2).trans o3)).push _) hC (by omega) (by simp only; omega) (by omega)).mono ?_
    rintro w m4 ⟨rfl, o4⟩
    have e0 : cmpL rxs rxs [0, 2] = 0 := (cmpL_zero rxs rxs [0, 2]).2 rfl
    have d5 : ((0 : Int) != 0) = false := rfl
    have oe : Old m' m4 := o2.trans (o3.trans ((Old.push (.refl _) _).trans o4))
    obtain ⟨s5, Q⟩ := (H.old oe).sliceFrom (E := E) (k := .i64) (show (put rxs).length ≤ n by omega)
    have s5' := s5 22 (by decide +kernel)
    rw [Nat.mul_one, ← List.map_drop, List.drop_left] at Q
    simp (decide := true) (implicitDefEqProofs := false) (maxDischargeDepth := 20) only [go_sem, ↓reduceIte, e3, e42, e43, e4, e0, d5, s5', w1, true_implies, false_implies]
    refine ⟨N - (k + 1), by omega, k + 1, _, _, _, by omega, rfl, rfl, rfl, Q, o.trans oe⟩
  · have d1 : decide ((k : Int) < (N : Int)) = false := by simp; omega
    have e0 : rs.drop k = [] := List.drop_eq_nil_of_le (by omega)
    rw [e0] at H
    have hn : n = 0 := by have := H.len; simpa [puts] using this.symm
    subst hn
    simp (decide := true) (implicitDefEqProofs := false) (maxDischargeDepth := 20) only [go_sem, ↓reduceIte, e3, e42, e43, e4, d1, true_implies, false_implies]
    exact ⟨a, c, rfl, H, o⟩
end Go.Proofs.Ytkbjkmhmkefckaa.W
