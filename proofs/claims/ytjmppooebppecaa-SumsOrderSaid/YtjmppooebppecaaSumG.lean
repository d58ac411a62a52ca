/-
  Numbers made small (printed by wip/dev/gensum.py).
-/
import Derived.Test.YtjmppooebppecaaSumF
namespace Go.Proofs.Ytjmppooebppecaa.W
open Go.Abs
set_option linter.unusedSimpArgs false
set_option linter.unusedVariables false

def w50 (x : Int) : Int := -1125899906842624 + x % 2251799813685249
theorem w50_bd (x : Int) : -1125899906842624 ≤ w50 x ∧ w50 x ≤ 1125899906842624 := by unfold w50; omega
def updR (p : Nat × List Int) : Nat × List Int := (p.1, p.2.set 3 (w50 (p.2.getD 3 0)))
theorem updR_v (p : Nat × List Int) : (rowH (updR p)).v = (rowH p).v := by unfold rowH updR HRow.v; simp
theorem map_updR (qs : List (Nat × List Int)) : ((qs.map updR).map rowH).map HRow.v = (qs.map rowH).map HRow.v := by
  rw [List.map_map, List.map_map, List.map_map]
  exact List.map_congr_left fun p _ => updR_v p

set_option maxRecDepth 100000 in
set_option maxHeartbeats 4000000 in
theorem SumsNest_mod {m : Mem} {t : Fr} {B b N : Nat} {s : Option Nat} {qs : List (Nat × List Int)} (V : SlA m 1 (some ⟨b, 0, s⟩) N N ((qs.map rowH).map HRow.v)) (O : Own2 B m qs) (h4 : ∀ q ∈ qs, q.2.length = 4) (hqb : ∀ q ∈ qs, q.1 ≠ b) (hN : qs.length = N) (hN2 : N ≤ 30)
    (ts : t 3 = .slice (some ⟨b, 0, s⟩) N N) (tn : t 16 = .int .i64 (N : Nat)) (ti : t 17 = .int .i64 0) {K : Post3}
    (hK : ∀ t' m', Agree (writes c_sheaflaw19_SumsNest_7) t t' → SlA m' 1 (some ⟨b, 0, s⟩) N N (((qs.map updR).map rowH).map HRow.v) → Own2 B m' (qs.map updR) → m.size ≤ m'.size → (∀ i, i < m.size → (∀ q ∈ qs, i ≠ q.1) → m'.get i = m.get i) → K .normal t' m') :
    wpM E F_sheaflaw19_SumsNest 83 none c_sheaflaw19_SumsNest_7 K t m := by
  refine wpM_cut (fun t' m' => SlA m' 1 (some ⟨b, 0, s⟩) N N (((qs.map updR).map rowH).map HRow.v) ∧ Own2 B m' (qs.map updR) ∧ m.size ≤ m'.size ∧ (∀ i, i < m.size → (∀ q ∈ qs, i ≠ q.1) → m'.get i = m.get i)) ?_ fun t' m' ha ⟨h1, h2, h3, h4⟩ => hK t' m' ha h1 h2 h3 h4
  simp only [c_sheaflaw19_SumsNest_7_at, wpM_block, c_sheaflaw19_SumsNest_6_at]
  have hdis : ∀ i j (hi : i < N) (hj : j < N), i ≠ j → (qs[i]'(by omega)).1 ≠ (qs[j]'(by omega)).1 := fun i j hi hj hij e => by
    have hp := List.pairwise_iff_getElem.1 O.dis
    rcases Nat.lt_or_gt_of_ne hij with h | h
    · exact hp i j (by simp; omega) (by simp; omega) h (by simpa using e)
    · exact hp j i (by simp; omega) (by simp; omega) h (by simpa using e.symm)
  refine wpM_loopA (fun j t' m' => ∃ k : Nat, k ≤ N ∧ j = N - k ∧ t' 17 = .int .i64 (k : Nat) ∧ (∀ i (hi : i < N), m'.get (qs[i]'(by omega)).1 = some (.cells false true ((if i < k then (updR (qs[i]'(by omega))).2 else (qs[i]'(by omega)).2).map (.int .i64)))) ∧ m.size ≤ m'.size ∧ (∀ i, i < m.size → (∀ q ∈ qs, i ≠ q.1) → m'.get i = m.get i)) N
    ⟨0, by omega, rfl, ti, fun i hi => by rw [if_neg (by omega)]; exact O.get _ (List.getElem_mem _), Nat.le_refl _, fun _ _ _ => rfl⟩ ?_
  rintro j t' m' ha ⟨k, hk, rfl, ei, hg, hsz, hkeep⟩
  have es := (ha 3 (by decide +kernel)).trans ts
  have en := (ha 16 (by decide +kernel)).trans tn
  have lb : b < m.size ∨ qs = [] := by
    cases qs with
    | nil => exact .inr rfl
    | cons q l => exact .inl (V.lt (by simp))
  have V' : SlA m' 1 (some ⟨b, 0, s⟩) N N ((qs.map rowH).map HRow.v) := V.keep fun x hx hne => by
    cases hx
    rcases lb with lb | rfl
    · exact hkeep b lb fun q hq e => hqb q hq e.symm
    · simp at hne
  by_cases hlt : k < N
  · have d1 : decide ((k : Int) < (N : Int)) = true := by simp; omega
    have w1 : IntKind.wrap .i64 ((k : Int) + 1) = ((k + 1 : Nat) : Int) := by rw [wrap_i64_id _ (by omega) (by omega)]; omega
    have z0 : (0 : Int) ≤ (k : Int) := by omega
    have z1 : (k : Int) < (N : Int) := by omega
    have hq := List.getElem_mem (l := qs) (n := k) (by omega)
    have hq4 := h4 _ hq
    have hqB := hqb _ hq
    have hbd := O.bd _ hq
    have hgk := hg k hlt
    rw [if_neg (by omega)] at hgk
    have r0 : m'.at b k = some (HRow.v (rowH (qs[k]'(by omega)))) := by
      have : m'.at b (0 + k) = some ((((qs.map rowH).map HRow.v))[k]'(by simp; omega)) := V'.at hlt
      rw [Nat.zero_add] at this
      rw [this]
      simp
    obtain ⟨q, hqe⟩ : ∃ q, q = qs[k]'(by omega) := ⟨_, rfl⟩
    rw [← hqe] at hq hq4 hqB hbd hgk r0
    obtain ⟨qb, qx⟩ := q
    simp only at hq4 hqB hbd hgk
    have r1 : m'.at b k = some (.slice (some ⟨qb, 0, none⟩) 4 4) := by rw [r0]; unfold rowH HRow.v; rw [hq4]
    have r3 : m'.at qb (Int.toNat 3) = some (.int .i64 (qx.getD 3 0)) := by
      unfold Mem.at
      rw [hgk]
      show (qx.map (Value.int .i64))[3]? = _
      simp [List.getD_eq_getElem?_getD, List.getElem?_eq_getElem (show 3 < qx.length by omega)]
    have b3 : -9223372036854775808 ≤ qx.getD 3 0 ∧ qx.getD 3 0 < 9223372036854775808 := hbd _ (by simp [List.getD_eq_getElem?_getD, List.getElem?_eq_getElem (show 3 < qx.length by omega)])
    have hup : updR (qb, qx) = (qb, qx.set 3 (w50 (qx.getD 3 0))) := rfl
    generalize qx.getD 3 0 = x3 at *
    simp (decide := true) (implicitDefEqProofs := false) (maxDischargeDepth := 20) only [go_sem, ↓reduceIte, es, en, ei, d1, z0, z1, r1, r3, Int.toNat_natCast, true_implies, false_implies]
    refine ((Within_ans x3 (-1125899906842624) 1125899906842624 b3.1 b3.2 (by omega) (by omega) (by omega) (by omega)) _).mono ?_
    rintro w m2 ⟨rfl, o2⟩
    obtain ⟨el, rfl, -⟩ := o2.ugm
    have o2 : Old m' (m'.ext el) := ⟨el, rfl⟩
    have hgk2 := (o2.get (getM_lt hgk)).trans hgk
    have lk2 := getM_lt hgk2
    have ew : -1125899906842624 + x3 % (1125899906842624 - -1125899906842624 + 1) = w50 x3 := rfl
    rw [ew]
    obtain ⟨m5, hm5⟩ : ∃ m5, m5 = (m'.ext el).put qb (some (.cells false true ((qx.map (Value.int .i64)).set (Int.toNat 3) (.int .i64 (w50 x3))))) := ⟨_, rfl⟩
    have lx : decide (Int.toNat 3 + 1 ≤ (qx.map (Value.int .i64)).length) = true := by simp; omega
    have lx2 : decide (3 + 1 ≤ qx.length) = true := by simp; omega
    have lx3 : decide (Int.toNat 3 + 1 ≤ qx.length) = true := by simp; omega
    simp (decide := true) (implicitDefEqProofs := false) (maxDischargeDepth := 20) only [go_sem, ↓reduceIte, es, en, ei, w1, hgk2, lx, lx2, lx3, ← hm5, List.length_map, Int.toNat_natCast, true_implies, false_implies]
    generalize m'.ext el = m2 at *
    have z2 := o2.size
    have s5 : m5.size = m2.size := by rw [hm5, size_put]
    have g5 : ∀ i, i ≠ qb → m5.get i = m2.get i := fun i hi => by rw [hm5, getM_put, if_neg (fun e => hi e.1)]
    have eset : (qx.map (Value.int .i64)).set 3 (.int .i64 (w50 x3)) = ((updR (qb, qx)).2.map (.int .i64)) := by rw [hup]; simp
    refine ⟨N - (k + 1), by omega, k + 1, by omega, rfl, rfl, fun i hi => ?_, by omega, fun i hi hne => ?_⟩
    · by_cases hik : i = k
      · subst hik
        rw [← hqe, if_pos (by omega), hm5, getM_put, if_pos ⟨rfl, lk2⟩]
        exact congrArg (fun l => some (Blk.cells false true l)) eset
      · have hd := hdis i k hi hlt hik
        rw [← hqe] at hd
        have := hg i hi
        rw [g5 _ hd, o2.get (getM_lt this), this]
        congr 3
        by_cases h : i < k
        · rw [if_pos h, if_pos (by omega)]
        · rw [if_neg h, if_neg (by omega)]
    · rw [g5 i (hne _ hq), o2.get (by omega), hkeep i hi hne]
  · have d1 : decide ((k : Int) < (N : Int)) = false := by simp; omega
    simp (decide := true) (implicitDefEqProofs := false) (maxDischargeDepth := 20) only [go_sem, ↓reduceIte, es, en, ei, d1, true_implies, false_implies]
    refine ⟨by rw [map_updR]; exact V', ⟨fun p hp => ?_, fun p hp x hx => ?_, fun p hp => ?_, ?_⟩, hsz, hkeep⟩
    · obtain ⟨q, hq, rfl⟩ := List.mem_map.1 hp
      obtain ⟨i, hi, rfl⟩ := List.getElem_of_mem hq
      have := hg i (by omega)
      rw [if_pos (by omega)] at this
      exact this
    · obtain ⟨q, hq, rfl⟩ := List.mem_map.1 hp
      rcases List.mem_or_eq_of_mem_set hx with h | h
      · exact O.bd q hq x h
      · rw [h]; have := w50_bd (q.2.getD 3 0); omega
    · obtain ⟨q, hq, rfl⟩ := List.mem_map.1 hp
      exact O.lo q hq
    · rw [List.map_map]
      exact O.dis

set_option maxRecDepth 100000 in
set_option maxHeartbeats 4000000 in
theorem SumsOrder_mod {m : Mem} {t : Fr} {B b N : Nat} {s : Option Nat} {qs : List (Nat × List Int)} (V : SlA m 1 (some ⟨b, 0, s⟩) N N ((qs.map rowH).map HRow.v)) (O : Own2 B m qs) (h4 : ∀ q ∈ qs, q.2.length = 4) (hqb : ∀ q ∈ qs, q.1 ≠ b) (hN : qs.length = N) (hN2 : N ≤ 30)
    (ts : t 5 = .slice (some ⟨b, 0, s⟩) N N) (tn : t 25 = .int .i64 (N : Nat)) (ti : t 26 = .int .i64 0) {K : Post3}
    (hK : ∀ t' m', Agree (writes c_sheaflaw19_SumsOrder_7) t t' → SlA m' 1 (some ⟨b, 0, s⟩) N N (((qs.map updR).map rowH).map HRow.v) → Own2 B m' (qs.map updR) → m.size ≤ m'.size → (∀ i, i < m.size → (∀ q ∈ qs, i ≠ q.1) → m'.get i = m.get i) → K .normal t' m') :
    wpM E F_sheaflaw19_SumsOrder 130 none c_sheaflaw19_SumsOrder_7 K t m := by
  refine wpM_cut (fun t' m' => SlA m' 1 (some ⟨b, 0, s⟩) N N (((qs.map updR).map rowH).map HRow.v) ∧ Own2 B m' (qs.map updR) ∧ m.size ≤ m'.size ∧ (∀ i, i < m.size → (∀ q ∈ qs, i ≠ q.1) → m'.get i = m.get i)) ?_ fun t' m' ha ⟨h1, h2, h3, h4⟩ => hK t' m' ha h1 h2 h3 h4
  simp only [c_sheaflaw19_SumsOrder_7_at, wpM_block, c_sheaflaw19_SumsOrder_6_at]
  have hdis : ∀ i j (hi : i < N) (hj : j < N), i ≠ j → (qs[i]'(by omega)).1 ≠ (qs[j]'(by omega)).1 := fun i j hi hj hij e => by
    have hp := List.pairwise_iff_getElem.1 O.dis
    rcases Nat.lt_or_gt_of_ne hij with h | h
    · exact hp i j (by simp; omega) (by simp; omega) h (by simpa using e)
    · exact hp j i (by simp; omega) (by simp; omega) h (by simpa using e.symm)
  refine wpM_loopA (fun j t' m' => ∃ k : Nat, k ≤ N ∧ j = N - k ∧ t' 26 = .int .i64 (k : Nat) ∧ (∀ i (hi : i < N), m'.get (qs[i]'(by omega)).1 = some (.cells false true ((if i < k then (updR (qs[i]'(by omega))).2 else (qs[i]'(by omega)).2).map (.int .i64)))) ∧ m.size ≤ m'.size ∧ (∀ i, i < m.size → (∀ q ∈ qs, i ≠ q.1) → m'.get i = m.get i)) N
    ⟨0, by omega, rfl, ti, fun i hi => by rw [if_neg (by omega)]; exact O.get _ (List.getElem_mem _), Nat.le_refl _, fun _ _ _ => rfl⟩ ?_
  rintro j t' m' ha ⟨k, hk, rfl, ei, hg, hsz, hkeep⟩
  have es := (ha 5 (by decide +kernel)).trans ts
  have en := (ha 25 (by decide +kernel)).trans tn
  have lb : b < m.size ∨ qs = [] := by
    cases qs with
    | nil => exact .inr rfl
    | cons q l => exact .inl (V.lt (by simp))
  have V' : SlA m' 1 (some ⟨b, 0, s⟩) N N ((qs.map rowH).map HRow.v) := V.keep fun x hx hne => by
    cases hx
    rcases lb with lb | rfl
    · exact hkeep b lb fun q hq e => hqb q hq e.symm
    · simp at hne
  by_cases hlt : k < N
  · have d1 : decide ((k : Int) < (N : Int)) = true := by simp; omega
    have w1 : IntKind.wrap .i64 ((k : Int) + 1) = ((k + 1 : Nat) : Int) := by rw [wrap_i64_id _ (by omega) (by omega)]; omega
    have z0 : (0 : Int) ≤ (k : Int) := by omega
    have z1 : (k : Int) < (N : Int) := by omega
    have hq := List.getElem_mem (l := qs) (n := k) (by omega)
    have hq4 := h4 _ hq
    have hqB := hqb _ hq
    have hbd := O.bd _ hq
    have hgk := hg k hlt
    rw [if_neg (by omega)] at hgk
    have r0 : m'.at b k = some (HRow.v (rowH (qs[k]'(by omega)))) := by
      have : m'.at b (0 + k) = some ((((qs.map rowH).map HRow.v))[k]'(by simp; omega)) := V'.at hlt
      rw [Nat.zero_add] at this
      rw [this]
      simp
    obtain ⟨q, hqe⟩ : ∃ q, q = qs[k]'(by omega) := ⟨_, rfl⟩
    rw [← hqe] at hq hq4 hqB hbd hgk r0
    obtain ⟨qb, qx⟩ := q
    simp only at hq4 hqB hbd hgk
    have r1 : m'.at b k = some (.slice (some ⟨qb, 0, none⟩) 4 4) := by rw [r0]; unfold rowH HRow.v; rw [hq4]
    have r3 : m'.at qb (Int.toNat 3) = some (.int .i64 (qx.getD 3 0)) := by
      unfold Mem.at
      rw [hgk]
      show (qx.map (Value.int .i64))[3]? = _
      simp [List.getD_eq_getElem?_getD, List.getElem?_eq_getElem (show 3 < qx.length by omega)]
    have b3 : -9223372036854775808 ≤ qx.getD 3 0 ∧ qx.getD 3 0 < 9223372036854775808 := hbd _ (by simp [List.getD_eq_getElem?_getD, List.getElem?_eq_getElem (show 3 < qx.length by omega)])
    have hup : updR (qb, qx) = (qb, qx.set 3 (w50 (qx.getD 3 0))) := rfl
    generalize qx.getD 3 0 = x3 at *
    simp (decide := true) (implicitDefEqProofs := false) (maxDischargeDepth := 20) only [go_sem, ↓reduceIte, es, en, ei, d1, z0, z1, r1, r3, Int.toNat_natCast, true_implies, false_implies]
    refine ((Within_ans x3 (-1125899906842624) 1125899906842624 b3.1 b3.2 (by omega) (by omega) (by omega) (by omega)) _).mono ?_
    rintro w m2 ⟨rfl, o2⟩
    obtain ⟨el, rfl, -⟩ := o2.ugm
    have o2 : Old m' (m'.ext el) := ⟨el, rfl⟩
    have hgk2 := (o2.get (getM_lt hgk)).trans hgk
    have lk2 := getM_lt hgk2
    have ew : -1125899906842624 + x3 % (1125899906842624 - -1125899906842624 + 1) = w50 x3 := rfl
    rw [ew]
    obtain ⟨m5, hm5⟩ : ∃ m5, m5 = (m'.ext el).put qb (some (.cells false true ((qx.map (Value.int .i64)).set (Int.toNat 3) (.int .i64 (w50 x3))))) := ⟨_, rfl⟩
    have lx : decide (Int.toNat 3 + 1 ≤ (qx.map (Value.int .i64)).length) = true := by simp; omega
    have lx2 : decide (3 + 1 ≤ qx.length) = true := by simp; omega
    have lx3 : decide (Int.toNat 3 + 1 ≤ qx.length) = true := by simp; omega
    simp (decide := true) (implicitDefEqProofs := false) (maxDischargeDepth := 20) only [go_sem, ↓reduceIte, es, en, ei, w1, hgk2, lx, lx2, lx3, ← hm5, List.length_map, Int.toNat_natCast, true_implies, false_implies]
    generalize m'.ext el = m2 at *
    have z2 := o2.size
    have s5 : m5.size = m2.size := by rw [hm5, size_put]
    have g5 : ∀ i, i ≠ qb → m5.get i = m2.get i := fun i hi => by rw [hm5, getM_put, if_neg (fun e => hi e.1)]
    have eset : (qx.map (Value.int .i64)).set 3 (.int .i64 (w50 x3)) = ((updR (qb, qx)).2.map (.int .i64)) := by rw [hup]; simp
    refine ⟨N - (k + 1), by omega, k + 1, by omega, rfl, rfl, fun i hi => ?_, by omega, fun i hi hne => ?_⟩
    · by_cases hik : i = k
      · subst hik
        rw [← hqe, if_pos (by omega), hm5, getM_put, if_pos ⟨rfl, lk2⟩]
        exact congrArg (fun l => some (Blk.cells false true l)) eset
      · have hd := hdis i k hi hlt hik
        rw [← hqe] at hd
        have := hg i hi
        rw [g5 _ hd, o2.get (getM_lt this), this]
        congr 3
        by_cases h : i < k
        · rw [if_pos h, if_pos (by omega)]
        · rw [if_neg h, if_neg (by omega)]
    · rw [g5 i (hne _ hq), o2.get (by omega), hkeep i hi hne]
  · have d1 : decide ((k : Int) < (N : Int)) = false := by simp; omega
    simp (decide := true) (implicitDefEqProofs := false) (maxDischargeDepth := 20) only [go_sem, ↓reduceIte, es, en, ei, d1, true_implies, false_implies]
    refine ⟨by rw [map_updR]; exact V', ⟨fun p hp => ?_, fun p hp x hx => ?_, fun p hp => ?_, ?_⟩, hsz, hkeep⟩
    · obtain ⟨q, hq, rfl⟩ := List.mem_map.1 hp
      obtain ⟨i, hi, rfl⟩ := List.getElem_of_mem hq
      have := hg i (by omega)
      rw [if_pos (by omega)] at this
      exact this
    · obtain ⟨q, hq, rfl⟩ := List.mem_map.1 hp
      rcases List.mem_or_eq_of_mem_set hx with h | h
      · exact O.bd q hq x h
      · rw [h]; have := w50_bd (q.2.getD 3 0); omega
    · obtain ⟨q, hq, rfl⟩ := List.mem_map.1 hp
      exact O.lo q hq
    · rw [List.map_map]
      exact O.dis
end Go.Proofs.Ytjmppooebppecaa.W
