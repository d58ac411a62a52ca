/-
  CheckWhole, the law.
-/
import Derived.Test.YtgbpgkfmmhlkoaaCheckH
namespace Go.Proofs.Ytgbpgkfmmhlkoaa.W
open Go.Abs
set_option linter.unusedSimpArgs false
set_option linter.unusedVariables false

theorem law_boxes (P : Mem → Prop) (m : Mem) (v0 v1 v2 v3 : Value) (h : ∀ m', m'.get m.size = some (.cells false true [v1]) → m'.get (m.size + 1) = some (.cells false true [v3]) → Old m m' → m'.size = m.size + 2 → P m') :
    P ((((m.push (.cells false true [v0])).put m.size (some (.cells false true [v1]))).push (.cells false true [v2])).put (m.size + 1) (some (.cells false true [v3]))) := by
  refine h _ ?_ ?_ (.put (.push (.put (.push (.refl m) _) _ _ (by omega)) _) _ _ (by omega)) (by simp)
  · rw [getM_put, if_neg (by omega), getM_push, if_neg (by simp), getM_put, if_pos ⟨rfl, by simp⟩]
  · rw [getM_put, if_pos ⟨rfl, by simp⟩]

/-- Rows up to the first that may not stand. -/
def UpTo (name : Int) (rs : List HRow) (n : Nat) (b : Bool) (k : Nat) : Prop := b = true ∧ k = n ∧ (∀ j, j < n → okR name rs j = true) ∨ b = false ∧ ∃ j, k = j + 1 ∧ j < n ∧ okR name rs j = false ∧ ∀ i, i < j → okR name rs i = true
theorem UpTo.same {name : Int} {rs : List HRow} {n k k' : Nat} {b b' : Bool} (h : UpTo name rs n b k) (h' : UpTo name rs n b' k') : b = b' ∧ k = k' := by
  rcases h with ⟨rfl, rfl, h⟩ | ⟨rfl, j, rfl, h1, h2, h3⟩
  · rcases h' with ⟨rfl, rfl, g⟩ | ⟨rfl, i, rfl, g1, g2, g3⟩
    · exact ⟨rfl, rfl⟩
    · rw [h i g1] at g2; cases g2
  · rcases h' with ⟨rfl, rfl, g⟩ | ⟨rfl, i, rfl, g1, g2, g3⟩
    · rw [g j h1] at h2; cases h2
    · rcases Nat.lt_trichotomy i j with e | rfl | e
      · rw [h3 i e] at g2; cases g2
      · exact ⟨rfl, rfl⟩
      · rw [g3 j e] at h2; cases h2

theorem alikeL_nil (name : Int) (ys : List Int) : alikeL name [] ys = false := by
  unfold alikeL
  have : decide (keyN name ≤ ([] : List Int).length) = false := by
    simp only [List.length_nil, decide_eq_false_iff_not]
    unfold keyN
    split <;> omega
  rw [this]; rfl

set_option maxRecDepth 100000 in
set_option maxHeartbeats 4000000 in
theorem Whole_loop {m : Mem} {t : Fr} {name : Int} {a : Option Addr} {n c bo : Nat} {rs : List HRow} (hs : SlA m 1 a n c (rs.map HRow.v)) (hr : ∀ r ∈ rs, r.At m) (hn : n ≤ 1000) (hbo : m.get bo = some (.cells false true [.slice a n c]))
    (t0 : t 0 = .int .i64 name) (t5 : t 5 = ptr bo) (t8 : t 8 = .bool true) (t9 : t 9 = .int .i64 0) (t20 : t 20 = .slice a n c) (t21 : t 21 = .int .i64 (n : Nat)) (t22 : t 22 = .int .i64 0) {K : Post3}
    (hK : ∀ t' m' b k, Agree (writes c_sheaflaw16_CheckWhole_11) t t' → t' 8 = .bool b → t' 9 = .int .i64 (k : Nat) → UpTo name rs n b k → Old m m' → K .normal t' m') :
    wpM E F_sheaflaw16_CheckWhole 59 none c_sheaflaw16_CheckWhole_11 K t m := by
  refine wpM_cut (fun t' m' => ∃ b k, t' 8 = .bool b ∧ t' 9 = .int .i64 (k : Nat) ∧ UpTo name rs n b k ∧ Old m m') ?_ fun t' m' ha ⟨b, k, h1, h2, h3, h4⟩ => hK t' m' b k ha h1 h2 h3 h4
  simp only [c_sheaflaw16_CheckWhole_11_at, wpM_block, c_sheaflaw16_CheckWhole_10_at]
  have hl : rs.length = n := by have := hs.len; simpa using this
  refine wpM_loopA (fun j t' m' => ∃ i : Nat, i ≤ n ∧ j = n - i ∧ t' 22 = .int .i64 (i : Nat) ∧ t' 8 = .bool true ∧ t' 9 = .int .i64 (i : Nat) ∧ (∀ j, j < i → okR name rs j = true) ∧ Old m m') n ⟨0, by omega, rfl, t22, t8, t9, fun j hj => by omega, .refl m⟩ ?_
  rintro j t' m' ha ⟨i, hi, rfl, e22, e8, e9, hok, o⟩
  have a0 := (ha 0 (by decide +kernel)).trans t0
  have a5 := (ha 5 (by decide +kernel)).trans t5
  have a20 := (ha 20 (by decide +kernel)).trans t20
  have a21 := (ha 21 (by decide +kernel)).trans t21
  by_cases hlt : i < n
  · have d1 : decide ((i : Int) < (n : Int)) = true := by simp; omega
    have w1 : IntKind.wrap .i64 ((i : Int) + 1) = ((i + 1 : Nat) : Int) := by rw [wrap_i64_id _ (by omega) (by omega)]; omega
    have z0 : (0 : Int) ≤ (i : Int) := by omega
    have z1 : (i : Int) < (n : Int) := by omega
    obtain ⟨ab, ao, asp, rfl⟩ := hs.addr (by omega)
    have hRow := hr rs[i] (List.getElem_mem _)
    have eR : rs.getD i noRow = rs[i] := by simp [List.getD_eq_getElem?_getD, List.getElem?_eq_getElem (show i < rs.length by omega)]
    have hokR : okR name rs i = (goodL name rs[i].xs && !(alikeL name (prevR rs i).xs rs[i].xs)) := by unfold okR; rw [eR]
    have r0 : m'.at ab (ao + i) = some (rs[i]).v := (hs.old o).at_map hlt
    have hpv : 0 < i → ∃ p : HRow, p.At m ∧ prevR rs i = p ∧ ∀ q, Old m q → q.at ab (ao + (i - 1)) = some p.v := fun h0 => by
      obtain ⟨i', rfl⟩ : ∃ k, i = k + 1 := ⟨i - 1, by omega⟩
      refine ⟨rs[i'], hr _ (List.getElem_mem _), ?_, fun q oq => ?_⟩
      · show rs.getD i' noRow = _
        simp [List.getD_eq_getElem?_getD, List.getElem?_eq_getElem (show i' < rs.length by omega)]
      · exact (hs.old oq).at_map (by omega)
    generalize rs[i] = row at *
    obtain ⟨rad, rn, rc, rxs⟩ := row
    have r0 : m'.at ab (ao + i) = some (.slice rad rn rc) := r0
    simp only at hokR
    simp (decide := true) (implicitDefEqProofs := false) (maxDischargeDepth := 20) only [go_sem, ↓reduceIte, a0, a5, a20, a21, e22, e8, e9, d1, z0, z1, r0, w1, Int.toNat_natCast, true_implies, false_implies]
    refine (CGood_at name (hRow.sl.old o)).mono ?_
    rintro w m2 ⟨rfl, o2⟩
    have o12 := o.trans o2
    by_cases hg : goodL name rxs = true
    · simp only at hg ⊢
      rw [hg] at hokR ⊢
      by_cases h0 : 0 < i
      · obtain ⟨p, hp, hpe, hpr⟩ := hpv h0
        rw [hpe] at hokR
        obtain ⟨pad, pn, pc, pxs⟩ := p
        have r1 : m2.at ab (ao + (i - 1)) = some (.slice pad pn pc) := hpr m2 o12
        have rb := get_at0 ((o12.get (getM_lt hbo)).trans hbo)
        have d2 : decide ((i : Int) > 0) = true := by simp; omega
        have w2 : IntKind.wrap .i64 ((i : Int) - 1) = ((i - 1 : Nat) : Int) := by rw [wrap_i64_id _ (by omega) (by omega)]; omega
        have z2 : (0 : Int) ≤ ((i - 1 : Nat) : Int) := by omega
        have z3 : ((i - 1 : Nat) : Int) < (n : Int) := by omega
        simp (decide := true) (implicitDefEqProofs := false) (maxDischargeDepth := 20) only [go_sem, ↓reduceIte, a0, a5, a20, a21, e22, e8, e9, d2, rb, w2, z2, z3, r1, Int.toNat_natCast, true_implies, false_implies]
        refine (CAlike_at name (hp.sl.old o12) (hRow.sl.old o12)).mono ?_
        rintro w m3 ⟨rfl, o3⟩
        by_cases hal : alikeL name pxs rxs = true
        · simp only at hal hokR ⊢
          rw [hal] at hokR ⊢
          simp (decide := true) (implicitDefEqProofs := false) (maxDischargeDepth := 20) only [go_sem, ↓reduceIte, a0, a5, a20, a21, e22, e8, e9, w1, true_implies, false_implies]
          exact ⟨_, _, rfl, rfl, .inr ⟨rfl, i, rfl, hlt, hokR, hok⟩, o12.trans o3⟩
        · have hal : alikeL name pxs rxs = false := by simpa using hal
          simp only at hal hokR ⊢
          rw [hal] at hokR ⊢
          simp (decide := true) (implicitDefEqProofs := false) (maxDischargeDepth := 20) only [go_sem, ↓reduceIte, a0, a5, a20, a21, e22, e8, e9, w1, true_implies, false_implies]
          refine ⟨n - (i + 1), by omega, i + 1, by omega, rfl, rfl, rfl, fun j hj => ?_, o12.trans o3⟩
          rcases Nat.lt_or_eq_of_le (Nat.le_of_lt_succ hj) with h | rfl
          · exact hok j h
          · exact hokR
      · have hi0 : i = 0 := by omega
        subst hi0
        have hokR : okR name rs 0 = true := by rw [hokR]; show (true && !(alikeL name [] rxs)) = true; rw [alikeL_nil]; rfl
        have d2 : decide (((0 : Nat) : Int) > 0) = false := by decide
        simp (decide := true) (implicitDefEqProofs := false) (maxDischargeDepth := 20) only [go_sem, ↓reduceIte, a0, a5, a20, a21, e22, e8, e9, d2, w1, true_implies, false_implies]
        refine ⟨n - (0 + 1), by omega, 0 + 1, by omega, rfl, rfl, rfl, fun j hj => ?_, o12⟩
        obtain rfl : j = 0 := by omega
        exact hokR
    · have hg : goodL name rxs = false := by simpa using hg
      simp only at hg ⊢
      rw [hg] at hokR ⊢
      simp (decide := true) (implicitDefEqProofs := false) (maxDischargeDepth := 20) only [go_sem, ↓reduceIte, a0, a5, a20, a21, e22, e8, e9, w1, true_implies, false_implies]
      exact ⟨_, _, rfl, rfl, .inr ⟨rfl, i, rfl, hlt, hokR, hok⟩, o12⟩
  · have d1 : decide ((i : Int) < (n : Int)) = false := by simp; omega
    have hin : i = n := by omega
    subst hin
    simp (decide := true) (implicitDefEqProofs := false) (maxDischargeDepth := 20) only [go_sem, ↓reduceIte, a0, a5, a20, a21, e22, e8, e9, d1, true_implies, false_implies]
    exact ⟨_, _, rfl, rfl, .inl ⟨rfl, rfl, hok⟩, o⟩

set_option maxRecDepth 100000 in
set_option maxHeartbeats 4000000 in
theorem CheckWhole_law (m : Mem) (hro : ∀ i c, m.get i = some c → c.writable = false) (name : Int) (hn : -9223372036854775808 ≤ name) (hn' : name < 9223372036854775808)
    (a0 : Option Addr) (l0 c0 : Nat) (rs0 : List HRow) (hs0 : SlA m 1 a0 l0 c0 (rs0.map HRow.v)) (hl0 : rs0.length = l0) (hr0 : ∀ r ∈ rs0, r.At m) :
    CallQ E F_sheaflaw16_CheckWhole [.int .i64 name, .slice a0 l0 c0].toArray m fun v _ => v = .bool true := by
  obtain ⟨n, g0⟩ : ∃ n, n = min l0 20 := ⟨_, rfl⟩
  have m0 : min (l0 : Int) 20 = (n : Int) := by omega
  obtain ⟨s0, A⟩ := hs0.sliceTo (E := E) (k := .i64) (show n ≤ l0 by omega)
  rw [Nat.mul_one, ← List.map_take] at A
  have hr : ∀ r ∈ rs0.take n, r.At m := fun r h => hr0 r (List.mem_of_mem_take h)
  generalize rs0.take n = rs at *
  have lx : rs.length = n := by have := A.len; simpa using this
  have s0' := s0 28 (by decide +kernel)
  refine .enter fn_sheaflaw16_CheckWhole (by simp) ?_
  simp (decide := true) (implicitDefEqProofs := false) (maxDischargeDepth := 20) only [go_sem, ↓reduceIte, m0, s0', true_implies, false_implies]
  refine law_boxes (fun mm => CallQ E _ _ mm _) m _ _ _ _ fun m1 q0 q1 o1 hs1 => ?_
  obtain ⟨bo, hbo⟩ : ∃ b, b = m.size := ⟨_, rfl⟩
  obtain ⟨nb, hnb⟩ : ∃ b, b = m.size + 1 := ⟨_, rfl⟩
  rw [← hbo] at q0 ⊢
  rw [← hnb] at q1
  rw [show bo + 1 = nb by omega]
  have hS : ∀ m', Frozen (butL m1 [nb]) m' → SlA m' 1 a0 n c0 (rs.map HRow.v) := fun m' z => A.butS o1 z (by simp; omega)
  have hR : ∀ m', Frozen (butL m1 [nb]) m' → ∀ r ∈ rs, r.At m' := fun m' z r h => ⟨(hr r h).sl.butS o1 z (by simp; omega), (hr r h).len, (hr r h).bd⟩
  have zo : butL m1 [nb] bo = some (.cells false true [.slice a0 n c0]) := butL_at q0 (by simp; omega)
  refine (Whole_at name (WholeI zo hS (by omega)) hR (butL_frozen _ _) (fun i hi => ⟨by rw [hi]; omega, by rw [hi]; exact butL_no (by simp)⟩) (by unfold CntO; rw [Nat.zero_min]; exact q1)).mono ?_
  rintro w m2 ⟨ch, hw⟩
  have up : ∃ b k, w = .bool b ∧ UpTo name rs n b k ∧ m2.get nb = some (.cells false true [vI (k : Nat)]) := by
    rcases hw with ⟨rfl, ow, h⟩ | ⟨k, hk, rfl, ow, h1, h2⟩
    · unfold CntO at ow
      rw [Nat.min_eq_right (by omega)] at ow
      exact ⟨_, n, rfl, .inl ⟨rfl, rfl, h⟩, ow⟩
    · unfold CntO at ow
      rw [Nat.min_eq_left (by omega)] at ow
      exact ⟨_, k + 1, rfl, .inr ⟨rfl, k, rfl, hk, h1, h2⟩, ow⟩
  obtain ⟨b, k, rfl, hU, hgn⟩ := up
  have hg : ∀ i, i < m1.size → i ≠ nb → m2.get i = m1.get i := fun i hi hne => ch.get i hi fun e => hne e
  have o2 : Old m m2 := .of_get (Nat.le_trans o1.size ch.size) fun i hi => (hg i (Nat.lt_of_lt_of_le hi o1.size) (by omega)).trans (o1.get hi)
  have gbo := (hg bo (by omega) (by omega)).trans q0
  have rbo := get_at0 gbo
  simp (decide := true) (implicitDefEqProofs := false) (maxDischargeDepth := 20) only [go_sem, ↓reduceIte, rbo, true_implies, false_implies]
  refine Whole_loop (name := name) (bo := bo) (A.old o2) (fun r h => (hr r h).old o2) (by omega) gbo (by simp (decide := true) only [go_sem, ↓reduceIte]) (by simp (decide := true) only [go_sem, ↓reduceIte]) (by simp (decide := true) only [go_sem, ↓reduceIte]) (by simp (decide := true) only [go_sem, ↓reduceIte]) (by simp (decide := true) only [go_sem, ↓reduceIte]) (by simp (decide := true) only [go_sem, ↓reduceIte]) (by simp (decide := true) only [go_sem, ↓reduceIte]) fun t3 m3 b' k' hag e8 e9 hU' o3 => ?_
  obtain ⟨rfl, rfl⟩ := hU.same hU'
  have a6 := hag 6 (by decide +kernel)
  have a7 := hag 7 (by decide +kernel)
  simp (decide := true) only [go_sem, ↓reduceIte] at a6 a7
  have rn := get_at0 ((o3.get (getM_lt hgn)).trans hgn)
  have e1 : (b == b) = true := by simp
  have e2 : ((k : Int) == (k : Int)) = true := by simp
  simp (decide := true) (implicitDefEqProofs := false) (maxDischargeDepth := 20) only [go_sem, ↓reduceIte, e8, e9, a6, a7, rn, e1, e2, true_implies, false_implies]
end Go.Proofs.Ytgbpgkfmmhlkoaa.W
