/-
  SumsNest.
-/
import Derived.Test.YtjmppooebppecaaSumG
namespace Go.Proofs.Ytjmppooebppecaa.W
open Go.Abs
set_option linter.unusedSimpArgs false
set_option linter.unusedVariables false

theorem fst0_of_cmp (x y : List Int) (c : List Int) (hx : 0 < x.length) (hy : 0 < y.length) (h : cmpL x y (0 :: c) ≤ 0) : fst0 x ≤ fst0 y := by
  cases x with
  | nil => simp at hx
  | cons a x =>
    cases y with
    | nil => simp at hy
    | cons b y =>
      show a ≤ b
      have e : colL (a :: x) (b :: y) 0 = cmpI a b := rfl
      unfold cmpL at h
      rw [List.cons_append, List.map_cons, e] at h
      unfold firstN at h
      unfold cmpI at h
      by_cases h1 : a < b
      · omega
      · by_cases h2 : b < a
        · rw [if_neg h1, if_pos h2, if_neg (by omega)] at h
          omega
        · omega

/-- What the laws' rows are, made small. -/
structure RowsOk (qs : List (Nat × List Int)) : Prop where
  four : ∀ q ∈ qs, q.2.length = 4
  small : ∀ r ∈ qs.map (fun q => (updR q).2), -1125899906842624 ≤ r.getD 3 0 ∧ r.getD 3 0 ≤ 1125899906842624
  key : ∀ r ∈ qs.map (fun q => (updR q).2), (-9223372036854775808 ≤ r.getD 0 0 ∧ r.getD 0 0 < 9223372036854775808) ∧ (-9223372036854775808 ≤ r.getD 1 0 ∧ r.getD 1 0 < 9223372036854775808)
theorem rowsOk {qs : List (Nat × List Int)} (h : ∀ q ∈ qs, ∃ e p i n : Int, q.2 = rowN e p i n ∧ 1 ≤ e ∧ e ≤ 3 ∧ 0 ≤ p ∧ p ≤ 2 ∧ 0 ≤ i ∧ i < 30) : RowsOk qs where
  four := fun q hq => by obtain ⟨e, p, i, n, h1, _⟩ := h q hq; rw [h1]; rfl
  small := fun r hr => by
    obtain ⟨q, hq, rfl⟩ := List.mem_map.1 hr
    obtain ⟨e, p, i, n, h1, _⟩ := h q hq
    unfold updR
    rw [h1]
    exact w50_bd _
  key := fun r hr => by
    obtain ⟨q, hq, rfl⟩ := List.mem_map.1 hr
    obtain ⟨e, p, i, n, h1, h2⟩ := h q hq
    unfold updR
    rw [h1]
    show (-9223372036854775808 ≤ e ∧ e < 9223372036854775808) ∧ (-9223372036854775808 ≤ p ∧ p < 9223372036854775808)
    omega
theorem upd_fst0 (q : Nat × List Int) : fst0 (updR q).2 = fst0 q.2 := by
  unfold updR fst0
  simp [List.getD_eq_getElem?_getD, List.getElem?_set]

/-- The bounds that a total needs. -/
theorem tot_ok {key : List Nat} {rs : List (List Int)} (hl : rs.length ≤ 30) (h3 : ∀ r ∈ rs, -1125899906842624 ≤ r.getD 3 0 ∧ r.getD 3 0 ≤ 1125899906842624) (hk : ∀ r ∈ rs, ∀ x ∈ keyV key r, -9223372036854775808 ≤ x ∧ x < 9223372036854775808) :
    ∀ g ∈ totL key 3 rs, (-9223372036854775808 ≤ g.2 ∧ g.2 < 9223372036854775808) ∧ ∀ x ∈ g.1, -9223372036854775808 ≤ x ∧ x < 9223372036854775808 := fun g hg => by
  have h1 := tot_bd key 3 1125899906842624 (by omega) rs h3 g hg
  have : (1125899906842624 : Int) * rs.length ≤ 1125899906842624 * 30 := Int.mul_le_mul_of_nonneg_left (by omega) (by omega)
  exact ⟨by omega, tot_key key 3 (fun k => ∀ x ∈ k, -9223372036854775808 ≤ x ∧ x < 9223372036854775808) rs hk g hg⟩

set_option maxRecDepth 100000 in
set_option maxHeartbeats 4000000 in
theorem Nest_len {m : Mem} {t : Fr} {a : Option Addr} {os : List HRow} (h : SlA m 1 a os.length os.length (os.map HRow.v)) (h3 : ∀ r ∈ os, r.n = 3) (hn : os.length ≤ 1000)
    (t39 : t 39 = .slice a os.length os.length) (t40 : t 40 = .int .i64 (os.length : Nat)) (t41 : t 41 = .int .i64 0) {K : Post3}
    (hK : ∀ t', Agree (writes c_sheaflaw19_SumsNest_19) t t' → K .normal t' m) : wpM E F_sheaflaw19_SumsNest 83 none c_sheaflaw19_SumsNest_19 K t m := by
  refine wpM_cut (fun t' m' => m' = m) ?_ fun t' m' ha h1 => by rw [h1]; exact hK t' ha
  simp only [c_sheaflaw19_SumsNest_19_at, wpM_block, c_sheaflaw19_SumsNest_18_at]
  refine wpM_loopA (fun j t' m' => m' = m ∧ ∃ k : Nat, k ≤ os.length ∧ j = os.length - k ∧ t' 41 = .int .i64 (k : Nat)) os.length ⟨rfl, 0, by omega, rfl, t41⟩ ?_
  rintro j t' m' ha ⟨rfl, k, hk, rfl, e41⟩
  have e39 := (ha 39 (by decide +kernel)).trans t39
  have e40 := (ha 40 (by decide +kernel)).trans t40
  by_cases hlt : k < os.length
  · have d1 : decide ((k : Int) < ((os.length : Nat) : Int)) = true := by simp; omega
    have w1 : IntKind.wrap .i64 ((k : Int) + 1) = ((k + 1 : Nat) : Int) := by rw [wrap_i64_id _ (by omega) (by omega)]; omega
    have z0 : (0 : Int) ≤ (k : Int) := by omega
    have z1 : (k : Int) < ((os.length : Nat) : Int) := by omega
    obtain ⟨ab, ao, asp, rfl⟩ := h.addr (by omega)
    have r0 : m'.at ab (ao + k) = some (HRow.v os[k]) := h.at_map hlt
    have hn3 := h3 os[k] (List.getElem_mem _)
    generalize os[k] = r at *
    obtain ⟨rad, rn, rc, rxs⟩ := r
    simp only at hn3
    subst hn3
    have r1 : m'.at ab (ao + k) = some (.slice rad 3 rc) := r0
    simp (decide := true) (implicitDefEqProofs := false) (maxDischargeDepth := 20) only [go_sem, ↓reduceIte, e39, e40, e41, d1, z0, z1, r1, w1, Int.toNat_natCast, true_implies, false_implies]
    exact ⟨os.length - (k + 1), by omega, k + 1, by omega, rfl, rfl⟩
  · have d1 : decide ((k : Int) < ((os.length : Nat) : Int)) = false := by simp; omega
    simp (decide := true) (implicitDefEqProofs := false) (maxDischargeDepth := 20) only [go_sem, ↓reduceIte, e39, e40, e41, d1, true_implies, false_implies]

set_option maxRecDepth 100000 in
set_option maxHeartbeats 8000000 in
theorem SumsNest_law (m : Mem) (hro : ∀ i c, m.get i = some c → c.writable = false)
    (a0 : Option Addr) (l0 c0 : Nat) (zs : List (List Int)) (hs0 : SlA m 7 a0 l0 c0 ((zs.map fun z => z.map (.int .i64)).flatten)) (hl0 : zs.length = l0) (hz0 : ∀ z ∈ zs, z.length = 7 ∧ ∀ x ∈ z, -9223372036854775808 ≤ x ∧ x < 9223372036854775808) :
    CallQ E F_sheaflaw19_SumsNest [.slice a0 l0 c0].toArray m fun v _ => v = .bool true := by
  refine .enter fn_sheaflaw19_SumsNest (by simp) ?_
  simp (decide := true) (implicitDefEqProofs := false) (maxDischargeDepth := 20) only [go_sem, ↓reduceIte, true_implies, false_implies]
  refine (RowsF_at hs0 hl0 hz0).mono ?_
  rintro w m1 ⟨b, s, qs, rfl, hqn, V, O, hqb, hrows, hsort, o1⟩
  have ok := rowsOk hrows
  simp (decide := true) (implicitDefEqProofs := false) (maxDischargeDepth := 20) only [go_sem, ↓reduceIte, true_implies, false_implies]
  refine SumsNest_mod (N := qs.length) V.sl O ok.four hqb rfl hqn (by simp (decide := true) only [go_sem, ↓reduceIte]) (by simp (decide := true) only [go_sem, ↓reduceIte]) (by simp (decide := true) only [go_sem, ↓reduceIte]) fun t2 m2 hag V2 O2 z2 _ => ?_
  have e3 := hag 3 (by decide +kernel)
  simp (decide := true) only [go_sem, ↓reduceIte] at e3
  clear hag
  -- the rows, made small
  obtain ⟨rs, hrs⟩ : ∃ x, x = (qs.map updR).map rowH := ⟨_, rfl⟩
  obtain ⟨xss, hxss⟩ : ∃ x, x = qs.map fun q => (updR q).2 := ⟨_, rfl⟩
  have hxs : rs.map HRow.xs = xss := by rw [hrs, hxss, List.map_map, List.map_map]; rfl
  have hrl : rs.length = qs.length := by rw [hrs]; simp
  have hxl : xss.length ≤ 30 := by rw [hxss]; simpa using hqn
  have hAt : ∀ r ∈ rs, r.At m2 := fun r hr => by
    rw [hrs] at hr
    obtain ⟨q, hq, rfl⟩ := List.mem_map.1 hr
    exact O2.at_ q hq
  have small := ok.small
  have keyb := ok.key
  rw [← hrs] at V2
  rw [← hxss] at small keyb
  have hsrt : xss.Pairwise (fun a b => fst0 a ≤ fst0 b) := by
    rw [hxss, List.pairwise_map]
    rw [List.pairwise_map] at hsort
    refine hsort.imp_of_mem fun {p q} hp hq h => ?_
    rw [upd_fst0, upd_fst0]
    exact fst0_of_cmp _ _ _ (by rw [ok.four p hp]; omega) (by rw [ok.four q hq]; omega) h
  have k01 : ∀ r ∈ xss, ∀ x ∈ keyV [0, 1] r, -9223372036854775808 ≤ x ∧ x < 9223372036854775808 := fun r hr x hx => by
    have h := keyb r hr
    simp only [keyV, List.map_cons, List.map_nil, List.mem_cons, List.not_mem_nil, or_false] at hx
    rcases hx with rfl | rfl
    · exact h.1
    · exact h.2
  have k0 : ∀ r ∈ xss, ∀ x ∈ keyV [0] r, -9223372036854775808 ≤ x ∧ x < 9223372036854775808 := fun r hr x hx => by
    have h := keyb r hr
    simp only [keyV, List.map_cons, List.map_nil, List.mem_cons, List.not_mem_nil, or_false] at hx
    rw [hx]; exact h.1
  have bd01 := tot_ok (key := [0, 1]) hxl small k01
  have bd0 := tot_ok (key := [0]) hxl small k0
  have nest := tot_nest 1 3 xss hsrt
  have hQ : qs.length ≤ 1000 := by omega
  simp (decide := true) (implicitDefEqProofs := false) (maxDischargeDepth := 20) only [go_sem, e3, ↓reduceIte, true_implies, false_implies]
  have hC1 : SlA (m2.push (.cells false true [.int .i64 0, .int .i64 1])) 1 (some ⟨m2.size, 0, none⟩) 2 2 (([0, 1] : List Nat).map natV) := .new (by rw [getM_push, if_pos rfl]; rfl) rfl rfl
  have p2 : Old m2 (m2.push (.cells false true [.int .i64 0, .int .i64 1])) := .push (.refl m2) _
  refine (TotF_at (col := 3) (key := [0, 1]) (V2.push _) (fun r hr => (hAt r hr).old p2) hQ hC1 (by omega) (by rw [hxs]; exact bd01)).mono ?_
  rintro w m3 ⟨aA, oA, rfl, SA, xA, rA, o3⟩
  rw [hxs] at xA
  have o23 := p2.trans o3
  have lenA : oA.length = (totL [0, 1] 3 xss).length := by have := congrArg List.length xA; simpa using this
  have hA3 : ∀ r ∈ oA, r.n = 3 := fun r hr => by
    have h1 : r.xs ∈ oA.map HRow.xs := List.mem_map.2 ⟨r, hr, rfl⟩
    rw [xA] at h1
    obtain ⟨g, hg, he⟩ := List.mem_map.1 h1
    rw [← (rA r hr).len, ← he, outT_bd, tot_key [0, 1] 3 (fun k => k.length = 2) xss (fun r _ => rfl) g hg]
  have lA30 : oA.length ≤ 30 := by rw [lenA]; exact Nat.le_trans (totL_len _ _ _) hxl
  simp (decide := true) (implicitDefEqProofs := false) (maxDischargeDepth := 20) only [go_sem, e3, ↓reduceIte, true_implies, false_implies]
  refine Nest_len SA hA3 (by omega) (by simp (decide := true) only [go_sem, ↓reduceIte]) (by simp (decide := true) only [go_sem, ↓reduceIte]) (by simp (decide := true) only [go_sem, ↓reduceIte]) fun t4 hag => ?_
  have f3 := hag 3 (by decide +kernel)
  have f5 := hag 5 (by decide +kernel)
  have f6 := hag 6 (by decide +kernel)
  simp (decide := true) only [go_sem, e3, ↓reduceIte] at f3 f5 f6
  clear hag
  simp (decide := true) (implicitDefEqProofs := false) (maxDischargeDepth := 20) only [go_sem, f3, f5, f6, ↓reduceIte, true_implies, false_implies]
  have hC2 : SlA (m3.push (.cells false true [.int .i64 0])) 1 (some ⟨m3.size, 0, none⟩) 1 1 (([0] : List Nat).map natV) := .new (by rw [getM_push, if_pos rfl]; rfl) rfl rfl
  have p3 : Old m3 (m3.push (.cells false true [.int .i64 0])) := .push (.refl m3) _
  refine (TotF_at (col := 2) (key := [0]) (SA.push _) (fun r hr => (rA r hr).old p3) (by omega) hC2 (by omega) (by rw [xA, nest]; exact bd0)).mono ?_
  rintro w m4 ⟨aB, oB, rfl, SB, xB, rB, o4⟩
  rw [xA, nest] at xB
  have o34 := p3.trans o4
  have lenB : oB.length = (totL [0] 3 xss).length := by have := congrArg List.length xB; simpa using this
  simp (decide := true) (implicitDefEqProofs := false) (maxDischargeDepth := 20) only [go_sem, f3, f5, f6, ↓reduceIte, true_implies, false_implies]
  have hC3 : SlA (m4.push (.cells false true [.int .i64 0])) 1 (some ⟨m4.size, 0, none⟩) 1 1 (([0] : List Nat).map natV) := .new (by rw [getM_push, if_pos rfl]; rfl) rfl rfl
  have p4 : Old m4 (m4.push (.cells false true [.int .i64 0])) := .push (.refl m4) _
  have o24 := o23.trans (o34.trans p4)
  refine (TotF_at (col := 3) (key := [0]) (V2.old o24) (fun r hr => (hAt r hr).old o24) hQ hC3 (by omega) (by rw [hxs]; exact bd0)).mono ?_
  rintro w m5 ⟨aC, oC, rfl, SC, xC, rC, o5⟩
  rw [hxs] at xC
  have o45 := p4.trans o5
  have lenC : oC.length = (totL [0] 3 xss).length := by have := congrArg List.length xC; simpa using this
  have lT : (totL [0] 3 xss).length ≤ 30 := Nat.le_trans (totL_len _ _ _) hxl
  have nrow : ∀ (os : List HRow) (mm : Mem), os.map HRow.xs = (totL [0] 3 xss).map outT → (∀ r ∈ os, r.At mm) → ∀ r ∈ os, r.At mm ∧ r.n ≤ 1000000 := fun os mm hx hr r h => by
    refine ⟨hr r h, ?_⟩
    have h1 : r.xs ∈ os.map HRow.xs := List.mem_map.2 ⟨r, h, rfl⟩
    rw [hx] at h1
    obtain ⟨g, hg, he⟩ := List.mem_map.1 h1
    rw [← (hr r h).len, ← he, outT_bd, tot_key [0] 3 (fun k => k.length = 1) xss (fun r _ => rfl) g hg]
    omega
  simp (decide := true) (implicitDefEqProofs := false) (maxDischargeDepth := 20) only [go_sem, f3, f5, f6, ↓reduceIte, true_implies, false_implies]
  refine (Rows_at (SB.old o45) SC (nrow oB m5 xB fun r hr => (rB r hr).old o45) (nrow oC m5 xC rC) (by omega) (by omega)).mono ?_
  rintro w m6 ⟨rfl, o6⟩
  have dd : decide (oB.map HRow.xs = oC.map HRow.xs) = true := by rw [xB, xC]; simp
  have hAB : oB.length ≤ oA.length := by
    rw [lenA, lenB, ← nest]
    have := totL_len [0] 2 ((totL [0, 1] 3 xss).map outT)
    simpa using this
  have dl : decide (((oA.length : Nat) : Int) ≥ ((oB.length : Nat) : Int)) = true := by simp; omega
  rw [dd]
  simp (decide := true) (implicitDefEqProofs := false) (maxDischargeDepth := 20) only [go_sem, f3, f5, f6, dl, ↓reduceIte, true_implies, false_implies]

/-! ### SumsOrder -/
theorem sumC_take (col : Nat) (l : List (List Int)) (k : Nat) (h : k < l.length) : sumC col (l.take (k + 1)) = sumC col (l.take k) + (l[k]).getD col 0 := by
  rw [List.take_succ_eq_append_getElem h]
  have : ∀ a b : List (List Int), sumC col (a ++ b) = sumC col a + sumC col b := by
    intro a b
    induction a with
    | nil => simp [sumC]
    | cons x a ih => simp only [List.cons_append, sumC, ih]; omega
  rw [this]
  simp [sumC]
theorem sumC_bd (col : Nat) (C : Int) (hC : 0 ≤ C) : ∀ (l : List (List Int)), (∀ r ∈ l, -C ≤ r.getD col 0 ∧ r.getD col 0 ≤ C) → -(C * l.length) ≤ sumC col l ∧ sumC col l ≤ C * l.length
  | [], _ => by simp [sumC]
  | r :: l, h => by
    have h1 := sumC_bd col C hC l fun x hx => h x (by simp [hx])
    have h2 := h r (by simp)
    rw [sumC, List.length_cons, Int.natCast_add, Int.mul_add]
    omega

set_option maxRecDepth 100000 in
set_option maxHeartbeats 4000000 in
/-- The sum of the rows' fourth numbers. -/
theorem Order_sum {m : Mem} {t : Fr} {a : Option Addr} {n c : Nat} {rs : List HRow} (h : SlA m 1 a n c (rs.map HRow.v)) (hr : ∀ r ∈ rs, r.At m) (h4 : ∀ r ∈ rs, r.n = 4) (hn : n ≤ 30) (h3 : ∀ r ∈ rs.map HRow.xs, -1125899906842624 ≤ r.getD 3 0 ∧ r.getD 3 0 ≤ 1125899906842624)
    (t57 : t 57 = .slice a n c) (t58 : t 58 = .int .i64 (n : Nat)) (t59 : t 59 = .int .i64 0) (t12 : t 12 = .int .i64 0) {K : Post3}
    (hK : ∀ t', Agree (writes c_sheaflaw19_SumsOrder_16) t t' → t' 12 = .int .i64 (sumC 3 (rs.map HRow.xs)) → K .normal t' m) : wpM E F_sheaflaw19_SumsOrder 130 none c_sheaflaw19_SumsOrder_16 K t m := by
  refine wpM_cut (fun t' m' => m' = m ∧ t' 12 = .int .i64 (sumC 3 (rs.map HRow.xs))) ?_ fun t' m' ha ⟨h1, h2⟩ => by rw [h1]; exact hK t' ha h2
  have hl : rs.length = n := by have := h.len; simpa using this
  simp only [c_sheaflaw19_SumsOrder_16_at, wpM_block, c_sheaflaw19_SumsOrder_15_at]
  refine wpM_loopA (fun j t' m' => m' = m ∧ ∃ k : Nat, k ≤ n ∧ j = n - k ∧ t' 59 = .int .i64 (k : Nat) ∧ t' 12 = .int .i64 (sumC 3 ((rs.map HRow.xs).take k))) n ⟨rfl, 0, by omega, rfl, t59, by rw [t12]; rfl⟩ ?_
  rintro j t' m' ha ⟨rfl, k, hk, rfl, e59, e12⟩
  have e57 := (ha 57 (by decide +kernel)).trans t57
  have e58 := (ha 58 (by decide +kernel)).trans t58
  by_cases hlt : k < n
  · have d1 : decide ((k : Int) < (n : Int)) = true := by simp; omega
    have w1 : IntKind.wrap .i64 ((k : Int) + 1) = ((k + 1 : Nat) : Int) := by rw [wrap_i64_id _ (by omega) (by omega)]; omega
    have z0 : (0 : Int) ≤ (k : Int) := by omega
    have z1 : (k : Int) < (n : Int) := by omega
    obtain ⟨ab, ao, asp, rfl⟩ := h.addr (by omega)
    have r0 : m'.at ab (ao + k) = some (HRow.v rs[k]) := h.at_map hlt
    have hn4 := h4 rs[k] (List.getElem_mem _)
    have hA := hr rs[k] (List.getElem_mem _)
    have hst := sumC_take 3 (rs.map HRow.xs) k (by simp; omega)
    rw [List.getElem_map] at hst
    have hb1 := sumC_bd 3 1125899906842624 (by omega) ((rs.map HRow.xs).take k) fun r hr => h3 r (List.mem_of_mem_take hr)
    have hb2 := sumC_bd 3 1125899906842624 (by omega) ((rs.map HRow.xs).take (k + 1)) fun r hr => h3 r (List.mem_of_mem_take hr)
    have hl2 : (1125899906842624 : Int) * (((rs.map HRow.xs).take (k + 1)).length : Nat) ≤ 1125899906842624 * 30 := Int.mul_le_mul_of_nonneg_left (by rw [List.length_take]; omega) (by omega)
    generalize rs[k] = r at *
    obtain ⟨rad, rn, rc, rxs⟩ := r
    simp only at hn4 hA hst
    subst hn4
    have r1 : m'.at ab (ao + k) = some (.slice rad 4 rc) := r0
    have hxl := hA.len
    obtain ⟨xb, xo, xs, hx⟩ := hA.sl.addr (show 0 < 4 by omega)
    simp only at hx hxl
    subst hx
    have e3 : rxs.getD 3 0 = rxs[3] := by simp [List.getD_eq_getElem?_getD, List.getElem?_eq_getElem (show 3 < rxs.length by omega)]
    have r3 : m'.at xb (xo + Int.toNat 3) = some (.int .i64 (rxs.getD 3 0)) := by
      rw [e3]
      exact hA.sl.at_map (show 3 < 4 by omega)
    have w2 : IntKind.wrap .i64 (sumC 3 ((rs.map HRow.xs).take k) + rxs.getD 3 0) = sumC 3 ((rs.map HRow.xs).take (k + 1)) := by
      rw [← hst]
      exact wrap_i64_id _ (by omega) (by omega)
    simp (decide := true) (implicitDefEqProofs := false) (maxDischargeDepth := 20) only [go_sem, ↓reduceIte, e57, e58, e59, e12, d1, z0, z1, r1, r3, w1, w2, Int.toNat_natCast, true_implies, false_implies]
    exact ⟨n - (k + 1), by omega, k + 1, by omega, rfl, rfl, rfl⟩
  · have d1 : decide ((k : Int) < (n : Int)) = false := by simp; omega
    rw [List.take_of_length_le (by simp; omega)] at e12
    simp (decide := true) (implicitDefEqProofs := false) (maxDischargeDepth := 20) only [go_sem, ↓reduceIte, e57, e58, e59, e12, d1, true_implies, false_implies]

theorem sumG_take (l : List Grp) (k : Nat) (h : k < l.length) : sumG (l.take (k + 1)) = sumG (l.take k) + (l[k]).2 := by
  rw [List.take_succ_eq_append_getElem h, sumG_append]
  simp [sumG]
theorem sumG_bd (C : Int) (hC : 0 ≤ C) : ∀ (l : List Grp), (∀ g ∈ l, -C ≤ g.2 ∧ g.2 ≤ C) → -(C * l.length) ≤ sumG l ∧ sumG l ≤ C * l.length
  | [], _ => by simp [sumG]
  | g :: l, h => by
    have h1 := sumG_bd C hC l fun x hx => h x (by simp [hx])
    have h2 := h g (by simp)
    rw [sumG, List.length_cons, Int.natCast_add, Int.mul_add]
    omega

set_option maxRecDepth 100000 in
set_option maxHeartbeats 4000000 in
/-- The sum of the totals. -/
theorem Order_all {m : Mem} {t : Fr} {a : Option Addr} {os : List HRow} {gs : List Grp} (h : SlA m 1 a os.length os.length (os.map HRow.v)) (hr : ∀ r ∈ os, r.At m) (hx : os.map HRow.xs = gs.map outT) (h1 : ∀ g ∈ gs, g.1.length = 1) (hn : os.length ≤ 30) (h3 : ∀ g ∈ gs, -33776997205278720 ≤ g.2 ∧ g.2 ≤ 33776997205278720)
    (t69 : t 69 = .slice a os.length os.length) (t70 : t 70 = .int .i64 (os.length : Nat)) (t71 : t 71 = .int .i64 0) (t13 : t 13 = .int .i64 0) {K : Post3}
    (hK : ∀ t', Agree (writes c_sheaflaw19_SumsOrder_29) t t' → t' 13 = .int .i64 (sumG gs) → K .normal t' m) : wpM E F_sheaflaw19_SumsOrder 130 none c_sheaflaw19_SumsOrder_29 K t m := by
  refine wpM_cut (fun t' m' => m' = m ∧ t' 13 = .int .i64 (sumG gs)) ?_ fun t' m' ha ⟨h1, h2⟩ => by rw [h1]; exact hK t' ha h2
  have hgl : gs.length = os.length := by have := congrArg List.length hx; simpa using this.symm
  simp only [c_sheaflaw19_SumsOrder_29_at, wpM_block, c_sheaflaw19_SumsOrder_28_at]
  refine wpM_loopA (fun j t' m' => m' = m ∧ ∃ k : Nat, k ≤ os.length ∧ j = os.length - k ∧ t' 71 = .int .i64 (k : Nat) ∧ t' 13 = .int .i64 (sumG (gs.take k))) os.length ⟨rfl, 0, by omega, rfl, t71, by rw [t13]; rfl⟩ ?_
  rintro j t' m' ha ⟨rfl, k, hk, rfl, e71, e13⟩
  have e69 := (ha 69 (by decide +kernel)).trans t69
  have e70 := (ha 70 (by decide +kernel)).trans t70
  by_cases hlt : k < os.length
  · have d1 : decide ((k : Int) < ((os.length : Nat) : Int)) = true := by simp; omega
    have w1 : IntKind.wrap .i64 ((k : Int) + 1) = ((k + 1 : Nat) : Int) := by rw [wrap_i64_id _ (by omega) (by omega)]; omega
    have z0 : (0 : Int) ≤ (k : Int) := by omega
    have z1 : (k : Int) < ((os.length : Nat) : Int) := by omega
    obtain ⟨ab, ao, asp, rfl⟩ := h.addr (by omega)
    have r0 : m'.at ab (ao + k) = some (HRow.v os[k]) := h.at_map hlt
    have hA := hr os[k] (List.getElem_mem _)
    have hxk : os[k].xs = outT (gs[k]'(by omega)) := by
      have e1 : (os.map HRow.xs)[k]? = some os[k].xs := by simp [hlt]
      rw [hx] at e1
      have e2 : (gs.map outT)[k]? = some (outT (gs[k]'(by omega))) := by simp [List.getElem?_eq_getElem (show k < gs.length by omega)]
      rw [e2] at e1
      exact (Option.some.inj e1).symm
    have hg1 := h1 (gs[k]'(by omega)) (List.getElem_mem _)
    have hst := sumG_take gs k (by omega)
    have hb1 := sumG_bd 33776997205278720 (by omega) (gs.take k) fun r hr => h3 r (List.mem_of_mem_take hr)
    have hb2 := sumG_bd 33776997205278720 (by omega) (gs.take (k + 1)) fun r hr => h3 r (List.mem_of_mem_take hr)
    have hl2 : (33776997205278720 : Int) * ((gs.take (k + 1)).length : Nat) ≤ 33776997205278720 * 30 := Int.mul_le_mul_of_nonneg_left (by rw [List.length_take]; omega) (by omega)
    generalize os[k] = r at *
    generalize gs[k]'(by omega) = g at *
    obtain ⟨rad, rn, rc, rxs⟩ := r
    obtain ⟨gk, g2⟩ := g
    simp only at hA hst hxk hg1
    have hxl := hA.len
    simp only at hxl
    rw [hxk, outT_bd] at hxl
    simp only [hg1] at hxl
    have hxl : rn = 2 := by omega
    subst hxl
    have r1 : m'.at ab (ao + k) = some (.slice rad 2 rc) := r0
    obtain ⟨xb, xo, xs, hx⟩ := hA.sl.addr (show 0 < 2 by omega)
    simp only at hx
    subst hx
    have e1 : rxs[1]? = some g2 := by
      rw [hxk]
      unfold outT
      rw [List.getElem?_append_right (by simp [hg1])]
      simp [hg1]
    obtain ⟨hl1, e1'⟩ := List.getElem?_eq_some_iff.1 e1
    have r3 : m'.at xb (xo + Int.toNat 1) = some (.int .i64 g2) := by
      rw [← e1']
      exact hA.sl.at_map (show 1 < 2 by omega)
    have w2 : IntKind.wrap .i64 (sumG (gs.take k) + g2) = sumG (gs.take (k + 1)) := by
      rw [← hst]
      exact wrap_i64_id _ (by omega) (by omega)
    simp (decide := true) (implicitDefEqProofs := false) (maxDischargeDepth := 20) only [go_sem, ↓reduceIte, e69, e70, e71, e13, d1, z0, z1, r1, r3, w1, w2, Int.toNat_natCast, true_implies, false_implies]
    exact ⟨os.length - (k + 1), by omega, k + 1, by omega, rfl, rfl, rfl⟩
  · have d1 : decide ((k : Int) < ((os.length : Nat) : Int)) = false := by simp; omega
    rw [List.take_of_length_le (by omega)] at e13
    simp (decide := true) (implicitDefEqProofs := false) (maxDischargeDepth := 20) only [go_sem, ↓reduceIte, e69, e70, e71, e13, d1, true_implies, false_implies]

/-- The totals told so far; the range is left when there are enough. -/
def SomeJ (K ob : Nat) (gs : List Grp) (k : Nat) (m : Mem) (A : Set') : Prop := k < K ∧ ∃ ag os, ListJ 0 ob ((gs.take k).map outT) m A ag os
theorem SomeJ.loc (K ob : Nat) (gs : List Grp) (k : Nat) : LocP (SomeJ K ob gs k) := fun m m' A ⟨h0, h⟩ hk hs => ⟨h0, ListJ.loc 0 ob _ m m' A h hk hs⟩
def SomeD (K ob : Nat) (gs : List Grp) (k : Nat) (x : Exit) (m : Mem) (A : Set') : Prop := x = .exit 6 ∧ k + 1 = K ∧ ∃ ag os, ListJ 0 ob ((gs.take (k + 1)).map outT) m A ag os
theorem SomeD.loc (K ob : Nat) (gs : List Grp) (k : Nat) (x : Exit) : LocP (SomeD K ob gs k x) := fun m m' A ⟨h0, h1, h⟩ hk hs => ⟨h0, h1, ListJ.loc 0 ob _ m m' A h hk hs⟩

set_option maxRecDepth 100000 in
set_option maxHeartbeats 4000000 in
theorem Order_some {m : Mem} {t : Fr} {s : Value} {K ob kb : Nat} {gs : List Grp} (it : Iter E (butL m [ob]) none' s gs.length anyO (totEl gs)) (hbd : ∀ g ∈ gs, (-9223372036854775808 ≤ g.2 ∧ g.2 < 9223372036854775808) ∧ ∀ x ∈ g.1, -9223372036854775808 ≤ x ∧ x < 9223372036854775808) (hK1 : 1 ≤ K) (hK4 : K ≤ 4)
    (gO : cap1 m ob (.slice none 0 0)) (gK : cap1 m kb (vI (K : Nat))) (hne : kb ≠ ob) (t92 : t 92 = s) (t19 : t 19 = ptr ob) (t18 : t 18 = ptr kb) {K' : Post3}
    (hK : ∀ m' A ag os, ListJ 0 ob ((gs.take K).map outT) m' A ag os → m.size ≤ m'.size → (∀ i, i < m.size → i ≠ ob → m'.get i = m.get i) → K' .normal t m') :
    wpM E F_sheaflaw19_SumsOrder 130 none c_sheaflaw19_SumsOrder_39 K' t m := by
  have lO := getM_lt gO
  simp only [c_sheaflaw19_SumsOrder_39_at, wpM_block, c_sheaflaw19_SumsOrder_38_at]
  refine wpM_rangeP (A := fun i => i = ob) it (fun t => upd t 21 (t 93)) (by simp (decide := true) only [go_sem, t92, ↓reduceIte]) rfl asg_sheaflaw19_SumsOrder_0 body_sheaflaw19_SumsOrder_0 (by decide) (fun K l t m h => by simp (decide := true) only [go_sem, ↓reduceIte]; exact h)
    (SomeJ K ob gs) (SomeD K ob gs) (SomeJ.loc K ob gs) (SomeD.loc K ob gs) (butL_frozen _ _) (fun i hi => ⟨by rw [hi]; exact lO, butL_no (by simpa using hi), fun h => h.elim⟩) (fun i hi => hi.elim) trivial
    ⟨by omega, none, [], gO, .nil _ _ _, rfl, (fun g h => by simp at h), (fun g h => by simp at h), (fun y h => by cases h), rfl⟩ ?_ ?_ ?_
  · rintro k vs m4 A B l hk' z4 oA oB dis - ⟨hkK, ag, os, J⟩ ⟨g, b, hg, rfl, gb, hB⟩ hin hms
    refine ⟨rfl, ?_⟩
    have rO := get_at0 J.box
    have rK := frozen_at z4 (butL_at gK (by simpa using hne))
    have hol : os.length = k := by
      have := congrArg List.length J.xs
      simp at this
      omega
    simp (decide := true) (implicitDefEqProofs := false) (maxDischargeDepth := 20) only [go_sem, t18, t19, rO, ↓reduceIte, true_implies, false_implies]
    refine J.vec.append1' (Nat.zero_le _) rfl (by decide) (by decide +kernel) (by decide +kernel) rfl (by omega) fun m5 b5 s5 v5 k5 hb5 => ?_
    have gO5 : m5.get ob = _ := (k5.2 ob (getM_lt J.box) fun y hy e => (J.own y hy).2 e.symm).trans J.box
    obtain ⟨m6, hm6⟩ : ∃ m6, m6 = m5.put ob (some (.cells false true [.slice (some ⟨b5, 0, s5⟩) (os.length + 1) (os.length + 1)])) := ⟨_, rfl⟩
    have hgm := List.mem_of_getElem? hg
    have hrow : (⟨some ⟨b, 0, none⟩, (outT g).length, (outT g).length, outT g⟩ : HRow).At m4 := by
      refine ⟨.new gb (by simp) rfl, rfl, fun x hx => ?_⟩
      unfold outT at hx
      rcases List.mem_append.1 hx with hx | hx
      · exact (hbd g hgm).2 x hx
      · rw [List.mem_singleton.1 hx]; exact (hbd g hgm).1
    obtain ⟨J', T⟩ := J.more (B := B) hrow (fun i hi => (oA i hi).1) (fun i hi => (oB i hi).1) dis (fun x hx => by cases hx; exact (hB _).2 rfl) v5 k5 hb5 hm6
    have et : (gs.take (k + 1)).map outT = (gs.take k).map outT ++ [outT g] := by
      obtain ⟨hlt, he⟩ := List.getElem?_eq_some_iff.1 hg
      rw [List.take_succ_eq_append_getElem hlt, List.map_append, he]
      rfl
    have rO6 : m6.at ob 0 = some (.slice (some ⟨b5, 0, s5⟩) (os.length + 1) (os.length + 1)) := by
      have := get_at0 J'.box
      rw [List.length_append] at this
      exact this
    have lkb := getM_lt gK
    have rK6 : m6.at kb 0 = some (vI (K : Nat)) := by
      have zk := z4 kb _ (butL_at gK (by simpa using hne))
      have h1 : m6.get kb = m4.get kb := by
        rw [hm6, getM_put, if_neg (fun e => hne e.1), k5.2 kb (getM_lt zk) fun y hy e => ?_]
        have h2 := (oA _ (J.own y hy).1).2.1
        rw [← e, butL_at gK (by simpa using hne)] at h2
        cases h2
      exact get_at0 (h1.trans zk)
    by_cases hfin : k + 1 = K
    · have d1 : (((os.length + 1 : Nat) : Int) == ((K : Nat) : Int)) = true := by rw [hol, hfin]; simp
      simp (decide := true) (implicitDefEqProofs := false) (maxDischargeDepth := 20) only [go_sem, t18, t19, gO5, ← hm6, rO6, rK6, d1, ↓reduceIte, true_implies, false_implies]
      exact ⟨_, T.c, T.n, .inr ⟨6, rfl⟩, rfl, hfin, _, _, et ▸ J'⟩
    · have d1 : (((os.length + 1 : Nat) : Int) == ((K : Nat) : Int)) = false := by rw [beq_eq_false_iff_ne, hol]; omega
      simp (decide := true) (implicitDefEqProofs := false) (maxDischargeDepth := 20) only [go_sem, t18, t19, gO5, ← hm6, rO6, rK6, d1, ↓reduceIte, true_implies, false_implies]
      exact ⟨_, T.c, T.n, by omega, _, _, et ▸ J'⟩
  · rintro m4 A' z4 o4 - ⟨hkK, ag, os, J⟩ c1 c2
    simp (decide := true) (implicitDefEqProofs := false) (maxDischargeDepth := 20) only [go_sem, ↓reduceIte, true_implies, false_implies]
    refine hK m4 A' ag os (by rw [List.take_length] at J; rw [List.take_of_length_le (by omega)]; exact J) c1.size fun i hi hne => c1.get i hi fun e => e.elim hne fun e => e
  · rintro k x m4 A' hk z4 o4 - hx ⟨rfl, hkK, ag, os, J⟩ c1 c2
    simp (decide := true) (implicitDefEqProofs := false) (maxDischargeDepth := 20) only [go_sem, ↓reduceIte, true_implies, false_implies]
    exact hK m4 A' ag os (by rw [← hkK]; exact J) c1.size fun i hi hne => c1.get i hi fun e => e.elim hne fun e => e

theorem ord_boxes (P : Mem → Prop) (m : Mem) (v w : Value) (h : ∀ m', cap1 m' m.size v → cap1 m' (m.size + 1) w → Old m m' → m'.size = m.size + 2 → P m') :
    P (((m.push (.cells false true [.int .i64 0])).put m.size (some (.cells false true [v]))).push (.cells false true [w])) := by
  refine h _ ?_ ?_ (.of_get (by simp [size_put]; omega) fun i hi => ?_) (by simp [size_put])
  · unfold cap1; rw [getM_push, if_neg (by simp [size_put]), getM_put, if_pos ⟨rfl, by simp⟩]
  · unfold cap1; rw [getM_push, if_pos (by simp [size_put])]
  · rw [getM_push, if_neg (by simp only [size_put, size_push]; omega), getM_put, if_neg (by omega), getM_push, if_neg (by omega)]

set_option maxRecDepth 100000 in
set_option maxHeartbeats 8000000 in
theorem SumsOrder_law (m : Mem) (hro : ∀ i c, m.get i = some c → c.writable = false)
    (a0 : Option Addr) (l0 c0 : Nat) (zs : List (List Int)) (hs0 : SlA m 7 a0 l0 c0 ((zs.map fun z => z.map (.int .i64)).flatten)) (hl0 : zs.length = l0) (hz0 : ∀ z ∈ zs, z.length = 7 ∧ ∀ x ∈ z, -9223372036854775808 ≤ x ∧ x < 9223372036854775808)
    (stop : Int) (hst : -9223372036854775808 ≤ stop) (hst' : stop < 9223372036854775808) :
    CallQ E F_sheaflaw19_SumsOrder [.slice a0 l0 c0, .int .i64 stop].toArray m fun v _ => v = .bool true := by
  refine .enter fn_sheaflaw19_SumsOrder (by simp) ?_
  simp (decide := true) (implicitDefEqProofs := false) (maxDischargeDepth := 20) only [go_sem, ↓reduceIte, true_implies, false_implies]
  refine (RowsF_at hs0 hl0 hz0).mono ?_
  rintro w m1 ⟨b, s, qs, rfl, hqn, V, O, hqb, hrows, hsort, o1⟩
  have ok := rowsOk hrows
  simp (decide := true) (implicitDefEqProofs := false) (maxDischargeDepth := 20) only [go_sem, ↓reduceIte, true_implies, false_implies]
  refine SumsOrder_mod (N := qs.length) V.sl O ok.four hqb rfl hqn (by simp (decide := true) only [go_sem, ↓reduceIte]) (by simp (decide := true) only [go_sem, ↓reduceIte]) (by simp (decide := true) only [go_sem, ↓reduceIte]) fun t2 m2 hag V2 O2 z2 _ => ?_
  have e5 := hag 5 (by decide +kernel)
  have e1 := hag 1 (by decide +kernel)
  simp (decide := true) only [go_sem, ↓reduceIte] at e1 e5
  clear hag
  obtain ⟨rs, hrs⟩ : ∃ x, x = (qs.map updR).map rowH := ⟨_, rfl⟩
  obtain ⟨xss, hxss⟩ : ∃ x, x = qs.map fun q => (updR q).2 := ⟨_, rfl⟩
  have hxs : rs.map HRow.xs = xss := by rw [hrs, hxss, List.map_map, List.map_map]; rfl
  have hrl : rs.length = qs.length := by rw [hrs]; simp
  have hxl : xss.length ≤ 30 := by rw [hxss]; simpa using hqn
  have hAt : ∀ r ∈ rs, r.At m2 := fun r hr => by
    rw [hrs] at hr
    obtain ⟨q, hq, rfl⟩ := List.mem_map.1 hr
    exact O2.at_ q hq
  have h4 : ∀ r ∈ rs, r.n = 4 := fun r hr => by
    rw [hrs] at hr
    obtain ⟨q, hq, rfl⟩ := List.mem_map.1 hr
    obtain ⟨p, hp, rfl⟩ := List.mem_map.1 hq
    show (updR p).2.length = 4
    unfold updR
    rw [List.length_set]
    exact ok.four p hp
  have hx4 : ∀ r ∈ xss, r.length = 4 := fun r hr => by
    rw [← hxs] at hr
    obtain ⟨q, hq, rfl⟩ := List.mem_map.1 hr
    rw [(hAt q hq).len, h4 q hq]
  have small := ok.small
  have keyb := ok.key
  rw [← hrs] at V2
  rw [← hxss] at small keyb
  have hsrt : xss.Pairwise (fun a b => fst0 a ≤ fst0 b) := by
    rw [hxss, List.pairwise_map]
    rw [List.pairwise_map] at hsort
    refine hsort.imp_of_mem fun {p q} hp hq h => ?_
    rw [upd_fst0, upd_fst0]
    exact fst0_of_cmp _ _ _ (by rw [ok.four p hp]; omega) (by rw [ok.four q hq]; omega) h
  have k0 : ∀ r ∈ xss, ∀ x ∈ keyV [0] r, -9223372036854775808 ≤ x ∧ x < 9223372036854775808 := fun r hr x hx => by
    have h := keyb r hr
    simp only [keyV, List.map_cons, List.map_nil, List.mem_cons, List.not_mem_nil, or_false] at hx
    rw [hx]; exact h.1
  have bd0 := tot_ok (key := [0]) hxl small k0
  have hQ : qs.length ≤ 1000 := by omega
  simp (decide := true) (implicitDefEqProofs := false) (maxDischargeDepth := 20) only [go_sem, e1, e5, ↓reduceIte, true_implies, false_implies]
  -- sorted otherwise
  have hC0 : SlA (m2.push (.cells false true [.int .i64 0, .int .i64 3])) 1 (some ⟨m2.size, 0, none⟩) 2 2 (([0, 3] : List Int).map (.int .i64)) := .new (by rw [getM_push, if_pos rfl]; rfl) rfl rfl
  have p2 : Old m2 (m2.push (.cells false true [.int .i64 0, .int .i64 3])) := .push (.refl m2) _
  refine (Sorted_at (V2.push _) (fun r hr => (hAt r hr).old p2) (fun r hr => by rw [h4 r hr]; omega) hC0 (by omega) (by omega)).mono ?_
  rintro w m3 ⟨b3, s3, rfl, V3, o3⟩
  have o23 := p2.trans o3
  obtain ⟨ts, hts⟩ : ∃ x, x = sortL [0, 3] rs := ⟨_, rfl⟩
  have htp : ts.Perm rs := by rw [hts]; exact sortL_perm _ _
  have htx : (ts.map HRow.xs).Perm xss := by rw [← hxs]; exact htp.map _
  have hts2 : (ts.map HRow.xs).Pairwise (fun a b => fst0 a ≤ fst0 b) := by
    rw [List.pairwise_map, hts]
    refine (sortL_sorted [0, 3] rs).imp_of_mem fun {p q} hp hq h => ?_
    have hp' := (sortL_perm [0, 3] rs).mem_iff.1 hp
    have hq' := (sortL_perm [0, 3] rs).mem_iff.1 hq
    exact fst0_of_cmp _ _ _ (by rw [(hAt p hp').len, h4 p hp']; omega) (by rw [(hAt q hq').len, h4 q hq']; omega) h
  have perm := tot_perm 3 htx.symm hsrt hts2
  rw [← hts] at V3
  simp (decide := true) (implicitDefEqProofs := false) (maxDischargeDepth := 20) only [go_sem, e1, e5, ↓reduceIte, true_implies, false_implies]
  have hC1 : SlA (m3.push (.cells false true [.int .i64 0])) 1 (some ⟨m3.size, 0, none⟩) 1 1 (([0] : List Nat).map natV) := .new (by rw [getM_push, if_pos rfl]; rfl) rfl rfl
  have p3 : Old m3 (m3.push (.cells false true [.int .i64 0])) := .push (.refl m3) _
  have o2p3 := o23.trans p3
  refine (TotF_at (col := 3) (key := [0]) (V2.old o2p3) (fun r hr => (hAt r hr).old o2p3) hQ hC1 (by omega) (by rw [hxs]; exact bd0)).mono ?_
  rintro w m4 ⟨aA, oA, rfl, SA, xA, rA, o4⟩
  rw [hxs] at xA
  have o34 := p3.trans o4
  have o24 := o23.trans o34
  simp (decide := true) (implicitDefEqProofs := false) (maxDischargeDepth := 20) only [go_sem, e1, e5, ↓reduceIte, true_implies, false_implies]
  have hC2 : SlA (m4.push (.cells false true [.int .i64 0])) 1 (some ⟨m4.size, 0, none⟩) 1 1 (([0] : List Nat).map natV) := .new (by rw [getM_push, if_pos rfl]; rfl) rfl rfl
  have p4 : Old m4 (m4.push (.cells false true [.int .i64 0])) := .push (.refl m4) _
  have o2p4 := o24.trans p4
  refine (TotF_at (col := 3) (key := [0]) ((V3.sl.old o34).push _) (fun r hr => (hAt r (htp.mem_iff.1 hr)).old o2p4) hQ hC2 (by omega) (by rw [← perm]; exact bd0)).mono ?_
  rintro w m5 ⟨aB, oB, rfl, SB, xB, rB, o5⟩
  rw [← perm] at xB
  have o45 := p4.trans o5
  have o25 := o24.trans o45
  obtain ⟨gs, hgs⟩ : ∃ x, x = totL [0] 3 xss := ⟨_, rfl⟩
  have hsum := tot_sum [0] 3 xss
  have g1 : ∀ g ∈ gs, g.1.length = 1 := fun g hg => by rw [hgs] at hg; exact tot_key [0] 3 (fun k => k.length = 1) xss (fun r _ => rfl) g hg
  have gbd : ∀ g ∈ gs, -33776997205278720 ≤ g.2 ∧ g.2 ≤ 33776997205278720 := fun g hg => by
    rw [hgs] at hg
    have h1 := tot_bd [0] 3 1125899906842624 (by omega) xss small g hg
    have : (1125899906842624 : Int) * xss.length ≤ 1125899906842624 * 30 := Int.mul_le_mul_of_nonneg_left (by omega) (by omega)
    omega
  rw [← hgs] at xA xB bd0 hsum
  have lenA : oA.length = gs.length := by have := congrArg List.length xA; simpa using this
  have lenB : oB.length = gs.length := by have := congrArg List.length xB; simpa using this
  have lG : gs.length ≤ 30 := by rw [hgs]; exact Nat.le_trans (totL_len _ _ _) hxl
  have nrow : ∀ (os : List HRow) (mm : Mem) (hs : List Grp), (∀ g ∈ hs, g.1.length = 1) → os.map HRow.xs = hs.map outT → (∀ r ∈ os, r.At mm) → ∀ r ∈ os, r.At mm ∧ r.n ≤ 1000000 := fun os mm hs h1' hx hr r h => by
    refine ⟨hr r h, ?_⟩
    have h1 : r.xs ∈ os.map HRow.xs := List.mem_map.2 ⟨r, h, rfl⟩
    rw [hx] at h1
    obtain ⟨g, hg, he⟩ := List.mem_map.1 h1
    rw [← (hr r h).len, ← he, outT_bd, h1' g hg]
    omega
  simp (decide := true) (implicitDefEqProofs := false) (maxDischargeDepth := 20) only [go_sem, e1, e5, ↓reduceIte, true_implies, false_implies]
  refine Order_sum (rs := rs) (V2.old o25) (fun r hr => (hAt r hr).old o25) h4 (by omega) (by rw [hxs]; exact small) (by simp (decide := true) only [go_sem, e5, ↓reduceIte]) (by simp (decide := true) only [go_sem, ↓reduceIte]) (by simp (decide := true) only [go_sem, ↓reduceIte]) (by simp (decide := true) only [go_sem, ↓reduceIte]) fun t6 hag f12 => ?_
  have f1 := hag 1 (by decide +kernel)
  have f5 := hag 5 (by decide +kernel)
  have f8 := hag 8 (by decide +kernel)
  have f9 := hag 9 (by decide +kernel)
  have f10 := hag 10 (by decide +kernel)
  have f11 := hag 11 (by decide +kernel)
  have f13 := hag 13 (by decide +kernel)
  simp (decide := true) only [go_sem, e1, e5, ↓reduceIte] at f1 f5 f8 f9 f10 f11 f13
  clear hag
  rw [hxs, ← hsum] at f12
  simp (decide := true) (implicitDefEqProofs := false) (maxDischargeDepth := 20) only [go_sem, f1, f5, f8, f9, f10, f11, f12, f13, ↓reduceIte, true_implies, false_implies]
  refine Order_all (os := oA) (gs := gs) (SA.old o45) (fun r hr => (rA r hr).old o45) xA g1 (by omega) gbd (by simp (decide := true) only [go_sem, f8, ↓reduceIte]) (by simp (decide := true) only [go_sem, ↓reduceIte]) (by simp (decide := true) only [go_sem, ↓reduceIte]) (by simp (decide := true) only [go_sem, f13, ↓reduceIte]) fun t7 hag q13 => ?_
  have q1 := hag 1 (by decide +kernel)
  have q5 := hag 5 (by decide +kernel)
  have q8 := hag 8 (by decide +kernel)
  have q9 := hag 9 (by decide +kernel)
  have q10 := hag 10 (by decide +kernel)
  have q11 := hag 11 (by decide +kernel)
  have q12 := hag 12 (by decide +kernel)
  simp (decide := true) only [go_sem, f1, f5, f8, f9, f10, f11, f12, ↓reduceIte] at q1 q5 q8 q9 q10 q11 q12
  clear hag
  simp (decide := true) (implicitDefEqProofs := false) (maxDischargeDepth := 20) only [go_sem, q1, q5, q8, q9, q10, q11, q12, q13, ↓reduceIte, true_implies, false_implies]
  refine ((Within_ans stop 1 4 hst hst' (by omega) (by omega) (by omega) (by omega)) m5).mono ?_
  rintro w m6 ⟨rfl, o6⟩
  obtain ⟨K, hK⟩ : ∃ K : Nat, (K : Int) = 1 + stop % (4 - 1 + 1) := ⟨(1 + stop % (4 - 1 + 1)).toNat, by omega⟩
  rw [← hK]
  simp (decide := true) (implicitDefEqProofs := false) (maxDischargeDepth := 20) only [go_sem, q1, q5, q8, q9, q10, q11, q12, q13, ↓reduceIte, true_implies, false_implies]
  refine ord_boxes (fun mm => CallQ E _ _ mm _) m6 _ _ fun m7 g18 g19 o67 hs7 => ?_
  obtain ⟨kb, hkb⟩ : ∃ b, b = m6.size := ⟨_, rfl⟩
  obtain ⟨ob, hob⟩ : ∃ b, b = m6.size + 1 := ⟨_, rfl⟩
  rw [← hob] at g19 ⊢
  rw [← hkb] at g18 ⊢
  refine (From_at).mono ?_
  rintro w m8 ⟨bv, rfl, cv, hbv, o78⟩
  simp (decide := true) (implicitDefEqProofs := false) (maxDischargeDepth := 20) only [go_sem, q1, q5, q8, q9, q10, q11, q12, q13, ↓reduceIte, true_implies, false_implies]
  have hC3 : SlA (m8.push (.cells false true [.int .i64 0])) 1 (some ⟨m8.size, 0, none⟩) 1 1 (([0] : List Nat).map natV) := .new (by rw [getM_push, if_pos rfl]; rfl) rfl rfl
  have p8 : Old m8 (m8.push (.cells false true [.int .i64 0])) := .push (.refl m8) _
  refine (STotal_at (col := 3)).mono ?_
  rintro w m9 ⟨b1, b2, b3, rfl, c1, c2, c3, hb1, hb2, hb3, o89⟩
  simp only [size_push] at hb1 hb2 hb3
  simp (decide := true) (implicitDefEqProofs := false) (maxDischargeDepth := 20) only [go_sem, q1, q5, q8, q9, q10, q11, q12, q13, ↓reduceIte, true_implies, false_implies]
  have o8 := p8.trans o89
  have o79 := o78.trans o8
  have o69 := o67.trans o79
  have o29 := o25.trans (o6.trans o69)
  have z8 := o78.size
  have z9 := o8.size
  have z6 := (o25.trans o6).size
  have gk9 : cap1 m9 kb (vI (K : Nat)) := (o79.get (getM_lt g18)).trans g18
  have go9 : cap1 m9 ob (.slice none 0 0) := (o79.get (getM_lt g19)).trans g19
  have lrow : ∀ r ∈ rs, ∀ b, r.ad = some b → r.xs ≠ [] → b.block < m2.size := fun r hm b hb hx => ((hAt r hm).sl.rows b hb (by simpa using hx)).lt
  have hR := rows_getD (l := [ob]) (fun r hm => (hAt r hm).old o29) (fun r hm b hb hx => by have := lrow r hm b hb hx; simp; omega)
  have no7 : ∀ b, m7.size ≤ b → b ∉ [ob] := fun b hb => by simp; omega
  have it := TotalI (key := [0]) (col := 3) (F := none') (ValuesR (n := qs.length) (butL_at (cv.old o8) (no7 _ hbv)) (fun m' z => sla_but (V2.old o29) z fun b hb hx => by have := (V2.rows b hb hx).lt; simp; omega) (by omega)) hR hrl
    (fun m' z => sla_but (hC3.old o89) z fun b hb hx => by cases hb; simp; omega) (by omega) (butL_at c1 (no7 _ (by omega))) (butL_at c2 (no7 _ (by omega))) (butL_at c3 (no7 _ (by omega))) (fun g hg => by rw [hxs, ← hgs] at hg; exact (bd0 g hg).1)
  rw [hxs, ← hgs] at it
  refine Order_some (K := K) (kb := kb) it bd0 (by omega) (by omega) go9 gk9 (by omega) (by simp (decide := true) only [go_sem, ↓reduceIte]) (by simp (decide := true) only [go_sem, ↓reduceIte]) (by simp (decide := true) only [go_sem, ↓reduceIte]) fun m10 A ag os J sz10 kp10 => ?_
  have o50 : Old m5 m10 := .of_get (by have := o6.size; have := o69.size; omega) fun i hi => by
    have := o6.size
    have := o69.size
    rw [kp10 i (by omega) (by omega), (o6.trans o69).get hi]
  have o20 := o25.trans o50
  have rO := get_at0 J.box
  have gk10 : cap1 m10 kb (vI (K : Nat)) := (kp10 kb (getM_lt gk9) (by omega)).trans gk9
  have rK := get_at0 gk10
  have hol : os.length = min K gs.length := by
    have := congrArg List.length J.xs
    simpa using this
  simp (decide := true) (implicitDefEqProofs := false) (maxDischargeDepth := 20) only [go_sem, q1, q5, q8, q9, q10, q11, q12, q13, ↓reduceIte, true_implies, false_implies]
  refine (Rows_at (SA.old (o45.trans o50)) (SB.old o50) (nrow oA m10 gs g1 xA fun r hr => (rA r hr).old (o45.trans o50)) (nrow oB m10 gs g1 xB fun r hr => (rB r hr).old o50) (by omega) (by omega)).mono ?_
  rintro w m11 ⟨rfl, o11⟩
  have dd : decide (oA.map HRow.xs = oB.map HRow.xs) = true := by rw [xA, xB]; simp
  rw [dd]
  have rO11 := get_at0 ((o11.get (getM_lt J.box)).trans J.box)
  have rK11 := get_at0 ((o11.get (getM_lt gk10)).trans gk10)
  have ds : (sumG gs == sumG gs) = true := by simp
  obtain ⟨M, hM⟩ : ∃ M, M = min K oA.length := ⟨_, rfl⟩
  obtain ⟨hT, hT'⟩ := ((SA.old ((o45.trans o50).trans o11)).sliceTo (E := E) (k := .i64) (hi := M) (by omega))
  have mn : min ((K : Nat) : Int) ((oA.length : Nat) : Int) = ((M : Nat) : Int) := by omega
  rw [Nat.mul_one, ← List.map_take] at hT'
  simp (decide := true) (implicitDefEqProofs := false) (maxDischargeDepth := 20) only [go_sem, q1, q5, q8, q9, q10, q11, q12, q13, rO11, rK11, ds, mn, hT, ↓reduceIte, true_implies, false_implies]
  have t1 : ∀ g ∈ gs.take K, g.1.length = 1 := fun g hg => g1 g (List.mem_of_mem_take hg)
  have xT : (oA.take M).map HRow.xs = (gs.take K).map outT := by
    rw [List.map_take, xA, ← List.map_take]
    by_cases hk : K ≤ gs.length
    · rw [show M = K by omega]
    · rw [List.take_of_length_le (by omega : gs.length ≤ M), List.take_of_length_le (by omega : gs.length ≤ K)]
  refine (Rows_at (J.vec.sl.old o11) hT' (nrow os m11 (gs.take K) t1 J.xs fun r hr => (J.row r hr).old o11) (nrow (oA.take M) m11 (gs.take K) t1 xT fun r hr => (rA r (List.mem_of_mem_take hr)).old ((o45.trans o50).trans o11)) (by omega) (by omega)).mono ?_
  rintro w m12 ⟨rfl, o12⟩
  have dd2 : decide (os.map HRow.xs = (oA.take M).map HRow.xs) = true := by rw [J.xs, xT]; simp
  rw [dd2]
  simp (decide := true) (implicitDefEqProofs := false) (maxDischargeDepth := 20) only [go_sem, ↓reduceIte, true_implies, false_implies]
end Go.Proofs.Ytjmppooebppecaa.W
