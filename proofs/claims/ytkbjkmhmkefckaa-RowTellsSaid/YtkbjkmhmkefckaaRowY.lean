/-
  The document's own rows: Get.
-/
import Derived.Test.YtkbjkmhmkefckaaRowX
namespace Go.Proofs.Ytkbjkmhmkefckaa.W
open Go.Abs
set_option linter.unusedSimpArgs false
set_option linter.unusedVariables false

theorem and127 (y : Nat) (h : y < 256) : andI .u8 (y : Int) 127 = ((y % 128 : Nat) : Int) := by
  have h2 : ∀ v : Fin 256, andI .u8 ((v.val : Nat) : Int) 127 = ((v.val % 128 : Nat) : Int) := by decide +kernel
  exact h2 ⟨y, h⟩
theorem drop_own {xs : List Int} {N q : Nat} (hq : q < N) (hN : N ≤ xs.length) : (xs.take N).drop q = xs[q]'(by omega) :: (xs.take N).drop (q + 1) := by
  rw [List.drop_eq_getElem_cons (by rw [List.length_take]; omega), List.getElem_take]

set_option maxRecDepth 100000 in
set_option maxHeartbeats 4000000 in
theorem rGet_number {m : Mem} {t : Fr} {a : Option Addr} {n c N p : Nat} {xs : List Int} (h : SlA m 1 a n c (xs.map (.int .u8))) (hx : Byt xs) (hl : xs.length = n) (hN : N ≤ n) (hN2 : N ≤ 256) (hp : p ≤ N)
    (t0 : t 0 = .slice a n c) (t4 : t 4 = .int .i64 N) (t6 : t 6 = .int .i64 p) (t7 : t 7 = .int .u64 0) (t8 : t 8 = .int .i64 0) {rd : Option Nat} {K : Post3}
    (hK1 : ∀ t' v q, Agree (writes c_sheafref12_Get_25) t t' → rnum 0 0 ((xs.take N).drop p) = some (v, (xs.take N).drop q) → p < q → q ≤ N → t' 6 = .int .i64 (q : Nat) → t' 7 = .int .u64 (v : Nat) → v < 18446744073709551616 → K .normal t' m)
    (hK2 : ∀ t', rnum 0 0 ((xs.take N).drop p) = none → t' 2 = .slice none 0 0 → t' 3 = .int .i64 (-1) → K .ret t' m) :
    wpM E F_sheafref12_Get 78 rd c_sheafref12_Get_25 K t m := by
  refine wpM_mono _ (fun x t' m' => m' = m ∧ Agree (writes c_sheafref12_Get_25) t t' ∧ ((x = .normal ∧ ∃ v q, rnum 0 0 ((xs.take N).drop p) = some (v, (xs.take N).drop q) ∧ p < q ∧ q ≤ N ∧ t' 6 = .int .i64 (q : Nat) ∧ t' 7 = .int .u64 (v : Nat) ∧ v < 18446744073709551616) ∨ (x = .ret ∧ rnum 0 0 ((xs.take N).drop p) = none ∧ t' 2 = .slice none 0 0 ∧ t' 3 = .int .i64 (-1)))) K (fun x t' m' hh => ?_) t m ?_
  · obtain ⟨rfl, ag, ⟨rfl, v, q, h1, h2, h3, h4, h5, h6⟩ | ⟨rfl, h1, h2, h3⟩⟩ := hh
    · exact hK1 t' v q ag h1 h2 h3 h4 h5 h6
    · exact hK2 t' h1 h2 h3
  refine wpM_mono _ (fun x t' m' => Agree (writes c_sheafref12_Get_25) t t' ∧ (m' = m ∧ ((x = .normal ∧ ∃ v q, rnum 0 0 ((xs.take N).drop p) = some (v, (xs.take N).drop q) ∧ p < q ∧ q ≤ N ∧ t' 6 = .int .i64 (q : Nat) ∧ t' 7 = .int .u64 (v : Nat) ∧ v < 18446744073709551616) ∨ (x = .ret ∧ rnum 0 0 ((xs.take N).drop p) = none ∧ t' 2 = .slice none 0 0 ∧ t' 3 = .int .i64 (-1))))) _ (fun x t' m' hh => ⟨hh.2.1, hh.1, hh.2.2⟩) t m ?_
  refine wpM_agree _ t m (.refl _ _) (fun i hi => hi) ?_
  simp only [c_sheafref12_Get_25_at, wpM_block, c_sheafref12_Get_24_at]
  refine wpM_loopA (fun j t' m' => m' = m ∧ ∃ i u, p + i ≤ N ∧ j = N - (p + i) ∧ t' 6 = .int .i64 ((p + i : Nat) : Int) ∧ t' 8 = .int .i64 ((7 * i : Nat) : Int) ∧ t' 7 = .int .u64 (u : Nat) ∧ u < 18446744073709551616 ∧ rnum 0 0 ((xs.take N).drop p) = rnum i u ((xs.take N).drop (p + i))) (N - p)
    ⟨rfl, 0, 0, by omega, by omega, t6, t8, t7, by decide, rfl⟩ ?_
  rintro j t' m' ha ⟨rfl, i, u, hi, rfl, e6, e8, e7, hu, hf⟩
  have a0 := (ha 0 (by decide +kernel)).trans t0
  have a4 := (ha 4 (by decide +kernel)).trans t4
  have lenT : (xs.take N).length = N := by rw [List.length_take]; omega
  by_cases hlt : p + i < N
  · have d1 : decide (((p + i : Nat) : Int) ≥ (N : Int)) = false := by simp; omega
    rw [drop_own hlt (by omega)] at hf
    by_cases h63 : 9 < i
    · have d2 : decide (((7 * i : Nat) : Int) > 63) = true := by simp; omega
      have e : rnum 0 0 ((xs.take N).drop p) = none := by rw [hf]; simp only [rnum]; rw [if_pos h63]
      simp (decide := true) (implicitDefEqProofs := false) (maxDischargeDepth := 20) only [go_sem, ↓reduceIte, a4, e6, e8, d1, d2, true_implies, false_implies]
      exact .inr e
    · have d2 : decide (((7 * i : Nat) : Int) > 63) = false := by simp; omega
      have w1 : IntKind.wrap .i64 (((p + i : Nat) : Int) + 1) = ((p + (i + 1) : Nat) : Int) := by rw [wrap_i64_id _ (by omega) (by omega)]; omega
      have z0 : (0 : Int) ≤ ((p + i : Nat) : Int) := by omega
      have z1 : ((p + i : Nat) : Int) < (n : Int) := by omega
      obtain ⟨ab, ao, asp, rfl⟩ := h.addr (by omega)
      have r := h.at_map (show p + i < n by omega)
      have hb := hx (xs[p + i]'(by omega)) (List.getElem_mem _)
      generalize xs[p + i]'(by omega) = x at *
      obtain ⟨y, rfl⟩ : ∃ y : Nat, x = (y : Int) := ⟨x.toNat, by omega⟩
      have q1 := and127 y (by omega)
      have w3 : IntKind.wrap .u64 ((y % 128 : Nat) : Int) = ((y % 128 : Nat) : Int) := wrap_u64_id _ (by omega) (by omega)
      have w5 := shl_u64 (y % 128) (7 * i)
      have hq : (y % 128 * 2 ^ (7 * i)) % 18446744073709551616 < 18446744073709551616 := Nat.mod_lt _ (by decide)
      simp only [rnum, Int.toNat_natCast] at hf
      rw [if_neg h63] at hf
      generalize (y % 128 * 2 ^ (7 * i)) % 18446744073709551616 = g at *
      have w6 := orI_u64 u g hu hq
      have hv : u ||| g < 18446744073709551616 := Nat.or_lt_two_pow (n := 64) hu hq
      have n0 : ¬ ((7 * i : Nat) : Int) < 0 := by omega
      generalize u ||| g = v at *
      by_cases h9 : i = 9 ∧ 1 < y
      · have d3 : (((7 * i : Nat) : Int) == 63) = true := by rw [beq_iff_eq]; omega
        have d4 : decide ((y : Int) > 1) = true := by simp; omega
        rw [if_pos (by omega)] at hf
        simp (decide := true) (implicitDefEqProofs := false) (maxDischargeDepth := 20) only [go_sem, ↓reduceIte, a0, a4, e6, e8, e7, d1, d2, d3, d4, w1, r, z0, z1, Int.toNat_natCast, true_implies, false_implies]
        exact .inr hf
      · rw [if_neg (by omega)] at hf
        have w7 : IntKind.wrap .i64 (((7 * i : Nat) : Int) + 7) = ((7 * (i + 1) : Nat) : Int) := by rw [wrap_i64_id _ (by omega) (by omega)]; omega
        have fin : ∀ (d3 : (((7 * i : Nat) : Int) == 63) = true ∧ decide ((y : Int) > 1) = false ∨ (((7 * i : Nat) : Int) == 63) = false), True := fun _ => trivial
        have step : (((7 * i : Nat) : Int) == 63) = true ∧ decide ((y : Int) > 1) = false ∨ (((7 * i : Nat) : Int) == 63) = false := by
          by_cases h : i = 9
          · exact .inl ⟨by rw [beq_iff_eq]; omega, by simp; omega⟩
          · exact .inr (by rw [beq_eq_false_iff_ne]; omega)
        by_cases hs : (y : Int) < 128
        · rw [if_pos hs] at hf
          have d5 : decide ((y : Int) < 128) = true := by simpa using hs
          by_cases h00 : y = 0
          · have d6 : ((y : Int) == 0) = true := by rw [beq_iff_eq]; omega
            by_cases hi0 : 0 < i
            · have d7 : decide (((7 * i : Nat) : Int) > 0) = true := by simp; omega
              rw [if_pos (by omega)] at hf
              rcases step with ⟨d3, d4⟩ | d3
              · simp (decide := true) (implicitDefEqProofs := false) (maxDischargeDepth := 20) only [go_sem, ↓reduceIte, a0, a4, e6, e8, e7, d1, d2, d3, d4, d5, d6, d7, w1, w3, w5, w6, w7, q1, n0, r, z0, z1, Int.toNat_natCast, true_implies, false_implies]
                exact .inr hf
              · simp (decide := true) (implicitDefEqProofs := false) (maxDischargeDepth := 20) only [go_sem, ↓reduceIte, a0, a4, e6, e8, e7, d1, d2, d3, d5, d6, d7, w1, w3, w5, w6, w7, q1, n0, r, z0, z1, Int.toNat_natCast, true_implies, false_implies]
                exact .inr hf
            · have d7 : decide (((7 * i : Nat) : Int) > 0) = false := by simp; omega
              rw [if_neg (by omega)] at hf
              rcases step with ⟨d3, d4⟩ | d3
              · simp (decide := true) (implicitDefEqProofs := false) (maxDischargeDepth := 20) only [go_sem, ↓reduceIte, a0, a4, e6, e8, e7, d1, d2, d3, d4, d5, d6, d7, w1, w3, w5, w6, w7, q1, n0, r, z0, z1, Int.toNat_natCast, true_implies, false_implies]
                first | exact .inl ⟨rfl, v, p + (i + 1), hf, by omega, by omega, rfl, rfl, hv⟩ | exact .inl ⟨v, p + (i + 1), hf, by omega, by omega, rfl, rfl, hv⟩ | exact ⟨v, p + (i + 1), hf, by omega, by omega, rfl, rfl, hv⟩
              · simp (decide := true) (implicitDefEqProofs := false) (maxDischargeDepth := 20) only [go_sem, ↓reduceIte, a0, a4, e6, e8, e7, d1, d2, d3, d5, d6, d7, w1, w3, w5, w6, w7, q1, n0, r, z0, z1, Int.toNat_natCast, true_implies, false_implies]
                first | exact .inl ⟨rfl, v, p + (i + 1), hf, by omega, by omega, rfl, rfl, hv⟩ | exact .inl ⟨v, p + (i + 1), hf, by omega, by omega, rfl, rfl, hv⟩ | exact ⟨v, p + (i + 1), hf, by omega, by omega, rfl, rfl, hv⟩
          · have d6 : ((y : Int) == 0) = false := by rw [beq_eq_false_iff_ne]; omega
            rw [if_neg (by omega)] at hf
            rcases step with ⟨d3, d4⟩ | d3
            · simp (decide := true) (implicitDefEqProofs := false) (maxDischargeDepth := 20) only [go_sem, ↓reduceIte, a0, a4, e6, e8, e7, d1, d2, d3, d4, d5, d6, w1, w3, w5, w6, w7, q1, n0, r, z0, z1, Int.toNat_natCast, true_implies, false_implies]
              first | exact .inl ⟨rfl, v, p + (i + 1), hf, by omega, by omega, rfl, rfl, hv⟩ | exact .inl ⟨v, p + (i + 1), hf, by omega, by omega, rfl, rfl, hv⟩ | exact ⟨v, p + (i + 1), hf, by omega, by omega, rfl, rfl, hv⟩
            · simp (decide := true) (implicitDefEqProofs := false) (maxDischargeDepth := 20) only [go_sem, ↓reduceIte, a0, a4, e6, e8, e7, d1, d2, d3, d5, d6, w1, w3, w5, w6, w7, q1, n0, r, z0, z1, Int.toNat_natCast, true_implies, false_implies]
              first | exact .inl ⟨rfl, v, p + (i + 1), hf, by omega, by omega, rfl, rfl, hv⟩ | exact .inl ⟨v, p + (i + 1), hf, by omega, by omega, rfl, rfl, hv⟩ | exact ⟨v, p + (i + 1), hf, by omega, by omega, rfl, rfl, hv⟩
        · rw [if_neg hs] at hf
          have d5 : decide ((y : Int) < 128) = false := by simpa using hs
          rcases step with ⟨d3, d4⟩ | d3
          · simp (decide := true) (implicitDefEqProofs := false) (maxDischargeDepth := 20) only [go_sem, ↓reduceIte, a0, a4, e6, e8, e7, d1, d2, d3, d4, d5, w1, w3, w5, w6, w7, q1, n0, r, z0, z1, Int.toNat_natCast, true_implies, false_implies]
            exact ⟨N - (p + (i + 1)), by omega, i + 1, v, by omega, rfl, rfl, rfl, rfl, hv, hf⟩
          · simp (decide := true) (implicitDefEqProofs := false) (maxDischargeDepth := 20) only [go_sem, ↓reduceIte, a0, a4, e6, e8, e7, d1, d2, d3, d5, w1, w3, w5, w6, w7, q1, n0, r, z0, z1, Int.toNat_natCast, true_implies, false_implies]
            exact ⟨N - (p + (i + 1)), by omega, i + 1, v, by omega, rfl, rfl, rfl, rfl, hv, hf⟩
  · have d1 : decide (((p + i : Nat) : Int) ≥ (N : Int)) = true := by simp; omega
    have e : rnum 0 0 ((xs.take N).drop p) = none := by rw [hf, List.drop_of_length_le (by omega)]; rfl
    simp (decide := true) (implicitDefEqProofs := false) (maxDischargeDepth := 20) only [go_sem, ↓reduceIte, a4, e6, d1, true_implies, false_implies]
    exact .inr e

theorem rparse_step {f : Nat} {b : List Int} (hb : b ≠ []) (hf : b.length ≤ f) : ∃ g, f = g + 1 ∧ rparse f b = match rnum 0 0 b with
    | some (v, r) => (rparse g r).map (zag v :: ·)
    | none => none := by
  cases b with
  | nil => exact absurd rfl hb
  | cons x t =>
    rw [List.length_cons] at hf
    exact ⟨f - 1, by omega, by obtain ⟨g, rfl⟩ : ∃ g, f = g + 1 := ⟨f - 1, by omega⟩; rfl⟩

set_option maxRecDepth 100000 in
set_option maxHeartbeats 4000000 in
theorem rGet_at {m : Mem} {a : Option Addr} {n c : Nat} {xs : List Int} (h : SlA m 1 a n c (xs.map (.int .u8))) (hx : Byt xs) (hn : n ≤ 1000000) :
    CallQ E F_sheafref12_Get [.slice a n c].toArray m fun w m' => ∃ a' k, w = .tuple #[.slice a' k k, .int .i64 (rgetL xs).2] ∧ Vec m.size m' 1 a' k ((rgetL xs).1.map (.int .i64)) ∧ Old m m' := by
  refine .enter fn_sheafref12_Get (by simp) ?_
  have hl : xs.length = n := by have := h.len; simpa using this
  cases hxs : xs with
  | nil =>
    obtain rfl : n = 0 := by rw [hxs] at hl; simpa using hl.symm
    simp (decide := true) (implicitDefEqProofs := false) (maxDischargeDepth := 20) only [go_sem, ↓reduceIte, rgetL, true_implies, false_implies]
    exact ⟨none, 0, rfl, Vec.nil _ _ _⟩
  | cons x tl =>
    have hl' : tl.length + 1 = n := by rw [hxs] at hl; simpa using hl
    have hn0 : 0 < n := by omega
    have d0 : ((n : Int) == 0) = false := by rw [beq_eq_false_iff_ne]; omega
    have hx0 := hx x (by rw [hxs]; simp)
    obtain ⟨y, rfl⟩ : ∃ y : Nat, x = (y : Int) := ⟨x.toNat, by omega⟩
    obtain ⟨ab, ao, asp, rfl⟩ := h.addr hn0
    have r0 : m.at ab (ao + Int.toNat 0) = some (.int .u8 (y : Int)) := by
      have := h.at_map (show 0 < n by omega)
      simp only [hxs, List.getElem_cons_zero] at this
      exact this
    have w0 : IntKind.wrap .i64 (y : Int) = (y : Int) := wrap_i64_id _ (by omega) (by omega)
    have w1 : IntKind.wrap .i64 (1 + (y : Int)) = ((1 + y : Nat) : Int) := by rw [wrap_i64_id _ (by omega) (by omega)]; omega
    have z0 : (0 : Int) < (n : Int) := by omega
    by_cases hc : n < 1 + y
    · have d1 : decide ((n : Int) < ((1 + y : Nat) : Int)) = true := by simp; omega
      have e : rgetL ((y : Int) :: tl) = ([], 0) := by simp only [rgetL]; rw [if_pos (by rw [List.length_cons, hl']; omega)]
      rw [e]
      simp (decide := true) (implicitDefEqProofs := false) (maxDischargeDepth := 20) only [go_sem, ↓reduceIte, d0, d1, r0, w0, w1, z0, true_implies, false_implies]
      exact ⟨none, 0, rfl, Vec.nil _ _ _⟩
    · have d1 : decide ((n : Int) < ((1 + y : Nat) : Int)) = false := by simp; omega
      have e : rgetL ((y : Int) :: tl) = match rparse (tl.take y).length (tl.take y) with
          | some r => if r.length ≤ 10 then (r, 1 + (y : Int)) else ([], -1)
          | none => ([], -1) := by
        simp only [rgetL]
        rw [if_neg (by rw [List.length_cons, hl']; omega), Int.toNat_natCast]
        rfl
      obtain ⟨N, hN⟩ : ∃ N, N = 1 + y := ⟨_, rfl⟩
      have own1 : (xs.take N).drop 1 = tl.take y := by rw [hxs, hN, Nat.add_comm 1, List.take_succ_cons]; rfl
      have ltk : (tl.take y).length = y := by rw [List.length_take]; omega
      rw [← own1] at e ltk
      rw [e]
      rw [← hN] at w1 d1
      simp (decide := true) (implicitDefEqProofs := false) (maxDischargeDepth := 20) only [go_sem, ↓reduceIte, d0, d1, r0, w0, w1, z0, true_implies, false_implies]
      simp only [c_sheafref12_Get_31_at, wpM_block, c_sheafref12_Get_30_at]
      have v0 : Vec m.size (m.push (.cells false true [])) 1 (some ⟨m.size, 0, none⟩) 0 [] := .built (Nat.le_refl _) rfl
      have o0 : Old m (m.push (.cells false true [])) := .push (.refl m) _
      refine wpM_loopA (fun j t' m' => ∃ q rs a' f, 1 ≤ q ∧ q ≤ N ∧ j = N - q ∧ t' 6 = .int .i64 (q : Nat) ∧ t' 5 = .slice a' rs.length rs.length ∧ Vec m.size m' 1 a' rs.length (rs.map (.int .i64)) ∧ Old m m' ∧ rs.length ≤ q ∧ ((xs.take N).drop q).length ≤ f ∧ rparse ((xs.take N).drop 1).length ((xs.take N).drop 1) = (rparse f ((xs.take N).drop q)).map (rs ++ ·)) (N - 1)
        ⟨1, [], some ⟨m.size, 0, none⟩, ((xs.take N).drop 1).length, by omega, by omega, rfl, by simp (decide := true) only [go_sem, ↓reduceIte]; try rfl, by simp (decide := true) only [go_sem, ↓reduceIte]; try rfl, v0, o0, by simp, Nat.le_refl _, by simp⟩ ?_
      rintro j t' m' ha ⟨q, rs, a', f, hq1, hq2, rfl, e6, e5, v, o, hrs, hf, hp⟩
      have a0 := ha 0 (by decide +kernel)
      have a4 := ha 4 (by decide +kernel)
      simp (decide := true) only [go_sem, ↓reduceIte] at a0 a4
      have lenT : (xs.take N).length = N := by rw [List.length_take]; omega
      by_cases hlt : q < N
      · have d2 : decide ((q : Int) < (N : Int)) = true := by simp; omega
        have hne : (xs.take N).drop q ≠ [] := by intro e0; have := congrArg List.length e0; rw [List.length_drop, lenT, List.length_nil] at this; omega
        obtain ⟨g, rfl, hs⟩ := rparse_step hne hf
        simp (decide := true) (implicitDefEqProofs := false) (maxDischargeDepth := 20) only [go_sem, ↓reduceIte, a4, e6, d2, true_implies, false_implies]
        refine rGet_number (h.old o) hx hl (N := N) (by omega) (by omega) hq2 (by simp (decide := true) only [go_sem, a0, ↓reduceIte]) (by simp (decide := true) only [go_sem, a4, ↓reduceIte]) (by simp (decide := true) only [go_sem, e6, ↓reduceIte]) (by simp (decide := true) only [go_sem, ↓reduceIte]) (by simp (decide := true) only [go_sem, ↓reduceIte]) ?_ ?_
        · intro t2 u q' ag hr hpq hqN f6 f7 hu
          have b5 := ag 5 (by decide +kernel)
          simp (decide := true) only [go_sem, e5, ↓reduceIte] at b5
          rw [hr] at hs
          have zg := rzag_ans u hu
          simp (decide := true) (implicitDefEqProofs := false) (maxDischargeDepth := 20) only [go_sem, ↓reduceIte, b5, f7, zg.eq, true_implies, false_implies]
          have oz : Old m' (ansM E F_sheafref12_zag #[.int .u64 (u : Int)] [] m') := .ansM (.refl _)
          refine (v.old oz).append1 (ys := [.int .i64 (zag u)]) (by have := o.size; have := oz.size; omega) rfl (by decide) (by decide +kernel) (by decide +kernel) rfl (by omega) fun m2 a2 v2 k2 => ?_
          simp (decide := true) (implicitDefEqProofs := false) (maxDischargeDepth := 20) only [go_sem, ↓reduceIte, f6, true_implies, false_implies]
          have el : (rs ++ [zag u]).map (Value.int .i64) = rs.map (.int .i64) ++ [.int .i64 (zag u)] := by rw [List.map_append]; rfl
          refine ⟨N - q', by omega, q', rs ++ [zag u], a2, g, by omega, hqN, rfl, ?_, by rw [List.length_append]; rfl, by rw [el, List.length_append]; exact v2, (v.old oz).keepOld k2 (o.trans oz), by rw [List.length_append, List.length_singleton]; omega, ?_, ?_⟩
          · rfl
          · rw [List.length_drop, lenT] at hf ⊢; omega
          · rw [hp, hs, Option.map_map]
            congr 1
            funext z
            show rs ++ (zag u :: z) = _
            simp
        · intro t2 hr g2 g3
          rw [hr] at hs
          rw [hs] at hp
          rw [hp]
          simp (decide := true) (implicitDefEqProofs := false) (maxDischargeDepth := 20) only [go_sem, ↓reduceIte, g2, g3, Option.map_none, true_implies, false_implies]
          exact ⟨none, 0, rfl, Vec.nil _ _ _, o⟩
      · have d2 : decide ((q : Int) < (N : Int)) = false := by simp; omega
        have hqn : q = N := by omega
        have hnil : (xs.take N).drop q = [] := List.drop_of_length_le (by omega)
        rw [hnil] at hp
        have hp2 : rparse f [] = some [] := by cases f <;> rfl
        rw [hp2, Option.map_some, List.append_nil] at hp
        rw [hp]
        simp only
        by_cases h10 : rs.length ≤ 10
        · have d3 : decide ((rs.length : Int) > 10) = false := by simp; omega
          rw [if_pos h10]
          simp (decide := true) (implicitDefEqProofs := false) (maxDischargeDepth := 20) only [go_sem, ↓reduceIte, a4, e5, e6, d2, d3, true_implies, false_implies]
          exact ⟨a', rs.length, by rw [hN]; congr 3, v, o⟩
        · have d3 : decide ((rs.length : Int) > 10) = true := by simp; omega
          rw [if_neg h10]
          simp (decide := true) (implicitDefEqProofs := false) (maxDischargeDepth := 20) only [go_sem, ↓reduceIte, a4, e5, e6, d2, d3, true_implies, false_implies]
          exact ⟨none, 0, rfl, Vec.nil _ _ _, o⟩
end Go.Proofs.Ytkbjkmhmkefckaa.W
