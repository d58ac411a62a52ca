/-
  Div64 answers quotient and remainder.
-/
import Derived.Test.YtmgdmldmialiiaaWideB
namespace Go.Proofs.Ytmgdmldmialiiaa.W
open Go.Abs
set_option linter.unusedSimpArgs false
set_option linter.unusedVariables false

theorem mul_bd {x y a b : Int} (h1 : 0 ≤ x) (h2 : x ≤ a) (h3 : 0 ≤ y) (h4 : y ≤ b) : 0 ≤ x * y ∧ x * y ≤ a * b :=
  ⟨Int.mul_nonneg h1 h3, Int.mul_le_mul h2 h4 h3 (by omega)⟩

/-- One step of the long division: too great by at most two. -/
structure Kn (yn1 yn0 un32 un1 : Int) : Prop where
  a1 : 2147483648 ≤ yn1
  a2 : yn1 < 4294967296
  b1 : 0 ≤ yn0
  b2 : yn0 < 4294967296
  c1 : 0 ≤ un32
  c2 : un32 < yn1 * 4294967296 + yn0
  d1 : 0 ≤ un1
  d2 : un1 < 4294967296

section kn
variable {yn1 yn0 un32 un1 q r : Int}

theorem Kn.mul (q : Int) : q * (yn1 * 4294967296 + yn0) = q * yn1 * 4294967296 + q * yn0 := by
  rw [Int.mul_add, ← Int.mul_assoc]
theorem Kn.le (h : Kn yn1 yn0 un32 un1) (e : q * yn1 + r = un32) (k : q * yn0 ≤ 4294967296 * r + un1) : q ≤ (un32 * 4294967296 + un1) / (yn1 * 4294967296 + yn0) := by
  have := h.a1; have := h.b1
  refine Int.le_ediv_of_mul_le (by omega) ?_
  rw [Kn.mul]
  omega
theorem Kn.lt (h : Kn yn1 yn0 un32 un1) (e : q * yn1 + r = un32) (k : 4294967296 * r + un1 < q * yn0) : (un32 * 4294967296 + un1) / (yn1 * 4294967296 + yn0) < q := by
  have := h.a1; have := h.b1
  refine Int.ediv_lt_of_lt_mul (by omega) ?_
  rw [Kn.mul]
  omega
theorem Kn.top (h : Kn yn1 yn0 un32 un1) : (un32 * 4294967296 + un1) / (yn1 * 4294967296 + yn0) < 4294967296 := by
  have := h.a1; have := h.b1; have := h.c2; have := h.d2
  refine Int.ediv_lt_of_lt_mul (by omega) ?_
  rw [Kn.mul]
  omega
theorem Kn.nonneg (h : Kn yn1 yn0 un32 un1) : 0 ≤ (un32 * 4294967296 + un1) / (yn1 * 4294967296 + yn0) := by
  have := h.a1; have := h.b1; have := h.c1; have := h.d1
  exact Int.ediv_nonneg (by omega) (by omega)
theorem Kn.big (h : Kn yn1 yn0 un32 un1) (e : q * yn1 + r = un32) (hr : 4294967296 ≤ r) (h0 : 0 ≤ q) (hq : q ≤ 4294967296) : q ≤ (un32 * 4294967296 + un1) / (yn1 * 4294967296 + yn0) := by
  have := h.b1; have := h.b2; have := h.d1
  refine h.le e ?_
  have := (mul_bd h0 hq h.b1 (show yn0 ≤ 4294967295 by omega)).2
  omega
theorem Kn.first (h : Kn yn1 yn0 un32 un1) : (un32 * 4294967296 + un1) / (yn1 * 4294967296 + yn0) ≤ un32 / yn1 := by
  have := h.a1; have := h.b1; have := h.d2; have h0 := h.nonneg
  generalize hQ : (un32 * 4294967296 + un1) / (yn1 * 4294967296 + yn0) = Q at *
  have h1 : Q * (yn1 * 4294967296 + yn0) ≤ un32 * 4294967296 + un1 := by
    rw [← hQ]
    have := h.c1; have := h.d1
    exact Int.ediv_mul_le _ (by omega)
  rw [Kn.mul] at h1
  have h2 := Int.mul_nonneg h0 h.b1
  refine Int.le_ediv_of_mul_le (by omega) ?_
  omega
theorem Kn.first_le (h : Kn yn1 yn0 un32 un1) : un32 / yn1 ≤ 4294967297 := by
  have := h.a1; have := h.b2; have := h.c2
  have : un32 / yn1 < 4294967298 := Int.ediv_lt_of_lt_mul (by omega) (by omega)
  omega
end kn

set_option maxHeartbeats 1000000 in
set_option maxRecDepth 100000 in
theorem kn_loop1 {yn1 yn0 un32 un1 : Int} (hk : Kn yn1 yn0 un32 un1) (t : Fr) (m : Mem) (K : Post3) (h9 : t 9 = .int .u64 yn1) (h10 : t 10 = .int .u64 yn0) (h13 : t 13 = .int .u64 un1) (h15 : t 15 = .int .u64 (un32 / yn1)) (h16 : t 16 = .int .u64 (un32 % yn1))
    (hK : ∀ t', Agree (writes c_math_bits_Div64_16) t t' → t' 15 = .int .u64 ((un32 * 4294967296 + un1) / (yn1 * 4294967296 + yn0)) → K .normal t' m) : wpM E F_math_bits_Div64 135 none c_math_bits_Div64_16 K t m := by
  refine wpM_cut (fun t' m' => m' = m ∧ t' 15 = .int .u64 ((un32 * 4294967296 + un1) / (yn1 * 4294967296 + yn0))) ?_ fun t' m' ha ⟨e, h⟩ => e ▸ hK t' ha h
  simp only [c_math_bits_Div64_16_at, wpM_block, c_math_bits_Div64_15_at]
  have A1 := hk.a1; have A2 := hk.a2; have B1 := hk.b1; have B2 := hk.b2; have C1 := hk.c1; have C2 := hk.c2; have D1 := hk.d1; have D2 := hk.d2
  refine wpM_loopA (fun k t' m' => m' = m ∧ ∃ q r, t' 15 = .int .u64 q ∧ t' 16 = .int .u64 r ∧ q * yn1 + r = un32 ∧ 0 ≤ q ∧ q ≤ 4294967297 ∧ 0 ≤ r ∧ r < 4294967296 ∧ (un32 * 4294967296 + un1) / (yn1 * 4294967296 + yn0) ≤ q ∧ k = (q - (un32 * 4294967296 + un1) / (yn1 * 4294967296 + yn0)).toNat) _
    ⟨rfl, _, _, h15, h16, by rw [Int.mul_comm]; exact Int.mul_ediv_add_emod un32 yn1, Int.ediv_nonneg C1 (by omega), hk.first_le, Int.emod_nonneg _ (by omega), by have := Int.emod_lt_of_pos un32 (show 0 < yn1 by omega); omega, hk.first, rfl⟩ ?_
  rintro k t' m' ha ⟨rfl, q, r, q15, q16, e, i1, i2, i3, i4, i5, rfl⟩
  have a9 := (ha 9 (by decide +kernel)).trans h9
  have a10 := (ha 10 (by decide +kernel)).trans h10
  have a13 := (ha 13 (by decide +kernel)).trans h13
  have Q0 := hk.nonneg
  have QT := hk.top
  have step : (un32 * 4294967296 + un1) / (yn1 * 4294967296 + yn0) < q → ∀ (K : Post3), (r + yn1 < 4294967296 → ∀ t2, t2 15 = .int .u64 (q - 1) → t2 16 = .int .u64 (r + yn1) → K .normal t2 m') → (4294967296 ≤ r + yn1 → ∀ t2, t2 15 = .int .u64 (q - 1) → K (.exit 0) t2 m') →
      ∀ t1 : Fr, t1 15 = .int .u64 q → t1 16 = .int .u64 r → t1 9 = .int .u64 yn1 → wpM E F_math_bits_Div64 135 none c_math_bits_Div64_13 K t1 m' := by
    intro hq K k1 k2 t1 e15 e16 e9
    have w1 : IntKind.wrap .u64 (q - 1) = q - 1 := wrap_u64_id _ (by omega) (by omega)
    have w2 : IntKind.wrap .u64 (r + yn1) = r + yn1 := wrap_u64_id _ (by omega) (by omega)
    simp (decide := true) (implicitDefEqProofs := false) only [go_sem, ↓reduceIte, e15, e16, e9, w1, w2]
    refine ⟨fun h => ?_, fun h => ?_⟩
    · exact k2 (by simpa using h) _ (by simp (decide := true) (implicitDefEqProofs := false) only [go_sem, ↓reduceIte])
    · exact k1 (by simpa using h) _ (by simp (decide := true) (implicitDefEqProofs := false) only [go_sem, ↓reduceIte]) (by simp (decide := true) (implicitDefEqProofs := false) only [go_sem, ↓reduceIte])
  have again : (un32 * 4294967296 + un1) / (yn1 * 4294967296 + yn0) < q → ∀ t1 : Fr, t1 15 = .int .u64 q → t1 16 = .int .u64 r → t1 9 = .int .u64 yn1 →
      wpM E F_math_bits_Div64 135 none c_math_bits_Div64_13 (seqK (fun t' m'' => ∃ j, j < (q - (un32 * 4294967296 + un1) / (yn1 * 4294967296 + yn0)).toNat ∧ (m'' = m' ∧ ∃ q r, t' 15 = .int .u64 q ∧ t' 16 = .int .u64 r ∧ q * yn1 + r = un32 ∧ 0 ≤ q ∧ q ≤ 4294967297 ∧ 0 ≤ r ∧ r < 4294967296 ∧ (un32 * 4294967296 + un1) / (yn1 * 4294967296 + yn0) ≤ q ∧ j = (q - (un32 * 4294967296 + un1) / (yn1 * 4294967296 + yn0)).toNat))
        (blockK 0 fun x t' m'' => x = .normal ∧ m'' = m' ∧ t' 15 = .int .u64 ((un32 * 4294967296 + un1) / (yn1 * 4294967296 + yn0)))) t1 m' := by
    intro hq t1 e15 e16 e9
    have e' : (q - 1) * yn1 + (r + yn1) = un32 := by rw [Int.sub_mul]; omega
    refine step hq _ (fun hr t2 f15 f16 => ?_) (fun hr t2 f15 => ?_) t1 e15 e16 e9
    · exact ⟨_, by omega, rfl, q - 1, r + yn1, f15, f16, e', by omega, by omega, by omega, hr, by omega, rfl⟩
    · refine ⟨rfl, rfl, ?_⟩
      have := hk.big e' hr (by omega) (by omega)
      rw [f15, show q - 1 = (un32 * 4294967296 + un1) / (yn1 * 4294967296 + yn0) by omega]
  simp only [c_math_bits_Div64_14_at, wpM_seq]
  clear step
  generalize c_math_bits_Div64_13 = c at again ⊢
  by_cases hq : 4294967296 ≤ q
  · have d1 : decide (4294967296 ≤ q) = true := by simpa using hq
    simp (decide := true) (implicitDefEqProofs := false) only [go_sem, ↓reduceIte, q15, q16, a9, a10, a13, d1, true_implies, false_implies]
    exact again (by omega) _ (by simp (decide := true) (implicitDefEqProofs := false) only [go_sem, ↓reduceIte, q15]) (by simp (decide := true) (implicitDefEqProofs := false) only [go_sem, ↓reduceIte, q16]) (by simp (decide := true) (implicitDefEqProofs := false) only [go_sem, ↓reduceIte, a9])
  · have d1 : decide (4294967296 ≤ q) = false := by simpa using hq
    have p0 := mul_bd i1 (show q ≤ 4294967295 by omega) B1 (show yn0 ≤ 4294967295 by omega)
    have w1 : IntKind.wrap .u64 (q * yn0) = q * yn0 := wrap_u64_id _ (by omega) (by omega)
    have w2 : IntKind.wrap .u64 (4294967296 * r) = 4294967296 * r := wrap_u64_id _ (by omega) (by omega)
    have w3 : IntKind.wrap .u64 (4294967296 * r + un1) = 4294967296 * r + un1 := wrap_u64_id _ (by omega) (by omega)
    simp (decide := true) (implicitDefEqProofs := false) only [go_sem, ↓reduceIte, q15, q16, a9, a10, a13, d1, w1, w2, w3, true_implies, false_implies]
    refine ⟨fun h => ?_, fun h => ?_⟩
    · exact again (hk.lt e (by simpa using h)) _ (by simp (decide := true) (implicitDefEqProofs := false) only [go_sem, ↓reduceIte, q15]) (by simp (decide := true) (implicitDefEqProofs := false) only [go_sem, ↓reduceIte, q16]) (by simp (decide := true) (implicitDefEqProofs := false) only [go_sem, ↓reduceIte, a9])
    · have := hk.le e (by simpa using h)
      rw [show q = (un32 * 4294967296 + un1) / (yn1 * 4294967296 + yn0) by omega]

set_option maxHeartbeats 1000000 in
set_option maxRecDepth 100000 in
theorem kn_loop2 {yn1 yn0 un32 un1 : Int} (hk : Kn yn1 yn0 un32 un1) (t : Fr) (m : Mem) (K : Post3) (h9 : t 9 = .int .u64 yn1) (h10 : t 10 = .int .u64 yn0) (h13 : t 14 = .int .u64 un1) (h15 : t 18 = .int .u64 (un32 / yn1)) (h16 : t 16 = .int .u64 (un32 % yn1))
    (hK : ∀ t', Agree (writes c_math_bits_Div64_26) t t' → t' 18 = .int .u64 ((un32 * 4294967296 + un1) / (yn1 * 4294967296 + yn0)) → K .normal t' m) : wpM E F_math_bits_Div64 135 none c_math_bits_Div64_26 K t m := by
  refine wpM_cut (fun t' m' => m' = m ∧ t' 18 = .int .u64 ((un32 * 4294967296 + un1) / (yn1 * 4294967296 + yn0))) ?_ fun t' m' ha ⟨e, h⟩ => e ▸ hK t' ha h
  simp only [c_math_bits_Div64_26_at, wpM_block, c_math_bits_Div64_25_at]
  have A1 := hk.a1; have A2 := hk.a2; have B1 := hk.b1; have B2 := hk.b2; have C1 := hk.c1; have C2 := hk.c2; have D1 := hk.d1; have D2 := hk.d2
  refine wpM_loopA (fun k t' m' => m' = m ∧ ∃ q r, t' 18 = .int .u64 q ∧ t' 16 = .int .u64 r ∧ q * yn1 + r = un32 ∧ 0 ≤ q ∧ q ≤ 4294967297 ∧ 0 ≤ r ∧ r < 4294967296 ∧ (un32 * 4294967296 + un1) / (yn1 * 4294967296 + yn0) ≤ q ∧ k = (q - (un32 * 4294967296 + un1) / (yn1 * 4294967296 + yn0)).toNat) _
    ⟨rfl, _, _, h15, h16, by rw [Int.mul_comm]; exact Int.mul_ediv_add_emod un32 yn1, Int.ediv_nonneg C1 (by omega), hk.first_le, Int.emod_nonneg _ (by omega), by have := Int.emod_lt_of_pos un32 (show 0 < yn1 by omega); omega, hk.first, rfl⟩ ?_
  rintro k t' m' ha ⟨rfl, q, r, q15, q16, e, i1, i2, i3, i4, i5, rfl⟩
  have a9 := (ha 9 (by decide +kernel)).trans h9
  have a10 := (ha 10 (by decide +kernel)).trans h10
  have a13 := (ha 14 (by decide +kernel)).trans h13
  have Q0 := hk.nonneg
  have QT := hk.top
  have step : (un32 * 4294967296 + un1) / (yn1 * 4294967296 + yn0) < q → ∀ (K : Post3), (r + yn1 < 4294967296 → ∀ t2, t2 18 = .int .u64 (q - 1) → t2 16 = .int .u64 (r + yn1) → K .normal t2 m') → (4294967296 ≤ r + yn1 → ∀ t2, t2 18 = .int .u64 (q - 1) → K (.exit 2) t2 m') →
      ∀ t1 : Fr, t1 18 = .int .u64 q → t1 16 = .int .u64 r → t1 9 = .int .u64 yn1 → wpM E F_math_bits_Div64 135 none c_math_bits_Div64_23 K t1 m' := by
    intro hq K k1 k2 t1 e15 e16 e9
    have w1 : IntKind.wrap .u64 (q - 1) = q - 1 := wrap_u64_id _ (by omega) (by omega)
    have w2 : IntKind.wrap .u64 (r + yn1) = r + yn1 := wrap_u64_id _ (by omega) (by omega)
    simp (decide := true) (implicitDefEqProofs := false) only [go_sem, ↓reduceIte, e15, e16, e9, w1, w2]
    refine ⟨fun h => ?_, fun h => ?_⟩
    · exact k2 (by simpa using h) _ (by simp (decide := true) (implicitDefEqProofs := false) only [go_sem, ↓reduceIte])
    · exact k1 (by simpa using h) _ (by simp (decide := true) (implicitDefEqProofs := false) only [go_sem, ↓reduceIte]) (by simp (decide := true) (implicitDefEqProofs := false) only [go_sem, ↓reduceIte])
  have again : (un32 * 4294967296 + un1) / (yn1 * 4294967296 + yn0) < q → ∀ t1 : Fr, t1 18 = .int .u64 q → t1 16 = .int .u64 r → t1 9 = .int .u64 yn1 →
      wpM E F_math_bits_Div64 135 none c_math_bits_Div64_23 (seqK (fun t' m'' => ∃ j, j < (q - (un32 * 4294967296 + un1) / (yn1 * 4294967296 + yn0)).toNat ∧ (m'' = m' ∧ ∃ q r, t' 18 = .int .u64 q ∧ t' 16 = .int .u64 r ∧ q * yn1 + r = un32 ∧ 0 ≤ q ∧ q ≤ 4294967297 ∧ 0 ≤ r ∧ r < 4294967296 ∧ (un32 * 4294967296 + un1) / (yn1 * 4294967296 + yn0) ≤ q ∧ j = (q - (un32 * 4294967296 + un1) / (yn1 * 4294967296 + yn0)).toNat))
        (blockK 2 fun x t' m'' => x = .normal ∧ m'' = m' ∧ t' 18 = .int .u64 ((un32 * 4294967296 + un1) / (yn1 * 4294967296 + yn0)))) t1 m' := by
    intro hq t1 e15 e16 e9
    have e' : (q - 1) * yn1 + (r + yn1) = un32 := by rw [Int.sub_mul]; omega
    refine step hq _ (fun hr t2 f15 f16 => ?_) (fun hr t2 f15 => ?_) t1 e15 e16 e9
    · exact ⟨_, by omega, rfl, q - 1, r + yn1, f15, f16, e', by omega, by omega, by omega, hr, by omega, rfl⟩
    · refine ⟨rfl, rfl, ?_⟩
      have := hk.big e' hr (by omega) (by omega)
      rw [f15, show q - 1 = (un32 * 4294967296 + un1) / (yn1 * 4294967296 + yn0) by omega]
  simp only [c_math_bits_Div64_24_at, wpM_seq]
  clear step
  generalize c_math_bits_Div64_23 = c at again ⊢
  by_cases hq : 4294967296 ≤ q
  · have d1 : decide (4294967296 ≤ q) = true := by simpa using hq
    simp (decide := true) (implicitDefEqProofs := false) only [go_sem, ↓reduceIte, q15, q16, a9, a10, a13, d1, true_implies, false_implies]
    exact again (by omega) _ (by simp (decide := true) (implicitDefEqProofs := false) only [go_sem, ↓reduceIte, q15]) (by simp (decide := true) (implicitDefEqProofs := false) only [go_sem, ↓reduceIte, q16]) (by simp (decide := true) (implicitDefEqProofs := false) only [go_sem, ↓reduceIte, a9])
  · have d1 : decide (4294967296 ≤ q) = false := by simpa using hq
    have p0 := mul_bd i1 (show q ≤ 4294967295 by omega) B1 (show yn0 ≤ 4294967295 by omega)
    have w1 : IntKind.wrap .u64 (q * yn0) = q * yn0 := wrap_u64_id _ (by omega) (by omega)
    have w2 : IntKind.wrap .u64 (4294967296 * r) = 4294967296 * r := wrap_u64_id _ (by omega) (by omega)
    have w3 : IntKind.wrap .u64 (4294967296 * r + un1) = 4294967296 * r + un1 := wrap_u64_id _ (by omega) (by omega)
    simp (decide := true) (implicitDefEqProofs := false) only [go_sem, ↓reduceIte, q15, q16, a9, a10, a13, d1, w1, w2, w3, true_implies, false_implies]
    refine ⟨fun h => ?_, fun h => ?_⟩
    · exact again (hk.lt e (by simpa using h)) _ (by simp (decide := true) (implicitDefEqProofs := false) only [go_sem, ↓reduceIte, q15]) (by simp (decide := true) (implicitDefEqProofs := false) only [go_sem, ↓reduceIte, q16]) (by simp (decide := true) (implicitDefEqProofs := false) only [go_sem, ↓reduceIte, a9])
    · have := hk.le e (by simpa using h)
      rw [show q = (un32 * 4294967296 + un1) / (yn1 * 4294967296 + yn0) by omega]

end Go.Proofs.Ytmgdmldmialiiaa.W
