/-
  Quo answers the nearest quotient, half to the even.
-/
import Derived.Test.YtmgdmldmialiiaaWideD
namespace Go.Proofs.Ytmgdmldmialiiaa.W
open Go.Abs
set_option linter.unusedSimpArgs false
set_option linter.unusedVariables false

/-- The nearest quotient of two numbers, half to the even. -/
def near (a d : Nat) : Nat := if d < 2 * (a % d) ∨ (d = 2 * (a % d) ∧ a / d % 2 = 1) then a / d + 1 else a / d
def quoI (x : Int) (d : Nat) : Int := if x < 0 then -(near x.natAbs d : Int) else (near x.natAbs d : Int)

theorem near_ge (a d : Nat) : a / d ≤ near a d := by unfold near; split <;> omega
theorem near_le (a d : Nat) : near a d ≤ a / d + 1 := by unfold near; split <;> omega

theorem and_one (a : Nat) (h : a < 18446744073709551616) : andI .u64 (a : Int) 1 = ((a % 2 : Nat) : Int) := by
  unfold andI
  have : (BitVec.ofInt 64 (a : Int) &&& BitVec.ofInt 64 1).toNat = a % 2 := by
    rw [BitVec.toNat_and, BitVec.toNat_ofInt, BitVec.toNat_ofInt]
    have e1 : (((a : Int) % (2 ^ 64 : Nat)).toNat) = a := by omega
    have e2 : (((1 : Int) % (2 ^ 64 : Nat)).toNat) = 2 ^ 1 - 1 := by decide
    rw [e1, e2, Nat.and_two_pow_sub_one_eq_mod]
  show IntKind.wrap .u64 ((BitVec.ofInt 64 (a : Int) &&& BitVec.ofInt 64 1).toNat : Int) = _
  rw [this, wrap_u64]
  omega

/-- What Quo answers. -/
def quoA (x : Int) (d : Nat) : Value := if -9223372036854775808 ≤ quoI x d ∧ quoI x d < 9223372036854775808 then .tuple #[.int .i64 (quoI x d), .bool true] else .tuple #[.int .i64 0, .bool false]

set_option maxHeartbeats 1000000 in
set_option maxRecDepth 100000 in
theorem Quo_none (x d : Int) (hd : d ≤ 0) : Ans E F_wide_Quo [W x, .int .i64 d] (.tuple #[.int .i64 0, .bool false]) := by
  refine .of fn_wide_Quo (by simp) fun m => ?_
  have d0 : decide (d ≤ 0) = true := by simpa using hd
  simp (decide := true) (implicitDefEqProofs := false) (maxDischargeDepth := 20) only [go_sem, ↓reduceIte, d0, W, true_implies, false_implies]

set_option maxHeartbeats 4000000 in
set_option maxRecDepth 100000 in
theorem Quo_ans (x : Int) (hx : -170141183460469231731687303715884105728 ≤ x) (hx' : x < 170141183460469231731687303715884105728) (D : Nat) (hD : 0 < D) (hD' : (D : Int) < 9223372036854775808) :
    Ans E F_wide_Quo [W x, .int .i64 D] (quoA x D) := by
  generalize hr : quoA x D = r
  refine .of fn_wide_Quo (by simp) fun m => ?_
  have d0 : decide ((D : Int) ≤ 0) = false := by simp; omega
  have w0 : IntKind.wrap .u64 (D : Int) = (D : Int) := wrap_u64_id _ (by omega) (by omega)
  simp (decide := true) (implicitDefEqProofs := false) (maxDischargeDepth := 20) only [go_sem, ↓reduceIte, d0, W, true_implies, false_implies]
  refine (size_ans x hx hx').use fun l => ?_
  obtain ⟨A, hA⟩ : ∃ A, A = x.natAbs := ⟨_, rfl⟩
  obtain ⟨H, hH⟩ : ∃ H, H = A / 18446744073709551616 := ⟨_, rfl⟩
  obtain ⟨L, hL⟩ : ∃ L, L = A % 18446744073709551616 := ⟨_, rfl⟩
  have eH : ((x.natAbs : Int) / 18446744073709551616) = (H : Int) := by omega
  have eL : ((x.natAbs : Int) % 18446744073709551616) = (L : Int) := by omega
  rw [eH, eL]
  unfold quoA quoI at hr
  rw [← hA] at hr
  have nge := near_ge A D
  have nle := near_le A D
  by_cases hh : D ≤ H
  · have d1 : decide ((D : Int) ≤ (H : Int)) = true := by simp; omega
    have big : 18446744073709551616 ≤ A / D := by
      rw [Nat.le_div_iff_mul_le hD]
      have := Nat.mul_le_mul_left 18446744073709551616 hh
      omega
    rw [if_neg (by split <;> omega)] at hr
    simp (decide := true) (implicitDefEqProofs := false) (maxDischargeDepth := 20) only [go_sem, ↓reduceIte, d1, w0, hr, true_implies, false_implies]
  · have d1 : decide ((D : Int) ≤ (H : Int)) = false := by simp; omega
    simp (decide := true) (implicitDefEqProofs := false) (maxDischargeDepth := 20) only [go_sem, ↓reduceIte, d1, w0, true_implies, false_implies]
    refine (Div64_ans H L D (by omega) (by omega) (by omega)).use fun l2 => ?_
    have eA : H * 18446744073709551616 + L = A := by omega
    rw [eA]
    obtain ⟨q, hq⟩ : ∃ q, q = A / D := ⟨_, rfl⟩
    obtain ⟨s, hs⟩ : ∃ s, s = A % D := ⟨_, rfl⟩
    have hs' : s < D := by rw [hs]; exact Nat.mod_lt _ hD
    have hq' : q < 18446744073709551616 := by
      rw [hq, Nat.div_lt_iff_lt_mul hD]
      have := Nat.mul_le_mul_left 18446744073709551616 (show H + 1 ≤ D by omega)
      omega
    rw [← hq, ← hs]
    rw [← hq] at nge nle
    obtain ⟨N, hN⟩ : ∃ N, N = near A D := ⟨_, rfl⟩
    have hN2 := hN
    unfold near at hN2
    rw [← hq, ← hs] at hN2
    rw [← hN] at hr nge nle
    have w1 : IntKind.wrap .u64 ((D : Int) - (s : Int)) = ((D - s : Nat) : Int) := by rw [wrap_u64_id _ (by omega) (by omega)]; omega
    have a1 := and_one q hq'
    -- the sign
    obtain ⟨mn, hmn⟩ : ∃ mn, mn = decide (x < 0) := ⟨_, rfl⟩
    rw [← hmn]
    -- the end, for whatever is in place
    have fin : ∀ (n : Nat), (n = N ∨ (9223372036854775808 < n ∧ 9223372036854775808 < N)) → n < 18446744073709551616 → ∀ (t : Fr) (m' : Mem) (_ : Old m m'), t 9 = .int .u64 n → t 8 = .bool mn → wpM E F_wide_Quo 73 none c_wide_Quo_17 (retK (ResK E [ResultVar.tmp 4, ResultVar.tmp 5] fun w m' => w = r ∧ Old m m')) t m' := by
      intro n hn hn' t m' ho t9 t8
      by_cases hx0 : x < 0
      · have e1 : mn = true := by rw [hmn]; simpa using hx0
        subst e1
        rw [if_pos hx0] at hr
        by_cases hb : n ≤ 9223372036854775808
        · have d2 : decide ((n : Int) ≤ 9223372036854775808) = true := by simp; omega
          have w2 : IntKind.wrap .i64 (IntKind.wrap .u64 (0 - (n : Int))) = -(N : Int) := by rw [wrap_i64, wrap_u64]; omega
          rw [if_pos (by omega)] at hr
          simp (decide := true) (implicitDefEqProofs := false) (maxDischargeDepth := 20) only [go_sem, ↓reduceIte, t9, t8, d2, w2, hr, ho, true_implies, false_implies]
        · have d2 : decide ((n : Int) ≤ 9223372036854775808) = false := by simp; omega
          rw [if_neg (by omega)] at hr
          simp (decide := true) (implicitDefEqProofs := false) (maxDischargeDepth := 20) only [go_sem, ↓reduceIte, t9, t8, d2, hr, ho, Bool.not_true, true_implies, false_implies]
      · have e1 : mn = false := by rw [hmn]; simpa using hx0
        subst e1
        rw [if_neg hx0] at hr
        by_cases hb : n ≤ 9223372036854775807
        · have d2 : decide ((n : Int) ≤ 9223372036854775807) = true := by simp; omega
          have w2 : IntKind.wrap .i64 (n : Int) = (N : Int) := by rw [wrap_i64_id _ (by omega) (by omega)]; omega
          rw [if_pos (by omega)] at hr
          simp (decide := true) (implicitDefEqProofs := false) (maxDischargeDepth := 20) only [go_sem, ↓reduceIte, t9, t8, d2, w2, hr, ho, Bool.not_false, true_implies, false_implies]
        · have d2 : decide ((n : Int) ≤ 9223372036854775807) = false := by simp; omega
          rw [if_neg (by omega)] at hr
          simp (decide := true) (implicitDefEqProofs := false) (maxDischargeDepth := 20) only [go_sem, ↓reduceIte, t9, t8, d2, hr, ho, Bool.not_false, true_implies, false_implies]
    have w3 : q ≤ 9223372036854775808 → IntKind.wrap .u64 ((q : Int) + 1) = ((q + 1 : Nat) : Int) := fun h => by rw [wrap_u64_id _ (by omega) (by omega)]; omega
    have step8 : ∀ (t : Fr) (m1 : Mem) (K : Post3), t 1 = .int .i64 D → t 9 = .int .u64 q → t 10 = .int .u64 s →
        (∀ (t' : Fr) (n : Nat), Agree (writes c_wide_Quo_8) t t' → t' 9 = .int .u64 n → (n = N ∨ (9223372036854775808 < n ∧ 9223372036854775808 < N)) → n < 18446744073709551616 → K .normal t' m1) → wpM E F_wide_Quo 73 none c_wide_Quo_8 K t m1 := by
      intro t m1 K t1 t9 t10 k
      refine wpM_cut (fun t' m' => m' = m1 ∧ ∃ n : Nat, t' 9 = .int .u64 n ∧ (n = N ∨ (9223372036854775808 < n ∧ 9223372036854775808 < N)) ∧ n < 18446744073709551616) ?_ (fun t' m' ag ⟨e, n, k1, k2, k3⟩ => e ▸ k t' n ag k1 k2 k3)
      by_cases h1 : q ≤ 9223372036854775808
      · have d2 : decide ((q : Int) ≤ 9223372036854775808) = true := by simp; omega
        by_cases h2 : D - s < s
        · have d3 : decide ((s : Int) > ((D - s : Nat) : Int)) = true := by simp; omega
          rw [if_pos (by omega)] at hN2
          simp (decide := true) (implicitDefEqProofs := false) (maxDischargeDepth := 20) only [go_sem, ↓reduceIte, t1, t9, t10, w0, w1, d2, d3, w3 h1, true_implies, false_implies]
          exact ⟨q + 1, rfl, by omega, by omega⟩
        · have d3 : decide ((s : Int) > ((D - s : Nat) : Int)) = false := by simp; omega
          by_cases h3 : s = D - s
          · have d4 : ((s : Int) == ((D - s : Nat) : Int)) = true := by simp; omega
            by_cases h4 : q % 2 = 1
            · have d5 : (((q % 2 : Nat) : Int) == 1) = true := by simp; omega
              rw [if_pos (by omega)] at hN2
              simp (decide := true) (implicitDefEqProofs := false) (maxDischargeDepth := 20) only [go_sem, ↓reduceIte, t1, t9, t10, w0, w1, d2, d3, d4, a1, d5, w3 h1, true_implies, false_implies]
              exact ⟨q + 1, rfl, by omega, by omega⟩
            · have d5 : (((q % 2 : Nat) : Int) == 1) = false := by simp; omega
              rw [if_neg (by omega)] at hN2
              simp (decide := true) (implicitDefEqProofs := false) (maxDischargeDepth := 20) only [go_sem, ↓reduceIte, t1, t9, t10, w0, w1, d2, d3, d4, a1, d5, true_implies, false_implies]
              exact ⟨q, rfl, by omega, by omega⟩
          · have d4 : ((s : Int) == ((D - s : Nat) : Int)) = false := by simp; omega
            rw [if_neg (by omega)] at hN2
            simp (decide := true) (implicitDefEqProofs := false) (maxDischargeDepth := 20) only [go_sem, ↓reduceIte, t1, t9, t10, w0, w1, d2, d3, d4, true_implies, false_implies]
            exact ⟨q, rfl, by omega, by omega⟩
      · have d2 : decide ((q : Int) ≤ 9223372036854775808) = false := by simp; omega
        simp (decide := true) (implicitDefEqProofs := false) (maxDischargeDepth := 20) only [go_sem, ↓reduceIte, t1, t9, t10, w0, w1, d2, true_implies, false_implies]
        exact ⟨q, rfl, by omega, by omega⟩
    generalize hc18 : c_wide_Quo_18 = c18
    simp (decide := true) (implicitDefEqProofs := false) (maxDischargeDepth := 20) only [go_sem, ↓reduceIte, w0, true_implies, false_implies]
    subst hc18
    rw [c_wide_Quo_18_at, wpM_seq]
    refine step8 _ _ _ (by simp (decide := true) (implicitDefEqProofs := false) only [go_sem, ↓reduceIte]) (by simp (decide := true) (implicitDefEqProofs := false) only [go_sem, ↓reduceIte]) (by simp (decide := true) (implicitDefEqProofs := false) only [go_sem, ↓reduceIte]) fun t' n ag k1 k2 k3 => ?_
    rw [seqK_normal]
    refine fin n k2 k3 t' _ ?_ k1 ?_
    · simp (decide := true) (implicitDefEqProofs := false) (maxDischargeDepth := 20) only [go_sem, ↓reduceIte]
    rw [ag 8 (by decide +kernel)]
    simp (decide := true) (implicitDefEqProofs := false) only [go_sem, ↓reduceIte]
end Go.Proofs.Ytmgdmldmialiiaa.W
