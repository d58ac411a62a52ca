/-
  The document's own quotient.
-/
import Derived.Test.YtmgdmldmialiiaaWideR
import Derived.Test.YtmgdmldmialiiaaMoneyB
namespace Go.Proofs.Ytmgdmldmialiiaa.W
open Go.Abs
set_option linter.unusedSimpArgs false
set_option linter.unusedVariables false

theorem dm_step (a D : Nat) (hD : 0 < D) : (D ≤ 2 * (a / 2 % D) + a % 2 → a / D = 2 * (a / 2 / D) + 1 ∧ a % D = 2 * (a / 2 % D) + a % 2 - D) ∧ (2 * (a / 2 % D) + a % 2 < D → a / D = 2 * (a / 2 / D) ∧ a % D = 2 * (a / 2 % D) + a % 2) := by
  have h1 := Nat.div_add_mod (a / 2) D
  have h2 := Nat.mod_lt (a / 2) hD
  have h3 := Nat.div_add_mod a 2
  have h4 := Nat.mod_lt a (show 0 < 2 by decide)
  generalize a / 2 / D = q at *
  generalize a / 2 % D = r at *
  generalize a % 2 = b at *
  generalize a / 2 = c at *
  subst h3
  subst h1
  have e : D * (2 * q) = 2 * (D * q) := Nat.mul_left_comm D 2 q
  refine ⟨fun h => ?_, fun h => ?_⟩
  · refine (Nat.div_mod_unique hD).2 ⟨?_, by omega⟩
    rw [Nat.mul_add, Nat.mul_one, e]
    omega
  · refine (Nat.div_mod_unique hD).2 ⟨?_, by omega⟩
    rw [e]
    omega
theorem or_bit (a b : Nat) (ha : 2 * a < 18446744073709551616) (hb : b < 2) : orI .u64 ((2 * a : Nat) : Int) (b : Int) = ((2 * a + b : Nat) : Int) := by
  rw [orI_u64 _ _ (by omega) (by omega)]
  have := Nat.shiftLeft_add_eq_or_of_lt (i := 1) (b := b) (by simpa using hb) a
  rw [Nat.shiftLeft_eq] at this
  rw [show 2 * a = a * 2 ^ 1 by omega, ← this]
theorem bit_lo (A i : Nat) (hi : i < 64) : A % 18446744073709551616 / 2 ^ i % 2 = A / 2 ^ i % 2 := by
  have e := Nat.testBit_mod_two_pow A 64 i
  have e1 := Nat.testBit_eq_decide_div_mod_eq (x := A % 2 ^ 64) (i := i)
  have e2 := Nat.testBit_eq_decide_div_mod_eq (x := A) (i := i)
  rw [e1, e2] at e
  simp only [hi, decide_true, Bool.true_and, decide_eq_decide] at e
  have := Nat.mod_lt (A % 2 ^ 64 / 2 ^ i) (show 0 < 2 by decide)
  have := Nat.mod_lt (A / 2 ^ i) (show 0 < 2 by decide)
  rw [show (18446744073709551616 : Nat) = 2 ^ 64 by decide]
  omega
theorem bit_hi (A i : Nat) (hi : 64 ≤ i) : A / 18446744073709551616 / 2 ^ (i - 64) = A / 2 ^ i := by
  rw [show (18446744073709551616 : Nat) = 2 ^ 64 by decide, Nat.div_div_eq_div_mul, ← Nat.pow_add, show 64 + (i - 64) = i by omega]
theorem w_hi (H : Nat) (h : H < 9223372036854775808) : IntKind.wrap .u64 (IntKind.wrap .i64 (H : Int)) = (H : Int) := by
  rw [wrap_i64_id _ (by omega) (by omega), wrap_u64_id _ (by omega) (by omega)]
theorem shr_nat (x i : Nat) (h : i ≤ 64) : shrI .u64 (x : Int) (i : Int) = ((x / 2 ^ i : Nat) : Int) := by
  rw [shrI_eq .u64 _ i h, Int.natCast_ediv, Int.natCast_pow]
  rfl
theorem bit_one (n : Nat) : andI .u64 (n : Int) 1 = ((n % 2 : Nat) : Int) := by
  unfold andI
  have : (BitVec.ofInt 64 (n : Int) &&& BitVec.ofInt 64 1).toNat = n % 2 := by
    rw [BitVec.toNat_and, BitVec.toNat_ofInt, BitVec.toNat_ofInt]
    have e2 : (((1 : Int) % (2 ^ 64 : Nat)).toNat) = 2 ^ 1 - 1 := by decide
    rw [e2, Nat.and_two_pow_sub_one_eq_mod]
    omega
  show IntKind.wrap .u64 ((BitVec.ofInt 64 (n : Int) &&& BitVec.ofInt 64 1).toNat : Int) = _
  rw [this, wrap_u64]
  omega

set_option maxRecDepth 100000 in
set_option maxHeartbeats 4000000 in
theorem rQuo_loop (t : Fr) (m : Mem) (b2 b7 A D : Nat) (hD : 0 < D) (hD' : D < 9223372036854775808) (hA : A < 170141183460469231731687303715884105728) (h2 : Box m b2 (Wc A)) (h7 : Box m b7 (Wc 0)) (ne : b2 ≠ b7) {m0 : Mem} (hO : Old m0 m) (z7 : m0.size ≤ b7)
    (t1 : t 1 = .int .i64 D) (t2 : t 2 = Value.pointer (some ⟨b2, 0, none⟩)) (t7 : t 7 = Value.pointer (some ⟨b7, 0, none⟩)) (t8 : t 8 = .int .u64 0) (t9 : t 9 = .int .i64 127) (K : Post3)
    (hK : ∀ t' m', Agree (writes c_sheafref1_Quo_20) t t' → t' 8 = .int .u64 (A % D : Nat) → Box m' b7 (Wc ((A / D : Nat) : Int)) → Old m0 m' → K .normal t' m') :
    wpM E F_sheafref1_Quo 86 none c_sheafref1_Quo_20 K t m := by
  refine wpM_cut (fun t' m' => t' 8 = .int .u64 (A % D : Nat) ∧ Box m' b7 (Wc ((A / D : Nat) : Int)) ∧ Old m0 m') ?_ fun t' m' ha ⟨e1, e2, e3⟩ => hK t' m' ha e1 e2 e3
  simp only [c_sheafref1_Quo_20_at, wpM_block, c_sheafref1_Quo_19_at]
  have e128 : (2 : Nat) ^ 128 = 340282366920938463463374607431768211456 := by decide
  have e0 : A / 2 ^ 128 = 0 := Nat.div_eq_of_lt (by rw [e128]; omega)
  refine wpM_loopA (fun j t' m' => j ≤ 128 ∧ t' 9 = .int .i64 ((j : Int) - 1) ∧ t' 8 = .int .u64 (A / 2 ^ j % D : Nat) ∧ Box m' b2 (Wc A) ∧ Box m' b7 (Wc ((A / 2 ^ j / D : Nat) : Int)) ∧ Old m0 m') 128
    ⟨Nat.le_refl _, t9, by rw [e0, Nat.zero_mod]; exact t8, h2, by rw [e0, Nat.zero_div]; exact h7, hO⟩ ?_
  rintro j t' m' ha ⟨hj, e9, e8, x2, x7, xO⟩
  have a1 := (ha 1 (by decide +kernel)).trans t1
  have a2 := (ha 2 (by decide +kernel)).trans t2
  have a7 := (ha 7 (by decide +kernel)).trans t7
  cases j with
  | zero =>
    have d1 : decide (((0 : Nat) : Int) - 1 ≥ 0) = false := by decide
    simp (decide := true) (implicitDefEqProofs := false) (maxDischargeDepth := 20) only [go_sem, ↓reduceIte, e9, d1, true_implies, false_implies]
    rw [Nat.pow_zero, Nat.div_one] at e8 x7
    exact ⟨e8, x7, xO⟩
  | succ i =>
    have p9 : (((i + 1 : Nat) : Int) - 1) = (i : Int) := by omega
    rw [p9] at e9
    have d1 : decide ((i : Int) ≥ 0) = true := by simp
    have w9 : IntKind.wrap .i64 ((i : Int) - 1) = ((i : Nat) : Int) - 1 := wrap_i64_id _ (by omega) (by omega)
    obtain ⟨a, hae⟩ : ∃ a, a = A / 2 ^ i := ⟨_, rfl⟩
    have ea : A / 2 ^ (i + 1) = a / 2 := by rw [hae, Nat.pow_succ, ← Nat.div_div_eq_div_mul]
    rw [ea] at e8 x7
    have hq : a / 2 / D < 170141183460469231731687303715884105728 := by
      have h1 := Nat.div_le_self A (2 ^ i)
      have h2 := Nat.div_le_self (a / 2) D
      omega
    obtain ⟨f1, f2⟩ := dm_step a D hD
    have hr := Nat.mod_lt (a / 2) hD
    have hb := Nat.mod_lt a (show 0 < 2 by decide)
    have aq := rAdd_ans ((a / 2 / D : Nat) : Int) ((a / 2 / D : Nat) : Int)
    rw [show ((a / 2 / D : Nat) : Int) + ((a / 2 / D : Nat) : Int) = ((2 * (a / 2 / D) : Nat) : Int) by omega] at aq
    have sb : shlI .u64 ((a / 2 % D : Nat) : Int) 1 = ((2 * (a / 2 % D) : Nat) : Int) := by
      have := shl_u64 (a / 2 % D) 1 (by decide)
      rw [show ((1 : Nat) : Int) = 1 from rfl] at this
      rw [this, Nat.mod_eq_of_lt (by omega)]
      omega
    have ob := or_bit (a / 2 % D) (a % 2) (by omega) hb
    have oq : orI .u64 (((2 * (a / 2 / D) : Nat) : Int) % 18446744073709551616) 1 = ((2 * (a / 2 / D) + 1 : Nat) : Int) % 18446744073709551616 := by
      have h := or_bit (a / 2 / D % 9223372036854775808) 1 (by omega) (by decide)
      rw [show ((2 * (a / 2 / D) : Nat) : Int) % 18446744073709551616 = ((2 * (a / 2 / D % 9223372036854775808) : Nat) : Int) by omega]
      rw [show ((1 : Nat) : Int) = 1 from rfl] at h
      rw [h]
      omega
    have wD : IntKind.wrap .u64 (D : Int) = (D : Int) := wrap_u64_id _ (by omega) (by omega)
    generalize a / 2 % D = r at *
    generalize a / 2 / D = q at *
    have eW : IntKind.wrap .i64 (((2 * q + 1 : Nat) : Int) / 18446744073709551616) = IntKind.wrap .i64 (((2 * q : Nat) : Int) / 18446744073709551616) := by rw [show ((2 * q + 1 : Nat) : Int) / 18446744073709551616 = ((2 * q : Nat) : Int) / 18446744073709551616 by omega]
    obtain ⟨tg2, g2⟩ := x2
    obtain ⟨tg7, g7⟩ := x7
    have l2 := getM_lt g2
    have l7 := getM_lt g7
    simp only [Wc] at g2 g7
    have r7 : m'.rows b7 0 2 = some [.int .i64 (IntKind.wrap .i64 (((q : Nat) : Int) / 18446744073709551616)), .int .u64 (((q : Nat) : Int) % 18446744073709551616)] := Box.rows ⟨tg7, g7⟩
    have r20 : m'.at b2 0 = some (.int .i64 (IntKind.wrap .i64 ((A : Int) / 18446744073709551616))) := by unfold Mem.at; rw [g2]; rfl
    have r21 : m'.at b2 1 = some (.int .u64 ((A : Int) % 18446744073709551616)) := by unfold Mem.at; rw [g2]; rfl
    have m2 : m'.size = m'.size := rfl
    simp only [W] at aq
    have ni : ¬ (i : Int) < 0 := by omega
    by_cases hi : i < 64
    · have d3 : decide ((i : Int) ≥ 64) = false := by simp; omega
      have s1 : shrI .u64 ((A : Int) % 18446744073709551616) (i : Int) = ((A % 18446744073709551616 / 2 ^ i : Nat) : Int) := shr_nat (A % 18446744073709551616) i (by omega)
      have s2 := bit_one (A % 18446744073709551616 / 2 ^ i)
      rw [bit_lo A i hi, ← hae] at s2
      by_cases hs : D ≤ 2 * r + a % 2
      · obtain ⟨v1, v2⟩ := f1 hs
        have d2 : decide (((2 * r + a % 2 : Nat) : Int) ≥ (D : Int)) = true := by simp; omega
        have ws : IntKind.wrap .u64 (((2 * r + a % 2 : Nat) : Int) - (D : Int)) = ((a % D : Nat) : Int) := by rw [wrap_u64_id _ (by omega) (by omega)]; omega
        simp (decide := true) (implicitDefEqProofs := false) (maxDischargeDepth := 20) only [go_sem, ↓reduceIte, a1, a2, a7, e8, e9, d1, d3, r20, r21, s1, s2, ni, w9, sb, ob, aq.eq, r7, g7, l7, d2, ws, wD, oq, true_implies, false_implies]
        refine ⟨i, by omega, by omega, rfl, by rw [← hae], ⟨tg2, ?_⟩, ?_, ?_⟩
        · simp (decide := true) (maxDischargeDepth := 20) only [go_sem, ne, Ne.symm ne, l2, g2, ↓reduceIte]
          rfl
        · rw [← hae, v1]
          unfold Wc
          rw [eW]
          exact .put (by simp (decide := true) (maxDischargeDepth := 20) only [go_sem, l7])
        · simp (decide := true) (maxDischargeDepth := 20) only [go_sem, xO, z7]
      · obtain ⟨v1, v2⟩ := f2 (by omega)
        have d2 : decide (((2 * r + a % 2 : Nat) : Int) ≥ (D : Int)) = false := by simp; omega
        simp (decide := true) (implicitDefEqProofs := false) (maxDischargeDepth := 20) only [go_sem, ↓reduceIte, a1, a2, a7, e8, e9, d1, d3, r20, r21, s1, s2, ni, w9, sb, ob, aq.eq, r7, g7, l7, d2, wD, true_implies, false_implies]
        refine ⟨i, by omega, by omega, rfl, by rw [← hae, v2], ⟨tg2, ?_⟩, ?_, ?_⟩
        · simp (decide := true) (maxDischargeDepth := 20) only [go_sem, ne, Ne.symm ne, l2, g2, ↓reduceIte]
          rfl
        · rw [← hae, v1]
          exact .put (by simp (decide := true) (maxDischargeDepth := 20) only [go_sem, l7])
        · simp (decide := true) (maxDischargeDepth := 20) only [go_sem, xO, z7]
    · have d3 : decide ((i : Int) ≥ 64) = true := by simp; omega
      obtain ⟨H, hH⟩ : ∃ H, H = A / 18446744073709551616 := ⟨_, rfl⟩
      have hH2 : ((A : Int) / 18446744073709551616) = (H : Int) := by omega
      have hH3 : H / 2 ^ (i - 64) = a := by rw [hH, bit_hi A i (by omega), hae]
      have w4 : IntKind.wrap .i64 ((i : Int) - 64) = ((i - 64 : Nat) : Int) := by rw [wrap_i64_id _ (by omega) (by omega)]; omega
      have w5 : IntKind.wrap .u64 (IntKind.wrap .i64 ((A : Int) / 18446744073709551616)) = (H : Int) := by rw [hH2]; exact w_hi H (by rw [hH]; exact Nat.div_lt_of_lt_mul hA)
      have s1 := shr_nat H (i - 64) (by omega)
      have s2 := bit_one (H / 2 ^ (i - 64))
      rw [hH3] at s1 s2
      have s3 : shrI .u64 ((A : Int) % 18446744073709551616) (i : Int) = (A : Int) % 18446744073709551616 / 2 ^ 64 := by
        unfold shrI
        rw [Int.toNat_natCast, show min i IntKind.u64.bits = 64 from by show min i 64 = 64; omega]
        exact Int.fdiv_eq_ediv_of_nonneg _ (by decide)
      have n0 : ¬ ((i - 64 : Nat) : Int) < 0 := by omega
      by_cases hs : D ≤ 2 * r + a % 2
      · obtain ⟨v1, v2⟩ := f1 hs
        have d2 : decide (((2 * r + a % 2 : Nat) : Int) ≥ (D : Int)) = true := by simp; omega
        have ws : IntKind.wrap .u64 (((2 * r + a % 2 : Nat) : Int) - (D : Int)) = ((a % D : Nat) : Int) := by rw [wrap_u64_id _ (by omega) (by omega)]; omega
        simp (decide := true) (implicitDefEqProofs := false) (maxDischargeDepth := 20) only [go_sem, ↓reduceIte, a1, a2, a7, e8, e9, d1, d3, r20, r21, s1, s2, s3, n0, ni, w4, w5, w9, sb, ob, aq.eq, r7, g7, l7, d2, ws, wD, oq, true_implies, false_implies]
        refine ⟨i, by omega, by omega, rfl, by rw [← hae], ⟨tg2, ?_⟩, ?_, ?_⟩
        · simp (decide := true) (maxDischargeDepth := 20) only [go_sem, ne, Ne.symm ne, l2, g2, ↓reduceIte]
          rfl
        · rw [← hae, v1]
          unfold Wc
          rw [eW]
          exact .put (by simp (decide := true) (maxDischargeDepth := 20) only [go_sem, l7])
        · simp (decide := true) (maxDischargeDepth := 20) only [go_sem, xO, z7]
      · obtain ⟨v1, v2⟩ := f2 (by omega)
        have d2 : decide (((2 * r + a % 2 : Nat) : Int) ≥ (D : Int)) = false := by simp; omega
        simp (decide := true) (implicitDefEqProofs := false) (maxDischargeDepth := 20) only [go_sem, ↓reduceIte, a1, a2, a7, e8, e9, d1, d3, r20, r21, s1, s2, s3, n0, ni, w4, w5, w9, sb, ob, aq.eq, r7, g7, l7, d2, wD, true_implies, false_implies]
        refine ⟨i, by omega, by omega, rfl, by rw [← hae, v2], ⟨tg2, ?_⟩, ?_, ?_⟩
        · simp (decide := true) (maxDischargeDepth := 20) only [go_sem, ne, Ne.symm ne, l2, g2, ↓reduceIte]
          rfl
        · rw [← hae, v1]
          exact .put (by simp (decide := true) (maxDischargeDepth := 20) only [go_sem, l7])
        · simp (decide := true) (maxDischargeDepth := 20) only [go_sem, xO, z7]

set_option maxRecDepth 100000 in
set_option maxHeartbeats 4000000 in
theorem rQuo_rest (x : Int) (hx : -170141183460469231731687303715884105727 < x) (hx' : x < 170141183460469231731687303715884105727) (D : Nat) (hD : 0 < D) (hD' : (D : Int) < 9223372036854775808) (t : Fr) (m m0 : Mem) (b7 : Nat)
    (t1 : t 1 = .int .i64 D) (t6 : t 6 = .bool (decide (x < 0))) (t7 : t 7 = .pointer (some ⟨b7, 0, none⟩)) (t8 : t 8 = .int .u64 (x.natAbs % D : Nat)) (x7 : Box m b7 (Wc ((x.natAbs / D : Nat) : Int))) (hO : Old m0 m) (z7 : m0.size ≤ b7) :
    wpM E F_sheafref1_Quo 86 none c_sheafref1_Quo_29 (retK (ResK E [.tmp 4, .tmp 5] fun w m' => w = quoA x D ∧ Old m0 m')) t m := by
  obtain ⟨A, hA⟩ : ∃ A, A = x.natAbs := ⟨_, rfl⟩
  obtain ⟨q, hq⟩ : ∃ q, q = A / D := ⟨_, rfl⟩
  obtain ⟨s, hs⟩ : ∃ s, s = A % D := ⟨_, rfl⟩
  have hs' : s < D := by rw [hs]; exact Nat.mod_lt _ hD
  have hq' : q ≤ A := by rw [hq]; exact Nat.div_le_self A D
  obtain ⟨N, hN⟩ : ∃ N, N = near A D := ⟨_, rfl⟩
  have hN2 := hN
  unfold near at hN2
  rw [← hA, ← hs] at t8
  rw [← hA, ← hq] at x7
  rw [← hs, ← hq] at hN2
  have wD : IntKind.wrap .u64 (D : Int) = (D : Int) := wrap_u64_id _ (by omega) (by omega)
  have w1 : IntKind.wrap .u64 ((D : Int) - (s : Int)) = ((D - s : Nat) : Int) := by rw [wrap_u64_id _ (by omega) (by omega)]; omega
  have a1 := bit_one (q % 18446744073709551616)
  rw [show q % 18446744073709551616 % 2 = q % 2 by omega, Int.natCast_emod] at a1
  have a1 : andI .u64 ((q : Int) % 18446744073709551616) 1 = ((q % 2 : Nat) : Int) := a1
  have aq := rAdd_ans (q : Int) 1
  rw [show (q : Int) + 1 = ((q + 1 : Nat) : Int) by omega] at aq
  have hW1 : W 1 = .agg #[.int .i64 0, .int .u64 1] := by
    unfold W
    rw [show IntKind.wrap .i64 (1 / 18446744073709551616) = 0 by decide, show (1 : Int) % 18446744073709551616 = 1 by decide]
  rw [hW1] at aq
  have l7 := x7.lt
  have rr := x7.rows
  obtain ⟨tg7, g7⟩ := x7
  have r71 : m.at b7 1 = some (.int .u64 ((q : Int) % 18446744073709551616)) := by unfold Mem.at; rw [g7]; rfl
  simp only [Wc, List.length_cons, List.length_nil, Nat.zero_add] at rr g7
  have r70 : m.rows b7 0 2 = some [.int .i64 (IntKind.wrap .i64 ((q : Int) / 18446744073709551616)), .int .u64 ((q : Int) % 18446744073709551616)] := rr
  have nN := rneg_ans (N : Int)
  have iN : Ans E F_sheafref1_Int [W (quoI x D)] (quoA x D) := by
    refine rInt_ans (quoI x D) ?_ ?_ <;> (unfold quoI; rw [← hA, ← hN]; split <;> (split at hN2 <;> omega))
  have eQ : quoI x D = if x < 0 then -(N : Int) else (N : Int) := by unfold quoI; rw [← hA, ← hN]
  rw [eQ] at iN
  have end_ : ∀ (mn : Bool), decide (x < 0) = mn → (mn = true → Ans E F_sheafref1_Int [W (-(N : Int))] (quoA x D)) ∧ (mn = false → Ans E F_sheafref1_Int [W (N : Int)] (quoA x D)) := by
    intro mn h
    subst h
    refine ⟨fun h => ?_, fun h => ?_⟩
    · rw [if_pos (by simpa using h)] at iN; exact iN
    · rw [if_neg (by simpa using h)] at iN; exact iN
  have hres : ∃ p c, quoA x D = Value.tuple #[.int .i64 p, .bool c] := by unfold quoA; split; exact ⟨_, _, rfl⟩; exact ⟨_, _, rfl⟩
  generalize quoA x D = res at *
  obtain ⟨e1, e2⟩ := end_ _ rfl
  simp only [W] at aq nN e1 e2
  have step : ∀ (t3 : Fr) (K : Post3), t3 7 = .pointer (some ⟨b7, 0, none⟩) → t3 8 = .int .u64 (s : Nat) → t3 11 = .int .u64 ((D - s : Nat) : Int) →
      (∀ t' m', Agree (writes c_sheafref1_Quo_23) t3 t' → Box m' b7 (Wc N) → Old m0 m' → K .normal t' m') → wpM E F_sheafref1_Quo 86 none c_sheafref1_Quo_23 K t3 m := by
    intro t3 K k7 k8 k11 k
    refine wpM_cut (fun t' m' => Box m' b7 (Wc N) ∧ Old m0 m') ?_ (fun t' m' ag h => k t' m' ag h.1 h.2)
    by_cases h2 : D - s < s
    · have d3 : decide ((s : Int) > ((D - s : Nat) : Int)) = true := by simp; omega
      rw [if_pos (by omega)] at hN2
      simp (decide := true) (implicitDefEqProofs := false) (maxDischargeDepth := 20) only [go_sem, ↓reduceIte, k7, k8, k11, d3, aq.eq, r70, r71, g7, l7, true_implies, false_implies]
      rw [hN2]
      exact ⟨.put (by simp (decide := true) (maxDischargeDepth := 20) only [go_sem, l7]), by simp (decide := true) (maxDischargeDepth := 20) only [go_sem, hO, z7]⟩
    · have d3 : decide ((s : Int) > ((D - s : Nat) : Int)) = false := by simp; omega
      by_cases h3 : s = D - s
      · have d4 : ((s : Int) == ((D - s : Nat) : Int)) = true := by simp; omega
        by_cases h4 : q % 2 = 1
        · have d5 : (((q % 2 : Nat) : Int) == 1) = true := by simp; omega
          rw [if_pos (by omega)] at hN2
          simp (decide := true) (implicitDefEqProofs := false) (maxDischargeDepth := 20) only [go_sem, ↓reduceIte, k7, k8, k11, d3, d4, a1, d5, aq.eq, r70, r71, g7, l7, true_implies, false_implies]
          rw [hN2]
          exact ⟨.put (by simp (decide := true) (maxDischargeDepth := 20) only [go_sem, l7]), by simp (decide := true) (maxDischargeDepth := 20) only [go_sem, hO, z7]⟩
        · have d5 : (((q % 2 : Nat) : Int) == 1) = false := by simp; omega
          rw [if_neg (by omega)] at hN2
          simp (decide := true) (implicitDefEqProofs := false) (maxDischargeDepth := 20) only [go_sem, ↓reduceIte, k7, k8, k11, d3, d4, a1, d5, r71, true_implies, false_implies]
          rw [hN2]
          exact ⟨⟨tg7, g7⟩, hO⟩
      · have d4 : ((s : Int) == ((D - s : Nat) : Int)) = false := by simp; omega
        rw [if_neg (by omega)] at hN2
        simp (decide := true) (implicitDefEqProofs := false) (maxDischargeDepth := 20) only [go_sem, ↓reduceIte, k7, k8, k11, d3, d4, true_implies, false_implies]
        rw [hN2]
        exact ⟨⟨tg7, g7⟩, hO⟩
  obtain ⟨p, c, hpc⟩ : ∃ p c, res = Value.tuple #[.int .i64 p, .bool c] := hres
  rw [hpc] at e1 e2 ⊢
  rw [c_sheafref1_Quo_29_at, wpM_seq]
  generalize hc : c_sheafref1_Quo_28 = c28
  simp (decide := true) (implicitDefEqProofs := false) (maxDischargeDepth := 20) only [go_sem, ↓reduceIte, t1, t8, wD, w1, true_implies, false_implies]
  subst hc
  rw [c_sheafref1_Quo_28_at, wpM_seq]
  refine step _ _ (by simp (decide := true) only [go_sem, t7, ↓reduceIte]) (by simp (decide := true) only [go_sem, t8, ↓reduceIte]) (by simp (decide := true) only [go_sem, ↓reduceIte]) fun t' m' ag x7 hO' => ?_
  have k6 := ag 6 (by decide +kernel)
  have k7 := ag 7 (by decide +kernel)
  simp (decide := true) only [go_sem, t6, t7, ↓reduceIte] at k6 k7
  clear ag step
  rw [seqK_normal]
  have l7' := x7.lt
  have rr' := x7.rows
  obtain ⟨tg7', g7'⟩ := x7
  simp only [Wc, List.length_cons, List.length_nil, Nat.zero_add] at rr' g7'
  cases hx0 : decide (x < 0) with
  | true =>
    rw [hx0] at k6
    have e1 := e1 hx0
    simp (decide := true) (implicitDefEqProofs := false) (maxDischargeDepth := 20) only [go_sem, ↓reduceIte, k6, k7, nN.eq, e1.eq, rr', g7', l7', hO', z7, true_implies, false_implies]
  | false =>
    rw [hx0] at k6
    have e2 := e2 hx0
    simp (decide := true) (implicitDefEqProofs := false) (maxDischargeDepth := 20) only [go_sem, ↓reduceIte, k6, k7, e2.eq, rr', g7', l7', hO', z7, true_implies, false_implies]

set_option maxRecDepth 100000 in
set_option maxHeartbeats 4000000 in
theorem rQuo_ans (x : Int) (hx : -170141183460469231731687303715884105727 < x) (hx' : x < 170141183460469231731687303715884105727) (D : Nat) (hD : 0 < D) (hD' : (D : Int) < 9223372036854775808) :
    Ans E F_sheafref1_Quo [W x, .int .i64 D] (quoA x D) := by
  refine .of fn_sheafref1_Quo (by simp) fun m => ?_
  have d0 : decide ((D : Int) ≤ 0) = false := by simp; omega
  have u1 : IntKind.wrap .i64 (x / 18446744073709551616) = x / 18446744073709551616 := wrap_i64_id _ (by omega) (by omega)
  have dm : decide (x / 18446744073709551616 < 0) = decide (x < 0) := by rw [decide_eq_decide]; omega
  have nX := rneg_ans x
  have rest := rQuo_rest x hx hx' D hD hD'
  simp only [W] at nX
  rw [u1] at nX
  cases hx0 : decide (x < 0) with
  | true =>
    have eA : (x.natAbs : Int) = -x := by have : x < 0 := (by simpa using hx0); omega
    rw [hx0] at rest
    simp (decide := true) (implicitDefEqProofs := false) (maxDischargeDepth := 20) only [go_sem, ↓reduceIte, d0, u1, dm, hx0, nX.eq, W, true_implies, false_implies]
    have oN : Old (m.push (.cells false true [.int .i64 (x / 18446744073709551616), .int .u64 (x % 18446744073709551616)])) (ansM E F_sheafref1_neg #[.agg #[.int .i64 (x / 18446744073709551616), .int .u64 (x % 18446744073709551616)]] [] (m.push (.cells false true [.int .i64 (x / 18446744073709551616), .int .u64 (x % 18446744073709551616)]))) := .ansM (.refl _)
    generalize ansM E F_sheafref1_neg #[.agg #[.int .i64 (x / 18446744073709551616), .int .u64 (x % 18446744073709551616)]] [] (m.push (.cells false true [.int .i64 (x / 18446744073709551616), .int .u64 (x % 18446744073709551616)])) = M1 at *
    have zM := oN.size
    rw [size_push] at zM
    have oM : Old m M1 := ((Old.refl m).push _).trans oN
    have y1 : m.size < M1.size := by omega
    have y2 : m.size ≤ M1.size := by omega
    have y3 : ¬ m.size = M1.size := by omega
    have y4 : ¬ M1.size = m.size := by omega
    refine rQuo_loop _ _ m.size M1.size x.natAbs D hD (by omega) (by omega) ?_ ?_ y3 (m0 := m) ?_ y2 (by simp (decide := true) only [go_sem, ↓reduceIte]) (by simp (decide := true) only [go_sem, ↓reduceIte]) (by simp (decide := true) only [go_sem, ↓reduceIte]) (by simp (decide := true) only [go_sem, ↓reduceIte]) (by simp (decide := true) only [go_sem, ↓reduceIte]) _ ?_
    · refine ⟨true, ?_⟩
      simp (decide := true) (maxDischargeDepth := 20) only [go_sem, y1, y3, y4, ↓reduceIte]
      rw [eA]
      rfl
    · refine ⟨true, ?_⟩
      simp (decide := true) (maxDischargeDepth := 20) only [go_sem, y1, y3, y4, ↓reduceIte]
      rfl
    · simp (decide := true) (maxDischargeDepth := 20) only [go_sem, oM, y2, Nat.le_refl]
    · intro t' m' ag k8 x7 hO
      have k1 := ag 1 (by decide +kernel)
      have k6 := ag 6 (by decide +kernel)
      have k7 := ag 7 (by decide +kernel)
      simp (decide := true) only [go_sem, ↓reduceIte] at k1 k6 k7
      rw [seqK_normal]
      exact rest t' m' m M1.size k1 k6 k7 k8 x7 hO y2
  | false =>
    have eA : (x.natAbs : Int) = x := by have : ¬ x < 0 := (by simpa using hx0); omega
    rw [hx0] at rest
    simp (decide := true) (implicitDefEqProofs := false) (maxDischargeDepth := 20) only [go_sem, ↓reduceIte, d0, u1, dm, hx0, W, true_implies, false_implies]
    refine rQuo_loop _ _ m.size (m.size + 1) x.natAbs D hD (by omega) (by omega) ?_ ?_ (by omega) (m0 := m) ?_ (by omega) (by simp (decide := true) only [go_sem, ↓reduceIte]) (by simp (decide := true) only [go_sem, ↓reduceIte]) (by simp (decide := true) only [go_sem, ↓reduceIte]) (by simp (decide := true) only [go_sem, ↓reduceIte]) (by simp (decide := true) only [go_sem, ↓reduceIte]) _ ?_
    · refine ⟨true, ?_⟩
      simp (decide := true) (maxDischargeDepth := 20) only [go_sem, ↓reduceIte]
      rw [eA]
      unfold Wc
      rw [u1]
    · refine ⟨true, ?_⟩
      simp (decide := true) (maxDischargeDepth := 20) only [go_sem, ↓reduceIte]
      rfl
    · simp (decide := true) (maxDischargeDepth := 20) only [go_sem, Nat.le_refl]
    · intro t' m' ag k8 x7 hO
      have k1 := ag 1 (by decide +kernel)
      have k6 := ag 6 (by decide +kernel)
      have k7 := ag 7 (by decide +kernel)
      simp (decide := true) only [go_sem, ↓reduceIte] at k1 k6 k7
      rw [seqK_normal]
      exact rest t' m' m (m.size + 1) k1 k6 k7 k8 x7 hO (by omega)

set_option maxRecDepth 100000 in
theorem rQuo_none (x d : Int) (hd : d ≤ 0) : Ans E F_sheafref1_Quo [W x, .int .i64 d] (.tuple #[.int .i64 0, .bool false]) := by
  refine .of fn_sheafref1_Quo (by simp) fun m => ?_
  have d0 : decide (d ≤ 0) = true := by simpa using hd
  simp (decide := true) (implicitDefEqProofs := false) (maxDischargeDepth := 20) only [go_sem, ↓reduceIte, d0, W, true_implies, false_implies]
end Go.Proofs.Ytmgdmldmialiiaa.W
