/-
  Div64 and Quo.
-/
import Derived.Test.YtmgdmldmialiiaaWideC
namespace Go.Proofs.Ytmgdmldmialiiaa.W
open Go.Abs
set_option linter.unusedSimpArgs false
set_option linter.unusedVariables false

theorem or_disj (a b s : Nat) (hb : b < 2 ^ s) (h : a * 2 ^ s + b < 18446744073709551616) : orI .u64 ((a * 2 ^ s : Nat) : Int) (b : Int) = ((a * 2 ^ s + b : Nat) : Int) := by
  unfold orI
  have e : ∀ x : Nat, x < 18446744073709551616 → (BitVec.ofInt 64 (x : Int)).toNat = x := fun x hx => by
    rw [BitVec.toNat_ofInt]
    omega
  have : (BitVec.ofInt 64 ((a * 2 ^ s : Nat) : Int) ||| BitVec.ofInt 64 (b : Int)).toNat = a * 2 ^ s + b := by
    rw [BitVec.toNat_or, e _ (by omega), e _ (by omega), ← Nat.shiftLeft_eq, ← Nat.shiftLeft_add_eq_or_of_lt hb]
  show IntKind.wrap .u64 ((BitVec.ofInt 64 ((a * 2 ^ s : Nat) : Int) ||| BitVec.ofInt 64 (b : Int)).toNat : Int) = _
  rw [this, wrap_u64]
  omega

theorem shl_u64 (a s : Nat) (hs : s ≤ 64) : shlI .u64 (a : Int) (s : Int) = ((a * 2 ^ s % 18446744073709551616 : Nat) : Int) := by
  unfold shlI
  rw [Int.toNat_natCast, Nat.min_eq_left (show s ≤ IntKind.u64.bits from hs), wrap_u64]
  rw [Int.natCast_emod, Int.natCast_mul, Int.natCast_pow]
  rfl
theorem shr_u64 (a s : Nat) (hs : s ≤ 64) : shrI .u64 (a : Int) (s : Int) = ((a / 2 ^ s : Nat) : Int) := by
  rw [shrI_eq .u64 a s hs, Int.natCast_ediv, Int.natCast_pow]
  rfl
theorem quo_u64 (a b : Int) (ha : 0 ≤ a) (ha' : a < 18446744073709551616) (hb : 0 < b) : IntKind.wrap .u64 (a.tdiv b) = a / b := by
  rw [Int.tdiv_eq_ediv_of_nonneg ha]
  have h1 := Int.ediv_nonneg ha (Int.le_of_lt hb)
  have h2 : a / b ≤ a := Int.ediv_le_self b ha
  exact wrap_u64_id _ h1 (by omega)
theorem rem_u64 (a b : Int) (ha : 0 ≤ a) (ha' : a < 18446744073709551616) (hb : 0 < b) : IntKind.wrap .u64 (a - IntKind.wrap .u64 (a / b * b)) = a % b := by
  have e := Int.mul_ediv_add_emod a b
  rw [Int.mul_comm] at e
  have h1 := Int.emod_nonneg a (show b ≠ 0 by omega)
  have h2 := Int.mul_nonneg (Int.ediv_nonneg ha (Int.le_of_lt hb)) (Int.le_of_lt hb)
  rw [wrap_u64_id (a / b * b) h2 (by omega), wrap_u64_id _ (by omega) (by omega)]
  omega

theorem fin_eq {U L Y N y s : Nat} {B : Nat} (hN : N * 2 ^ s = U * B + L) (hY : Y = y * 2 ^ s) (hp0 : 0 < 2 ^ s) :
    ((U : Int) * (B : Int) + (L : Int)) / (Y : Int) = ((N / y : Nat) : Int) ∧ ((U : Int) * (B : Int) + (L : Int)) % (Y : Int) / 2 ^ s = ((N % y : Nat) : Int) := by
  have c1 : ((U : Int) * (B : Int) + (L : Int)) = ((U * B + L : Nat) : Int) := by rw [Int.natCast_add, Int.natCast_mul]
  have c2 : (2 : Int) ^ s = ((2 ^ s : Nat) : Int) := by rw [Int.natCast_pow]; rfl
  rw [c1, ← hN, hY, ← Int.natCast_ediv, ← Int.natCast_emod, c2, ← Int.natCast_ediv, Nat.mul_div_mul_right _ _ hp0, Nat.mul_mod_mul_right, Nat.mul_div_cancel _ hp0]
  exact ⟨rfl, rfl⟩

/-- The numbers of a long division by halves. -/
theorem halves (N U L u1 u0 Y q1 R : Int) (hY : 0 < Y) (hN : N = U * 18446744073709551616 + L) (hL : L = u1 * 4294967296 + u0) (hq : q1 = (U * 4294967296 + u1) / Y) (hR : R = (U * 4294967296 + u1) % Y) :
    N / Y = q1 * 4294967296 + (R * 4294967296 + u0) / Y ∧ N % Y = (R * 4294967296 + u0) % Y := by
  have e := Int.mul_ediv_add_emod (U * 4294967296 + u1) Y
  rw [← hq, ← hR] at e
  have e2 : N = (R * 4294967296 + u0) + Y * (q1 * 4294967296) := by
    rw [← Int.mul_assoc]
    omega
  rw [e2]
  exact ⟨by rw [Int.add_mul_ediv_left _ _ (by omega), Int.add_comm], by rw [Int.add_mul_emod_self_left]⟩

set_option maxHeartbeats 2000000 in
set_option maxRecDepth 100000 in
theorem Div64_small (lo y : Nat) (h : 0 < y) (hlo : lo < 18446744073709551616) (hy : y < 18446744073709551616) :
    Ans E F_math_bits_Div64 [.int .u64 0, .int .u64 lo, .int .u64 y] (.tuple #[.int .u64 ((lo / y : Nat) : Int), .int .u64 ((lo % y : Nat) : Int)]) := by
  refine .of fn_math_bits_Div64 (by simp) fun m => ?_
  have y0 : ((y : Int) == 0) = false := by simp; omega
  have y0' : ¬ (y : Int) = 0 := by omega
  have y1 : decide ((y : Int) ≤ 0) = false := by simp; omega
  have q : IntKind.wrap .u64 ((lo : Int).tdiv (y : Int)) = ((lo / y : Nat) : Int) := by rw [quo_u64 _ _ (by omega) (by omega) (by omega), Int.natCast_ediv]
  have r : (lo : Int).tmod (y : Int) = ((lo % y : Nat) : Int) := by rw [Int.tmod_eq_emod_of_nonneg (by omega), Int.natCast_emod]
  simp (decide := true) (implicitDefEqProofs := false) (maxDischargeDepth := 20) only [go_sem, ↓reduceIte, y0, y0', y1, q, r, beq_self_eq_true, true_implies, false_implies]

set_option maxHeartbeats 2000000 in
set_option maxRecDepth 100000 in
theorem Div64_ans (hi lo y : Nat) (h : hi < y) (hlo : lo < 18446744073709551616) (hy : y < 18446744073709551616) :
    Ans E F_math_bits_Div64 [.int .u64 hi, .int .u64 lo, .int .u64 y] (.tuple #[.int .u64 (((hi * 18446744073709551616 + lo) / y : Nat) : Int), .int .u64 (((hi * 18446744073709551616 + lo) % y : Nat) : Int)]) := by
  have y0 : ((y : Int) == 0) = false := by simp; omega
  have y0' : ¬ (y : Int) = 0 := by omega
  have y1 : decide ((y : Int) ≤ (hi : Int)) = false := by simp; omega
  by_cases h0 : hi = 0
  · subst h0
    have := Div64_small lo y h hlo hy
    rw [show (0 * 18446744073709551616 + lo) = lo by omega]
    exact this
  · generalize hQr : (((hi * 18446744073709551616 + lo) / y : Nat) : Int) = Qr
    generalize hRr : (((hi * 18446744073709551616 + lo) % y : Nat) : Int) = Rr
    refine .of fn_math_bits_Div64 (by simp) fun m => ?_
    have z : ((hi : Int) == 0) = false := by simp; omega
    obtain ⟨b1, b2, b3⟩ := bl_spec y (by omega)
    have b4 := bl_le y 64 (by omega)
    obtain ⟨s, hs⟩ : ∃ s, s = 64 - bl y := ⟨_, rfl⟩
    have hs' : bl y = 64 - s := by omega
    have hP : 2 ^ s * 2 ^ (64 - s) = 18446744073709551616 := by rw [← Nat.pow_add, show s + (64 - s) = 64 by omega]
    have hp0 : 0 < 2 ^ s := Nat.pow_pos (by decide)
    have hp1 : 0 < 2 ^ (64 - s) := Nat.pow_pos (by decide)
    have hp2 : 2 * 2 ^ (64 - s - 1) = 2 ^ (64 - s) := by rw [Nat.mul_comm, ← Nat.pow_succ]; congr 1; omega
    rw [hs'] at b1 b2
    -- the numbers
    obtain ⟨Y, hY⟩ : ∃ Y, Y = y * 2 ^ s := ⟨_, rfl⟩
    have hY1 : Y < 18446744073709551616 := by
      rw [hY, ← hP, Nat.mul_comm]
      exact Nat.mul_lt_mul_of_pos_left b2 hp0
    have hY2 : 9223372036854775808 ≤ Y := by
      have := Nat.mul_le_mul_left (2 ^ s) b1
      rw [hY, Nat.mul_comm y]
      have e : 2 * (2 ^ s * 2 ^ (64 - s - 1)) = 18446744073709551616 := by rw [Nat.mul_left_comm, hp2, hP]
      omega
    obtain ⟨a, ha⟩ : ∃ a, a = lo / 2 ^ (64 - s) := ⟨_, rfl⟩
    have ha1 : a < 2 ^ s := by
      rw [ha]
      refine Nat.div_lt_of_lt_mul ?_
      rw [Nat.mul_comm, hP]
      exact hlo
    obtain ⟨U, hU⟩ : ∃ U, U = hi * 2 ^ s + a := ⟨_, rfl⟩
    have hUY : U < Y := by
      have := Nat.mul_le_mul_right (2 ^ s) (show hi + 1 ≤ y by omega)
      rw [Nat.add_mul] at this
      omega
    obtain ⟨L, hL⟩ : ∃ L, L = lo * 2 ^ s % 18446744073709551616 := ⟨_, rfl⟩
    have hL1 : L < 18446744073709551616 := by omega
    have hN : (hi * 18446744073709551616 + lo) * 2 ^ s = U * 18446744073709551616 + L := by
      have e1 : lo = a * 2 ^ (64 - s) + lo % 2 ^ (64 - s) := by rw [ha, Nat.mul_comm]; exact (Nat.div_add_mod lo _).symm
      have e2 : lo * 2 ^ s = a * 18446744073709551616 + lo % 2 ^ (64 - s) * 2 ^ s := by
        rw [← hP, Nat.mul_comm (2 ^ s) (2 ^ (64 - s)), ← Nat.mul_assoc, ← Nat.add_mul, ← e1]
      have e3 : lo % 2 ^ (64 - s) * 2 ^ s < 18446744073709551616 := by
        rw [← hP, Nat.mul_comm]
        exact Nat.mul_lt_mul_of_pos_left (Nat.mod_lt _ hp1) hp0
      rw [hL, hU, e2, Nat.add_mul, Nat.add_mul, e2, Nat.mul_right_comm]
      omega
    -- what the steps make
    obtain ⟨Yi, hYi⟩ : ∃ z : Int, z = (Y : Int) := ⟨_, rfl⟩
    obtain ⟨Ui, hUi⟩ : ∃ z : Int, z = (U : Int) := ⟨_, rfl⟩
    obtain ⟨Li, hLi⟩ : ∃ z : Int, z = (L : Int) := ⟨_, rfl⟩
    obtain ⟨yn1, hy1⟩ : ∃ z : Int, z = Yi / 4294967296 := ⟨_, rfl⟩
    obtain ⟨yn0, hy0⟩ : ∃ z : Int, z = Yi % 4294967296 := ⟨_, rfl⟩
    obtain ⟨u1, hu1⟩ : ∃ z : Int, z = Li / 4294967296 := ⟨_, rfl⟩
    obtain ⟨u0, hu0⟩ : ∃ z : Int, z = Li % 4294967296 := ⟨_, rfl⟩
    have l1 : (64 - ((64 - s : Nat) : Int)) = (s : Int) := by omega
    have f1 : IntKind.wrap .u64 (s : Int) = (s : Int) := wrap_u64_id _ (by omega) (by omega)
    have f2 : shlI .u64 (y : Int) (s : Int) = Yi := by rw [shl_u64 _ _ (by omega), ← hY, Nat.mod_eq_of_lt hY1, hYi]
    have f3 : shlI .u64 (hi : Int) (s : Int) = ((hi * 2 ^ s : Nat) : Int) := by rw [shl_u64 _ _ (by omega), Nat.mod_eq_of_lt (by omega)]
    have f4 : IntKind.wrap .u64 (64 - (s : Int)) = ((64 - s : Nat) : Int) := by rw [wrap_u64_id _ (by omega) (by omega)]; omega
    have f5 : shrI .u64 (lo : Int) ((64 - s : Nat) : Int) = (a : Int) := by rw [shr_u64 _ _ (by omega), ← ha]
    have f6 : orI .u64 ((hi * 2 ^ s : Nat) : Int) (a : Int) = Ui := by rw [or_disj _ _ _ ha1 (by omega), ← hU, hUi]
    have f7 : shlI .u64 (lo : Int) (s : Int) = Li := by rw [shl_u64 _ _ (by omega), ← hL, hLi]
    have f8 : shrI .u64 Yi 32 = yn1 := by rw [hy1]; exact shrI_eq .u64 Yi 32 (by decide)
    have f8' : shrI .u64 Li 32 = u1 := by rw [hu1]; exact shrI_eq .u64 Li 32 (by decide)
    have f9 : andI .u64 Yi 4294967295 = yn0 := by rw [hy0]; exact and_low32 _ (by omega) (by omega)
    have f10 : andI .u64 Li 4294967295 = u0 := by rw [hu0]; exact and_low32 _ (by omega) (by omega)
    have n1 : ¬ yn1 = 0 := by omega
    have n2 : decide ((s : Int) < 0) = false := by simp
    have n3 : ¬ ((s : Int) < 0) := by omega
    have n4 : ¬ (((64 - s : Nat) : Int) < 0) := by omega
    have g1 := quo_u64 Ui yn1 (by omega) (by omega) (by omega)
    have g2 := rem_u64 Ui yn1 (by omega) (by omega) (by omega)
    have kn1 : Kn yn1 yn0 Ui u1 := ⟨by omega, by omega, by omega, by omega, by omega, by omega, by omega, by omega⟩
    have eY : yn1 * 4294967296 + yn0 = Yi := by omega
    simp (decide := true) (implicitDefEqProofs := false) (maxDischargeDepth := 20) only [go_sem, ↓reduceIte, y0, y0', y1, z, true_implies, false_implies]
    refine (Lz64_ans y (by omega)).use fun l => ?_
    simp (decide := true) (implicitDefEqProofs := false) (maxDischargeDepth := 20) only [go_sem, ↓reduceIte, hs', l1, f1, f2, f3, f4, f5, f6, f7, f8, f8', f9, f10, g1, g2, n1, n2, n3, n4, true_implies, false_implies]
    refine kn_loop1 kn1 _ _ _ (by simp (decide := true) (implicitDefEqProofs := false) only [go_sem, ↓reduceIte]) (by simp (decide := true) (implicitDefEqProofs := false) only [go_sem, ↓reduceIte]) (by simp (decide := true) (implicitDefEqProofs := false) only [go_sem, ↓reduceIte]) (by simp (decide := true) (implicitDefEqProofs := false) only [go_sem, ↓reduceIte]) (by simp (decide := true) (implicitDefEqProofs := false) only [go_sem, ↓reduceIte]) ?_
    intro t2 ag t15
    have c2 := ag 2 (by decide +kernel)
    have c8 := ag 8 (by decide +kernel)
    have c9 := ag 9 (by decide +kernel)
    have c10 := ag 10 (by decide +kernel)
    have c11 := ag 11 (by decide +kernel)
    have c13 := ag 13 (by decide +kernel)
    have c14 := ag 14 (by decide +kernel)
    simp (decide := true) (implicitDefEqProofs := false) only [go_sem, ↓reduceIte] at c2 c8 c9 c10 c11 c13 c14
    clear ag
    rw [eY] at t15
    have hd := Int.mul_ediv_add_emod (Ui * 4294967296 + u1) Yi
    have hr1 := Int.emod_nonneg (Ui * 4294967296 + u1) (show Yi ≠ 0 by omega)
    have hr2 := Int.emod_lt_of_pos (Ui * 4294967296 + u1) (show (0 : Int) < Yi by omega)
    have hq0 := kn1.nonneg
    have hq1 := kn1.top
    rw [eY] at hq0 hq1
    obtain ⟨q1, eq1⟩ : ∃ q1, q1 = (Ui * 4294967296 + u1) / Yi := ⟨_, rfl⟩
    obtain ⟨R, eR⟩ : ∃ R, R = (Ui * 4294967296 + u1) % Yi := ⟨_, rfl⟩
    rw [← eq1] at t15 hd hq0 hq1
    rw [← eR] at hd hr1 hr2
    rw [Int.mul_comm] at hd
    have g3 : IntKind.wrap .u64 (IntKind.wrap .u64 (IntKind.wrap .u64 (Ui * 4294967296) + u1) - IntKind.wrap .u64 (q1 * Yi)) = R := by
      simp only [wrap_u64]
      omega
    have g4 := quo_u64 R yn1 (by omega) (by omega) (by omega)
    have g5 := rem_u64 R yn1 (by omega) (by omega) (by omega)
    have kn2 : Kn yn1 yn0 R u0 := ⟨by omega, by omega, by omega, by omega, by omega, by omega, by omega, by omega⟩
    simp (decide := true) (implicitDefEqProofs := false) (maxDischargeDepth := 20) only [go_sem, ↓reduceIte, t15, c2, c8, c9, c10, c11, c13, c14, g3, g4, g5, n1, true_implies, false_implies]
    refine kn_loop2 kn2 _ _ _ (by simp (decide := true) (implicitDefEqProofs := false) only [go_sem, ↓reduceIte, c9]) (by simp (decide := true) (implicitDefEqProofs := false) only [go_sem, ↓reduceIte, c10]) (by simp (decide := true) (implicitDefEqProofs := false) only [go_sem, ↓reduceIte, c14]) (by simp (decide := true) (implicitDefEqProofs := false) only [go_sem, ↓reduceIte]) (by simp (decide := true) (implicitDefEqProofs := false) only [go_sem, ↓reduceIte]) ?_
    intro t3 ag t18
    have d2 := ag 2 (by decide +kernel)
    have d8 := ag 8 (by decide +kernel)
    have d14 := ag 14 (by decide +kernel)
    have d15 := ag 15 (by decide +kernel)
    have d17 := ag 17 (by decide +kernel)
    simp (decide := true) (implicitDefEqProofs := false) only [go_sem, ↓reduceIte, t15, c2, c8, c9, c10, c11, c13, c14] at d2 d8 d14 d15 d17
    clear ag
    rw [eY] at t18
    have he := Int.mul_ediv_add_emod (R * 4294967296 + u0) Yi
    have hs1 := Int.emod_nonneg (R * 4294967296 + u0) (show Yi ≠ 0 by omega)
    have hs2 := Int.emod_lt_of_pos (R * 4294967296 + u0) (show (0 : Int) < Yi by omega)
    have hv0 := kn2.nonneg
    have hv1 := kn2.top
    rw [eY] at hv0 hv1
    obtain ⟨e1, e2⟩ := halves (Ui * 18446744073709551616 + Li) Ui Li u1 u0 Yi q1 R (by omega) rfl (by omega) eq1 eR
    obtain ⟨q0, eq0⟩ : ∃ q0, q0 = (R * 4294967296 + u0) / Yi := ⟨_, rfl⟩
    obtain ⟨r0, er0⟩ : ∃ r0, r0 = (R * 4294967296 + u0) % Yi := ⟨_, rfl⟩
    rw [← eq0] at t18 he hv0 hv1 e1
    rw [← er0] at he hs1 hs2 e2
    rw [Int.mul_comm] at he
    have g6 : IntKind.wrap .u64 (IntKind.wrap .u64 (q1 * 4294967296) + q0) = q1 * 4294967296 + q0 := by
      simp only [wrap_u64]
      omega
    have g7 : IntKind.wrap .u64 (IntKind.wrap .u64 (IntKind.wrap .u64 (R * 4294967296) + u0) - IntKind.wrap .u64 (q0 * Yi)) = r0 := by
      simp only [wrap_u64]
      omega
    have g8 : shrI .u64 r0 (s : Int) = r0 / 2 ^ s := shrI_eq .u64 r0 s (by show s ≤ 64; omega)
    have fin : q1 * 4294967296 + q0 = Qr ∧ r0 / 2 ^ s = Rr := by
      rw [← hQr, ← hRr, ← e1, ← e2, hUi, hLi, hYi]
      exact fin_eq (B := 18446744073709551616) hN hY hp0
    simp (decide := true) (implicitDefEqProofs := false) (maxDischargeDepth := 20) only [go_sem, ↓reduceIte, t18, d2, d8, d14, d15, d17, g6, g7, g8, n2, n3, true_implies, false_implies]
    rw [fin.1, fin.2]
end Go.Proofs.Ytmgdmldmialiiaa.W
