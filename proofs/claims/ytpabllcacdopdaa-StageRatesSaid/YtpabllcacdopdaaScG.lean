/-
  money.Scale.
-/
import Derived.Test.YtpabllcacdopdaaCodeWide
import Derived.Test.YtpabllcacdopdaaCodeMoney
import Derived.Test.YtpabllcacdopdaaAbs26
namespace Go.Proofs.Ytpabllcacdopdaa.W
open Go.Abs
set_option linter.unusedSimpArgs false
set_option linter.unusedVariables false


theorem and_low32 (a : Int) (h : 0 ≤ a) (h' : a < 18446744073709551616) : andI .u64 a 4294967295 = a % 4294967296 := by
  unfold andI
  have : (BitVec.ofInt 64 a &&& BitVec.ofInt 64 4294967295).toNat = a.toNat % 4294967296 := by
    rw [BitVec.toNat_and, BitVec.toNat_ofInt, BitVec.toNat_ofInt]
    have e1 : ((a % (2 ^ 64 : Nat)).toNat) = a.toNat := by omega
    have e2 : (((4294967295 : Int) % (2 ^ 64 : Nat)).toNat) = 2 ^ 32 - 1 := by decide
    rw [e1, e2, Nat.and_two_pow_sub_one_eq_mod]
  show IntKind.wrap .u64 ((BitVec.ofInt 64 a &&& BitVec.ofInt 64 4294967295).toNat : Int) = _
  rw [this, wrap_u64]
  omega
theorem Mul64_ans (a b : Int) (ha : 0 ≤ a) (ha' : a < 18446744073709551616) (hb : 0 ≤ b) (hb' : b < 18446744073709551616) :
    Ans E F_math_bits_Mul64 [.int .u64 a, .int .u64 b] (.tuple #[.int .u64 (a * b / 18446744073709551616), .int .u64 (a * b % 18446744073709551616)]) := by
  refine .of fn_math_bits_Mul64 (by simp) fun m => ?_
  simp (decide := true) (implicitDefEqProofs := false) only [go_sem, ↓reduceIte]
  have hs : ∀ x : Int, shrI .u64 x 32 = x / 4294967296 := fun x => shrI_eq .u64 x 32 (by decide)
  simp only [hs, wrap_u64]
  rw [and_low32 a ha ha', and_low32 b hb hb', and_low32 _ (by omega) (by omega)]
  -- halves
  obtain ⟨a1, a0, e1, k1, k2, k3, k4⟩ : ∃ a1 a0 : Int, a = a1 * 4294967296 + a0 ∧ 0 ≤ a0 ∧ a0 < 4294967296 ∧ 0 ≤ a1 ∧ a1 < 4294967296 := ⟨a / 4294967296, a % 4294967296, by omega, by omega, by omega, by omega, by omega⟩
  obtain ⟨b1, b0, e2, k5, k6, k7, k8⟩ : ∃ b1 b0 : Int, b = b1 * 4294967296 + b0 ∧ 0 ≤ b0 ∧ b0 < 4294967296 ∧ 0 ≤ b1 ∧ b1 < 4294967296 := ⟨b / 4294967296, b % 4294967296, by omega, by omega, by omega, by omega, by omega⟩
  have f1 : a / 4294967296 = a1 := by omega
  have f2 : a % 4294967296 = a0 := by omega
  have f3 : b / 4294967296 = b1 := by omega
  have f4 : b % 4294967296 = b0 := by omega
  rw [f1, f2, f3, f4]
  have bd : ∀ x y : Int, 0 ≤ x → x < 4294967296 → 0 ≤ y → y < 4294967296 → 0 ≤ x * y ∧ x * y ≤ 18446744065119617025 := by
    intro x y h1 h2 h3 h4
    refine ⟨Int.mul_nonneg h1 h3, ?_⟩
    have := Int.mul_le_mul (show x ≤ 4294967295 by omega) (show y ≤ 4294967295 by omega) h3 (by omega)
    omega
  obtain ⟨p1, p2⟩ := bd a0 b0 k1 k2 k5 k6
  obtain ⟨q1, q2⟩ := bd a1 b0 k3 k4 k5 k6
  obtain ⟨r1, r2⟩ := bd a0 b1 k1 k2 k7 k8
  obtain ⟨s1, s2⟩ := bd a1 b1 k3 k4 k7 k8
  have e : a * b = a1 * b1 * 18446744073709551616 + (a1 * b0 + a0 * b1) * 4294967296 + a0 * b0 := by
    rw [e1, e2, Int.add_mul, Int.mul_add, Int.mul_add, Int.add_mul]
    have t1 : a1 * 4294967296 * (b1 * 4294967296) = a1 * b1 * 18446744073709551616 := by
      rw [Int.mul_assoc, Int.mul_left_comm 4294967296 b1 4294967296, ← Int.mul_assoc]; rfl
    have t2 : a1 * 4294967296 * b0 = a1 * b0 * 4294967296 := by rw [Int.mul_right_comm]
    have t3 : a0 * (b1 * 4294967296) = a0 * b1 * 4294967296 := by rw [Int.mul_assoc]
    rw [t1, t2, t3]
    omega
  rw [e]
  generalize a0 * b0 = p at *
  generalize a1 * b0 = q at *
  generalize a0 * b1 = r at *
  generalize a1 * b1 = s at *
  congr 3
  · congr 1
    omega

def W (x : Int) : Value := .agg #[.int .i64 (IntKind.wrap .i64 (x / 18446744073709551616)), .int .u64 (x % 18446744073709551616)]
theorem pair_eq {a b c d : Int} (h : a = c) (k : b = d) : Value.agg #[.int .i64 a, .int .u64 b] = Value.agg #[.int .i64 c, .int .u64 d] := by rw [h, k]
set_option maxHeartbeats 400000 in
set_option maxRecDepth 100000 in
theorem Mul_ans (a b : Int) (ha : -9223372036854775808 ≤ a) (ha' : a < 9223372036854775808) (hb : -9223372036854775808 ≤ b) (hb' : b < 9223372036854775808) :
    Ans E F_wide_Mul [.int .i64 a, .int .i64 b] (W (a * b)) := by
  refine .of fn_wide_Mul (by simp) fun m => ?_
  simp (decide := true) (implicitDefEqProofs := false) only [go_sem, ↓reduceIte]
  refine (Mul64_ans (IntKind.wrap .u64 a) (IntKind.wrap .u64 b) (by rw [wrap_u64]; omega) (by rw [wrap_u64]; omega) (by rw [wrap_u64]; omega) (by rw [wrap_u64]; omega)).use fun l => ?_
  simp (decide := true) (implicitDefEqProofs := false) (maxDischargeDepth := 20) only [go_sem, ↓reduceIte]
  have key : ∀ x y : Int, (a + x) * (b + y) = a * b + a * y + x * b + x * y := by
    intro x y
    rw [Int.add_mul, Int.mul_add, Int.mul_add]
    omega
  have k0 := key 0 18446744073709551616
  have k1 := key 18446744073709551616 0
  have k2 := key 18446744073709551616 18446744073709551616
  rw [Int.add_zero] at k0 k1
  simp only [decide_eq_true_eq, decide_eq_false_iff_not, W, wrap_u64]
  refine ⟨fun h1 => ⟨fun h2 => ?_, fun h2 => ?_⟩, fun h1 => ⟨fun h2 => ?_, fun h2 => ?_⟩⟩
  · rw [show a % 18446744073709551616 = a + 18446744073709551616 by omega, show b % 18446744073709551616 = b + 18446744073709551616 by omega, k2]
    generalize a * b = p
    simp only [wrap_i64]
    exact pair_eq (by omega) (by omega)
  · rw [show a % 18446744073709551616 = a + 18446744073709551616 by omega, show b % 18446744073709551616 = b by omega, k1]
    generalize a * b = p
    simp only [wrap_i64]
    exact pair_eq (by omega) (by omega)
  · rw [show a % 18446744073709551616 = a by omega, show b % 18446744073709551616 = b + 18446744073709551616 by omega, k0]
    generalize a * b = p
    simp only [wrap_i64]
    exact pair_eq (by omega) (by omega)
  · rw [show a % 18446744073709551616 = a by omega, show b % 18446744073709551616 = b by omega]

theorem tri_eq {a b c d : Int} {p q : Bool} (h : a = c) (k : b = d) (l : p = q) : Value.tuple #[.int .u64 a, .int .u64 b, .bool p] = Value.tuple #[.int .u64 c, .int .u64 d, .bool q] := by rw [h, k, l]
set_option maxHeartbeats 400000 in
set_option maxRecDepth 100000 in
theorem size_ans (x : Int) (hx : -170141183460469231731687303715884105728 ≤ x) (hx' : x < 170141183460469231731687303715884105728) :
    Ans E F_wide_size [W x] (.tuple #[.int .u64 (x.natAbs / 18446744073709551616), .int .u64 (x.natAbs % 18446744073709551616), .bool (decide (x < 0))]) := by
  refine .of fn_wide_size (by simp) fun m => ?_
  simp (decide := true) (implicitDefEqProofs := false) (maxDischargeDepth := 20) only [go_sem, ↓reduceIte, W, carryV]
  rw [wrap_i64_id (x / 18446744073709551616) (by omega) (by omega)]
  simp only [wrap_u64, decide_eq_true_eq, decide_eq_false_iff_not]
  refine ⟨fun h => ?_, fun h => ⟨by omega, ⟨by omega, by omega, ?_, ?_⟩, ?_⟩⟩
  · exact tri_eq (by omega) (by omega) (by simp; omega)
  · split <;> omega
  · split <;> omega
  · refine tri_eq ?_ (by omega) (by simp; omega)
    split <;> omega



/-- How many bits a number has. -/
def bl (n : Nat) : Nat := if n = 0 then 0 else n.log2 + 1

theorem bl_shift (k n : Nat) (h : 2 ^ k ≤ n) : bl n = k + bl (n / 2 ^ k) := by
  have hp : 0 < 2 ^ k := Nat.pow_pos (by decide)
  have h0 : n ≠ 0 := by omega
  have h1 : n / 2 ^ k ≠ 0 := by
    have := Nat.div_pos h hp
    omega
  unfold bl
  rw [if_neg h0, if_neg h1]
  have e : n.log2 = (n / 2 ^ k).log2 + k := by
    rw [Nat.log2_eq_iff h0]
    have a := Nat.log2_self_le h1
    have b := Nat.lt_log2_self (n := n / 2 ^ k)
    rw [Nat.le_div_iff_mul_le hp] at a
    rw [Nat.div_lt_iff_lt_mul hp] at b
    refine ⟨by rw [Nat.pow_add]; exact a, ?_⟩
    rw [show (n / 2 ^ k).log2 + k + 1 = ((n / 2 ^ k).log2 + 1) + k by omega, Nat.pow_add]
    exact b
  omega

theorem bl32 (n : Nat) (h : 4294967296 ≤ n) : bl n = 32 + bl (n / 4294967296) := bl_shift 32 n h
theorem bl16 (n : Nat) (h : 65536 ≤ n) : bl n = 16 + bl (n / 65536) := bl_shift 16 n h
theorem bl8 (n : Nat) (h : 256 ≤ n) : bl n = 8 + bl (n / 256) := bl_shift 8 n h

theorem bl_le (n k : Nat) (h : n < 2 ^ k) : bl n ≤ k := by
  unfold bl
  split
  · omega
  · rename_i h0
    have a := Nat.log2_self_le h0
    have : 2 ^ n.log2 < 2 ^ k := by omega
    have := (Nat.pow_lt_pow_iff_right (by decide : 1 < 2)).1 this
    omega

theorem bl_spec (n : Nat) (h : n ≠ 0) : 2 ^ (bl n - 1) ≤ n ∧ n < 2 ^ bl n ∧ 1 ≤ bl n := by
  unfold bl
  rw [if_neg h]
  exact ⟨Nat.log2_self_le h, Nat.lt_log2_self, by omega⟩

def tab8 : ByteArray := ⟨#[0, 1, 2, 2, 3, 3, 3, 3, 4, 4, 4, 4, 4, 4, 4, 4, 5, 5, 5, 5, 5, 5, 5, 5, 5, 5, 5, 5, 5, 5, 5, 5, 6, 6, 6, 6, 6, 6, 6, 6, 6, 6, 6, 6, 6, 6, 6, 6, 6, 6, 6, 6, 6, 6, 6, 6, 6, 6, 6, 6, 6, 6, 6, 6, 7, 7, 7, 7, 7, 7, 7, 7, 7, 7, 7, 7, 7, 7, 7, 7, 7, 7, 7, 7, 7, 7, 7, 7, 7, 7, 7, 7, 7, 7, 7, 7, 7, 7, 7, 7, 7, 7, 7, 7, 7, 7, 7, 7, 7, 7, 7, 7, 7, 7, 7, 7, 7, 7, 7, 7, 7, 7, 7, 7, 7, 7, 7, 7, 8, 8, 8, 8, 8, 8, 8, 8, 8, 8, 8, 8, 8, 8, 8, 8, 8, 8, 8, 8, 8, 8, 8, 8, 8, 8, 8, 8, 8, 8, 8, 8, 8, 8, 8, 8, 8, 8, 8, 8, 8, 8, 8, 8, 8, 8, 8, 8, 8, 8, 8, 8, 8, 8, 8, 8, 8, 8, 8, 8, 8, 8, 8, 8, 8, 8, 8, 8, 8, 8, 8, 8, 8, 8, 8, 8, 8, 8, 8, 8, 8, 8, 8, 8, 8, 8, 8, 8, 8, 8, 8, 8, 8, 8, 8, 8, 8, 8, 8, 8, 8, 8, 8, 8, 8, 8, 8, 8, 8, 8, 8, 8, 8, 8, 8, 8, 8, 8, 8, 8, 8, 8, 8, 8, 8, 8, 8, 8]⟩

theorem tab8_at (n : Nat) (h : n < 256) : tab8[n]? = some (UInt8.ofNat (bl n)) := by
  have : ∀ i : Fin 256, tab8[i.val]? = some (UInt8.ofNat (bl i.val)) := by decide +kernel
  exact this ⟨n, h⟩
theorem tab8_def : ⟨#[0, 1, 2, 2, 3, 3, 3, 3, 4, 4, 4, 4, 4, 4, 4, 4, 5, 5, 5, 5, 5, 5, 5, 5, 5, 5, 5, 5, 5, 5, 5, 5, 6, 6, 6, 6, 6, 6, 6, 6, 6, 6, 6, 6, 6, 6, 6, 6, 6, 6, 6, 6, 6, 6, 6, 6, 6, 6, 6, 6, 6, 6, 6, 6, 7, 7, 7, 7, 7, 7, 7, 7, 7, 7, 7, 7, 7, 7, 7, 7, 7, 7, 7, 7, 7, 7, 7, 7, 7, 7, 7, 7, 7, 7, 7, 7, 7, 7, 7, 7, 7, 7, 7, 7, 7, 7, 7, 7, 7, 7, 7, 7, 7, 7, 7, 7, 7, 7, 7, 7, 7, 7, 7, 7, 7, 7, 7, 7, 8, 8, 8, 8, 8, 8, 8, 8, 8, 8, 8, 8, 8, 8, 8, 8, 8, 8, 8, 8, 8, 8, 8, 8, 8, 8, 8, 8, 8, 8, 8, 8, 8, 8, 8, 8, 8, 8, 8, 8, 8, 8, 8, 8, 8, 8, 8, 8, 8, 8, 8, 8, 8, 8, 8, 8, 8, 8, 8, 8, 8, 8, 8, 8, 8, 8, 8, 8, 8, 8, 8, 8, 8, 8, 8, 8, 8, 8, 8, 8, 8, 8, 8, 8, 8, 8, 8, 8, 8, 8, 8, 8, 8, 8, 8, 8, 8, 8, 8, 8, 8, 8, 8, 8, 8, 8, 8, 8, 8, 8, 8, 8, 8, 8, 8, 8, 8, 8, 8, 8, 8, 8, 8, 8, 8, 8, 8, 8]⟩ = tab8 := rfl

set_option maxHeartbeats 1000000 in
set_option maxRecDepth 100000 in
theorem Len64_ans (n : Nat) (h : (n : Int) < 18446744073709551616) : Ans E F_math_bits_Len64 [.int .u64 n] (.int .i64 (bl n)) := by
  refine .of fn_math_bits_Len64 (by simp) fun m => ?_
  have s32 : ∀ x : Nat, shrI .u64 (x : Int) 32 = ((x / 4294967296 : Nat) : Int) := fun x => shrI_eq .u64 x 32 (by decide)
  have s16 : ∀ x : Nat, shrI .u64 (x : Int) 16 = ((x / 65536 : Nat) : Int) := fun x => shrI_eq .u64 x 16 (by decide)
  have s8 : ∀ x : Nat, shrI .u64 (x : Int) 8 = ((x / 256 : Nat) : Int) := fun x => shrI_eq .u64 x 8 (by decide)
  have w8 : ∀ x : Nat, IntKind.wrap .u8 (x : Int) = ((x % 256 : Nat) : Int) := fun x => by rw [wrap_u8]; omega
  have t8 : ∀ x : Nat, tab8[x % 256]? = some (UInt8.ofNat (bl (x % 256))) := fun x => tab8_at _ (by omega)
  simp (decide := true) (implicitDefEqProofs := false) (maxDischargeDepth := 20) only [go_sem, ↓reduceIte, tab8_def, s32, s16, s8, w8, Int.toNat_natCast, t8, Int.natCast_nonneg]
  simp only [decide_eq_true_eq, decide_eq_false_iff_not]
  have hb : ∀ x : Nat, (UInt8.ofNat (bl (x % 256))).toNat = bl (x % 256) ∧ bl (x % 256) ≤ 8 := fun x => by
    have := bl_le (x % 256) 8 (by omega)
    exact ⟨by rw [UInt8.toNat_ofNat']; omega, this⟩
  have num : ∀ (c x : Nat), c ≤ 56 → IntKind.wrap .i64 ((c : Int) + IntKind.wrap .i64 (((UInt8.ofNat (bl (x % 256))).toNat : Nat) : Int)) = ((c + bl (x % 256) : Nat) : Int) := fun c x hc => by
    obtain ⟨h1, h2⟩ := hb x
    rw [h1, wrap_i64_id ((bl (x % 256) : Nat) : Int) (by omega) (by omega), wrap_i64_id _ (by omega) (by omega)]
    omega
  have k0 : IntKind.wrap .i64 (32 + 16) = ((48 : Nat) : Int) := rfl
  have k1 : IntKind.wrap .i64 (((48 : Nat) : Int) + 8) = ((56 : Nat) : Int) := rfl
  have k2 : IntKind.wrap .i64 (32 + 8) = ((40 : Nat) : Int) := rfl
  have k3 : IntKind.wrap .i64 (0 + 16) = ((16 : Nat) : Int) := rfl
  have k4 : IntKind.wrap .i64 (((16 : Nat) : Int) + 8) = ((24 : Nat) : Int) := rfl
  have k5 : IntKind.wrap .i64 (0 + 8) = ((8 : Nat) : Int) := rfl
  have k6 : (32 : Int) = ((32 : Nat) : Int) := rfl
  have k7 : ∀ z : Int, (0 : Int) + z = ((0 : Nat) : Int) + z := fun z => rfl
  rw [k0, k1, k2, k3, k4, k5]
  have fin : ∀ a b : Nat, a = b → Value.int .i64 (a : Int) = Value.int .i64 (b : Int) := fun a b e => by rw [e]
  refine ⟨fun h1 => ⟨fun h2 => ⟨fun h3 => ?_, fun h3 => ?_⟩, fun h2 => ⟨fun h3 => ?_, fun h3 => ?_⟩⟩, fun h1 => ⟨fun h2 => ⟨fun h3 => ?_, fun h3 => ?_⟩, fun h2 => ⟨fun h3 => ?_, fun h3 => ?_⟩⟩⟩
  · rw [num 56 _ (by omega)]
    refine fin _ _ ?_
    rw [bl32 n (by omega), bl16 (n / 4294967296) (by omega), bl8 (n / 4294967296 / 65536) (by omega), Nat.mod_eq_of_lt (by omega)]
    omega
  · rw [num 48 _ (by omega)]
    refine fin _ _ ?_
    rw [bl32 n (by omega), bl16 (n / 4294967296) (by omega), Nat.mod_eq_of_lt (by omega)]
    omega
  · rw [num 40 _ (by omega)]
    refine fin _ _ ?_
    rw [bl32 n (by omega), bl8 (n / 4294967296) (by omega), Nat.mod_eq_of_lt (by omega)]
    omega
  · rw [k6, num 32 _ (by omega)]
    refine fin _ _ ?_
    rw [bl32 n (by omega), Nat.mod_eq_of_lt (by omega)]
  · rw [num 24 _ (by omega)]
    refine fin _ _ ?_
    rw [bl16 n (by omega), bl8 (n / 65536) (by omega), Nat.mod_eq_of_lt (by omega)]
    omega
  · rw [num 16 _ (by omega)]
    refine fin _ _ ?_
    rw [bl16 n (by omega), Nat.mod_eq_of_lt (by omega)]
  · rw [num 8 _ (by omega)]
    refine fin _ _ ?_
    rw [bl8 n (by omega), Nat.mod_eq_of_lt (by omega)]
  · rw [k7, num 0 _ (by omega)]
    refine fin _ _ ?_
    rw [Nat.mod_eq_of_lt (by omega)]
    omega
set_option maxHeartbeats 1000000 in
set_option maxRecDepth 100000 in
theorem Lz64_ans (n : Nat) (h : (n : Int) < 18446744073709551616) : Ans E F_math_bits_LeadingZeros64 [.int .u64 n] (.int .i64 (64 - bl n)) := by
  refine .of fn_math_bits_LeadingZeros64 (by simp) fun m => ?_
  simp (decide := true) (implicitDefEqProofs := false) (maxDischargeDepth := 20) only [go_sem, ↓reduceIte]
  refine (Len64_ans n h).use fun l => ?_
  simp (decide := true) (implicitDefEqProofs := false) (maxDischargeDepth := 20) only [go_sem, ↓reduceIte]
  have := bl_le n 64 (by omega)
  rw [wrap_i64_id _ (by omega) (by omega)]




theorem mul_bd {x y a b : Int} (h1 : 0 ≤ x) (h2 : x ≤ a) (h3 : 0 ≤ y) (h4 : y ≤ b) : 0 ≤ x * y ∧ x * y ≤ a * b :=
  ⟨Int.mul_nonneg h1 h3, Int.mul_le_mul h2 h4 h3 (by omega)⟩

/-- One step of the long division: too great by at most two. -/
structure Kn (yn1 yn0 un32 un1 : Int) : Prop where
  a1 : 2147483648 ≤ yn1
  a2 : yn1 < 4294967296
  b1 : 0 ≤ yn0
  b2 : yn0 < 4294967296
  c1 : 0 ≤ un32
  c2 : un32 < yn1 * 4294967296 + yn0
  d1 : 0 ≤ un1
  d2 : un1 < 4294967296

section kn
variable {yn1 yn0 un32 un1 q r : Int}

theorem Kn.mul (q : Int) : q * (yn1 * 4294967296 + yn0) = q * yn1 * 4294967296 + q * yn0 := by
  rw [Int.mul_add, ← Int.mul_assoc]
theorem Kn.le (h : Kn yn1 yn0 un32 un1) (e : q * yn1 + r = un32) (k : q * yn0 ≤ 4294967296 * r + un1) : q ≤ (un32 * 4294967296 + un1) / (yn1 * 4294967296 + yn0) := by
  have := h.a1; have := h.b1
  refine Int.le_ediv_of_mul_le (by omega) ?_
  rw [Kn.mul]
  omega
theorem Kn.lt (h : Kn yn1 yn0 un32 un1) (e : q * yn1 + r = un32) (k : 4294967296 * r + un1 < q * yn0) : (un32 * 4294967296 + un1) / (yn1 * 4294967296 + yn0) < q := by
  have := h.a1; have := h.b1
  refine Int.ediv_lt_of_lt_mul (by omega) ?_
  rw [Kn.mul]
  omega
theorem Kn.top (h : Kn yn1 yn0 un32 un1) : (un32 * 4294967296 + un1) / (yn1 * 4294967296 + yn0) < 4294967296 := by
  have := h.a1; have := h.b1; have := h.c2; have := h.d2
  refine Int.ediv_lt_of_lt_mul (by omega) ?_
  rw [Kn.mul]
  omega
theorem Kn.nonneg (h : Kn yn1 yn0 un32 un1) : 0 ≤ (un32 * 4294967296 + un1) / (yn1 * 4294967296 + yn0) := by
  have := h.a1; have := h.b1; have := h.c1; have := h.d1
  exact Int.ediv_nonneg (by omega) (by omega)
theorem Kn.big (h : Kn yn1 yn0 un32 un1) (e : q * yn1 + r = un32) (hr : 4294967296 ≤ r) (h0 : 0 ≤ q) (hq : q ≤ 4294967296) : q ≤ (un32 * 4294967296 + un1) / (yn1 * 4294967296 + yn0) := by
  have := h.b1; have := h.b2; have := h.d1
  refine h.le e ?_
  have := (mul_bd h0 hq h.b1 (show yn0 ≤ 4294967295 by omega)).2
  omega
theorem Kn.first (h : Kn yn1 yn0 un32 un1) : (un32 * 4294967296 + un1) / (yn1 * 4294967296 + yn0) ≤ un32 / yn1 := by
  have := h.a1; have := h.b1; have := h.d2; have h0 := h.nonneg
  generalize hQ : (un32 * 4294967296 + un1) / (yn1 * 4294967296 + yn0) = Q at *
  have h1 : Q * (yn1 * 4294967296 + yn0) ≤ un32 * 4294967296 + un1 := by
    rw [← hQ]
    have := h.c1; have := h.d1
    exact Int.ediv_mul_le _ (by omega)
  rw [Kn.mul] at h1
  have h2 := Int.mul_nonneg h0 h.b1
  refine Int.le_ediv_of_mul_le (by omega) ?_
  omega
theorem Kn.first_le (h : Kn yn1 yn0 un32 un1) : un32 / yn1 ≤ 4294967297 := by
  have := h.a1; have := h.b2; have := h.c2
  have : un32 / yn1 < 4294967298 := Int.ediv_lt_of_lt_mul (by omega) (by omega)
  omega
end kn

set_option maxHeartbeats 1000000 in
set_option maxRecDepth 100000 in
theorem kn_loop1 {yn1 yn0 un32 un1 : Int} (hk : Kn yn1 yn0 un32 un1) (t : Fr) (m : Mem) (K : Post3) (h9 : t 9 = .int .u64 yn1) (h10 : t 10 = .int .u64 yn0) (h13 : t 13 = .int .u64 un1) (h15 : t 15 = .int .u64 (un32 / yn1)) (h16 : t 16 = .int .u64 (un32 % yn1))
    (hK : ∀ t', Agree (writes c_math_bits_Div64_16) t t' → t' 15 = .int .u64 ((un32 * 4294967296 + un1) / (yn1 * 4294967296 + yn0)) → K .normal t' m) : wpM E F_math_bits_Div64 135 none c_math_bits_Div64_16 K t m := by
  refine wpM_cut (fun t' m' => m' = m ∧ t' 15 = .int .u64 ((un32 * 4294967296 + un1) / (yn1 * 4294967296 + yn0))) ?_ fun t' m' ha ⟨e, h⟩ => e ▸ hK t' ha h
  simp only [c_math_bits_Div64_16_at, wpM_block, c_math_bits_Div64_15_at]
  have A1 := hk.a1; have A2 := hk.a2; have B1 := hk.b1; have B2 := hk.b2; have C1 := hk.c1; have C2 := hk.c2; have D1 := hk.d1; have D2 := hk.d2
  refine wpM_loopA (fun k t' m' => m' = m ∧ ∃ q r, t' 15 = .int .u64 q ∧ t' 16 = .int .u64 r ∧ q * yn1 + r = un32 ∧ 0 ≤ q ∧ q ≤ 4294967297 ∧ 0 ≤ r ∧ r < 4294967296 ∧ (un32 * 4294967296 + un1) / (yn1 * 4294967296 + yn0) ≤ q ∧ k = (q - (un32 * 4294967296 + un1) / (yn1 * 4294967296 + yn0)).toNat) _
    ⟨rfl, _, _, h15, h16, by rw [Int.mul_comm]; exact Int.mul_ediv_add_emod un32 yn1, Int.ediv_nonneg C1 (by omega), hk.first_le, Int.emod_nonneg _ (by omega), by have := Int.emod_lt_of_pos un32 (show 0 < yn1 by omega); omega, hk.first, rfl⟩ ?_
  rintro k t' m' ha ⟨rfl, q, r, q15, q16, e, i1, i2, i3, i4, i5, rfl⟩
  have a9 := (ha 9 (by decide +kernel)).trans h9
  have a10 := (ha 10 (by decide +kernel)).trans h10
  have a13 := (ha 13 (by decide +kernel)).trans h13
  have Q0 := hk.nonneg
  have QT := hk.top
  have step : (un32 * 4294967296 + un1) / (yn1 * 4294967296 + yn0) < q → ∀ (K : Post3), (r + yn1 < 4294967296 → ∀ t2, t2 15 = .int .u64 (q - 1) → t2 16 = .int .u64 (r + yn1) → K .normal t2 m') → (4294967296 ≤ r + yn1 → ∀ t2, t2 15 = .int .u64 (q - 1) → K (.exit 0) t2 m') →
      ∀ t1 : Fr, t1 15 = .int .u64 q → t1 16 = .int .u64 r → t1 9 = .int .u64 yn1 → wpM E F_math_bits_Div64 135 none c_math_bits_Div64_13 K t1 m' := by
    intro hq K k1 k2 t1 e15 e16 e9
    have w1 : IntKind.wrap .u64 (q - 1) = q - 1 := wrap_u64_id _ (by omega) (by omega)
    have w2 : IntKind.wrap .u64 (r + yn1) = r + yn1 := wrap_u64_id _ (by omega) (by omega)
    simp (decide := true) (implicitDefEqProofs := false) only [go_sem, ↓reduceIte, e15, e16, e9, w1, w2]
    refine ⟨fun h => ?_, fun h => ?_⟩
    · exact k2 (by simpa using h) _ (by simp (decide := true) (implicitDefEqProofs := false) only [go_sem, ↓reduceIte])
    · exact k1 (by simpa using h) _ (by simp (decide := true) (implicitDefEqProofs := false) only [go_sem, ↓reduceIte]) (by simp (decide := true) (implicitDefEqProofs := false) only [go_sem, ↓reduceIte])
  have again : (un32 * 4294967296 + un1) / (yn1 * 4294967296 + yn0) < q → ∀ t1 : Fr, t1 15 = .int .u64 q → t1 16 = .int .u64 r → t1 9 = .int .u64 yn1 →
      wpM E F_math_bits_Div64 135 none c_math_bits_Div64_13 (seqK (fun t' m'' => ∃ j, j < (q - (un32 * 4294967296 + un1) / (yn1 * 4294967296 + yn0)).toNat ∧ (m'' = m' ∧ ∃ q r, t' 15 = .int .u64 q ∧ t' 16 = .int .u64 r ∧ q * yn1 + r = un32 ∧ 0 ≤ q ∧ q ≤ 4294967297 ∧ 0 ≤ r ∧ r < 4294967296 ∧ (un32 * 4294967296 + un1) / (yn1 * 4294967296 + yn0) ≤ q ∧ j = (q - (un32 * 4294967296 + un1) / (yn1 * 4294967296 + yn0)).toNat))
        (blockK 0 fun x t' m'' => x = .normal ∧ m'' = m' ∧ t' 15 = .int .u64 ((un32 * 4294967296 + un1) / (yn1 * 4294967296 + yn0)))) t1 m' := by
    intro hq t1 e15 e16 e9
    have e' : (q - 1) * yn1 + (r + yn1) = un32 := by rw [Int.sub_mul]; omega
    refine step hq _ (fun hr t2 f15 f16 => ?_) (fun hr t2 f15 => ?_) t1 e15 e16 e9
    · exact ⟨_, by omega, rfl, q - 1, r + yn1, f15, f16, e', by omega, by omega, by omega, hr, by omega, rfl⟩
    · refine ⟨rfl, rfl, ?_⟩
      have := hk.big e' hr (by omega) (by omega)
      rw [f15, show q - 1 = (un32 * 4294967296 + un1) / (yn1 * 4294967296 + yn0) by omega]
  simp only [c_math_bits_Div64_14_at, wpM_seq]
  clear step
  generalize c_math_bits_Div64_13 = c at again ⊢
  by_cases hq : 4294967296 ≤ q
  · have d1 : decide (4294967296 ≤ q) = true := by simpa using hq
    simp (decide := true) (implicitDefEqProofs := false) only [go_sem, ↓reduceIte, q15, q16, a9, a10, a13, d1, true_implies, false_implies]
    exact again (by omega) _ (by simp (decide := true) (implicitDefEqProofs := false) only [go_sem, ↓reduceIte, q15]) (by simp (decide := true) (implicitDefEqProofs := false) only [go_sem, ↓reduceIte, q16]) (by simp (decide := true) (implicitDefEqProofs := false) only [go_sem, ↓reduceIte, a9])
  · have d1 : decide (4294967296 ≤ q) = false := by simpa using hq
    have p0 := mul_bd i1 (show q ≤ 4294967295 by omega) B1 (show yn0 ≤ 4294967295 by omega)
    have w1 : IntKind.wrap .u64 (q * yn0) = q * yn0 := wrap_u64_id _ (by omega) (by omega)
    have w2 : IntKind.wrap .u64 (4294967296 * r) = 4294967296 * r := wrap_u64_id _ (by omega) (by omega)
    have w3 : IntKind.wrap .u64 (4294967296 * r + un1) = 4294967296 * r + un1 := wrap_u64_id _ (by omega) (by omega)
    simp (decide := true) (implicitDefEqProofs := false) only [go_sem, ↓reduceIte, q15, q16, a9, a10, a13, d1, w1, w2, w3, true_implies, false_implies]
    refine ⟨fun h => ?_, fun h => ?_⟩
    · exact again (hk.lt e (by simpa using h)) _ (by simp (decide := true) (implicitDefEqProofs := false) only [go_sem, ↓reduceIte, q15]) (by simp (decide := true) (implicitDefEqProofs := false) only [go_sem, ↓reduceIte, q16]) (by simp (decide := true) (implicitDefEqProofs := false) only [go_sem, ↓reduceIte, a9])
    · have := hk.le e (by simpa using h)
      rw [show q = (un32 * 4294967296 + un1) / (yn1 * 4294967296 + yn0) by omega]

set_option maxHeartbeats 1000000 in
set_option maxRecDepth 100000 in
theorem kn_loop2 {yn1 yn0 un32 un1 : Int} (hk : Kn yn1 yn0 un32 un1) (t : Fr) (m : Mem) (K : Post3) (h9 : t 9 = .int .u64 yn1) (h10 : t 10 = .int .u64 yn0) (h13 : t 14 = .int .u64 un1) (h15 : t 18 = .int .u64 (un32 / yn1)) (h16 : t 16 = .int .u64 (un32 % yn1))
    (hK : ∀ t', Agree (writes c_math_bits_Div64_26) t t' → t' 18 = .int .u64 ((un32 * 4294967296 + un1) / (yn1 * 4294967296 + yn0)) → K .normal t' m) : wpM E F_math_bits_Div64 135 none c_math_bits_Div64_26 K t m := by
  refine wpM_cut (fun t' m' => m' = m ∧ t' 18 = .int .u64 ((un32 * 4294967296 + un1) / (yn1 * 4294967296 + yn0))) ?_ fun t' m' ha ⟨e, h⟩ => e ▸ hK t' ha h
  simp only [c_math_bits_Div64_26_at, wpM_block, c_math_bits_Div64_25_at]
  have A1 := hk.a1; have A2 := hk.a2; have B1 := hk.b1; have B2 := hk.b2; have C1 := hk.c1; have C2 := hk.c2; have D1 := hk.d1; have D2 := hk.d2
  refine wpM_loopA (fun k t' m' => m' = m ∧ ∃ q r, t' 18 = .int .u64 q ∧ t' 16 = .int .u64 r ∧ q * yn1 + r = un32 ∧ 0 ≤ q ∧ q ≤ 4294967297 ∧ 0 ≤ r ∧ r < 4294967296 ∧ (un32 * 4294967296 + un1) / (yn1 * 4294967296 + yn0) ≤ q ∧ k = (q - (un32 * 4294967296 + un1) / (yn1 * 4294967296 + yn0)).toNat) _
    ⟨rfl, _, _, h15, h16, by rw [Int.mul_comm]; exact Int.mul_ediv_add_emod un32 yn1, Int.ediv_nonneg C1 (by omega), hk.first_le, Int.emod_nonneg _ (by omega), by have := Int.emod_lt_of_pos un32 (show 0 < yn1 by omega); omega, hk.first, rfl⟩ ?_
  rintro k t' m' ha ⟨rfl, q, r, q15, q16, e, i1, i2, i3, i4, i5, rfl⟩
  have a9 := (ha 9 (by decide +kernel)).trans h9
  have a10 := (ha 10 (by decide +kernel)).trans h10
  have a13 := (ha 14 (by decide +kernel)).trans h13
  have Q0 := hk.nonneg
  have QT := hk.top
  have step : (un32 * 4294967296 + un1) / (yn1 * 4294967296 + yn0) < q → ∀ (K : Post3), (r + yn1 < 4294967296 → ∀ t2, t2 18 = .int .u64 (q - 1) → t2 16 = .int .u64 (r + yn1) → K .normal t2 m') → (4294967296 ≤ r + yn1 → ∀ t2, t2 18 = .int .u64 (q - 1) → K (.exit 2) t2 m') →
      ∀ t1 : Fr, t1 18 = .int .u64 q → t1 16 = .int .u64 r → t1 9 = .int .u64 yn1 → wpM E F_math_bits_Div64 135 none c_math_bits_Div64_23 K t1 m' := by
    intro hq K k1 k2 t1 e15 e16 e9
    have w1 : IntKind.wrap .u64 (q - 1) = q - 1 := wrap_u64_id _ (by omega) (by omega)
    have w2 : IntKind.wrap .u64 (r + yn1) = r + yn1 := wrap_u64_id _ (by omega) (by omega)
    simp (decide := true) (implicitDefEqProofs := false) only [go_sem, ↓reduceIte, e15, e16, e9, w1, w2]
    refine ⟨fun h => ?_, fun h => ?_⟩
    · exact k2 (by simpa using h) _ (by simp (decide := true) (implicitDefEqProofs := false) only [go_sem, ↓reduceIte])
    · exact k1 (by simpa using h) _ (by simp (decide := true) (implicitDefEqProofs := false) only [go_sem, ↓reduceIte]) (by simp (decide := true) (implicitDefEqProofs := false) only [go_sem, ↓reduceIte])
  have again : (un32 * 4294967296 + un1) / (yn1 * 4294967296 + yn0) < q → ∀ t1 : Fr, t1 18 = .int .u64 q → t1 16 = .int .u64 r → t1 9 = .int .u64 yn1 →
      wpM E F_math_bits_Div64 135 none c_math_bits_Div64_23 (seqK (fun t' m'' => ∃ j, j < (q - (un32 * 4294967296 + un1) / (yn1 * 4294967296 + yn0)).toNat ∧ (m'' = m' ∧ ∃ q r, t' 18 = .int .u64 q ∧ t' 16 = .int .u64 r ∧ q * yn1 + r = un32 ∧ 0 ≤ q ∧ q ≤ 4294967297 ∧ 0 ≤ r ∧ r < 4294967296 ∧ (un32 * 4294967296 + un1) / (yn1 * 4294967296 + yn0) ≤ q ∧ j = (q - (un32 * 4294967296 + un1) / (yn1 * 4294967296 + yn0)).toNat))
        (blockK 2 fun x t' m'' => x = .normal ∧ m'' = m' ∧ t' 18 = .int .u64 ((un32 * 4294967296 + un1) / (yn1 * 4294967296 + yn0)))) t1 m' := by
    intro hq t1 e15 e16 e9
    have e' : (q - 1) * yn1 + (r + yn1) = un32 := by rw [Int.sub_mul]; omega
    refine step hq _ (fun hr t2 f15 f16 => ?_) (fun hr t2 f15 => ?_) t1 e15 e16 e9
    · exact ⟨_, by omega, rfl, q - 1, r + yn1, f15, f16, e', by omega, by omega, by omega, hr, by omega, rfl⟩
    · refine ⟨rfl, rfl, ?_⟩
      have := hk.big e' hr (by omega) (by omega)
      rw [f15, show q - 1 = (un32 * 4294967296 + un1) / (yn1 * 4294967296 + yn0) by omega]
  simp only [c_math_bits_Div64_24_at, wpM_seq]
  clear step
  generalize c_math_bits_Div64_23 = c at again ⊢
  by_cases hq : 4294967296 ≤ q
  · have d1 : decide (4294967296 ≤ q) = true := by simpa using hq
    simp (decide := true) (implicitDefEqProofs := false) only [go_sem, ↓reduceIte, q15, q16, a9, a10, a13, d1, true_implies, false_implies]
    exact again (by omega) _ (by simp (decide := true) (implicitDefEqProofs := false) only [go_sem, ↓reduceIte, q15]) (by simp (decide := true) (implicitDefEqProofs := false) only [go_sem, ↓reduceIte, q16]) (by simp (decide := true) (implicitDefEqProofs := false) only [go_sem, ↓reduceIte, a9])
  · have d1 : decide (4294967296 ≤ q) = false := by simpa using hq
    have p0 := mul_bd i1 (show q ≤ 4294967295 by omega) B1 (show yn0 ≤ 4294967295 by omega)
    have w1 : IntKind.wrap .u64 (q * yn0) = q * yn0 := wrap_u64_id _ (by omega) (by omega)
    have w2 : IntKind.wrap .u64 (4294967296 * r) = 4294967296 * r := wrap_u64_id _ (by omega) (by omega)
    have w3 : IntKind.wrap .u64 (4294967296 * r + un1) = 4294967296 * r + un1 := wrap_u64_id _ (by omega) (by omega)
    simp (decide := true) (implicitDefEqProofs := false) only [go_sem, ↓reduceIte, q15, q16, a9, a10, a13, d1, w1, w2, w3, true_implies, false_implies]
    refine ⟨fun h => ?_, fun h => ?_⟩
    · exact again (hk.lt e (by simpa using h)) _ (by simp (decide := true) (implicitDefEqProofs := false) only [go_sem, ↓reduceIte, q15]) (by simp (decide := true) (implicitDefEqProofs := false) only [go_sem, ↓reduceIte, q16]) (by simp (decide := true) (implicitDefEqProofs := false) only [go_sem, ↓reduceIte, a9])
    · have := hk.le e (by simpa using h)
      rw [show q = (un32 * 4294967296 + un1) / (yn1 * 4294967296 + yn0) by omega]




theorem or_disj (a b s : Nat) (hb : b < 2 ^ s) (h : a * 2 ^ s + b < 18446744073709551616) : orI .u64 ((a * 2 ^ s : Nat) : Int) (b : Int) = ((a * 2 ^ s + b : Nat) : Int) := by
  unfold orI
  have e : ∀ x : Nat, x < 18446744073709551616 → (BitVec.ofInt 64 (x : Int)).toNat = x := fun x hx => by
    rw [BitVec.toNat_ofInt]
    omega
  have : (BitVec.ofInt 64 ((a * 2 ^ s : Nat) : Int) ||| BitVec.ofInt 64 (b : Int)).toNat = a * 2 ^ s + b := by
    rw [BitVec.toNat_or, e _ (by omega), e _ (by omega), ← Nat.shiftLeft_eq, ← Nat.shiftLeft_add_eq_or_of_lt hb]
  show IntKind.wrap .u64 ((BitVec.ofInt 64 ((a * 2 ^ s : Nat) : Int) ||| BitVec.ofInt 64 (b : Int)).toNat : Int) = _
  rw [this, wrap_u64]
  omega

theorem shl_u64 (a s : Nat) (hs : s ≤ 64) : shlI .u64 (a : Int) (s : Int) = ((a * 2 ^ s % 18446744073709551616 : Nat) : Int) := by
  unfold shlI
  rw [Int.toNat_natCast, Nat.min_eq_left (show s ≤ IntKind.u64.bits from hs), wrap_u64]
  rw [Int.natCast_emod, Int.natCast_mul, Int.natCast_pow]
  rfl
theorem shr_u64 (a s : Nat) (hs : s ≤ 64) : shrI .u64 (a : Int) (s : Int) = ((a / 2 ^ s : Nat) : Int) := by
  rw [shrI_eq .u64 a s hs, Int.natCast_ediv, Int.natCast_pow]
  rfl
theorem quo_u64 (a b : Int) (ha : 0 ≤ a) (ha' : a < 18446744073709551616) (hb : 0 < b) : IntKind.wrap .u64 (a.tdiv b) = a / b := by
  rw [Int.tdiv_eq_ediv_of_nonneg ha]
  have h1 := Int.ediv_nonneg ha (Int.le_of_lt hb)
  have h2 : a / b ≤ a := Int.ediv_le_self b ha
  exact wrap_u64_id _ h1 (by omega)
theorem rem_u64 (a b : Int) (ha : 0 ≤ a) (ha' : a < 18446744073709551616) (hb : 0 < b) : IntKind.wrap .u64 (a - IntKind.wrap .u64 (a / b * b)) = a % b := by
  have e := Int.mul_ediv_add_emod a b
  rw [Int.mul_comm] at e
  have h1 := Int.emod_nonneg a (show b ≠ 0 by omega)
  have h2 := Int.mul_nonneg (Int.ediv_nonneg ha (Int.le_of_lt hb)) (Int.le_of_lt hb)
  rw [wrap_u64_id (a / b * b) h2 (by omega), wrap_u64_id _ (by omega) (by omega)]
  omega

theorem fin_eq {U L Y N y s : Nat} {B : Nat} (hN : N * 2 ^ s = U * B + L) (hY : Y = y * 2 ^ s) (hp0 : 0 < 2 ^ s) :
    ((U : Int) * (B : Int) + (L : Int)) / (Y : Int) = ((N / y : Nat) : Int) ∧ ((U : Int) * (B : Int) + (L : Int)) % (Y : Int) / 2 ^ s = ((N % y : Nat) : Int) := by
  have c1 : ((U : Int) * (B : Int) + (L : Int)) = ((U * B + L : Nat) : Int) := by rw [Int.natCast_add, Int.natCast_mul]
  have c2 : (2 : Int) ^ s = ((2 ^ s : Nat) : Int) := by rw [Int.natCast_pow]; rfl
  rw [c1, ← hN, hY, ← Int.natCast_ediv, ← Int.natCast_emod, c2, ← Int.natCast_ediv, Nat.mul_div_mul_right _ _ hp0, Nat.mul_mod_mul_right, Nat.mul_div_cancel _ hp0]
  exact ⟨rfl, rfl⟩

/-- The numbers of a long division by halves. -/
theorem halves (N U L u1 u0 Y q1 R : Int) (hY : 0 < Y) (hN : N = U * 18446744073709551616 + L) (hL : L = u1 * 4294967296 + u0) (hq : q1 = (U * 4294967296 + u1) / Y) (hR : R = (U * 4294967296 + u1) % Y) :
    N / Y = q1 * 4294967296 + (R * 4294967296 + u0) / Y ∧ N % Y = (R * 4294967296 + u0) % Y := by
  have e := Int.mul_ediv_add_emod (U * 4294967296 + u1) Y
  rw [← hq, ← hR] at e
  have e2 : N = (R * 4294967296 + u0) + Y * (q1 * 4294967296) := by
    rw [← Int.mul_assoc]
    omega
  rw [e2]
  exact ⟨by rw [Int.add_mul_ediv_left _ _ (by omega), Int.add_comm], by rw [Int.add_mul_emod_self_left]⟩

set_option maxHeartbeats 2000000 in
set_option maxRecDepth 100000 in
theorem Div64_small (lo y : Nat) (h : 0 < y) (hlo : lo < 18446744073709551616) (hy : y < 18446744073709551616) :
    Ans E F_math_bits_Div64 [.int .u64 0, .int .u64 lo, .int .u64 y] (.tuple #[.int .u64 ((lo / y : Nat) : Int), .int .u64 ((lo % y : Nat) : Int)]) := by
  refine .of fn_math_bits_Div64 (by simp) fun m => ?_
  have y0 : ((y : Int) == 0) = false := by simp; omega
  have y0' : ¬ (y : Int) = 0 := by omega
  have y1 : decide ((y : Int) ≤ 0) = false := by simp; omega
  have q : IntKind.wrap .u64 ((lo : Int).tdiv (y : Int)) = ((lo / y : Nat) : Int) := by rw [quo_u64 _ _ (by omega) (by omega) (by omega), Int.natCast_ediv]
  have r : (lo : Int).tmod (y : Int) = ((lo % y : Nat) : Int) := by rw [Int.tmod_eq_emod_of_nonneg (by omega), Int.natCast_emod]
  simp (decide := true) (implicitDefEqProofs := false) (maxDischargeDepth := 20) only [go_sem, ↓reduceIte, y0, y0', y1, q, r, beq_self_eq_true, true_implies, false_implies]

set_option maxHeartbeats 2000000 in
set_option maxRecDepth 100000 in
theorem Div64_ans (hi lo y : Nat) (h : hi < y) (hlo : lo < 18446744073709551616) (hy : y < 18446744073709551616) :
    Ans E F_math_bits_Div64 [.int .u64 hi, .int .u64 lo, .int .u64 y] (.tuple #[.int .u64 (((hi * 18446744073709551616 + lo) / y : Nat) : Int), .int .u64 (((hi * 18446744073709551616 + lo) % y : Nat) : Int)]) := by
  have y0 : ((y : Int) == 0) = false := by simp; omega
  have y0' : ¬ (y : Int) = 0 := by omega
  have y1 : decide ((y : Int) ≤ (hi : Int)) = false := by simp; omega
  by_cases h0 : hi = 0
  · subst h0
    have := Div64_small lo y h hlo hy
    rw [show (0 * 18446744073709551616 + lo) = lo by omega]
    exact this
  · generalize hQr : (((hi * 18446744073709551616 + lo) / y : Nat) : Int) = Qr
    generalize hRr : (((hi * 18446744073709551616 + lo) % y : Nat) : Int) = Rr
    refine .of fn_math_bits_Div64 (by simp) fun m => ?_
    have z : ((hi : Int) == 0) = false := by simp; omega
    obtain ⟨b1, b2, b3⟩ := bl_spec y (by omega)
    have b4 := bl_le y 64 (by omega)
    obtain ⟨s, hs⟩ : ∃ s, s = 64 - bl y := ⟨_, rfl⟩
    have hs' : bl y = 64 - s := by omega
    have hP : 2 ^ s * 2 ^ (64 - s) = 18446744073709551616 := by rw [← Nat.pow_add, show s + (64 - s) = 64 by omega]
    have hp0 : 0 < 2 ^ s := Nat.pow_pos (by decide)
    have hp1 : 0 < 2 ^ (64 - s) := Nat.pow_pos (by decide)
    have hp2 : 2 * 2 ^ (64 - s - 1) = 2 ^ (64 - s) := by rw [Nat.mul_comm, ← Nat.pow_succ]; congr 1; omega
    rw [hs'] at b1 b2
    -- the numbers
    obtain ⟨Y, hY⟩ : ∃ Y, Y = y * 2 ^ s := ⟨_, rfl⟩
    have hY1 : Y < 18446744073709551616 := by
      rw [hY, ← hP, Nat.mul_comm]
      exact Nat.mul_lt_mul_of_pos_left b2 hp0
    have hY2 : 9223372036854775808 ≤ Y := by
      have := Nat.mul_le_mul_left (2 ^ s) b1
      rw [hY, Nat.mul_comm y]
      have e : 2 * (2 ^ s * 2 ^ (64 - s - 1)) = 18446744073709551616 := by rw [Nat.mul_left_comm, hp2, hP]
      omega
    obtain ⟨a, ha⟩ : ∃ a, a = lo / 2 ^ (64 - s) := ⟨_, rfl⟩
    have ha1 : a < 2 ^ s := by
      rw [ha]
      refine Nat.div_lt_of_lt_mul ?_
      rw [Nat.mul_comm, hP]
      exact hlo
    obtain ⟨U, hU⟩ : ∃ U, U = hi * 2 ^ s + a := ⟨_, rfl⟩
    have hUY : U < Y := by
      have := Nat.mul_le_mul_right (2 ^ s) (show hi + 1 ≤ y by omega)
      rw [Nat.add_mul] at this
      omega
    obtain ⟨L, hL⟩ : ∃ L, L = lo * 2 ^ s % 18446744073709551616 := ⟨_, rfl⟩
    have hL1 : L < 18446744073709551616 := by omega
    have hN : (hi * 18446744073709551616 + lo) * 2 ^ s = U * 18446744073709551616 + L := by
      have e1 : lo = a * 2 ^ (64 - s) + lo % 2 ^ (64 - s) := by rw [ha, Nat.mul_comm]; exact (Nat.div_add_mod lo _).symm
      have e2 : lo * 2 ^ s = a * 18446744073709551616 + lo % 2 ^ (64 - s) * 2 ^ s := by
        rw [← hP, Nat.mul_comm (2 ^ s) (2 ^ (64 - s)), ← Nat.mul_assoc, ← Nat.add_mul, ← e1]
      have e3 : lo % 2 ^ (64 - s) * 2 ^ s < 18446744073709551616 := by
        rw [← hP, Nat.mul_comm]
        exact Nat.mul_lt_mul_of_pos_left (Nat.mod_lt _ hp1) hp0
      rw [hL, hU, e2, Nat.add_mul, Nat.add_mul, e2, Nat.mul_right_comm]
      omega
    -- what the steps make
    obtain ⟨Yi, hYi⟩ : ∃ z : Int, z = (Y : Int) := ⟨_, rfl⟩
    obtain ⟨Ui, hUi⟩ : ∃ z : Int, z = (U : Int) := ⟨_, rfl⟩
    obtain ⟨Li, hLi⟩ : ∃ z : Int, z = (L : Int) := ⟨_, rfl⟩
    obtain ⟨yn1, hy1⟩ : ∃ z : Int, z = Yi / 4294967296 := ⟨_, rfl⟩
    obtain ⟨yn0, hy0⟩ : ∃ z : Int, z = Yi % 4294967296 := ⟨_, rfl⟩
    obtain ⟨u1, hu1⟩ : ∃ z : Int, z = Li / 4294967296 := ⟨_, rfl⟩
    obtain ⟨u0, hu0⟩ : ∃ z : Int, z = Li % 4294967296 := ⟨_, rfl⟩
    have l1 : (64 - ((64 - s : Nat) : Int)) = (s : Int) := by omega
    have f1 : IntKind.wrap .u64 (s : Int) = (s : Int) := wrap_u64_id _ (by omega) (by omega)
    have f2 : shlI .u64 (y : Int) (s : Int) = Yi := by rw [shl_u64 _ _ (by omega), ← hY, Nat.mod_eq_of_lt hY1, hYi]
    have f3 : shlI .u64 (hi : Int) (s : Int) = ((hi * 2 ^ s : Nat) : Int) := by rw [shl_u64 _ _ (by omega), Nat.mod_eq_of_lt (by omega)]
    have f4 : IntKind.wrap .u64 (64 - (s : Int)) = ((64 - s : Nat) : Int) := by rw [wrap_u64_id _ (by omega) (by omega)]; omega
    have f5 : shrI .u64 (lo : Int) ((64 - s : Nat) : Int) = (a : Int) := by rw [shr_u64 _ _ (by omega), ← ha]
    have f6 : orI .u64 ((hi * 2 ^ s : Nat) : Int) (a : Int) = Ui := by rw [or_disj _ _ _ ha1 (by omega), ← hU, hUi]
    have f7 : shlI .u64 (lo : Int) (s : Int) = Li := by rw [shl_u64 _ _ (by omega), ← hL, hLi]
    have f8 : shrI .u64 Yi 32 = yn1 := by rw [hy1]; exact shrI_eq .u64 Yi 32 (by decide)
    have f8' : shrI .u64 Li 32 = u1 := by rw [hu1]; exact shrI_eq .u64 Li 32 (by decide)
    have f9 : andI .u64 Yi 4294967295 = yn0 := by rw [hy0]; exact and_low32 _ (by omega) (by omega)
    have f10 : andI .u64 Li 4294967295 = u0 := by rw [hu0]; exact and_low32 _ (by omega) (by omega)
    have n1 : ¬ yn1 = 0 := by omega
    have n2 : decide ((s : Int) < 0) = false := by simp
    have n3 : ¬ ((s : Int) < 0) := by omega
    have n4 : ¬ (((64 - s : Nat) : Int) < 0) := by omega
    have g1 := quo_u64 Ui yn1 (by omega) (by omega) (by omega)
    have g2 := rem_u64 Ui yn1 (by omega) (by omega) (by omega)
    have kn1 : Kn yn1 yn0 Ui u1 := ⟨by omega, by omega, by omega, by omega, by omega, by omega, by omega, by omega⟩
    have eY : yn1 * 4294967296 + yn0 = Yi := by omega
    simp (decide := true) (implicitDefEqProofs := false) (maxDischargeDepth := 20) only [go_sem, ↓reduceIte, y0, y0', y1, z, true_implies, false_implies]
    refine (Lz64_ans y (by omega)).use fun l => ?_
    simp (decide := true) (implicitDefEqProofs := false) (maxDischargeDepth := 20) only [go_sem, ↓reduceIte, hs', l1, f1, f2, f3, f4, f5, f6, f7, f8, f8', f9, f10, g1, g2, n1, n2, n3, n4, true_implies, false_implies]
    refine kn_loop1 kn1 _ _ _ (by simp (decide := true) (implicitDefEqProofs := false) only [go_sem, ↓reduceIte]) (by simp (decide := true) (implicitDefEqProofs := false) only [go_sem, ↓reduceIte]) (by simp (decide := true) (implicitDefEqProofs := false) only [go_sem, ↓reduceIte]) (by simp (decide := true) (implicitDefEqProofs := false) only [go_sem, ↓reduceIte]) (by simp (decide := true) (implicitDefEqProofs := false) only [go_sem, ↓reduceIte]) ?_
    intro t2 ag t15
    have c2 := ag 2 (by decide +kernel)
    have c8 := ag 8 (by decide +kernel)
    have c9 := ag 9 (by decide +kernel)
    have c10 := ag 10 (by decide +kernel)
    have c11 := ag 11 (by decide +kernel)
    have c13 := ag 13 (by decide +kernel)
    have c14 := ag 14 (by decide +kernel)
    simp (decide := true) (implicitDefEqProofs := false) only [go_sem, ↓reduceIte] at c2 c8 c9 c10 c11 c13 c14
    clear ag
    rw [eY] at t15
    have hd := Int.mul_ediv_add_emod (Ui * 4294967296 + u1) Yi
    have hr1 := Int.emod_nonneg (Ui * 4294967296 + u1) (show Yi ≠ 0 by omega)
    have hr2 := Int.emod_lt_of_pos (Ui * 4294967296 + u1) (show (0 : Int) < Yi by omega)
    have hq0 := kn1.nonneg
    have hq1 := kn1.top
    rw [eY] at hq0 hq1
    obtain ⟨q1, eq1⟩ : ∃ q1, q1 = (Ui * 4294967296 + u1) / Yi := ⟨_, rfl⟩
    obtain ⟨R, eR⟩ : ∃ R, R = (Ui * 4294967296 + u1) % Yi := ⟨_, rfl⟩
    rw [← eq1] at t15 hd hq0 hq1
    rw [← eR] at hd hr1 hr2
    rw [Int.mul_comm] at hd
    have g3 : IntKind.wrap .u64 (IntKind.wrap .u64 (IntKind.wrap .u64 (Ui * 4294967296) + u1) - IntKind.wrap .u64 (q1 * Yi)) = R := by
      simp only [wrap_u64]
      omega
    have g4 := quo_u64 R yn1 (by omega) (by omega) (by omega)
    have g5 := rem_u64 R yn1 (by omega) (by omega) (by omega)
    have kn2 : Kn yn1 yn0 R u0 := ⟨by omega, by omega, by omega, by omega, by omega, by omega, by omega, by omega⟩
    simp (decide := true) (implicitDefEqProofs := false) (maxDischargeDepth := 20) only [go_sem, ↓reduceIte, t15, c2, c8, c9, c10, c11, c13, c14, g3, g4, g5, n1, true_implies, false_implies]
    refine kn_loop2 kn2 _ _ _ (by simp (decide := true) (implicitDefEqProofs := false) only [go_sem, ↓reduceIte, c9]) (by simp (decide := true) (implicitDefEqProofs := false) only [go_sem, ↓reduceIte, c10]) (by simp (decide := true) (implicitDefEqProofs := false) only [go_sem, ↓reduceIte, c14]) (by simp (decide := true) (implicitDefEqProofs := false) only [go_sem, ↓reduceIte]) (by simp (decide := true) (implicitDefEqProofs := false) only [go_sem, ↓reduceIte]) ?_
    intro t3 ag t18
    have d2 := ag 2 (by decide +kernel)
    have d8 := ag 8 (by decide +kernel)
    have d14 := ag 14 (by decide +kernel)
    have d15 := ag 15 (by decide +kernel)
    have d17 := ag 17 (by decide +kernel)
    simp (decide := true) (implicitDefEqProofs := false) only [go_sem, ↓reduceIte, t15, c2, c8, c9, c10, c11, c13, c14] at d2 d8 d14 d15 d17
    clear ag
    rw [eY] at t18
    have he := Int.mul_ediv_add_emod (R * 4294967296 + u0) Yi
    have hs1 := Int.emod_nonneg (R * 4294967296 + u0) (show Yi ≠ 0 by omega)
    have hs2 := Int.emod_lt_of_pos (R * 4294967296 + u0) (show (0 : Int) < Yi by omega)
    have hv0 := kn2.nonneg
    have hv1 := kn2.top
    rw [eY] at hv0 hv1
    obtain ⟨e1, e2⟩ := halves (Ui * 18446744073709551616 + Li) Ui Li u1 u0 Yi q1 R (by omega) rfl (by omega) eq1 eR
    obtain ⟨q0, eq0⟩ : ∃ q0, q0 = (R * 4294967296 + u0) / Yi := ⟨_, rfl⟩
    obtain ⟨r0, er0⟩ : ∃ r0, r0 = (R * 4294967296 + u0) % Yi := ⟨_, rfl⟩
    rw [← eq0] at t18 he hv0 hv1 e1
    rw [← er0] at he hs1 hs2 e2
    rw [Int.mul_comm] at he
    have g6 : IntKind.wrap .u64 (IntKind.wrap .u64 (q1 * 4294967296) + q0) = q1 * 4294967296 + q0 := by
      simp only [wrap_u64]
      omega
    have g7 : IntKind.wrap .u64 (IntKind.wrap .u64 (IntKind.wrap .u64 (R * 4294967296) + u0) - IntKind.wrap .u64 (q0 * Yi)) = r0 := by
      simp only [wrap_u64]
      omega
    have g8 : shrI .u64 r0 (s : Int) = r0 / 2 ^ s := shrI_eq .u64 r0 s (by show s ≤ 64; omega)
    have fin : q1 * 4294967296 + q0 = Qr ∧ r0 / 2 ^ s = Rr := by
      rw [← hQr, ← hRr, ← e1, ← e2, hUi, hLi, hYi]
      exact fin_eq (B := 18446744073709551616) hN hY hp0
    simp (decide := true) (implicitDefEqProofs := false) (maxDischargeDepth := 20) only [go_sem, ↓reduceIte, t18, d2, d8, d14, d15, d17, g6, g7, g8, n2, n3, true_implies, false_implies]
    rw [fin.1, fin.2]



/-- The nearest quotient of two numbers, half to the even. -/
def near (a d : Nat) : Nat := if d < 2 * (a % d) ∨ (d = 2 * (a % d) ∧ a / d % 2 = 1) then a / d + 1 else a / d
def quoI (x : Int) (d : Nat) : Int := if x < 0 then -(near x.natAbs d : Int) else (near x.natAbs d : Int)

theorem near_ge (a d : Nat) : a / d ≤ near a d := by unfold near; split <;> omega
theorem near_le (a d : Nat) : near a d ≤ a / d + 1 := by unfold near; split <;> omega

theorem and_one (a : Nat) (h : a < 18446744073709551616) : andI .u64 (a : Int) 1 = ((a % 2 : Nat) : Int) := by
  unfold andI
  have : (BitVec.ofInt 64 (a : Int) &&& BitVec.ofInt 64 1).toNat = a % 2 := by
    rw [BitVec.toNat_and, BitVec.toNat_ofInt, BitVec.toNat_ofInt]
    have e1 : (((a : Int) % (2 ^ 64 : Nat)).toNat) = a := by omega
    have e2 : (((1 : Int) % (2 ^ 64 : Nat)).toNat) = 2 ^ 1 - 1 := by decide
    rw [e1, e2, Nat.and_two_pow_sub_one_eq_mod]
  show IntKind.wrap .u64 ((BitVec.ofInt 64 (a : Int) &&& BitVec.ofInt 64 1).toNat : Int) = _
  rw [this, wrap_u64]
  omega

/-- What Quo answers. -/
def quoA (x : Int) (d : Nat) : Value := if -9223372036854775808 ≤ quoI x d ∧ quoI x d < 9223372036854775808 then .tuple #[.int .i64 (quoI x d), .bool true] else .tuple #[.int .i64 0, .bool false]

set_option maxHeartbeats 1000000 in
set_option maxRecDepth 100000 in
theorem Quo_none (x d : Int) (hd : d ≤ 0) : Ans E F_wide_Quo [W x, .int .i64 d] (.tuple #[.int .i64 0, .bool false]) := by
  refine .of fn_wide_Quo (by simp) fun m => ?_
  have d0 : decide (d ≤ 0) = true := by simpa using hd
  simp (decide := true) (implicitDefEqProofs := false) (maxDischargeDepth := 20) only [go_sem, ↓reduceIte, d0, W, true_implies, false_implies]

set_option maxHeartbeats 4000000 in
set_option maxRecDepth 100000 in
theorem Quo_ans (x : Int) (hx : -170141183460469231731687303715884105728 ≤ x) (hx' : x < 170141183460469231731687303715884105728) (D : Nat) (hD : 0 < D) (hD' : (D : Int) < 9223372036854775808) :
    Ans E F_wide_Quo [W x, .int .i64 D] (quoA x D) := by
  generalize hr : quoA x D = r
  refine .of fn_wide_Quo (by simp) fun m => ?_
  have d0 : decide ((D : Int) ≤ 0) = false := by simp; omega
  have w0 : IntKind.wrap .u64 (D : Int) = (D : Int) := wrap_u64_id _ (by omega) (by omega)
  simp (decide := true) (implicitDefEqProofs := false) (maxDischargeDepth := 20) only [go_sem, ↓reduceIte, d0, W, true_implies, false_implies]
  refine (size_ans x hx hx').use fun l => ?_
  obtain ⟨A, hA⟩ : ∃ A, A = x.natAbs := ⟨_, rfl⟩
  obtain ⟨H, hH⟩ : ∃ H, H = A / 18446744073709551616 := ⟨_, rfl⟩
  obtain ⟨L, hL⟩ : ∃ L, L = A % 18446744073709551616 := ⟨_, rfl⟩
  have eH : ((x.natAbs : Int) / 18446744073709551616) = (H : Int) := by omega
  have eL : ((x.natAbs : Int) % 18446744073709551616) = (L : Int) := by omega
  rw [eH, eL]
  unfold quoA quoI at hr
  rw [← hA] at hr
  have nge := near_ge A D
  have nle := near_le A D
  by_cases hh : D ≤ H
  · have d1 : decide ((D : Int) ≤ (H : Int)) = true := by simp; omega
    have big : 18446744073709551616 ≤ A / D := by
      rw [Nat.le_div_iff_mul_le hD]
      have := Nat.mul_le_mul_left 18446744073709551616 hh
      omega
    rw [if_neg (by split <;> omega)] at hr
    simp (decide := true) (implicitDefEqProofs := false) (maxDischargeDepth := 20) only [go_sem, ↓reduceIte, d1, w0, hr, true_implies, false_implies]
  · have d1 : decide ((D : Int) ≤ (H : Int)) = false := by simp; omega
    simp (decide := true) (implicitDefEqProofs := false) (maxDischargeDepth := 20) only [go_sem, ↓reduceIte, d1, w0, true_implies, false_implies]
    refine (Div64_ans H L D (by omega) (by omega) (by omega)).use fun l2 => ?_
    have eA : H * 18446744073709551616 + L = A := by omega
    rw [eA]
    obtain ⟨q, hq⟩ : ∃ q, q = A / D := ⟨_, rfl⟩
    obtain ⟨s, hs⟩ : ∃ s, s = A % D := ⟨_, rfl⟩
    have hs' : s < D := by rw [hs]; exact Nat.mod_lt _ hD
    have hq' : q < 18446744073709551616 := by
      rw [hq, Nat.div_lt_iff_lt_mul hD]
      have := Nat.mul_le_mul_left 18446744073709551616 (show H + 1 ≤ D by omega)
      omega
    rw [← hq, ← hs]
    rw [← hq] at nge nle
    obtain ⟨N, hN⟩ : ∃ N, N = near A D := ⟨_, rfl⟩
    have hN2 := hN
    unfold near at hN2
    rw [← hq, ← hs] at hN2
    rw [← hN] at hr nge nle
    have w1 : IntKind.wrap .u64 ((D : Int) - (s : Int)) = ((D - s : Nat) : Int) := by rw [wrap_u64_id _ (by omega) (by omega)]; omega
    have a1 := and_one q hq'
    -- the sign
    obtain ⟨mn, hmn⟩ : ∃ mn, mn = decide (x < 0) := ⟨_, rfl⟩
    rw [← hmn]
    -- the end, for whatever is in place
    have fin : ∀ (n : Nat), (n = N ∨ (9223372036854775808 < n ∧ 9223372036854775808 < N)) → n < 18446744073709551616 → ∀ (t : Fr) (m' : Mem) (_ : Old m m'), t 9 = .int .u64 n → t 8 = .bool mn → wpM E F_wide_Quo 73 none c_wide_Quo_17 (retK (ResK E [ResultVar.tmp 4, ResultVar.tmp 5] fun w m' => w = r ∧ Old m m')) t m' := by
      intro n hn hn' t m' ho t9 t8
      by_cases hx0 : x < 0
      · have e1 : mn = true := by rw [hmn]; simpa using hx0
        subst e1
        rw [if_pos hx0] at hr
        by_cases hb : n ≤ 9223372036854775808
        · have d2 : decide ((n : Int) ≤ 9223372036854775808) = true := by simp; omega
          have w2 : IntKind.wrap .i64 (IntKind.wrap .u64 (0 - (n : Int))) = -(N : Int) := by rw [wrap_i64, wrap_u64]; omega
          rw [if_pos (by omega)] at hr
          simp (decide := true) (implicitDefEqProofs := false) (maxDischargeDepth := 20) only [go_sem, ↓reduceIte, t9, t8, d2, w2, hr, ho, true_implies, false_implies]
        · have d2 : decide ((n : Int) ≤ 9223372036854775808) = false := by simp; omega
          rw [if_neg (by omega)] at hr
          simp (decide := true) (implicitDefEqProofs := false) (maxDischargeDepth := 20) only [go_sem, ↓reduceIte, t9, t8, d2, hr, ho, Bool.not_true, true_implies, false_implies]
      · have e1 : mn = false := by rw [hmn]; simpa using hx0
        subst e1
        rw [if_neg hx0] at hr
        by_cases hb : n ≤ 9223372036854775807
        · have d2 : decide ((n : Int) ≤ 9223372036854775807) = true := by simp; omega
          have w2 : IntKind.wrap .i64 (n : Int) = (N : Int) := by rw [wrap_i64_id _ (by omega) (by omega)]; omega
          rw [if_pos (by omega)] at hr
          simp (decide := true) (implicitDefEqProofs := false) (maxDischargeDepth := 20) only [go_sem, ↓reduceIte, t9, t8, d2, w2, hr, ho, Bool.not_false, true_implies, false_implies]
        · have d2 : decide ((n : Int) ≤ 9223372036854775807) = false := by simp; omega
          rw [if_neg (by omega)] at hr
          simp (decide := true) (implicitDefEqProofs := false) (maxDischargeDepth := 20) only [go_sem, ↓reduceIte, t9, t8, d2, hr, ho, Bool.not_false, true_implies, false_implies]
    have w3 : q ≤ 9223372036854775808 → IntKind.wrap .u64 ((q : Int) + 1) = ((q + 1 : Nat) : Int) := fun h => by rw [wrap_u64_id _ (by omega) (by omega)]; omega
    have step8 : ∀ (t : Fr) (m1 : Mem) (K : Post3), t 1 = .int .i64 D → t 9 = .int .u64 q → t 10 = .int .u64 s →
        (∀ (t' : Fr) (n : Nat), Agree (writes c_wide_Quo_8) t t' → t' 9 = .int .u64 n → (n = N ∨ (9223372036854775808 < n ∧ 9223372036854775808 < N)) → n < 18446744073709551616 → K .normal t' m1) → wpM E F_wide_Quo 73 none c_wide_Quo_8 K t m1 := by
      intro t m1 K t1 t9 t10 k
      refine wpM_cut (fun t' m' => m' = m1 ∧ ∃ n : Nat, t' 9 = .int .u64 n ∧ (n = N ∨ (9223372036854775808 < n ∧ 9223372036854775808 < N)) ∧ n < 18446744073709551616) ?_ (fun t' m' ag ⟨e, n, k1, k2, k3⟩ => e ▸ k t' n ag k1 k2 k3)
      by_cases h1 : q ≤ 9223372036854775808
      · have d2 : decide ((q : Int) ≤ 9223372036854775808) = true := by simp; omega
        by_cases h2 : D - s < s
        · have d3 : decide ((s : Int) > ((D - s : Nat) : Int)) = true := by simp; omega
          rw [if_pos (by omega)] at hN2
          simp (decide := true) (implicitDefEqProofs := false) (maxDischargeDepth := 20) only [go_sem, ↓reduceIte, t1, t9, t10, w0, w1, d2, d3, w3 h1, true_implies, false_implies]
          exact ⟨q + 1, rfl, by omega, by omega⟩
        · have d3 : decide ((s : Int) > ((D - s : Nat) : Int)) = false := by simp; omega
          by_cases h3 : s = D - s
          · have d4 : ((s : Int) == ((D - s : Nat) : Int)) = true := by simp; omega
            by_cases h4 : q % 2 = 1
            · have d5 : (((q % 2 : Nat) : Int) == 1) = true := by simp; omega
              rw [if_pos (by omega)] at hN2
              simp (decide := true) (implicitDefEqProofs := false) (maxDischargeDepth := 20) only [go_sem, ↓reduceIte, t1, t9, t10, w0, w1, d2, d3, d4, a1, d5, w3 h1, true_implies, false_implies]
              exact ⟨q + 1, rfl, by omega, by omega⟩
            · have d5 : (((q % 2 : Nat) : Int) == 1) = false := by simp; omega
              rw [if_neg (by omega)] at hN2
              simp (decide := true) (implicitDefEqProofs := false) (maxDischargeDepth := 20) only [go_sem, ↓reduceIte, t1, t9, t10, w0, w1, d2, d3, d4, a1, d5, true_implies, false_implies]
              exact ⟨q, rfl, by omega, by omega⟩
          · have d4 : ((s : Int) == ((D - s : Nat) : Int)) = false := by simp; omega
            rw [if_neg (by omega)] at hN2
            simp (decide := true) (implicitDefEqProofs := false) (maxDischargeDepth := 20) only [go_sem, ↓reduceIte, t1, t9, t10, w0, w1, d2, d3, d4, true_implies, false_implies]
            exact ⟨q, rfl, by omega, by omega⟩
      · have d2 : decide ((q : Int) ≤ 9223372036854775808) = false := by simp; omega
        simp (decide := true) (implicitDefEqProofs := false) (maxDischargeDepth := 20) only [go_sem, ↓reduceIte, t1, t9, t10, w0, w1, d2, true_implies, false_implies]
        exact ⟨q, rfl, by omega, by omega⟩
    generalize hc18 : c_wide_Quo_18 = c18
    simp (decide := true) (implicitDefEqProofs := false) (maxDischargeDepth := 20) only [go_sem, ↓reduceIte, w0, true_implies, false_implies]
    subst hc18
    rw [c_wide_Quo_18_at, wpM_seq]
    refine step8 _ _ _ (by simp (decide := true) (implicitDefEqProofs := false) only [go_sem, ↓reduceIte]) (by simp (decide := true) (implicitDefEqProofs := false) only [go_sem, ↓reduceIte]) (by simp (decide := true) (implicitDefEqProofs := false) only [go_sem, ↓reduceIte]) fun t' n ag k1 k2 k3 => ?_
    rw [seqK_normal]
    refine fin n k2 k3 t' _ ?_ k1 ?_
    · simp (decide := true) (implicitDefEqProofs := false) (maxDischargeDepth := 20) only [go_sem, ↓reduceIte]
    rw [ag 8 (by decide +kernel)]
    simp (decide := true) (implicitDefEqProofs := false) only [go_sem, ↓reduceIte]

/-- Bounds of a product. -/
theorem mul_abs {x y a b : Int} (hx : -a ≤ x) (hx' : x ≤ a) (hy : -b ≤ y) (hy' : y ≤ b) (ha : 0 ≤ a) (hb : 0 ≤ b) : -(a * b) ≤ x * y ∧ x * y ≤ a * b := by
  have h1 : (x * y).natAbs = x.natAbs * y.natAbs := Int.natAbs_mul x y
  have h2 : x.natAbs ≤ a.natAbs := by omega
  have h3 : y.natAbs ≤ b.natAbs := by omega
  have h4 := Nat.mul_le_mul h2 h3
  have h5 : ((a.natAbs * b.natAbs : Nat) : Int) = a * b := by rw [Int.natCast_mul]; congr 1 <;> omega
  omega

/-- A product of two ints is in the bounds of a wide number. -/
theorem mul_wide {x y : Int} (hx : -9223372036854775808 ≤ x) (hx' : x < 9223372036854775808) (hy : -9223372036854775808 ≤ y) (hy' : y < 9223372036854775808) : -170141183460469231731687303715884105728 ≤ x * y ∧ x * y < 170141183460469231731687303715884105728 := by
  obtain ⟨h1, h2⟩ := mul_abs (a := 9223372036854775808) (b := 9223372036854775808) hx (by omega) hy (by omega) (by decide) (by decide)
  exact ⟨by omega, by omega⟩

set_option maxRecDepth 100000 in
theorem Scale_ans (n num : Int) (hn : -9223372036854775808 ≤ n) (hn' : n < 9223372036854775808) (hm : -9223372036854775808 ≤ num) (hm' : num < 9223372036854775808) (D : Nat) (hD : 0 < D) (hD' : (D : Int) < 9223372036854775808) :
    Ans E F_money_Scale [.int .i64 n, .int .i64 num, .int .i64 D] (quoA (n * num) D) := by
  have m1 := Mul_ans n num hn hn' hm hm'
  obtain ⟨b1, b2⟩ := mul_wide hn hn' hm hm'
  have q1 := Quo_ans (n * num) b1 b2 D hD hD'
  simp only [W] at m1 q1
  refine .of fn_money_Scale (by simp) fun m => ?_
  unfold quoA at q1 ⊢
  by_cases hr : -9223372036854775808 ≤ quoI (n * num) D ∧ quoI (n * num) D < 9223372036854775808
  · rw [if_pos hr] at q1
    rw [if_pos hr]
    simp (decide := true) (implicitDefEqProofs := false) (maxDischargeDepth := 20) only [go_sem, ↓reduceIte, m1.eq, q1.eq]
  · rw [if_neg hr] at q1
    rw [if_neg hr]
    simp (decide := true) (implicitDefEqProofs := false) (maxDischargeDepth := 20) only [go_sem, ↓reduceIte, m1.eq, q1.eq]

end Go.Proofs.Ytpabllcacdopdaa.W
