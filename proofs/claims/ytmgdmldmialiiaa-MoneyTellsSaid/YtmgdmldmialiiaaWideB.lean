/-
  Len64, LeadingZeros64.
-/
import Derived.Test.YtmgdmldmialiiaaWideA
namespace Go.Proofs.Ytmgdmldmialiiaa.W
open Go.Abs
set_option linter.unusedSimpArgs false
set_option linter.unusedVariables false

/-- How many bits a number has. -/
def bl (n : Nat) : Nat := if n = 0 then 0 else n.log2 + 1

theorem bl_shift (k n : Nat) (h : 2 ^ k ≤ n) : bl n = k + bl (n / 2 ^ k) := by
  have hp : 0 < 2 ^ k := Nat.pow_pos (by decide)
  have h0 : n ≠ 0 := by omega
  have h1 : n / 2 ^ k ≠ 0 := by
    have := Nat.div_pos h hp
    omega
  unfold bl
  rw [if_neg h0, if_neg h1]
  have e : n.log2 = (n / 2 ^ k).log2 + k := by
    rw [Nat.log2_eq_iff h0]
    have a := Nat.log2_self_le h1
    have b := Nat.lt_log2_self (n := n / 2 ^ k)
    rw [Nat.le_div_iff_mul_le hp] at a
    rw [Nat.div_lt_iff_lt_mul hp] at b
    refine ⟨by rw [Nat.pow_add]; exact a, ?_⟩
    rw [show (n / 2 ^ k).log2 + k + 1 = ((n / 2 ^ k).log2 + 1) + k by omega, Nat.pow_add]
    exact b
  omega

theorem bl32 (n : Nat) (h : 4294967296 ≤ n) : bl n = 32 + bl (n / 4294967296) := bl_shift 32 n h
theorem bl16 (n : Nat) (h : 65536 ≤ n) : bl n = 16 + bl (n / 65536) := bl_shift 16 n h
theorem bl8 (n : Nat) (h : 256 ≤ n) : bl n = 8 + bl (n / 256) := bl_shift 8 n h

theorem bl_le (n k : Nat) (h : n < 2 ^ k) : bl n ≤ k := by
  unfold bl
  split
  · omega
  · rename_i h0
    have a := Nat.log2_self_le h0
    have : 2 ^ n.log2 < 2 ^ k := by omega
    have := (Nat.pow_lt_pow_iff_right (by decide : 1 < 2)).1 this
    omega

theorem bl_spec (n : Nat) (h : n ≠ 0) : 2 ^ (bl n - 1) ≤ n ∧ n < 2 ^ bl n ∧ 1 ≤ bl n := by
  unfold bl
  rw [if_neg h]
  exact ⟨Nat.log2_self_le h, Nat.lt_log2_self, by omega⟩

def tab8 : ByteArray := ⟨#[0, 1, 2, 2, 3, 3, 3, 3, 4, 4, 4, 4, 4, 4, 4, 4, 5, 5, 5, 5, 5, 5, 5, 5, 5, 5, 5, 5, 5, 5, 5, 5, 6, 6, 6, 6, 6, 6, 6, 6, 6, 6, 6, 6, 6, 6, 6, 6, 6, 6, 6, 6, 6, 6, 6, 6, 6, 6, 6, 6, 6, 6, 6, 6, 7, 7, 7, 7, 7, 7, 7, 7, 7, 7, 7, 7, 7, 7, 7, 7, 7, 7, 7, 7, 7, 7, 7, 7, 7, 7, 7, 7, 7, 7, 7, 7, 7, 7, 7, 7, 7, 7, 7, 7, 7, 7, 7, 7, 7, 7, 7, 7, 7, 7, 7, 7, 7, 7, 7, 7, 7, 7, 7, 7, 7, 7, 7, 7, 8, 8, 8, 8, 8, 8, 8, 8, 8, 8, 8, 8, 8, 8, 8, 8, 8, 8, 8, 8, 8, 8, 8, 8, 8, 8, 8, 8, 8, 8, 8, 8, 8, 8, 8, 8, 8, 8, 8, 8, 8, 8, 8, 8, 8, 8, 8, 8, 8, 8, 8, 8, 8, 8, 8, 8, 8, 8, 8, 8, 8, 8, 8, 8, 8, 8, 8, 8, 8, 8, 8, 8, 8, 8, 8, 8, 8, 8, 8, 8, 8, 8, 8, 8, 8, 8, 8, 8, 8, 8, 8, 8, 8, 8, 8, 8, 8, 8, 8, 8, 8, 8, 8, 8, 8, 8, 8, 8, 8, 8, 8, 8, 8, 8, 8, 8, 8, 8, 8, 8, 8, 8, 8, 8, 8, 8, 8, 8]⟩

theorem tab8_at (n : Nat) (h : n < 256) : tab8[n]? = some (UInt8.ofNat (bl n)) := by
  have : ∀ i : Fin 256, tab8[i.val]? = some (UInt8.ofNat (bl i.val)) := by decide +kernel
  exact this ⟨n, h⟩
theorem tab8_def : ⟨#[0, 1, 2, 2, 3, 3, 3, 3, 4, 4, 4, 4, 4, 4, 4, 4, 5, 5, 5, 5, 5, 5, 5, 5, 5, 5, 5, 5, 5, 5, 5, 5, 6, 6, 6, 6, 6, 6, 6, 6, 6, 6, 6, 6, 6, 6, 6, 6, 6, 6, 6, 6, 6, 6, 6, 6, 6, 6, 6, 6, 6, 6, 6, 6, 7, 7, 7, 7, 7, 7, 7, 7, 7, 7, 7, 7, 7, 7, 7, 7, 7, 7, 7, 7, 7, 7, 7, 7, 7, 7, 7, 7, 7, 7, 7, 7, 7, 7, 7, 7, 7, 7, 7, 7, 7, 7, 7, 7, 7, 7, 7, 7, 7, 7, 7, 7, 7, 7, 7, 7, 7, 7, 7, 7, 7, 7, 7, 7, 8, 8, 8, 8, 8, 8, 8, 8, 8, 8, 8, 8, 8, 8, 8, 8, 8, 8, 8, 8, 8, 8, 8, 8, 8, 8, 8, 8, 8, 8, 8, 8, 8, 8, 8, 8, 8, 8, 8, 8, 8, 8, 8, 8, 8, 8, 8, 8, 8, 8, 8, 8, 8, 8, 8, 8, 8, 8, 8, 8, 8, 8, 8, 8, 8, 8, 8, 8, 8, 8, 8, 8, 8, 8, 8, 8, 8, 8, 8, 8, 8, 8, 8, 8, 8, 8, 8, 8, 8, 8, 8, 8, 8, 8, 8, 8, 8, 8, 8, 8, 8, 8, 8, 8, 8, 8, 8, 8, 8, 8, 8, 8, 8, 8, 8, 8, 8, 8, 8, 8, 8, 8, 8, 8, 8, 8, 8, 8]⟩ = tab8 := rfl

set_option maxHeartbeats 1000000 in
set_option maxRecDepth 100000 in
theorem Len64_ans (n : Nat) (h : (n : Int) < 18446744073709551616) : Ans E F_math_bits_Len64 [.int .u64 n] (.int .i64 (bl n)) := by
  refine .of fn_math_bits_Len64 (by simp) fun m => ?_
  have s32 : ∀ x : Nat, shrI .u64 (x : Int) 32 = ((x / 4294967296 : Nat) : Int) := fun x => shrI_eq .u64 x 32 (by decide)
  have s16 : ∀ x : Nat, shrI .u64 (x : Int) 16 = ((x / 65536 : Nat) : Int) := fun x => shrI_eq .u64 x 16 (by decide)
  have s8 : ∀ x : Nat, shrI .u64 (x : Int) 8 = ((x / 256 : Nat) : Int) := fun x => shrI_eq .u64 x 8 (by decide)
  have w8 : ∀ x : Nat, IntKind.wrap .u8 (x : Int) = ((x % 256 : Nat) : Int) := fun x => by rw [wrap_u8]; omega
  have t8 : ∀ x : Nat, tab8[x % 256]? = some (UInt8.ofNat (bl (x % 256))) := fun x => tab8_at _ (by omega)
  simp (decide := true) (implicitDefEqProofs := false) (maxDischargeDepth := 20) only [go_sem, ↓reduceIte, tab8_def, s32, s16, s8, w8, Int.toNat_natCast, t8, Int.natCast_nonneg]
  simp only [decide_eq_true_eq, decide_eq_false_iff_not]
  have hb : ∀ x : Nat, (UInt8.ofNat (bl (x % 256))).toNat = bl (x % 256) ∧ bl (x % 256) ≤ 8 := fun x => by
    have := bl_le (x % 256) 8 (by omega)
    exact ⟨by rw [UInt8.toNat_ofNat']; omega, this⟩
  have num : ∀ (c x : Nat), c ≤ 56 → IntKind.wrap .i64 ((c : Int) + IntKind.wrap .i64 (((UInt8.ofNat (bl (x % 256))).toNat : Nat) : Int)) = ((c + bl (x % 256) : Nat) : Int) := fun c x hc => by
    obtain ⟨h1, h2⟩ := hb x
    rw [h1, wrap_i64_id ((bl (x % 256) : Nat) : Int) (by omega) (by omega), wrap_i64_id _ (by omega) (by omega)]
    omega
  have k0 : IntKind.wrap .i64 (32 + 16) = ((48 : Nat) : Int) := rfl
  have k1 : IntKind.wrap .i64 (((48 : Nat) : Int) + 8) = ((56 : Nat) : Int) := rfl
  have k2 : IntKind.wrap .i64 (32 + 8) = ((40 : Nat) : Int) := rfl
  have k3 : IntKind.wrap .i64 (0 + 16) = ((16 : Nat) : Int) := rfl
  have k4 : IntKind.wrap .i64 (((16 : Nat) : Int) + 8) = ((24 : Nat) : Int) := rfl
  have k5 : IntKind.wrap .i64 (0 + 8) = ((8 : Nat) : Int) := rfl
  have k6 : (32 : Int) = ((32 : Nat) : Int) := rfl
  have k7 : ∀ z : Int, (0 : Int) + z = ((0 : Nat) : Int) + z := fun z => rfl
  rw [k0, k1, k2, k3, k4, k5]
  have fin : ∀ a b : Nat, a = b → Value.int .i64 (a : Int) = Value.int .i64 (b : Int) := fun a b e => by rw [e]
  refine ⟨fun h1 => ⟨fun h2 => ⟨fun h3 => ?_, fun h3 => ?_⟩, fun h2 => ⟨fun h3 => ?_, fun h3 => ?_⟩⟩, fun h1 => ⟨fun h2 => ⟨fun h3 => ?_, fun h3 => ?_⟩, fun h2 => ⟨fun h3 => ?_, fun h3 => ?_⟩⟩⟩
  · rw [num 56 _ (by omega)]
    refine fin _ _ ?_
    rw [bl32 n (by omega), bl16 (n / 4294967296) (by omega), bl8 (n / 4294967296 / 65536) (by omega), Nat.mod_eq_of_lt (by omega)]
    omega
  · rw [num 48 _ (by omega)]
    refine fin _ _ ?_
    rw [bl32 n (by omega), bl16 (n / 4294967296) (by omega), Nat.mod_eq_of_lt (by omega)]
    omega
  · rw [num 40 _ (by omega)]
    refine fin _ _ ?_
    rw [bl32 n (by omega), bl8 (n / 4294967296) (by omega), Nat.mod_eq_of_lt (by omega)]
    omega
  · rw [k6, num 32 _ (by omega)]
    refine fin _ _ ?_
    rw [bl32 n (by omega), Nat.mod_eq_of_lt (by omega)]
  · rw [num 24 _ (by omega)]
    refine fin _ _ ?_
    rw [bl16 n (by omega), bl8 (n / 65536) (by omega), Nat.mod_eq_of_lt (by omega)]
    omega
  · rw [num 16 _ (by omega)]
    refine fin _ _ ?_
    rw [bl16 n (by omega), Nat.mod_eq_of_lt (by omega)]
  · rw [num 8 _ (by omega)]
    refine fin _ _ ?_
    rw [bl8 n (by omega), Nat.mod_eq_of_lt (by omega)]
  · rw [k7, num 0 _ (by omega)]
    refine fin _ _ ?_
    rw [Nat.mod_eq_of_lt (by omega)]
    omega
set_option maxHeartbeats 1000000 in
set_option maxRecDepth 100000 in
theorem Lz64_ans (n : Nat) (h : (n : Int) < 18446744073709551616) : Ans E F_math_bits_LeadingZeros64 [.int .u64 n] (.int .i64 (64 - bl n)) := by
  refine .of fn_math_bits_LeadingZeros64 (by simp) fun m => ?_
  simp (decide := true) (implicitDefEqProofs := false) (maxDischargeDepth := 20) only [go_sem, ↓reduceIte]
  refine (Len64_ans n h).use fun l => ?_
  simp (decide := true) (implicitDefEqProofs := false) (maxDischargeDepth := 20) only [go_sem, ↓reduceIte]
  have := bl_le n 64 (by omega)
  rw [wrap_i64_id _ (by omega) (by omega)]

end Go.Proofs.Ytmgdmldmialiiaa.W
