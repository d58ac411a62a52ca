/-
  The sum of bytes: what both texts of it answer.
-/
import Derived.Test.YtokkjdlnbccojaaCodeBurst
namespace Go.Proofs.Ytokkjdlnbccojaa.W
open Go.Abs
set_option linter.unusedSimpArgs false
set_option linter.unusedVariables false

/-- One bit's step. -/
def st (s : BitVec 32) : BitVec 32 := (s >>> 1) ^^^ (3988292384#32 * (s &&& 1#32))
def it : Nat → BitVec 32 → BitVec 32
  | 0, s => s
  | n + 1, s => st (it n s)
/-- One byte's. -/
def by8 (s : BitVec 32) (b : UInt8) : BitVec 32 := it 8 (s ^^^ b.toBitVec.setWidth 32)
def fl (s : BitVec 32) (l : List UInt8) : BitVec 32 := l.foldl by8 s
def crc (l : List UInt8) : BitVec 32 := ~~~ fl (4294967295#32) l

def u32 (s : BitVec 32) : Value := .int .u32 (s.toNat : Int)
def byteV (b : UInt8) : Value := .int .u8 (b.toNat : Int)

theorem ofInt_toNat {n : Nat} (a : BitVec n) : BitVec.ofInt n (a.toNat : Int) = a := by
  apply BitVec.eq_of_toNat_eq
  rw [BitVec.toNat_ofInt, ← Int.natCast_emod, Int.toNat_natCast]
  exact Nat.mod_eq_of_lt a.isLt
theorem wrap_u32_nat (a : BitVec 32) : IntKind.wrap .u32 (a.toNat : Int) = (a.toNat : Int) := by
  rw [wrap_u32]
  have := a.isLt
  omega
theorem xor_u32 (a b : BitVec 32) : xorI .u32 (a.toNat : Int) (b.toNat : Int) = ((a ^^^ b).toNat : Int) := by
  show IntKind.wrap .u32 ((BitVec.ofInt 32 (a.toNat : Int) ^^^ BitVec.ofInt 32 (b.toNat : Int)).toNat : Int) = _
  rw [ofInt_toNat, ofInt_toNat, wrap_u32_nat]
theorem and1_u32 (a : BitVec 32) : andI .u32 (a.toNat : Int) 1 = ((a &&& 1#32).toNat : Int) := by
  show IntKind.wrap .u32 ((BitVec.ofInt 32 (a.toNat : Int) &&& BitVec.ofInt 32 1).toNat : Int) = _
  rw [ofInt_toNat, show BitVec.ofInt 32 1 = 1#32 by decide, wrap_u32_nat]
theorem shr1_u32 (a : BitVec 32) : shrI .u32 (a.toNat : Int) 1 = ((a >>> 1).toNat : Int) := by
  have e : shrI .u32 (a.toNat : Int) 1 = (a.toNat : Int) / 2 := shrI_eq .u32 _ 1 (by decide)
  rw [e, BitVec.toNat_ushiftRight, Nat.shiftRight_eq_div_pow]
  omega
theorem mul_u32 (a b : BitVec 32) : IntKind.wrap .u32 ((a.toNat : Int) * (b.toNat : Int)) = ((a * b).toNat : Int) := by
  rw [wrap_u32, BitVec.toNat_mul, Int.natCast_emod, Int.natCast_mul]
  rfl
theorem not_u32 (a : BitVec 32) : IntKind.wrap .u32 ((BitVec.ofInt 32 IntKind.u32.max ^^^ BitVec.ofInt 32 (a.toNat : Int)).toNat : Int) = ((~~~a).toNat : Int) := by
  show IntKind.wrap .u32 ((BitVec.ofInt 32 4294967295 ^^^ BitVec.ofInt 32 (a.toNat : Int)).toNat : Int) = _
  rw [ofInt_toNat, show BitVec.ofInt 32 4294967295 = BitVec.allOnes 32 by decide, BitVec.allOnes_xor, wrap_u32_nat]
theorem byte_u32 (b : UInt8) : IntKind.wrap .u32 (b.toNat : Int) = ((b.toBitVec.setWidth 32).toNat : Int) := by
  have h : (b.toBitVec.setWidth 32).toNat = b.toNat := by
    rw [BitVec.toNat_setWidth]
    have := b.toBitVec.isLt
    exact Nat.mod_eq_of_lt (by omega)
  rw [h, wrap_u32]
  have := b.toNat_lt
  omega
theorem poly_nat : ((3988292384 : Int)) = (((3988292384#32 : BitVec 32).toNat : Nat) : Int) := by decide

theorem lsb_cases (s : BitVec 32) : s &&& 1#32 = 0#32 ∨ s &&& 1#32 = 1#32 := by
  have : (s &&& 1#32).toNat = s.toNat % 2 := by
    rw [BitVec.toNat_and, show (1#32 : BitVec 32).toNat = 2 ^ 1 - 1 by decide, Nat.and_two_pow_sub_one_eq_mod]
  have h : s.toNat % 2 = 0 ∨ s.toNat % 2 = 1 := by omega
  rcases h with h | h
  · exact .inl (BitVec.eq_of_toNat_eq (by rw [this, h]; rfl))
  · exact .inr (BitVec.eq_of_toNat_eq (by rw [this, h]; rfl))

theorem fl_take (s : BitVec 32) (l : List UInt8) (i : Nat) (hi : i < l.length) : fl s (l.take (i + 1)) = by8 (fl s (l.take i)) l[i] := by
  unfold fl
  rw [List.take_succ_eq_append_getElem hi, List.foldl_append]
  rfl

set_option maxRecDepth 100000 in
theorem Sum_inner (t : Fr) (m : Mem) (s0 : BitVec 32) (t3 : t 3 = u32 s0) (t17 : t 17 = .int .i64 0) (K : Post3) (hK : ∀ t', Agree (writes c_burst_Sum_8) t t' → t' 3 = u32 (it 8 s0) → K .normal t' m) : wpM E F_burst_Sum 30 none c_burst_Sum_8 K t m := by
  refine wpM_cut (fun t' m' => m' = m ∧ t' 3 = u32 (it 8 s0)) ?_ fun t' m' ha ⟨e, h⟩ => e ▸ hK t' ha h
  simp only [c_burst_Sum_8_at, wpM_block, c_burst_Sum_7_at]
  refine wpM_loopA (fun j t' m' => m' = m ∧ ∃ i : Nat, i ≤ 8 ∧ j = 8 - i ∧ t' 17 = .int .i64 i ∧ t' 3 = u32 (it i s0)) 8 ⟨rfl, 0, by omega, rfl, t17, t3⟩ ?_
  rintro j t' m' ha ⟨rfl, i, hi, rfl, e17, e3⟩
  unfold u32 at e3
  by_cases hlt : i < 8
  · have d1 : decide ((i : Int) < 8) = true := by simp; omega
    have w1 : IntKind.wrap .i64 ((i : Int) + 1) = ((i + 1 : Nat) : Int) := by rw [wrap_i64_id _ (by omega) (by omega)]; omega
    simp (decide := true) (implicitDefEqProofs := false) (maxDischargeDepth := 20) only [go_sem, ↓reduceIte, e17, e3, d1, w1, and1_u32, shr1_u32, true_implies, false_implies]
    refine ⟨8 - (i + 1), by omega, i + 1, by omega, rfl, rfl, ?_⟩
    rw [poly_nat, mul_u32, xor_u32]
    rfl
  · have d1 : decide ((i : Int) < 8) = false := by simp; omega
    have : i = 8 := by omega
    subst this
    simp (decide := true) (implicitDefEqProofs := false) (maxDischargeDepth := 20) only [go_sem, ↓reduceIte, e17, e3, d1, true_implies, false_implies]
    rfl

set_option maxRecDepth 100000 in
theorem Crc_inner (t : Fr) (m : Mem) (s0 : BitVec 32) (t3 : t 3 = u32 s0) (t16 : t 16 = .int .i64 0) (K : Post3) (hK : ∀ t', Agree (writes c_sheafref1_Crc_9) t t' → t' 3 = u32 (it 8 s0) → K .normal t' m) : wpM E F_sheafref1_Crc 30 none c_sheafref1_Crc_9 K t m := by
  refine wpM_cut (fun t' m' => m' = m ∧ t' 3 = u32 (it 8 s0)) ?_ fun t' m' ha ⟨e, h⟩ => e ▸ hK t' ha h
  simp only [c_sheafref1_Crc_9_at, wpM_block, c_sheafref1_Crc_8_at]
  refine wpM_loopA (fun j t' m' => m' = m ∧ ∃ i : Nat, i ≤ 8 ∧ j = 8 - i ∧ t' 16 = .int .i64 i ∧ t' 3 = u32 (it i s0)) 8 ⟨rfl, 0, by omega, rfl, t16, t3⟩ ?_
  rintro j t' m' ha ⟨rfl, i, hi, rfl, e16, e3⟩
  unfold u32 at e3
  by_cases hlt : i < 8
  · have d1 : decide ((i : Int) < 8) = true := by simp; omega
    have w1 : IntKind.wrap .i64 ((i : Int) + 1) = ((i + 1 : Nat) : Int) := by rw [wrap_i64_id _ (by omega) (by omega)]; omega
    rcases lsb_cases (it i s0) with hb | hb
    · have d2 : ((((it i s0) &&& 1#32).toNat : Int) == 1) = false := by rw [hb]; rfl
      simp (decide := true) (implicitDefEqProofs := false) (maxDischargeDepth := 20) only [go_sem, ↓reduceIte, e16, e3, d1, d2, w1, and1_u32, shr1_u32, true_implies, false_implies]
      refine ⟨8 - (i + 1), by omega, i + 1, by omega, rfl, rfl, ?_⟩
      show _ = u32 (st (it i s0))
      unfold st u32
      rw [hb]
      simp
    · have d2 : ((((it i s0) &&& 1#32).toNat : Int) == 1) = true := by rw [hb]; rfl
      simp (decide := true) (implicitDefEqProofs := false) (maxDischargeDepth := 20) only [go_sem, ↓reduceIte, e16, e3, d1, d2, w1, and1_u32, shr1_u32, true_implies, false_implies]
      refine ⟨8 - (i + 1), by omega, i + 1, by omega, rfl, rfl, ?_⟩
      rw [poly_nat, xor_u32]
      show _ = u32 (st (it i s0))
      unfold st u32
      rw [hb]
      rfl
  · have d1 : decide ((i : Int) < 8) = false := by simp; omega
    have : i = 8 := by omega
    subst this
    simp (decide := true) (implicitDefEqProofs := false) (maxDischargeDepth := 20) only [go_sem, ↓reduceIte, e16, e3, d1, true_implies, false_implies]
    rfl

set_option maxRecDepth 100000 in
theorem Sum_at {m : Mem} {a : Option Addr} {n c : Nat} {l : List UInt8} (h : SlA m 1 a n c (l.map byteV)) (hn : n ≤ 1073741824) : CallQ E F_burst_Sum [.slice a n c].toArray m fun w m' => w = u32 (crc l) ∧ Old m m' := by
  refine .enter fn_burst_Sum (by simp) ?_
  have hl : l.length = n := by have := h.len; simpa using this
  simp (decide := true) (implicitDefEqProofs := false) (maxDischargeDepth := 20) only [go_sem, ↓reduceIte]
  refine wpM_cut (fun t' m' => m' = m ∧ t' 3 = u32 (fl (4294967295#32) l)) ?_ fun t' m' ha ⟨e, h2⟩ => ?_
  · simp only [c_burst_Sum_17_at, wpM_block, c_burst_Sum_16_at]
    refine wpM_loopA (fun j t' m' => m' = m ∧ ∃ i : Nat, i ≤ n ∧ j = n - i ∧ t' 9 = .int .i64 i ∧ t' 3 = u32 (fl (4294967295#32) (l.take i))) n ⟨rfl, 0, by omega, rfl, by simp (decide := true) only [go_sem, ↓reduceIte]; rfl, by simp (decide := true) only [go_sem, ↓reduceIte]; rfl⟩ ?_
    rintro j t' m' ha ⟨rfl, i, hi, rfl, e9, e3⟩
    have a7 := ha 7 (by decide +kernel)
    have a8 := ha 8 (by decide +kernel)
    simp (decide := true) only [go_sem, ↓reduceIte] at a7 a8
    by_cases hlt : i < n
    · have d1 : decide ((i : Int) < (n : Int)) = true := by simp; omega
      have w1 : IntKind.wrap .i64 ((i : Int) + 1) = ((i + 1 : Nat) : Int) := by rw [wrap_i64_id _ (by omega) (by omega)]; omega
      obtain ⟨b, o, sp, rfl⟩ := h.addr (by omega)
      have r1 := h.at_map hlt
      have z0 : (0 : Int) ≤ (i : Int) := by omega
      have z1 : (i : Int) < (n : Int) := by omega
      unfold u32 at e3
      unfold byteV at r1
      simp (decide := true) (implicitDefEqProofs := false) (maxDischargeDepth := 20) only [go_sem, ↓reduceIte, e9, e3, a7, a8, d1, r1, z0, z1, Int.toNat_natCast, Nat.mul_one, byte_u32, xor_u32, true_implies, false_implies]
      refine Sum_inner _ _ (fl (4294967295#32) (l.take i) ^^^ (l[i]'(by omega)).toBitVec.setWidth 32) (by simp (decide := true) only [go_sem, ↓reduceIte, u32]) (by simp (decide := true) only [go_sem, ↓reduceIte]) _ ?_
      intro t2 ag t3
      have c9 := ag 9 (by decide +kernel)
      simp (decide := true) only [go_sem, ↓reduceIte, e9] at c9
      simp (decide := true) (implicitDefEqProofs := false) (maxDischargeDepth := 20) only [go_sem, ↓reduceIte, c9, w1]
      refine ⟨n - (i + 1), by omega, i + 1, by omega, rfl, rfl, ?_⟩
      rw [t3, fl_take _ _ _ (by omega)]
      rfl
    · have d1 : decide ((i : Int) < (n : Int)) = false := by simp; omega
      have hin : i = n := by omega
      subst hin
      rw [List.take_of_length_le (by omega)] at e3
      simp (decide := true) (implicitDefEqProofs := false) (maxDischargeDepth := 20) only [go_sem, ↓reduceIte, e9, e3, a8, d1, true_implies, false_implies]
  · subst e
    unfold u32 at h2
    simp (decide := true) (implicitDefEqProofs := false) (maxDischargeDepth := 20) only [go_sem, ↓reduceIte, h2]
    exact congrArg (Value.int .u32) (not_u32 _)
set_option maxRecDepth 100000 in
theorem Crc_at {m : Mem} {a : Option Addr} {n c : Nat} {l : List UInt8} (h : SlA m 1 a n c (l.map byteV)) (hn : n ≤ 1073741824) : CallQ E F_sheafref1_Crc [.slice a n c].toArray m fun w m' => w = u32 (crc l) ∧ Old m m' := by
  refine .enter fn_sheafref1_Crc (by simp) ?_
  have hl : l.length = n := by have := h.len; simpa using this
  simp (decide := true) (implicitDefEqProofs := false) (maxDischargeDepth := 20) only [go_sem, ↓reduceIte]
  refine wpM_cut (fun t' m' => m' = m ∧ t' 3 = u32 (fl (4294967295#32) l)) ?_ fun t' m' ha ⟨e, h2⟩ => ?_
  · simp only [c_sheafref1_Crc_18_at, wpM_block, c_sheafref1_Crc_17_at]
    refine wpM_loopA (fun j t' m' => m' = m ∧ ∃ i : Nat, i ≤ n ∧ j = n - i ∧ t' 8 = .int .i64 i ∧ t' 3 = u32 (fl (4294967295#32) (l.take i))) n ⟨rfl, 0, by omega, rfl, by simp (decide := true) only [go_sem, ↓reduceIte]; rfl, by simp (decide := true) only [go_sem, ↓reduceIte]; rfl⟩ ?_
    rintro j t' m' ha ⟨rfl, i, hi, rfl, e8, e3⟩
    have a6 := ha 6 (by decide +kernel)
    have a7 := ha 7 (by decide +kernel)
    simp (decide := true) only [go_sem, ↓reduceIte] at a6 a7
    by_cases hlt : i < n
    · have d1 : decide ((i : Int) < (n : Int)) = true := by simp; omega
      have w1 : IntKind.wrap .i64 ((i : Int) + 1) = ((i + 1 : Nat) : Int) := by rw [wrap_i64_id _ (by omega) (by omega)]; omega
      obtain ⟨b, o, sp, rfl⟩ := h.addr (by omega)
      have r1 := h.at_map hlt
      have z0 : (0 : Int) ≤ (i : Int) := by omega
      have z1 : (i : Int) < (n : Int) := by omega
      unfold u32 at e3
      unfold byteV at r1
      simp (decide := true) (implicitDefEqProofs := false) (maxDischargeDepth := 20) only [go_sem, ↓reduceIte, e8, e3, a6, a7, d1, r1, z0, z1, Int.toNat_natCast, Nat.mul_one, byte_u32, xor_u32, true_implies, false_implies]
      refine Crc_inner _ _ (fl (4294967295#32) (l.take i) ^^^ (l[i]'(by omega)).toBitVec.setWidth 32) (by simp (decide := true) only [go_sem, ↓reduceIte, u32]) (by simp (decide := true) only [go_sem, ↓reduceIte]) _ ?_
      intro t2 ag t3
      have c8 := ag 8 (by decide +kernel)
      simp (decide := true) only [go_sem, ↓reduceIte, e8] at c8
      simp (decide := true) (implicitDefEqProofs := false) (maxDischargeDepth := 20) only [go_sem, ↓reduceIte, c8, w1]
      refine ⟨n - (i + 1), by omega, i + 1, by omega, rfl, rfl, ?_⟩
      rw [t3, fl_take _ _ _ (by omega)]
      rfl
    · have d1 : decide ((i : Int) < (n : Int)) = false := by simp; omega
      have hin : i = n := by omega
      subst hin
      rw [List.take_of_length_le (by omega)] at e3
      simp (decide := true) (implicitDefEqProofs := false) (maxDischargeDepth := 20) only [go_sem, ↓reduceIte, e8, e3, a7, d1, true_implies, false_implies]
  · subst e
    unfold u32 at h2
    simp (decide := true) (implicitDefEqProofs := false) (maxDischargeDepth := 20) only [go_sem, ↓reduceIte, h2]
    exact congrArg (Value.int .u32) (not_u32 _)
end Go.Proofs.Ytokkjdlnbccojaa.W
