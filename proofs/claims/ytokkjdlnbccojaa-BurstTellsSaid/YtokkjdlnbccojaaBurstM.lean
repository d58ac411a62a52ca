/-
  The mathematics of the sum: linear, a step is injective, what is closed has one residue.
-/
import Derived.Test.YtokkjdlnbccojaaBurstB
namespace Go.Proofs.Ytokkjdlnbccojaa.W
open Go.Abs
set_option linter.unusedSimpArgs false
set_option linter.unusedVariables false

theorem xor4 {n : Nat} (a b c d : BitVec n) : (a ^^^ b) ^^^ (c ^^^ d) = (a ^^^ c) ^^^ (b ^^^ d) := by
  rw [BitVec.xor_assoc, BitVec.xor_assoc]
  congr 1
  rw [← BitVec.xor_assoc, ← BitVec.xor_assoc, BitVec.xor_comm b c]

theorem st_0 : st 0#32 = 0#32 := by decide
theorem st_xor (a b : BitVec 32) : st (a ^^^ b) = st a ^^^ st b := by
  have h : (a ^^^ b) &&& 1#32 = (a &&& 1#32) ^^^ (b &&& 1#32) := by
    apply BitVec.eq_of_getLsbD_eq
    intro i hi
    simp only [BitVec.getLsbD_and, BitVec.getLsbD_xor]
    cases a.getLsbD i <;> cases b.getLsbD i <;> cases (1#32).getLsbD i <;> rfl
  have h2 : (a ^^^ b) >>> 1 = (a >>> 1) ^^^ (b >>> 1) := by
    apply BitVec.eq_of_getLsbD_eq
    intro i hi
    simp only [BitVec.getLsbD_ushiftRight, BitVec.getLsbD_xor]
  unfold st
  rw [h, h2]
  have h3 : 3988292384#32 * ((a &&& 1#32) ^^^ (b &&& 1#32)) = (3988292384#32 * (a &&& 1#32)) ^^^ (3988292384#32 * (b &&& 1#32)) := by
    rcases lsb_cases a with e | e <;> rcases lsb_cases b with f | f <;> rw [e, f] <;> decide
  rw [h3, xor4]
theorem it_xor : ∀ (n : Nat) (a b : BitVec 32), it n (a ^^^ b) = it n a ^^^ it n b
  | 0, _, _ => rfl
  | n + 1, a, b => by rw [it, it, it, it_xor n, st_xor]
theorem it_0 : ∀ n : Nat, it n 0#32 = 0#32
  | 0 => rfl
  | n + 1 => by rw [it, it_0 n, st_0]
theorem it_add : ∀ (a b : Nat) (s : BitVec 32), it (a + b) s = it a (it b s)
  | 0, b, s => by rw [Nat.zero_add]; rfl
  | a + 1, b, s => by rw [show a + 1 + b = (a + b) + 1 by omega, it, it_add a b]; rfl

/-- Only nought makes nought. -/
theorem st_inj0 (s : BitVec 32) (h : st s = 0#32) : s = 0#32 := by
  unfold st at h
  rcases lsb_cases s with e | e
  · rw [e] at h
    simp only [BitVec.mul_zero, BitVec.xor_zero] at h
    apply BitVec.eq_of_toNat_eq
    have h1 : (s >>> 1).toNat = 0 := by rw [h]; rfl
    have h2 : (s &&& 1#32).toNat = 0 := by rw [e]; rfl
    rw [BitVec.toNat_ushiftRight, Nat.shiftRight_eq_div_pow] at h1
    rw [BitVec.toNat_and, show (1#32 : BitVec 32).toNat = 2 ^ 1 - 1 by decide, Nat.and_two_pow_sub_one_eq_mod] at h2
    show s.toNat = 0
    omega
  · rw [e] at h
    exfalso
    have h1 : (s >>> 1) = 3988292384#32 := by
      have := congrArg (· ^^^ (3988292384#32 * 1#32)) h
      simp only [BitVec.xor_assoc, BitVec.xor_self, BitVec.xor_zero, BitVec.zero_xor] at this
      rw [this]; decide
    have h2 : (s >>> 1).toNat = 3988292384 := by rw [h1]; rfl
    rw [BitVec.toNat_ushiftRight, Nat.shiftRight_eq_div_pow] at h2
    have := s.isLt
    omega
theorem it_inj0 : ∀ (n : Nat) (s : BitVec 32), it n s = 0#32 → s = 0#32
  | 0, _, h => h
  | n + 1, s, h => it_inj0 n s (st_inj0 _ h)

/-! ### Bits -/
def bitV (b : Bool) : BitVec 32 := if b then 1#32 else 0#32
/-- Bit by bit. -/
def gl (s : BitVec 32) (l : List Bool) : BitVec 32 := l.foldl (fun s b => st (s ^^^ bitV b)) s
/-- Two rows of bits, one on the other. -/
def xl : List Bool → List Bool → List Bool
  | a :: l, b :: r => (a != b) :: xl l r
  | _, _ => []

theorem bitV_xor (a b : Bool) : bitV (a != b) = bitV a ^^^ bitV b := by cases a <;> cases b <;> decide
theorem gl_xor : ∀ (l r : List Bool) (s t : BitVec 32), l.length = r.length → gl (s ^^^ t) (xl l r) = gl s l ^^^ gl t r
  | [], [], s, t, _ => rfl
  | a :: l, b :: r, s, t, h => by
    show gl (st (s ^^^ t ^^^ bitV (a != b))) (xl l r) = gl (st (s ^^^ bitV a)) l ^^^ gl (st (t ^^^ bitV b)) r
    rw [bitV_xor, xor4, st_xor]
    exact gl_xor l r _ _ (by simpa using h)
theorem gl_append (s : BitVec 32) (l r : List Bool) : gl s (l ++ r) = gl (gl s l) r := by
  unfold gl
  rw [List.foldl_append]
theorem gl_zeros : ∀ (n : Nat) (s : BitVec 32), gl s (List.replicate n false) = it n s
  | 0, _ => rfl
  | n + 1, s => by
    rw [List.replicate_succ]
    show gl (st (s ^^^ bitV false)) (List.replicate n false) = _
    rw [gl_zeros n, show bitV false = 0#32 from rfl, BitVec.xor_zero, ← show it 1 s = st s from rfl, ← it_add]

/-- The lowest bits of a number, the lowest first. -/
def bits (n : Nat) (x : BitVec 32) : List Bool := (List.range n).map fun i => x.getLsbD i

theorem gl_bits : ∀ (n : Nat), n ≤ 32 → ∀ (s x : BitVec 32), gl s (bits n x) = it n (s ^^^ (x &&& BitVec.ofNat 32 (2 ^ n - 1))) := by
  intro n
  induction n with
  | zero =>
    intro _ s x
    show s = s ^^^ (x &&& 0#32)
    simp
  | succ n ih =>
    intro hn s x
    have e : bits (n + 1) x = bits n x ++ [x.getLsbD n] := by
      unfold bits
      rw [List.range_succ, List.map_append]
      rfl
    rw [e, gl_append, ih (by omega)]
    show st (it n (s ^^^ (x &&& BitVec.ofNat 32 (2 ^ n - 1))) ^^^ bitV (x.getLsbD n)) = st (it n (s ^^^ (x &&& BitVec.ofNat 32 (2 ^ (n + 1) - 1))))
    congr 1
    -- the next bit comes down
    have h1 : ∀ n, n < 32 → it n (BitVec.ofNat 32 (2 ^ n)) = 1#32 := by decide
    have h2 : bitV (x.getLsbD n) = it n (if x.getLsbD n then BitVec.ofNat 32 (2 ^ n) else 0#32) := by
      cases x.getLsbD n
      · exact (it_0 n).symm
      · exact (h1 n (by omega)).symm
    rw [h2, ← it_xor, BitVec.xor_assoc]
    congr 2
    apply BitVec.eq_of_getLsbD_eq
    intro i hi
    have p1 : ∀ k j : Nat, j < 32 → (BitVec.ofNat 32 (2 ^ k - 1)).getLsbD j = decide (j < k) := by
      intro k j hj
      rw [BitVec.getLsbD_ofNat, Nat.testBit_two_pow_sub_one]
      simp [hj]
    have p2 : ∀ k j : Nat, j < 32 → (BitVec.ofNat 32 (2 ^ k)).getLsbD j = decide (k = j) := by
      intro k j hj
      rw [BitVec.getLsbD_ofNat, Nat.testBit_two_pow]
      simp [hj]
    rw [BitVec.getLsbD_xor, BitVec.getLsbD_and, BitVec.getLsbD_and, p1 _ _ hi, p1 _ _ hi]
    by_cases hx : x.getLsbD n
    · simp only [hx, if_true, p2 _ _ hi]
      by_cases h3 : i < n
      · simp [h3, show i < n + 1 by omega, show ¬ n = i by omega]
      · by_cases h4 : n = i
        · subst h4; simp [hx]
        · simp [h3, h4, show ¬ i < n + 1 by omega]
    · simp only [hx, if_false, BitVec.getLsbD_zero, Bool.xor_false, Bool.false_eq_true]
      by_cases h3 : i < n
      · simp [h3, show i < n + 1 by omega]
      · by_cases h4 : n = i
        · subst h4; simp [hx]
        · simp [h3, show ¬ i < n + 1 by omega]

theorem gl_word (s x : BitVec 32) : gl s (bits 32 x) = it 32 (s ^^^ x) := by
  rw [gl_bits 32 (by decide), show BitVec.ofNat 32 (2 ^ 32 - 1) = BitVec.allOnes 32 by decide, BitVec.and_allOnes]

/-- The bits of bytes. -/
def bb (b : UInt8) : List Bool := bits 8 (b.toBitVec.setWidth 32)
def lb (l : List UInt8) : List Bool := (l.map bb).flatten

theorem by8_gl (s : BitVec 32) (b : UInt8) : by8 s b = gl s (bb b) := by
  unfold bb by8
  rw [gl_bits 8 (by decide)]
  congr 2
  apply BitVec.eq_of_getLsbD_eq
  intro i hi
  rw [BitVec.getLsbD_and, show BitVec.ofNat 32 (2 ^ 8 - 1) = 255#32 by decide]
  simp only [BitVec.getLsbD_setWidth, hi, decide_true, Bool.true_and]
  by_cases h : i < 8
  · have : ∀ i, i < 8 → (255#32).getLsbD i = true := by decide
    rw [this i h, Bool.and_true]
  · rw [BitVec.getLsbD_of_ge _ _ (by omega), Bool.false_and]

theorem fl_gl : ∀ (l : List UInt8) (s : BitVec 32), fl s l = gl s (lb l)
  | [], _ => rfl
  | b :: l, s => by
    show fl (by8 s b) l = gl s (bb b ++ lb l)
    rw [gl_append, fl_gl l, by8_gl]

theorem fl_append (s : BitVec 32) (l r : List UInt8) : fl s (l ++ r) = fl (fl s l) r := by
  unfold fl
  rw [List.foldl_append]
end Go.Proofs.Ytokkjdlnbccojaa.W
