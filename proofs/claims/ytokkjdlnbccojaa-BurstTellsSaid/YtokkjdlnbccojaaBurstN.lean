/-
  A burst is found.
-/
import Derived.Test.YtokkjdlnbccojaaBurstM
namespace Go.Proofs.Ytokkjdlnbccojaa.W
open Go.Abs
set_option linter.unusedSimpArgs false
set_option linter.unusedVariables false

/-- The number of a row of bits. -/
def wd : List Bool → Nat
  | [] => 0
  | b :: l => b.toNat + 2 * wd l

theorem wd_testBit : ∀ (l : List Bool) (i : Nat), (wd l).testBit i = l.getD i false
  | [], i => by simp [wd]
  | b :: l, 0 => by
    rw [wd, Nat.testBit_zero]
    cases b <;> simp <;> omega
  | b :: l, i + 1 => by
    rw [wd, Nat.testBit_succ]
    have : (b.toNat + 2 * wd l) / 2 = wd l := by cases b <;> simp <;> omega
    rw [this, wd_testBit l i]
    simp

theorem bits_wd (l : List Bool) (h : l.length ≤ 32) : bits l.length (BitVec.ofNat 32 (wd l)) = l := by
  apply List.ext_getElem
  · simp [bits]
  · intro i h1 h2
    simp only [bits, List.getElem_map, List.getElem_range, BitVec.getLsbD_ofNat]
    rw [wd_testBit, List.getD_eq_getElem?_getD, List.getElem?_eq_getElem h2]
    simp
    omega

/-- A row of at most 32 bits, zeros about it, makes nought just if it is nought. -/
theorem burst0 (p q : Nat) (l : List Bool) (h : l.length ≤ 32) : gl 0#32 (List.replicate p false ++ l ++ List.replicate q false) = 0#32 ↔ ∀ b ∈ l, b = false := by
  rw [gl_append, gl_append, gl_zeros, gl_zeros, it_0]
  constructor
  · intro h0
    have h1 := it_inj0 _ _ h0
    rw [← bits_wd l h, gl_bits _ h, BitVec.zero_xor] at h1
    have h2 := it_inj0 _ _ h1
    intro b hb
    obtain ⟨i, hi, rfl⟩ := List.getElem_of_mem hb
    have h3 : (BitVec.ofNat 32 (wd l) &&& BitVec.ofNat 32 (2 ^ l.length - 1)).getLsbD i = false := by rw [h2]; simp
    rw [BitVec.getLsbD_and, BitVec.getLsbD_ofNat, BitVec.getLsbD_ofNat, wd_testBit, Nat.testBit_two_pow_sub_one, List.getD_eq_getElem?_getD, List.getElem?_eq_getElem hi] at h3
    have : i < 32 := by omega
    simpa [this, hi] using h3
  · intro h0
    have e : l = List.replicate l.length false := List.eq_replicate_iff.2 ⟨rfl, h0⟩
    rw [e, gl_zeros, it_0, it_0]

/-! ### Bytes -/
/-- Two rows of bytes, one on the other. -/
def xb : List UInt8 → List UInt8 → List UInt8
  | a :: l, b :: r => (a ^^^ b) :: xb l r
  | _, _ => []

theorem by8_xor (s t : BitVec 32) (a b : UInt8) : by8 (s ^^^ t) (a ^^^ b) = by8 s a ^^^ by8 t b := by
  unfold by8
  have h : (a ^^^ b).toBitVec.setWidth 32 = a.toBitVec.setWidth 32 ^^^ b.toBitVec.setWidth 32 := by
    rw [UInt8.toBitVec_xor, BitVec.setWidth_xor]
  rw [h, xor4, it_xor]
theorem fl_xor : ∀ (l r : List UInt8) (s t : BitVec 32), l.length = r.length → fl (s ^^^ t) (xb l r) = fl s l ^^^ fl t r
  | [], [], _, _, _ => rfl
  | a :: l, b :: r, s, t, h => by
    show fl (by8 (s ^^^ t) (a ^^^ b)) (xb l r) = fl (by8 s a) l ^^^ fl (by8 t b) r
    rw [by8_xor]
    exact fl_xor l r _ _ (by simpa using h)
theorem xb_length : ∀ (l r : List UInt8), l.length = r.length → (xb l r).length = l.length
  | [], [], _ => rfl
  | a :: l, b :: r, h => by simp [xb, xb_length l r (by simpa using h)]
theorem xb_get : ∀ (l r : List UInt8) (i : Nat) (h : i < l.length) (h' : i < r.length), (xb l r)[i]? = some (l[i] ^^^ r[i])
  | a :: l, b :: r, 0, _, _ => rfl
  | a :: l, b :: r, i + 1, h, h' => by
    show (xb l r)[i]? = _
    rw [xb_get l r i (by simpa using h) (by simpa using h')]
    simp

theorem bb_0 : bb 0 = List.replicate 8 false := by decide
theorem lb_append (l r : List UInt8) : lb (l ++ r) = lb l ++ lb r := by unfold lb; rw [List.map_append, List.flatten_append]
theorem lb_zeros : ∀ n : Nat, lb (List.replicate n 0) = List.replicate (8 * n) false
  | 0 => rfl
  | n + 1 => by
    rw [List.replicate_succ]
    show bb 0 ++ lb (List.replicate n 0) = _
    rw [lb_zeros n, bb_0, List.replicate_append_replicate]
    congr 1
    omega
theorem bb_length (b : UInt8) : (bb b).length = 8 := by simp [bb, bits]
theorem lb_length : ∀ (l : List UInt8), (lb l).length = 8 * l.length
  | [] => rfl
  | b :: l => by
    show (bb b ++ lb l).length = _
    rw [List.length_append, bb_length, lb_length l, List.length_cons]
    omega
theorem bb_zero (b : UInt8) : (∀ x ∈ bb b, x = false) ↔ b = 0 := by
  constructor
  · intro h
    apply UInt8.toNat_inj.1
    show b.toNat = 0
    apply Nat.eq_of_testBit_eq
    intro i
    rw [Nat.zero_testBit]
    by_cases hi : i < 8
    · have := h ((b.toBitVec.setWidth 32).getLsbD i) (List.mem_map.2 ⟨i, by simpa using hi, rfl⟩)
      rw [BitVec.getLsbD_setWidth] at this
      have h2 : i < 32 := by omega
      simpa [h2, BitVec.getLsbD] using this
    · exact Nat.testBit_lt_two_pow (Nat.lt_of_lt_of_le b.toNat_lt (Nat.pow_le_pow_right (by decide) (by omega)))
  · rintro rfl
    rw [bb_0]
    intro x hx
    exact List.eq_of_mem_replicate hx
theorem lb_zero : ∀ (l : List UInt8), (∀ x ∈ lb l, x = false) ↔ ∀ b ∈ l, b = 0
  | [] => by simp [lb]
  | b :: l => by
    show (∀ x ∈ bb b ++ lb l, x = false) ↔ _
    rw [List.forall_mem_append, bb_zero, lb_zero l, List.forall_mem_cons]

/-- Bytes that are unlike in at most four beside each other have the same sum just if they are the same there. -/
theorem crc_apart (l e : List UInt8) (p q : Nat) (h : e.length ≤ 4) (hl : l.length = p + e.length + q) : (crc (xb l (List.replicate p 0 ++ e ++ List.replicate q 0)) = crc l) ↔ ∀ b ∈ e, b = 0 := by
  have hx : fl (4294967295#32) (xb l (List.replicate p 0 ++ e ++ List.replicate q 0)) = fl (4294967295#32) l ^^^ fl 0#32 (List.replicate p 0 ++ e ++ List.replicate q 0) := by
    rw [← fl_xor _ _ _ _ (by simp; omega), BitVec.xor_zero]
  unfold crc
  rw [hx, fl_gl (List.replicate p 0 ++ e ++ List.replicate q 0), lb_append, lb_append, lb_zeros, lb_zeros]
  rw [← lb_zero, ← burst0 (8 * p) (8 * q) (lb e) (by rw [lb_length]; omega)]
  generalize gl 0#32 _ = g
  generalize fl _ l = s
  constructor
  · intro h
    have h2 := congrArg (fun x => s ^^^ ~~~x) h
    simp only [BitVec.not_not, ← BitVec.xor_assoc, BitVec.xor_self, BitVec.zero_xor] at h2
    exact h2
  · rintro rfl
    rw [BitVec.xor_zero]

/-- Three rows: sums add up. -/
theorem crc_three (a b c : List UInt8) (h : a.length = b.length) (k : a.length = c.length) : crc (xb (xb a b) c) = crc a ^^^ crc b ^^^ crc c := by
  unfold crc
  have h1 : fl (4294967295#32) (xb (xb a b) c) = fl (4294967295#32) a ^^^ fl (4294967295#32) b ^^^ fl (4294967295#32) c := by
    rw [← fl_xor _ _ _ _ h, ← fl_xor _ _ _ _ (by rw [xb_length _ _ h]; exact k)]
    rfl
  rw [h1]
  generalize fl _ a = x
  generalize fl _ b = y
  generalize fl _ c = z
  apply BitVec.eq_of_getLsbD_eq
  intro i hi
  simp only [BitVec.getLsbD_not, BitVec.getLsbD_xor, hi, decide_true, Bool.true_and]
  cases x.getLsbD i <;> cases y.getLsbD i <;> cases z.getLsbD i <;> rfl

/-! ### What is closed -/
theorem byte_bit (w : BitVec 32) (k i : Nat) (hi : i < 8) (hk : 8 * k + i < 32) : ((UInt8.ofNat (w.toNat / 2 ^ (8 * k))).toBitVec.setWidth 32).getLsbD i = w.getLsbD (8 * k + i) := by
  rw [BitVec.getLsbD_setWidth]
  have h1 : (UInt8.ofNat (w.toNat / 2 ^ (8 * k))).toBitVec.getLsbD i = (w.toNat / 2 ^ (8 * k)).testBit i := by
    show (UInt8.ofNat (w.toNat / 2 ^ (8 * k))).toNat.testBit i = _
    rw [UInt8.toNat_ofNat', Nat.testBit_mod_two_pow]
    simp [hi]
  rw [h1, Nat.testBit_div_two_pow, BitVec.getLsbD]
  have : i < 32 := by omega
  simp [this, Nat.add_comm]

theorem lb_le4 (w : BitVec 32) : lb (le4 w) = bits 32 w := by
  have key : ∀ k, k < 4 → bb (UInt8.ofNat (w.toNat / 2 ^ (8 * k))) = (List.range 8).map fun i => w.getLsbD (8 * k + i) := by
    intro k hk
    unfold bb bits
    exact List.map_congr_left fun i hi => byte_bit w k i (List.mem_range.1 hi) (by have := List.mem_range.1 hi; omega)
  have k0 := key 0 (by decide)
  have k1 := key 1 (by decide)
  have k2 := key 2 (by decide)
  have k3 := key 3 (by decide)
  rw [show w.toNat / 2 ^ (8 * 0) = w.toNat by simp] at k0
  show bb (UInt8.ofNat w.toNat) ++ (bb (UInt8.ofNat (w.toNat / 256)) ++ (bb (UInt8.ofNat (w.toNat / 65536)) ++ (bb (UInt8.ofNat (w.toNat / 16777216)) ++ []))) = _
  rw [k0, show (256 : Nat) = 2 ^ (8 * 1) by rfl, k1, show (65536 : Nat) = 2 ^ (8 * 2) by rfl, k2, show (16777216 : Nat) = 2 ^ (8 * 3) by rfl, k3]
  rfl

theorem fl_le4 (s w : BitVec 32) : fl s (le4 w) = it 32 (s ^^^ w) := by rw [fl_gl, lb_le4, gl_word]

theorem le4_inj (v w : BitVec 32) (h : le4 v = le4 w) : v = w := by
  have h1 : bits 32 v = bits 32 w := by rw [← lb_le4, ← lb_le4, h]
  apply BitVec.eq_of_getLsbD_eq
  intro i hi
  have h2 := congrArg (fun l => l[i]?) h1
  simpa [bits, hi] using h2

theorem le4_of (t : List UInt8) (h : t.length = 4) : ∃ w, t = le4 w := by
  match t, h with
  | [a, b, c, d], _ =>
    have ha := a.toNat_lt
    have hb := b.toNat_lt
    have hc := c.toNat_lt
    have hd := d.toNat_lt
    refine ⟨BitVec.ofNat 32 (a.toNat + 256 * b.toNat + 65536 * c.toNat + 16777216 * d.toNat), ?_⟩
    unfold le4
    rw [BitVec.toNat_ofNat, Nat.mod_eq_of_lt (by omega)]
    have e : ∀ (x : UInt8) (n : Nat), n % 256 = x.toNat → x = UInt8.ofNat n := by
      intro x n hn
      apply UInt8.toNat_inj.1
      rw [UInt8.toNat_ofNat']
      exact hn.symm
    rw [← e a _ (by omega), ← e b _ (by omega), ← e c _ (by omega), ← e d _ (by omega)]

/-- Closed bytes have one residue. -/
theorem good_iff (l : List UInt8) : good l = true ↔ 4 ≤ l.length ∧ fl (4294967295#32) l = it 32 (4294967295#32) := by
  unfold good
  rw [decide_eq_true_eq]
  constructor
  · rintro ⟨h1, h2⟩
    refine ⟨h1, ?_⟩
    rw [← h2, fl_append, fl_le4]
    congr 1
    unfold crc
    generalize fl _ _ = s
    apply BitVec.eq_of_getLsbD_eq
    intro i hi
    rw [BitVec.getLsbD_xor, BitVec.getLsbD_not, show (4294967295#32 : BitVec 32) = BitVec.allOnes 32 by decide, BitVec.getLsbD_allOnes]
    cases s.getLsbD i <;> simp [hi]
  · rintro ⟨h1, h2⟩
    refine ⟨h1, ?_⟩
    have e := List.take_append_drop (l.length - 4) l
    obtain ⟨w, hw⟩ := le4_of (l.drop (l.length - 4)) (by simp; omega)
    rw [← e, hw, fl_append, fl_le4] at h2
    generalize hm : l.take (l.length - 4) = m at *
    have h3 : it 32 (fl (4294967295#32) m ^^^ w ^^^ 4294967295#32) = 0#32 := by rw [it_xor, h2, BitVec.xor_self]
    have h4 := it_inj0 _ _ h3
    have h5 : w = crc m := by
      unfold crc
      generalize fl _ _ = s at h4
      apply BitVec.eq_of_getLsbD_eq
      intro i hi
      have h6 : (s ^^^ w ^^^ 4294967295#32).getLsbD i = false := by rw [h4]; simp
      rw [BitVec.getLsbD_xor, BitVec.getLsbD_xor, show (4294967295#32 : BitVec 32) = BitVec.allOnes 32 by decide, BitVec.getLsbD_allOnes] at h6
      rw [BitVec.getLsbD_not]
      revert h6
      cases s.getLsbD i <;> cases w.getLsbD i <;> simp [hi]
    rw [← h5, ← hw]
    exact e

theorem good_close (l : List UInt8) : good (l ++ le4 (crc l)) = true := by
  unfold good
  rw [decide_eq_true_eq]
  have h : (l ++ le4 (crc l)).length - 4 = l.length := by simp [le4]
  rw [h, List.take_left]
  exact ⟨by simp [le4], rfl⟩
end Go.Proofs.Ytokkjdlnbccojaa.W
