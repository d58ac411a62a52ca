/-
  BurstFound: bits turned one by one.
-/
import Derived.Test.YtokkjdlnbccojaaBurstP
namespace Go.Proofs.Ytokkjdlnbccojaa.W
open Go.Abs
set_option linter.unusedSimpArgs false
set_option linter.unusedVariables false

def bitAt (l : List UInt8) (i : Nat) : Bool := (l.getD (i / 8) 0).toBitVec.getLsbD (i % 8)

theorem bb_get (b : UInt8) (i : Nat) (h : i < 8) : (bb b)[i]? = some (b.toBitVec.getLsbD i) := by
  unfold bb bits
  rw [List.getElem?_map, List.getElem?_range h, Option.map_some, BitVec.getLsbD_setWidth]
  congr 1
  simp; omega

theorem lb_get : ∀ (l : List UInt8) (i : Nat), i < 8 * l.length → (lb l)[i]? = some (bitAt l i)
  | [], i, h => by simp at h
  | b :: l, i, h => by
    have e : lb (b :: l) = bb b ++ lb l := rfl
    rw [e, List.getElem?_append, bb_length]
    by_cases h8 : i < 8
    · rw [if_pos h8, bb_get b i h8]
      unfold bitAt
      have h0 : i / 8 = 0 := by omega
      have h1 : i % 8 = i := by omega
      rw [h0, h1]; rfl
    · rw [if_neg h8, lb_get l (i - 8) (by simp at h; omega)]
      unfold bitAt
      have h0 : i / 8 = (i - 8) / 8 + 1 := by omega
      have h1 : (i - 8) % 8 = i % 8 := by omega
      rw [h0, h1]; rfl

theorem pow_bit : ∀ r : Fin 8, ∀ j : Fin 8, (UInt8.ofNat (2 ^ r.val)).toBitVec.getLsbD j.val = decide (j.val = r.val) := by decide

theorem bitAt_flip (l : List UInt8) (p i : Nat) (hp : p < 8 * l.length) (v : UInt8) (hv : v = l.getD (p / 8) 0 ^^^ UInt8.ofNat (2 ^ (p % 8))) : bitAt (l.set (p / 8) v) i = (bitAt l i != decide (i = p)) := by
  unfold bitAt
  by_cases h : p / 8 = i / 8
  · have e : (l.set (p / 8) v).getD (i / 8) 0 = v := by
      rw [← h, List.getD_eq_getElem?_getD, List.getElem?_set_self (by omega)]; rfl
    rw [e, hv, UInt8.toBitVec_xor, BitVec.getLsbD_xor, h]
    have := pow_bit ⟨p % 8, by omega⟩ ⟨i % 8, by omega⟩
    simp only at this
    rw [this]
    have e2 : decide (i % 8 = p % 8) = decide (i = p) := by
      rw [decide_eq_decide]; omega
    rw [e2]
  · have e : (l.set (p / 8) v).getD (i / 8) 0 = l.getD (i / 8) 0 := by
      rw [List.getD_eq_getElem?_getD, List.getElem?_set_ne h, List.getD_eq_getElem?_getD]
    have d : decide (i = p) = false := by simp; rintro rfl; exact h rfl
    rw [e, d]
    simp

def rowE (bit j : Nat) (w : BitVec 32) (i : Nat) : Bool := decide (bit ≤ i ∧ i < bit + j) && w.getLsbD (i - bit)

/-- So many bits of a word, turned. -/
def Turned (l cs : List UInt8) (bit j : Nat) (w : BitVec 32) : Prop := cs.length = l.length ∧ ∀ i, bitAt cs i = (bitAt l i != rowE bit j w i)

theorem Turned.zero (l : List UInt8) (bit : Nat) (w : BitVec 32) : Turned l l bit 0 w := by
  refine ⟨rfl, fun i => ?_⟩
  have : rowE bit 0 w i = false := by unfold rowE; simp; omega
  rw [this]; simp

theorem rowE_succ (bit j : Nat) (w : BitVec 32) (i : Nat) : rowE bit (j + 1) w i = (rowE bit j w i != (w.getLsbD j && decide (i = bit + j))) := by
  unfold rowE
  by_cases h : i = bit + j
  · subst h
    have e : bit + j - bit = j := by omega
    have d1 : decide (bit ≤ bit + j ∧ bit + j < bit + (j + 1)) = true := by simp
    have d2 : decide (bit ≤ bit + j ∧ bit + j < bit + j) = false := by simp
    rw [e, d1, d2]; simp
  · have d0 : decide (i = bit + j) = false := by simp [h]
    have d1 : decide (bit ≤ i ∧ i < bit + (j + 1)) = decide (bit ≤ i ∧ i < bit + j) := by rw [decide_eq_decide]; omega
    rw [d0, d1]; simp

theorem Turned.skip {l cs : List UInt8} {bit j : Nat} {w : BitVec 32} (h : Turned l cs bit j w) (hw : w.getLsbD j = false) : Turned l cs bit (j + 1) w := by
  refine ⟨h.1, fun i => ?_⟩
  rw [rowE_succ, hw, h.2 i]; simp

theorem Turned.flip {l cs : List UInt8} {bit j : Nat} {w : BitVec 32} (h : Turned l cs bit j w) (hw : w.getLsbD j = true) (hp : bit + j < 8 * l.length) (v : UInt8) (hv : v = cs.getD ((bit + j) / 8) 0 ^^^ UInt8.ofNat (2 ^ ((bit + j) % 8))) : Turned l (cs.set ((bit + j) / 8) v) bit (j + 1) w := by
  refine ⟨by rw [List.length_set]; exact h.1, fun i => ?_⟩
  rw [rowE_succ, hw, bitAt_flip cs (bit + j) i (by rw [h.1]; exact hp) v hv, h.2 i, Bool.true_and]
  cases bitAt l i <;> cases rowE bit j w i <;> cases decide (i = bit + j) <;> rfl

theorem xl_get : ∀ (l r : List Bool) (i : Nat) (a b : Bool), l[i]? = some a → r[i]? = some b → (xl l r)[i]? = some (a != b)
  | [], _, i, a, b, h, _ => by simp at h
  | _ :: _, [], i, a, b, _, h => by simp at h
  | x :: l, y :: r, 0, a, b, h, k => by simp at h k; subst h; subst k; rfl
  | x :: l, y :: r, i + 1, a, b, h, k => by
    rw [List.getElem?_cons_succ] at h k
    show (xl l r)[i]? = _
    exact xl_get l r i a b h k
theorem xl_length : ∀ (l r : List Bool), l.length = r.length → (xl l r).length = l.length
  | [], _, _ => rfl
  | _ :: _, [], h => by simp at h
  | a :: l, b :: r, h => by simp at h; simp [xl, xl_length l r h]

theorem Turned.lb {l cs : List UInt8} {bit : Nat} {w : BitVec 32} (h : Turned l cs bit 32 w) (hb : bit + 32 ≤ 8 * l.length) : W.lb cs = xl (W.lb l) (List.replicate bit false ++ bits 32 w ++ List.replicate (8 * l.length - bit - 32) false) := by
  have l32 : (bits 32 w).length = 32 := by simp [bits]
  have hE : (List.replicate bit false ++ bits 32 w ++ List.replicate (8 * l.length - bit - 32) false).length = 8 * l.length := by simp [l32]; omega
  have hL : (xl (W.lb l) (List.replicate bit false ++ bits 32 w ++ List.replicate (8 * l.length - bit - 32) false)).length = 8 * l.length := by rw [xl_length _ _ (by rw [hE, lb_length]), lb_length]
  apply List.ext_getElem?
  intro i
  by_cases hi : i < 8 * l.length
  · rw [lb_get cs i (by rw [h.1]; exact hi), h.2 i]
    refine (xl_get _ _ i _ _ (lb_get l i hi) ?_).symm
    unfold rowE
    by_cases h1 : i < bit
    · rw [List.append_assoc, List.getElem?_append_left (by simp; omega), List.getElem?_replicate, if_pos h1]
      have : decide (bit ≤ i ∧ i < bit + 32) = false := by simp; omega
      rw [this]; rfl
    · by_cases h2 : i < bit + 32
      · rw [List.append_assoc, List.getElem?_append_right (by simp; omega), List.length_replicate, List.getElem?_append_left (by rw [l32]; omega)]
        have : decide (bit ≤ i ∧ i < bit + 32) = true := by simp; omega
        rw [this]
        unfold bits
        rw [List.getElem?_map, List.getElem?_range (by omega)]; rfl
      · rw [List.getElem?_append_right (by simp [l32]; omega), List.getElem?_replicate, if_pos (by simp [l32]; omega)]
        have : decide (bit ≤ i ∧ i < bit + 32) = false := by simp; omega
        rw [this]; rfl
  · rw [List.getElem?_eq_none (by rw [lb_length, h.1]; omega), List.getElem?_eq_none (by rw [hL]; omega)]

theorem Turned.fl {l cs : List UInt8} {bit : Nat} {w : BitVec 32} (h : Turned l cs bit 32 w) (hb : bit + 32 ≤ 8 * l.length) (s : BitVec 32) : W.fl s cs = W.fl s l ^^^ gl 0#32 (List.replicate bit false ++ bits 32 w ++ List.replicate (8 * l.length - bit - 32) false) := by
  have l32 : (bits 32 w).length = 32 := by simp [bits]
  rw [fl_gl, fl_gl, h.lb hb]
  have := gl_xor (W.lb l) (List.replicate bit false ++ bits 32 w ++ List.replicate (8 * l.length - bit - 32) false) s 0#32 (by rw [lb_length]; simp [l32]; omega)
  rw [BitVec.xor_zero] at this
  exact this

theorem bits_zero (w : BitVec 32) : (∀ b ∈ bits 32 w, b = false) ↔ w = 0#32 := by
  constructor
  · intro h
    apply BitVec.eq_of_getLsbD_eq
    intro i hi
    have := h (w.getLsbD i) (by unfold bits; exact List.mem_map.2 ⟨i, List.mem_range.2 hi, rfl⟩)
    rw [this]; simp
  · rintro rfl b hb
    unfold bits at hb
    obtain ⟨i, _, rfl⟩ := List.mem_map.1 hb
    simp

/-- A burst in closed bytes is found. -/
theorem good_turned {l cs : List UInt8} {bit : Nat} {w : BitVec 32} (h : Turned l cs bit 32 w) (hb : bit + 32 ≤ 8 * l.length) (hg : good l = true) : good cs = decide (w = 0#32) := by
  have g1 := (good_iff l).1 hg
  rw [Bool.eq_iff_iff, good_iff, h.1, h.fl hb, g1.2, decide_eq_true_eq]
  have b0 := burst0 bit (8 * l.length - bit - 32) (bits 32 w) (by simp [bits])
  rw [bits_zero] at b0
  rw [← b0]
  constructor
  · rintro ⟨_, e⟩
    have := congrArg (it 32 (4294967295#32) ^^^ ·) e
    simpa [← BitVec.xor_assoc] using this
  · intro e
    exact ⟨g1.1, by rw [e, BitVec.xor_zero]⟩

/-- Turned twice it is good again. -/
theorem good_twice {l cs ds : List UInt8} {bit : Nat} {w : BitVec 32} (h : Turned l cs bit 32 w) (k : Turned cs ds bit 32 w) (hb : bit + 32 ≤ 8 * l.length) (hg : good l = true) : good ds = true := by
  have g1 := (good_iff l).1 hg
  rw [good_iff, k.1, h.1, k.fl (by rw [h.1]; exact hb), h.fl hb, h.1, BitVec.xor_assoc, BitVec.xor_self, BitVec.xor_zero]
  exact g1
end Go.Proofs.Ytokkjdlnbccojaa.W
