/-
  Close and Good.
-/
import Derived.Test.YtokkjdlnbccojaaBurstA
import Derived.Test.YtokkjdlnbccojaaBookB
namespace Go.Proofs.Ytokkjdlnbccojaa.W
open Go.Abs
set_option linter.unusedSimpArgs false
set_option linter.unusedVariables false

/-- The bytes of a sum. -/
def le4 (s : BitVec 32) : List UInt8 := [UInt8.ofNat s.toNat, UInt8.ofNat (s.toNat / 256), UInt8.ofNat (s.toNat / 65536), UInt8.ofNat (s.toNat / 16777216)]

theorem byteV_oneCell (l : List UInt8) : (l.map byteV).all oneCell = true := by
  rw [List.all_eq_true]
  intro v hv
  obtain ⟨b, _, rfl⟩ := List.mem_map.1 hv
  rfl

theorem byte_of (x : Nat) : IntKind.wrap .u8 (x : Int) = ((UInt8.ofNat x).toNat : Int) := by
  rw [wrap_u8, UInt8.toNat_ofNat']
  omega
theorem shr_u32 (s : BitVec 32) (k : Nat) (hk : k ≤ 32) : shrI .u32 (s.toNat : Int) (k : Int) = ((s.toNat / 2 ^ k : Nat) : Int) := by
  rw [shrI_eq .u32 _ k hk, Int.natCast_ediv, Int.natCast_pow]
  rfl

set_option maxRecDepth 100000 in
set_option maxHeartbeats 1000000 in
theorem Close_at {m : Mem} {a : Option Addr} {n c : Nat} {l : List UInt8} (h : SlA m 1 a n c (l.map byteV)) (hn : n ≤ 1000000) {K : Value → Mem → Prop}
    (hK : ∀ m' b, Old m m' → m.size ≤ b → Box m' b ((l ++ le4 (crc l)).map byteV) → K (.slice (some ⟨b, 0, none⟩) (n + 4) (n + 4)) m') : CallQ E F_burst_Close [.slice a n c].toArray m K := by
  refine .enter fn_burst_Close (by simp) ?_
  have hl : l.length = n := by have := h.len; simpa using this
  have s1 := fun K => callQ_eq (Sum_at h (by omega)) K
  have w1 : IntKind.wrap .i64 ((n : Int) + 4) = ((n + 4 : Nat) : Int) := by rw [wrap_i64_id _ (by omega) (by omega)]; omega
  have b0 : IntKind.wrap .u8 (((crc l).toNat : Nat) : Int) = ((UInt8.ofNat (crc l).toNat).toNat : Int) := byte_of _
  have b1 : IntKind.wrap .u8 (shrI .u32 (((crc l).toNat : Nat) : Int) 8) = ((UInt8.ofNat ((crc l).toNat / 256)).toNat : Int) := by
    have := shr_u32 (crc l) 8 (by decide)
    rw [show ((8 : Nat) : Int) = 8 from rfl] at this
    rw [this]; exact byte_of _
  have b2 : IntKind.wrap .u8 (shrI .u32 (((crc l).toNat : Nat) : Int) 16) = ((UInt8.ofNat ((crc l).toNat / 65536)).toNat : Int) := by
    have := shr_u32 (crc l) 16 (by decide)
    rw [show ((16 : Nat) : Int) = 16 from rfl] at this
    rw [this]; exact byte_of _
  have b3 : IntKind.wrap .u8 (shrI .u32 (((crc l).toNat : Nat) : Int) 24) = ((UInt8.ofNat ((crc l).toNat / 16777216)).toNat : Int) := by
    have := shr_u32 (crc l) 24 (by decide)
    rw [show ((24 : Nat) : Int) = 24 from rfl] at this
    rw [this]; exact byte_of _
  unfold u32 at s1
  simp (decide := true) (implicitDefEqProofs := false) (maxDischargeDepth := 20) only [go_sem, ↓reduceIte, s1, w1]
  refine StepQ_make (l := 0) (z := .int .u8 0) (by simp (decide := true) only [go_sem]) (by simp (decide := true) only [go_sem]) (by omega) (by omega) ?_
  generalize hM : ansM E F_burst_Sum _ [] m = M
  have hO : Old m M := by rw [← hM]; exact .ansM (.refl m)
  have hbs : m.size ≤ M.size := hO.size
  have s2 := (h.old hO).push (.cells false true (List.replicate (n + 4) (.int .u8 0)))
  simp (decide := true) (implicitDefEqProofs := false) (maxDischargeDepth := 20) only [go_sem, ↓reduceIte, b0, b1, b2, b3]
  have g0 : (M.push (.cells false true (List.replicate (n + 4) (.int .u8 0)))).get M.size = some (.cells false true (List.replicate (n + 4) (.int .u8 0))) := by rw [getM_push, if_pos rfl]
  refine append_in (sz := 1) (k := n) rfl g0 (by omega) (s2.appended' (by simp (decide := true) only [go_sem]) (by decide)) (by simpa using hl) (by simp (decide := true) only [go_sem]) (byteV_oneCell l) (by simp) ?_
  intro M2 u2 z2 g2
  simp (decide := true) (implicitDefEqProofs := false) (maxDischargeDepth := 20) only [go_sem, ↓reduceIte, b0, b1, b2, b3]
  have e1 : (List.replicate (n + 4) (Value.int .u8 0)).take (0 + 0 * 1) ++ l.map byteV ++ (List.replicate (n + 4) (Value.int .u8 0)).drop (0 + 0 * 1 + (l.map byteV).length) = l.map byteV ++ List.replicate 4 (.int .u8 0) := by
    simp [hl]
  rw [e1] at g2
  have hM2 : M.size < M2.size := by rw [z2, size_push]; omega
  generalize hcs : [Value.int .u8 ((UInt8.ofNat (crc l).toNat).toNat : Int), Value.int .u8 ((UInt8.ofNat ((crc l).toNat / 256)).toNat : Int), Value.int .u8 ((UInt8.ofNat ((crc l).toNat / 65536)).toNat : Int), Value.int .u8 ((UInt8.ofNat ((crc l).toNat / 16777216)).toNat : Int)] = cs
  have hcs' : cs = (le4 (crc l)).map byteV := by rw [← hcs]; rfl
  have g3 : (M2.push (.cells false true cs)).get M.size = some (.cells false true (l.map byteV ++ List.replicate 4 (.int .u8 0))) := by rw [getM_push, if_neg (by omega)]; exact g2
  have s4 : SlA (M2.push (.cells false true cs)) 1 (some ⟨M2.size, 0, none⟩) 4 4 cs := SlA.new (by rw [getM_push, if_pos rfl]) (by rw [hcs']; rfl) rfl
  refine append_in (sz := 1) (k := 4) rfl g3 (by omega) (s4.appended' (by simp (decide := true) only [go_sem]) (by decide)) (by rw [hcs']; rfl) (by simp (decide := true) only [go_sem]) (by rw [hcs']; exact byteV_oneCell _) (by simp [hl]) ?_
  intro M3 u3 z3 g4
  simp (decide := true) (implicitDefEqProofs := false) (maxDischargeDepth := 20) only [go_sem, ↓reduceIte]
  refine hK M3 M.size ?_ hbs ⟨true, ?_⟩
  · refine .of_get (by rw [z3, size_push, z2, size_push]; omega) fun i hi => ?_
    rw [u3.get i (by rw [size_push, z2, size_push]; omega) (by omega), getM_push, if_neg (by omega), u2.get i (by rw [size_push]; omega) (by omega), getM_push, if_neg (by omega)]
    exact hO.get hi
  · rw [g4]
    congr 2
    rw [List.map_append, ← hcs']
    have e2 : (l.map byteV ++ List.replicate 4 (Value.int .u8 0)).take (0 + n * 1) = l.map byteV := by
      rw [Nat.zero_add, Nat.mul_one, ← hl, ← List.length_map (f := byteV), List.take_left]
    have e3 : (l.map byteV ++ List.replicate 4 (Value.int .u8 0)).drop (0 + n * 1 + cs.length) = [] := by
      rw [List.drop_eq_nil_of_le]
      rw [hcs']
      simp [hl, le4]
    rw [e2, e3, List.append_nil]

theorem byteV_inj : ∀ (l l' : List UInt8), l.map byteV = l'.map byteV → l = l'
  | [], [], _ => rfl
  | [], b :: l', h => by simp at h
  | a :: l, [], h => by simp at h
  | a :: l, b :: l', h => by
    simp only [List.map_cons, List.cons.injEq] at h
    obtain ⟨h1, h2⟩ := h
    unfold byteV at h1
    simp only [Value.int.injEq, true_and] at h1
    have h3 : a.toNat = b.toNat := by omega
    rw [byteV_inj l l' h2, UInt8.toNat_inj.1 h3]

theorem bytesOf_byteV : ∀ (l : List UInt8), bytesOf (l.map byteV) = some l
  | [] => rfl
  | b :: l => by
    rw [List.map_cons]
    unfold byteV
    rw [bytesOf]
    have := bytesOf_byteV l
    unfold byteV at this
    rw [this]
    simp

/-- Bytes as a text. -/
theorem conv_bytes {m : Mem} {a : Addr} {n c : Nat} {l : List UInt8} (h : SlA m 1 (some a) n c (l.map byteV)) (hl : l ≠ []) : (m.row a n).bind bytesOf = some l := by
  rw [row_rows]
  have := h.row (by simpa using hl)
  rw [Nat.mul_one] at this
  rw [this]
  exact bytesOf_byteV l

set_option maxRecDepth 100000 in
theorem Equal_at {m : Mem} {a b : Addr} {n n' c c' : Nat} {l l' : List UInt8} (h : SlA m 1 (some a) n c (l.map byteV)) (k : SlA m 1 (some b) n' c' (l'.map byteV)) (hl : l ≠ []) (hl' : l' ≠ []) :
    CallQ E F_bytes_Equal [.slice (some a) n c, .slice (some b) n' c'].toArray m fun w m' => w = .bool (decide (l = l')) ∧ Old m m' := by
  refine .enter fn_bytes_Equal (by simp) ?_
  have r1 := conv_bytes h hl
  have r2 := conv_bytes k hl'
  rw [row_rows] at r1 r2
  have e : ∀ x y : List UInt8, (ByteArray.toList ⟨x.toArray⟩ == ByteArray.toList ⟨y.toArray⟩) = decide (x = y) := by
    intro x y
    rw [ByteArray.toList_eq, ByteArray.toList_eq, Bool.eq_iff_iff]
    simp
  simp (decide := true) (implicitDefEqProofs := false) (maxDischargeDepth := 20) only [go_sem, ↓reduceIte, r1, r2, binV, binStr, e]

/-- Are bytes closed? -/
def good (l : List UInt8) : Bool := decide (4 ≤ l.length ∧ l.take (l.length - 4) ++ le4 (crc (l.take (l.length - 4))) = l)

set_option maxRecDepth 100000 in
theorem Good_at {m : Mem} {a : Option Addr} {n c : Nat} {l : List UInt8} (h : SlA m 1 a n c (l.map byteV)) (hn : n ≤ 1000000) : CallQ E F_burst_Good [.slice a n c].toArray m fun w m' => w = .bool (good l) ∧ Old m m' := by
  refine .enter fn_burst_Good (by simp) ?_
  have hl : l.length = n := by have := h.len; simpa using this
  have w1 : IntKind.wrap .i64 ((n : Int) - 4) = (n : Int) - 4 := wrap_i64_id _ (by omega) (by omega)
  unfold good
  rw [hl]
  by_cases h4 : 4 ≤ n
  · have d1 : decide (0 ≤ (n : Int) - 4) = true := by simp; omega
    have e1 : (n : Int) - 4 = ((n - 4 : Nat) : Int) := by omega
    rw [e1] at d1 w1
    obtain ⟨sl, s2⟩ := h.sliceTo (E := E) (k := .i64) (show n - 4 ≤ n by omega)
    rw [Nat.mul_one, ← List.map_take] at s2
    simp (decide := true) (implicitDefEqProofs := false) (maxDischargeDepth := 20) only [go_sem, ↓reduceIte, e1, w1, d1, sl, true_implies, false_implies]
    refine Close_at s2 (by omega) fun m' b hO hb hB => ?_
    simp (decide := true) (implicitDefEqProofs := false) (maxDischargeDepth := 20) only [go_sem, ↓reduceIte, true_implies, false_implies]
    obtain ⟨ab, ao, asp, rfl⟩ := h.addr (by omega)
    have hne : l ≠ [] := by rintro rfl; simp at hl; omega
    obtain ⟨tg, hg⟩ := hB
    have k1 : SlA m' 1 (some ⟨b, 0, none⟩) (n - 4 + 4) (n - 4 + 4) ((l.take (n - 4) ++ le4 (crc (l.take (n - 4)))).map byteV) := SlA.new hg (by simp [le4]; omega) rfl
    have q := fun K => callQ_eq (Equal_at k1 (h.old hO) (by simp [le4]) hne) K
    simp (decide := true) (implicitDefEqProofs := false) (maxDischargeDepth := 20) only [go_sem, ↓reduceIte, q, hO, h4, true_implies, false_implies]
  · have d1 : decide (0 ≤ (n : Int) - 4) = false := by simp; omega
    have d2 : decide (4 ≤ n ∧ l.take (n - 4) ++ le4 (crc (l.take (n - 4))) = l) = false := by simp [h4]
    simp (decide := true) (implicitDefEqProofs := false) (maxDischargeDepth := 20) only [go_sem, ↓reduceIte, w1, d1, d2, true_implies, false_implies]
end Go.Proofs.Ytokkjdlnbccojaa.W
