/-
  BurstMoves.
-/
import Derived.Test.YtokkjdlnbccojaaBurstN
import Derived.Test.YtokkjdlnbccojaaCodeLaw
namespace Go.Proofs.Ytokkjdlnbccojaa.W
open Go.Abs
set_option linter.unusedSimpArgs false
set_option linter.unusedVariables false

theorem byteV_ints (l : List UInt8) : l.map byteV = (l.map fun b => (b.toNat : Int)).map (Value.int .u8) := by rw [List.map_map]; rfl

theorem SameY {m : Mem} {a b : Option Addr} {n n' c c' : Nat} {l r : List UInt8} (h : SlA m 1 a n c (l.map byteV)) (k : SlA m 1 b n' c' (r.map byteV)) (hn : n ≤ 1073741824) (hn' : n' ≤ 1073741824) :
    CallQ E F_sheafbook_Same_byte [.slice a n c, .slice b n' c'].toArray m fun w m' => w = .bool (decide (l = r)) ∧ Old m m' := by
  have e : decide (l = r) = decide ((l.map fun b => (b.toNat : Int)) = (r.map fun b => (b.toNat : Int))) := by
    rw [decide_eq_decide]
    refine ⟨fun h => by rw [h], fun h => byteV_inj l r ?_⟩
    rw [byteV_ints, byteV_ints, h]
  rw [e]
  rw [byteV_ints] at h k
  exact SameB h k hn hn'

/-- Bytes out of numbers. -/
theorem bytes_of (xs : List Int) (h : ∀ x ∈ xs, 0 ≤ x ∧ x < 256) : ∃ l : List UInt8, xs.map (Value.int .u8) = l.map byteV ∧ l.length = xs.length := by
  refine ⟨xs.map fun x => UInt8.ofNat x.toNat, ?_, by simp⟩
  rw [List.map_map]
  refine List.map_congr_left fun x hx => ?_
  have := h x hx
  show Value.int .u8 x = .int .u8 _
  congr 1
  rw [UInt8.toNat_ofNat']
  omega

theorem xor_u8 (a b : UInt8) : xorI .u8 (a.toNat : Int) (b.toNat : Int) = ((a ^^^ b).toNat : Int) := by
  show IntKind.wrap .u8 ((BitVec.ofInt 8 (a.toNat : Int) ^^^ BitVec.ofInt 8 (b.toNat : Int)).toNat : Int) = _
  have ha : BitVec.ofInt 8 (a.toNat : Int) = a.toBitVec := ofInt_toNat a.toBitVec
  have hb : BitVec.ofInt 8 (b.toNat : Int) = b.toBitVec := ofInt_toNat b.toBitVec
  rw [ha, hb, wrap_u8]
  have := (a ^^^ b).toNat_lt
  show (((a ^^^ b).toNat : Nat) : Int) % 256 = _
  omega

theorem mid_get (k q : Nat) (e : List UInt8) (i : Nat) (hi : i < k + e.length + q) : (List.replicate k 0 ++ e ++ List.replicate q 0)[i]? = some (if h : k ≤ i ∧ i < k + e.length then e[i - k]'(by omega) else 0) := by
  by_cases h1 : i < k
  · rw [dif_neg (by omega), List.append_assoc, List.getElem?_append_left (by simpa using h1), List.getElem?_replicate, if_pos h1]
  · rw [List.append_assoc, List.getElem?_append_right (by simpa using h1), List.length_replicate]
    by_cases h2 : i < k + e.length
    · rw [dif_pos ⟨by omega, h2⟩, List.getElem?_append_left (by omega), List.getElem?_eq_getElem (by omega)]
    · rw [dif_neg (by omega), List.getElem?_append_right (by omega), List.getElem?_replicate, if_pos (by omega)]
theorem xb_get' {l r : List UInt8} {i : Nat} {a b : UInt8} (h : l[i]? = some a) (k : r[i]? = some b) : (xb l r)[i]? = some (a ^^^ b) := by
  obtain ⟨h1, rfl⟩ := List.getElem?_eq_some_iff.1 h
  obtain ⟨k1, rfl⟩ := List.getElem?_eq_some_iff.1 k
  exact xb_get l r i h1 k1

/-- A row with one byte turned. -/
theorem xb_set (l : List UInt8) (k : Nat) (x : UInt8) (hk : k < l.length) : l.set k (l[k] ^^^ x) = xb l (List.replicate k 0 ++ [x] ++ List.replicate (l.length - k - 1) 0) := by
  apply List.ext_getElem?
  intro i
  by_cases hi : i < l.length
  · rw [xb_get' (List.getElem?_eq_getElem hi) (mid_get k _ [x] i (by simp; omega)), List.getElem?_set]
    by_cases h : k = i
    · subst h
      rw [if_pos rfl, if_pos hk, dif_pos ⟨by omega, by simp⟩]
      simp
    · rw [if_neg h, dif_neg (by simp; omega), List.getElem?_eq_getElem hi]
      simp
  · rw [List.getElem?_eq_none (by simp; omega), List.getElem?_eq_none (by rw [xb_length _ _ (by simp; omega)]; omega)]

/-- Two beside each other exchanged. -/
theorem xb_swap (l : List UInt8) (k : Nat) (hk : k + 1 < l.length) : (l.set k l[k + 1]).set (k + 1) l[k] = xb l (List.replicate k 0 ++ [l[k] ^^^ l[k + 1], l[k] ^^^ l[k + 1]] ++ List.replicate (l.length - k - 2) 0) := by
  apply List.ext_getElem?
  intro i
  by_cases hi : i < l.length
  · rw [xb_get' (List.getElem?_eq_getElem hi) (mid_get k _ [l[k] ^^^ l[k + 1], l[k] ^^^ l[k + 1]] i (by simp; omega)), List.getElem?_set, List.getElem?_set]
    by_cases h : k + 1 = i
    · subst h
      rw [if_pos rfl, if_pos (by simpa using hk), dif_pos ⟨by omega, by simp⟩]
      simp [show k + 1 - k = 1 by omega, UInt8.xor_comm l[k], ← UInt8.xor_assoc]
    · rw [if_neg h]
      by_cases h2 : k = i
      · subst h2
        rw [if_pos rfl, if_pos (by omega), dif_pos ⟨by omega, by simp⟩]
        simp [← UInt8.xor_assoc]
      · rw [if_neg h2, dif_neg (by simp; omega), List.getElem?_eq_getElem hi]
        simp
  · rw [List.getElem?_eq_none (by simp; omega), List.getElem?_eq_none (by rw [xb_length _ _ (by simp; omega)]; omega)]

theorem u32_eq (a b : BitVec 32) : (((a.toNat : Nat) : Int) == ((b.toNat : Nat) : Int)) = decide (a = b) := by
  rw [Bool.eq_iff_iff]
  simp only [beq_iff_eq, decide_eq_true_eq]
  exact ⟨fun h => BitVec.eq_of_toNat_eq (by omega), fun h => by rw [h]⟩

/-- How much is read of a slice of bytes. -/
theorem sum_eq {m : Mem} {a : Option Addr} {n c : Nat} {l : List UInt8} (h : SlA m 1 a n c (l.map byteV)) (hn : n ≤ 1000000) (K : Value → Mem → Prop) :
    CallQ E F_burst_Sum [.slice a n c].toArray m K = K (.int .u32 ((crc l).toNat : Int)) (ansM E F_burst_Sum [Value.slice a n c].toArray [] m) := callQ_eq (Sum_at h (by omega)) K

set_option maxRecDepth 100000 in
set_option maxHeartbeats 4000000 in
theorem BurstMoves_law (m : Mem) (hro : ∀ i c, m.get i = some c → c.writable = false) (a0 : Option Addr) (l0 c0 : Nat) (xs0 : List Int) (hs : SlA m 1 a0 l0 c0 (xs0.map (.int .u8))) (hl0 : xs0.length = l0) (hx : ∀ x ∈ xs0, 0 ≤ x ∧ x < 256)
    (at_ : Int) (ha : -9223372036854775808 ≤ at_) (ha' : at_ < 9223372036854775808) (x : Int) (hx0 : 0 ≤ x) (hx1 : x < 256) : CallQ E F_sheaflaw3_BurstMoves [.slice a0 l0 c0, .int .i64 at_, .int .u8 x].toArray m fun v _ => v = .bool true := by
  obtain ⟨n, hn⟩ : ∃ n, n = min l0 80 := ⟨_, rfl⟩
  have e80 : min (l0 : Int) 80 = (n : Int) := by omega
  obtain ⟨sl, s1⟩ := hs.sliceTo (E := E) (k := .i64) (show n ≤ l0 by omega)
  rw [Nat.mul_one, ← List.map_take] at s1
  obtain ⟨l, hl, hll⟩ := bytes_of (xs0.take n) fun x h => hx x (List.mem_of_mem_take h)
  rw [hl] at s1
  have hln : l.length = n := by rw [hll]; simp; omega
  refine .enter fn_sheaflaw3_BurstMoves (by simp) ?_
  simp (decide := true) (implicitDefEqProofs := false) (maxDischargeDepth := 20) only [go_sem, ↓reduceIte, e80, sl]
  refine append_copy (sz := 1) ((s1.push _).appended' (by simp (decide := true) only [go_sem]) (by decide)) (by simpa using hln) (by simp (decide := true) only [go_sem]) (byteV_oneCell l) (by omega) fun m1 b1 p1 o1 q1 x1 s2 => ?_
  simp (decide := true) (implicitDefEqProofs := false) (maxDischargeDepth := 20) only [go_sem, ↓reduceIte]
  refine Close_at s2 (by omega) fun m2 b2 o2 q2 x2 => ?_
  have s2' := s2.old o2
  obtain ⟨tg2, g2⟩ := x2
  have s3 : SlA m2 1 (some ⟨b2, 0, none⟩) (n + 4) (n + 4) ((l ++ le4 (crc l)).map byteV) := SlA.new g2 (by simp [le4, hln]) rfl
  obtain ⟨sl3, s4⟩ := s3.sliceTo (E := E) (k := .i64) (show n ≤ n + 4 by omega)
  have e4 : ((l ++ le4 (crc l)).map byteV).take (n * 1) = l.map byteV := by
    rw [Nat.mul_one, List.map_append, ← hln, ← List.length_map (f := byteV), List.take_left]
  rw [e4] at s4
  have w1 : IntKind.wrap .i64 ((n : Int) + 4) = ((n + 4 : Nat) : Int) := by rw [wrap_i64_id _ (by omega) (by omega)]; omega
  have r1 := fun K => callQ_eq (SameY s4 s2' (by omega) (by omega)) K
  have r2 := fun K => callQ_eq (Good_at (s3.ansM (E := E) (g := F_sheafbook_Same_byte) (args := [Value.slice (some ⟨b2, 0, none⟩) n (n + 4), Value.slice (some ⟨b1, 0, p1⟩) n n].toArray) (ids := [])) (by omega)) K
  have d1 : decide (l = l) = true := by simp
  rw [d1] at r1
  rw [good_close] at r2
  by_cases h2 : n < 2
  · have d2 : decide ((n : Int) < 2) = true := by simp; omega
    simp (decide := true) (implicitDefEqProofs := false) (maxDischargeDepth := 20) only [go_sem, ↓reduceIte, sl3, w1, r1, r2, d2, bne_self_eq_false, true_implies, false_implies, Bool.not_true]
  · have d2 : decide ((n : Int) < 2) = false := by simp; omega
    have w2 : IntKind.wrap .i64 ((n : Int) - 2) = (n : Int) - 2 := wrap_i64_id _ (by omega) (by omega)
    have wi := Within_ans at_ 0 ((n : Int) - 2) ha ha' (by omega) (by omega) (by omega) (by omega)
    obtain ⟨k, hk⟩ : ∃ k : Nat, (k : Int) = 0 + at_ % ((n : Int) - 2 - 0 + 1) := ⟨(0 + at_ % ((n : Int) - 2 - 0 + 1)).toNat, by have := Int.emod_nonneg at_ (show (n : Int) - 2 - 0 + 1 ≠ 0 by omega); omega⟩
    rw [← hk] at wi
    have hkn : k + 1 < n := by have := Int.emod_lt_of_pos at_ (show 0 < (n : Int) - 2 - 0 + 1 by omega); omega
    simp (decide := true) (implicitDefEqProofs := false) (maxDischargeDepth := 20) only [go_sem, ↓reduceIte, sl3, w1, w2, r1, r2, d2, wi.eq, bne_self_eq_false, true_implies, false_implies, Bool.not_true]
    -- y: a copy with one byte turned
    obtain ⟨X, rfl⟩ : ∃ X : UInt8, x = (X.toNat : Int) := ⟨UInt8.ofNat x.toNat, by rw [UInt8.toNat_ofNat']; omega⟩
    generalize hM : ansM E F_sheafbook_Within _ [] _ = M
    have oM : Old m2 M := by rw [← hM]; exact .ansM (.ansM (.ansM (.refl m2)))
    clear hM r1 r2
    have sM := s2'.old oM
    have hb1 : b1 < M.size := Nat.lt_of_lt_of_le x1.lt (Nat.le_trans o2.size oM.size)
    clear s1 s2 s2' s3 s4 sl sl3 g2
    refine append_copy (sz := 1) ((sM.push _).appended' (by simp (decide := true) only [go_sem]) (by decide)) (by simpa using hln) (by simp (decide := true) only [go_sem]) (byteV_oneCell l) (by omega) fun m3 b3 p3 o3 q3 x3 s5 => ?_
    have hk0 : k < l.length := by omega
    have hk1 : k + 1 < l.length := by omega
    have t1 := s5.at_map (show k < n by omega)
    have l3 := x3.lt
    obtain ⟨tg3, g3⟩ := x3
    have z0 : (0 : Int) ≤ (k : Int) := by omega
    have z1 : (k : Int) < (n : Int) := by omega
    have z2 : decide (k + 1 ≤ l.length) = true := by simp; omega
    have z3 : (0 : Int) ≤ ((k + 1 : Nat) : Int) := by omega
    have z4 : ((k + 1 : Nat) : Int) < (n : Int) := by omega
    have z5 : decide (k + 1 + 1 ≤ l.length) = true := by simp; omega
    have w3 : IntKind.wrap .i64 ((k : Int) + 1) = ((k + 1 : Nat) : Int) := by rw [wrap_i64_id _ (by omega) (by omega)]; omega
    unfold byteV at t1
    rw [Nat.zero_add] at t1
    simp (decide := true) (implicitDefEqProofs := false) (maxDischargeDepth := 20) only [go_sem, ↓reduceIte, t1, g3, l3, z0, z1, z2, Int.toNat_natCast, List.length_map, xor_u8]
    -- z: a copy with two exchanged
    have e5 : (l.map byteV).set k (Value.int .u8 (((l[k] ^^^ X).toNat : Nat) : Int)) = (l.set k (l[k] ^^^ X)).map byteV := by rw [List.map_set]; rfl
    rw [e5]
    have g4 : (m3.put b3 (some (.cells false tg3 ((l.set k (l[k] ^^^ X)).map byteV)))).get b3 = some (.cells false tg3 ((l.set k (l[k] ^^^ X)).map byteV)) := by rw [getM_put, if_pos ⟨rfl, l3⟩]
    have sM3 : SlA (m3.put b3 (some (.cells false tg3 ((l.set k (l[k] ^^^ X)).map byteV)))) 1 (some ⟨b1, 0, p1⟩) n n (l.map byteV) := (sM.old o3).put _ fun x hx => by cases hx; simp only; omega
    have hb3 : b1 < (m3.put b3 (some (.cells false tg3 ((l.set k (l[k] ^^^ X)).map byteV)))).size := by rw [size_put]; exact Nat.lt_of_lt_of_le hb1 o3.size
    have hz3 : (m3.put b3 (some (.cells false tg3 ((l.set k (l[k] ^^^ X)).map byteV)))).size = m3.size := size_put _ _ _
    have hb33 : b3 < (m3.put b3 (some (.cells false tg3 ((l.set k (l[k] ^^^ X)).map byteV)))).size := by rw [size_put]; exact l3
    generalize m3.put b3 (some (.cells false tg3 ((l.set k (l[k] ^^^ X)).map byteV))) = M3 at *
    refine append_copy' (sz := 1) hz3 ((sM3.push _).appended' (by simp (decide := true) only [go_sem]) (by decide)) (by simpa using hln) (by simp (decide := true) only [go_sem]) (byteV_oneCell l) (by omega) fun m5 b5 p5 o5 q5 x5 s6 => ?_
    have u1 := s6.at_map (show k < n by omega)
    have u2 := s6.at_map (show k + 1 < n by omega)
    have l5 := x5.lt
    obtain ⟨tg5, g5⟩ := x5
    unfold byteV at u1 u2
    rw [Nat.zero_add] at u1 u2
    simp (decide := true) (implicitDefEqProofs := false) (maxDischargeDepth := 20) only [go_sem, ↓reduceIte, u1, u2, g5, l5, z0, z1, z2, z3, z4, z5, w3, Int.toNat_natCast, List.length_map, List.length_set]
    have e6 : ((l.map byteV).set k (Value.int .u8 ((l[k + 1].toNat : Nat) : Int))).set (k + 1) (Value.int .u8 ((l[k].toNat : Nat) : Int)) = ((l.set k l[k + 1]).set (k + 1) l[k]).map byteV := by rw [List.map_set, List.map_set]; rfl
    rw [e6]
    obtain ⟨M5, hM5⟩ : ∃ M5, M5 = m5.put b5 (some (.cells false tg5 ((l.map byteV).set k (Value.int .u8 ((l[k + 1].toNat : Nat) : Int))))) := ⟨_, rfl⟩
    rw [← hM5]
    have hz5 : M5.size = m5.size := by rw [hM5]; exact size_put _ _ _
    obtain ⟨M6, hM6⟩ : ∃ M6, M6 = M5.put b5 (some (.cells false tg5 (((l.set k l[k + 1]).set (k + 1) l[k]).map byteV))) := ⟨_, rfl⟩
    have hz6 : M6.size = m5.size := by rw [hM6, size_put]; exact hz5
    have v3 : SlA M6 1 (some ⟨b5, 0, p5⟩) n n (((l.set k l[k + 1]).set (k + 1) l[k]).map byteV) := SlA.new (by rw [hM6, getM_put, if_pos ⟨rfl, by rw [hz5]; exact l5⟩]) (by simp [hln]) (s6.loose _ rfl)
    have v1 : SlA M6 1 (some ⟨b1, 0, p1⟩) n n (l.map byteV) := by
      rw [hM6, hM5]
      exact ((sM3.old o5).put _ fun x hx => by cases hx; simp only; omega).put _ fun x hx => by cases hx; simp only; omega
    have v2 : SlA M6 1 (some ⟨b3, 0, p3⟩) n n ((l.set k (l[k] ^^^ X)).map byteV) := by
      rw [hM6, hM5]
      exact (((SlA.new g4 (by simp [hln]) (s5.loose _ rfl)).old o5).put _ fun x hx => by cases hx; simp only; omega).put _ fun x hx => by cases hx; simp only; omega
    rw [← hM6]
    clear hM6 hM5 e6 e5
    have l6 : b1 < M6.size := by rw [hz6]; exact Nat.lt_of_lt_of_le hb3 o5.size
    have y1 := v1.at_map (show k < n by omega)
    have y2 := v1.at_map (show k + 1 < n by omega)
    unfold byteV at y1 y2
    rw [Nat.zero_add] at y1 y2
    have R1 := fun (m3 : Mem) (h : SlA m3 1 (some ⟨b1, 0, p1⟩) n n (l.map byteV)) (K : Value → Mem → Prop) => sum_eq h (by omega) K
    have R2 := fun (m3 : Mem) (h : SlA m3 1 (some ⟨b3, 0, p3⟩) n n ((l.set k (l[k] ^^^ X)).map byteV)) (K : Value → Mem → Prop) => sum_eq h (by omega) K
    have R3 := fun (m3 : Mem) (h : SlA m3 1 (some ⟨b5, 0, p5⟩) n n (((l.set k l[k + 1]).set (k + 1) l[k]).map byteV)) (K : Value → Mem → Prop) => sum_eq h (by omega) K
    have c1 : ((((crc (l.set k (l[k] ^^^ X))).toNat : Nat) : Int) == ((crc l).toNat : Nat)) = decide (X = 0) := by
      rw [u32_eq, xb_set l k X hk0, decide_eq_decide, crc_apart l [X] k (l.length - k - 1) (by simp) (by simp; omega)]
      simp
    have c2 : ((((crc ((l.set k l[k + 1]).set (k + 1) l[k])).toNat : Nat) : Int) == ((crc l).toNat : Nat)) = decide (l[k] = l[k + 1]) := by
      rw [u32_eq, xb_swap l k hk1, decide_eq_decide, crc_apart l [l[k] ^^^ l[k + 1], l[k] ^^^ l[k + 1]] k (l.length - k - 2) (by simp) (by simp; omega)]
      simp only [List.mem_cons, List.not_mem_nil, or_false, or_self, forall_eq]
      refine ⟨fun h => ?_, fun h => by rw [h, UInt8.xor_self]⟩
      have := congrArg (· ^^^ l[k + 1]) h
      simpa [UInt8.xor_assoc] using this
    have c3 : (((X.toNat : Nat) : Int) == 0) = decide (X = 0) := by
      rw [Bool.eq_iff_iff]
      simp only [beq_iff_eq, decide_eq_true_eq]
      exact ⟨fun h => UInt8.toNat_inj.1 (by show X.toNat = 0; omega), fun h => by rw [h]; rfl⟩
    have c4 : (((l[k].toNat : Nat) : Int) == ((l[k + 1].toNat : Nat) : Int)) = decide (l[k] = l[k + 1]) := by
      rw [Bool.eq_iff_iff]
      simp only [beq_iff_eq, decide_eq_true_eq]
      exact ⟨fun h => UInt8.toNat_inj.1 (by omega), fun h => by rw [h]⟩
    have aM := fun (g : FuncId) (args : Array Value) (ids : List Nat) (mm : Mem) (x : Option Addr) (l : List UInt8) (h : SlA mm 1 x n n (l.map byteV)) => h.ansM (E := E) (g := g) (args := args) (ids := ids)
    simp (decide := true) (implicitDefEqProofs := false) (maxDischargeDepth := 20) only [go_sem, ↓reduceIte, R1, R2, R3, aM, SlA.gm, v1, v2, v3, c1, c2, c3, c4, y1, y2, l6, z0, z1, z3, z4, w3, Int.toNat_natCast, beq_self_eq_true]
end Go.Proofs.Ytokkjdlnbccojaa.W
