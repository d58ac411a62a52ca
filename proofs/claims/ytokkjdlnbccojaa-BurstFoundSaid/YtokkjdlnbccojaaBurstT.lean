/-
  BurstFound, the law.
-/
import Derived.Test.YtokkjdlnbccojaaBurstS
namespace Go.Proofs.Ytokkjdlnbccojaa.W
open Go.Abs
set_option linter.unusedSimpArgs false
set_option linter.unusedVariables false

set_option maxRecDepth 100000 in
set_option maxHeartbeats 4000000 in
theorem BurstFound_law (m : Mem) (hro : ∀ i c, m.get i = some c → c.writable = false) (a0 : Option Addr) (l0 c0 : Nat) (xs0 : List Int) (hs : SlA m 1 a0 l0 c0 (xs0.map (.int .u8))) (hl0 : xs0.length = l0) (hx : ∀ x ∈ xs0, 0 ≤ x ∧ x < 256)
    (at_ : Int) (ha : -9223372036854775808 ≤ at_) (ha' : at_ < 9223372036854775808) (x : Int) (hxa : 0 ≤ x) (hxb : x < 4294967296) : CallQ E F_sheaflaw3_BurstFound [.slice a0 l0 c0, .int .i64 at_, .int .u32 x].toArray m fun v _ => v = .bool true := by
  obtain ⟨n, hn⟩ : ∃ n, n = min l0 90 := ⟨_, rfl⟩
  have e90 : min (l0 : Int) 90 = (n : Int) := by omega
  obtain ⟨w, rfl⟩ : ∃ w : BitVec 32, x = (w.toNat : Int) := ⟨BitVec.ofNat 32 x.toNat, by rw [BitVec.toNat_ofNat]; omega⟩
  obtain ⟨sl, s1⟩ := hs.sliceTo (E := E) (k := .i64) (show n ≤ l0 by omega)
  rw [Nat.mul_one, ← List.map_take] at s1
  obtain ⟨l, hl, hll⟩ := bytes_of (xs0.take n) fun x h => hx x (List.mem_of_mem_take h)
  rw [hl] at s1
  have hln : l.length = n := by rw [hll]; simp; omega
  refine .enter fn_sheaflaw3_BurstFound (by simp) ?_
  simp (decide := true) (implicitDefEqProofs := false) (maxDischargeDepth := 20) only [go_sem, ↓reduceIte, e90, sl]
  refine Close_at (s1.push _) (by omega) fun m1 b o1 q1 x1 => ?_
  have w1 : IntKind.wrap .i64 ((n : Int) + 4) = ((n + 4 : Nat) : Int) := by rw [wrap_i64_id _ (by omega) (by omega)]; omega
  have d1 : decide (((n + 4 : Nat) : Int) < 4) = false := by simp; omega
  have w2 : IntKind.wrap .i64 (8 * ((n + 4 : Nat) : Int)) = 8 * (n : Int) + 32 := by rw [wrap_i64_id _ (by omega) (by omega)]; omega
  have w3 : IntKind.wrap .i64 (8 * (n : Int) + 32 - 32) = 8 * (n : Int) := by rw [wrap_i64_id _ (by omega) (by omega)]; omega
  have wi := Within_ans at_ 0 (8 * (n : Int)) ha ha' (by omega) (by omega) (by omega) (by omega)
  obtain ⟨k, hk⟩ : ∃ k : Nat, (k : Int) = 0 + at_ % (8 * (n : Int) - 0 + 1) := ⟨(0 + at_ % (8 * (n : Int) - 0 + 1)).toNat, by have := Int.emod_nonneg at_ (show 8 * (n : Int) - 0 + 1 ≠ 0 by omega); omega⟩
  rw [← hk] at wi
  have hkn : k + 32 ≤ 8 * (n + 4) := by have := Int.emod_lt_of_pos at_ (show 0 < 8 * (n : Int) - 0 + 1 by omega); omega
  simp (decide := true) (implicitDefEqProofs := false) (maxDischargeDepth := 20) only [go_sem, ↓reduceIte, w1, d1, w2, w3, wi.eq, true_implies, false_implies]
  obtain ⟨M0, hM0⟩ : ∃ M0, M0 = (m1.push (.cells false true [.slice none 0 0])).put m1.size (some (.cells false true [.slice (some ⟨b, 0, none⟩) (n + 4) (n + 4)])) := ⟨_, rfl⟩
  rw [← hM0]
  have hz1 : m.size < m1.size := Nat.lt_of_lt_of_le (by rw [size_push]; omega) o1.size
  have hz0 : M0.size = m1.size + 1 := by rw [hM0, size_put, size_push]
  have hb1 := x1.lt
  have hbm : m.size < b := by rw [size_push] at q1; omega
  have p1 : Box M0 m.size [.int .u32 (w.toNat : Int)] := by rw [hM0]; exact (((Box.new m true [.int .u32 (w.toNat : Int)]).old o1).push _).putO _ (by omega)
  have p2 : Box M0 m1.size [.slice (some ⟨b, 0, none⟩) (n + 4) (n + 4)] := by rw [hM0]; exact .put (by rw [size_push]; omega)
  have pD : Box M0 b ((l ++ le4 (crc l)).map byteV) := by rw [hM0]; exact (x1.push _).putO _ (by omega)
  clear hM0
  generalize hM : ansM E F_sheafbook_Within _ [] _ = M
  have oM : Old M0 M := by rw [← hM]; exact .ansM (.refl M0)
  clear hM
  obtain ⟨M2, hM2⟩ : ∃ M2, M2 = (M.push (.cells false true [.int .i64 0])).put M.size (some (.cells false true [.int .i64 (k : Int)])) := ⟨_, rfl⟩
  rw [← hM2]
  have hzM := oM.size
  have q1 : Box M2 m.size [.int .u32 (w.toNat : Int)] := by rw [hM2]; exact ((p1.old oM).push _).putO _ (by omega)
  have q2 : Box M2 m1.size [.slice (some ⟨b, 0, none⟩) (n + 4) (n + 4)] := by rw [hM2]; exact ((p2.old oM).push _).putO _ (by omega)
  have qD : Box M2 b ((l ++ le4 (crc l)).map byteV) := by rw [hM2]; exact ((pD.old oM).push _).putO _ (by omega)
  have q3 : Box M2 M.size [.int .i64 (k : Int)] := by rw [hM2]; exact .put (by rw [size_push]; omega)
  clear hM2
  obtain ⟨c, hc⟩ : ∃ c, c = l ++ le4 (crc l) := ⟨_, rfl⟩
  rw [← hc] at qD
  have gc : good c = true := by rw [hc]; exact good_close l
  have lc : c.length = n + 4 := by rw [hc]; simp [le4, hln]
  have sOf : ∀ (m3 : Mem) (cs : List UInt8), cs.length = n + 4 → Box m3 b (cs.map byteV) → SlA m3 1 (some ⟨b, 0, none⟩) (n + 4) (n + 4) (cs.map byteV) := fun m3 cs h ⟨tg, g⟩ => SlA.new g (by rw [List.length_map, h, Nat.mul_one]) rfl
  have G1 := fun (m3 : Mem) (h : SlA m3 1 (some ⟨b, 0, none⟩) (n + 4) (n + 4) (c.map byteV)) (K : Value → Mem → Prop) => callQ_eq (Good_at h (by omega)) K
  have v1 := sOf M2 c lc qD
  rw [gc] at G1
  simp (decide := true) (implicitDefEqProofs := false) (maxDischargeDepth := 20) only [go_sem, ↓reduceIte, G1, v1, true_implies, false_implies, Bool.not_true]
  refine Turn_at lc (by omega) (by omega) rfl (by omega) q1.ansM q2.ansM q3.ansM qD.ansM (by omega) (by omega) (by omega) fun m3 cs hT hB b1 b2 b3 => ?_
  have lcs : cs.length = n + 4 := hT.1.trans lc
  have G2 := fun (m3 : Mem) (h : SlA m3 1 (some ⟨b, 0, none⟩) (n + 4) (n + 4) (cs.map byteV)) (K : Value → Mem → Prop) => callQ_eq (Good_at h (by omega)) K
  rw [good_turned hT (by omega) gc] at G2
  have v2 := sOf m3 cs lcs hB
  have aM := fun (g : FuncId) (args : Array Value) (ids : List Nat) (mm : Mem) (x : Option Addr) (c : Nat) (l : List UInt8) (h : SlA mm 1 x n c (l.map byteV)) => h.ansM (E := E) (g := g) (args := args) (ids := ids)
  have u1 := Box.at0 b1
  have u2 := Box.at0 b2
  have l1 := b1.lt
  have l2 := b2.lt
  have c2 : (((w.toNat : Nat) : Int) == 0) = decide (w = 0#32) := u32_eq w 0#32
  have y1 : (!(decide (w = 0#32) == decide (w = 0#32))) = false := by simp
  simp (decide := true) (implicitDefEqProofs := false) (maxDischargeDepth := 20) only [go_sem, ↓reduceIte, G2, SlA.gm, v2, u1, u2, l1, l2, c2, y1, bne_self_eq_false, true_implies, false_implies, Bool.not_true]
  refine Turn_at lcs (by omega) (by omega) rfl (by omega) b1.ansM b2.ansM b3.ansM hB.ansM (by omega) (by omega) (by omega) fun m4 ds hT2 hD b4 b5 b6 => ?_
  have lds : ds.length = n + 4 := hT2.1.trans lcs
  have G3 := fun (m3 : Mem) (h : SlA m3 1 (some ⟨b, 0, none⟩) (n + 4) (n + 4) (ds.map byteV)) (K : Value → Mem → Prop) => callQ_eq (Good_at h (by omega)) K
  rw [good_twice hT hT2 (by omega) gc] at G3
  have v3 := sOf m4 ds lds hD
  have u5 := Box.at0 b5
  have l5 := b5.lt
  simp (decide := true) (implicitDefEqProofs := false) (maxDischargeDepth := 20) only [go_sem, ↓reduceIte, G3, SlA.gm, v3, u5, l5, true_implies, false_implies, Bool.not_true]
end Go.Proofs.Ytokkjdlnbccojaa.W
