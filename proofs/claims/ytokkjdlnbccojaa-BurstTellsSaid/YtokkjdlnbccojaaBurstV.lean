/-
  BurstTells, the law.
-/
import Derived.Test.YtokkjdlnbccojaaBurstU
namespace Go.Proofs.Ytokkjdlnbccojaa.W
open Go.Abs
set_option linter.unusedSimpArgs false
set_option linter.unusedVariables false

theorem u8_eq (a b : UInt8) : (((a.toNat : Nat) : Int) == ((b.toNat : Nat) : Int)) = decide (a = b) := by
  rw [Bool.eq_iff_iff]
  simp only [beq_iff_eq, decide_eq_true_eq]
  exact ⟨fun h => UInt8.toNat_inj.1 (by omega), fun h => by rw [h]⟩

theorem last4 (l : List UInt8) (h : 4 ≤ l.length) : ∃ p a b c d, l = p ++ [a, b, c, d] ∧ p.length + 4 = l.length := by
  have e : l.take (l.length - 4) ++ l.drop (l.length - 4) = l := List.take_append_drop _ _
  have h4 : (l.drop (l.length - 4)).length = 4 := by rw [List.length_drop]; omega
  have hp : (l.take (l.length - 4)).length + 4 = l.length := by rw [List.length_take]; omega
  match hd : l.drop (l.length - 4), h4 with
  | [a, b, c, d], _ => exact ⟨_, a, b, c, d, by rw [← hd]; exact e.symm, hp⟩

set_option maxRecDepth 100000 in
set_option maxHeartbeats 4000000 in
theorem BurstTells_law (m : Mem) (hro : ∀ i c, m.get i = some c → c.writable = false) (a0 : Option Addr) (l0 c0 : Nat) (xs0 : List Int) (hs : SlA m 1 a0 l0 c0 (xs0.map (.int .u8))) (hl0 : xs0.length = l0) (hx : ∀ x ∈ xs0, 0 ≤ x ∧ x < 256)
    : CallQ E F_sheaflaw3_BurstTells [.slice a0 l0 c0].toArray m fun v _ => v = .bool true := by
  obtain ⟨n, hn⟩ : ∃ n, n = min l0 90 := ⟨_, rfl⟩
  have e90 : min (l0 : Int) 90 = (n : Int) := by omega
  obtain ⟨sl, s1⟩ := hs.sliceTo (E := E) (k := .i64) (show n ≤ l0 by omega)
  rw [Nat.mul_one, ← List.map_take] at s1
  obtain ⟨l, hl, hll⟩ := bytes_of (xs0.take n) fun x h => hx x (List.mem_of_mem_take h)
  rw [hl] at s1
  have hln : l.length = n := by rw [hll]; simp; omega
  refine .enter fn_sheaflaw3_BurstTells (by simp) ?_
  simp (decide := true) (implicitDefEqProofs := false) (maxDischargeDepth := 20) only [go_sem, ↓reduceIte, e90, sl]
  refine append_copy (sz := 1) ((s1.push _).appended' (by simp (decide := true) only [go_sem]) (by decide)) (by simpa using hln) (by simp (decide := true) only [go_sem]) (byteV_oneCell l) (by omega) fun m1 b1 p1 o1 q1 x1 s2 => ?_
  simp (decide := true) (implicitDefEqProofs := false) (maxDischargeDepth := 20) only [go_sem, ↓reduceIte]
  refine Roomy_at s2 (by omega) 7 fun m2 b2 o2 q2 x2 => ?_
  have s2' := s2.old o2
  obtain ⟨tg2, g2⟩ := x2
  have s3 : SlA m2 1 (some ⟨b2, 0, none⟩) (n + 80) (n + 80) ((l ++ List.replicate 80 7).map byteV) := SlA.new g2 (by simp [hln]) rfl
  obtain ⟨sl3, s4⟩ := s3.sliceTo (E := E) (k := .i64) (show n ≤ n + 80 by omega)
  have e4 : ((l ++ List.replicate 80 7).map byteV).take (n * 1) = l.map byteV := by
    rw [Nat.mul_one, List.map_append, ← hln, ← List.length_map (f := byteV), List.take_left]
  rw [e4] at s4
  simp (decide := true) (implicitDefEqProofs := false) (maxDischargeDepth := 20) only [go_sem, ↓reduceIte, sl3]
  refine Close_at s4 (by omega) fun m3 b3 o3 q3 x3 => ?_
  have u2 := s2'.old o3
  have u3 := s3.old o3
  have cr := fun K => callQ_eq (Crc_at u2 (by omega)) K
  unfold u32 at cr
  have b0 : IntKind.wrap .u8 (((crc l).toNat : Nat) : Int) = ((UInt8.ofNat (crc l).toNat).toNat : Int) := byte_of _
  have c1 : IntKind.wrap .u8 (shrI .u32 (((crc l).toNat : Nat) : Int) 8) = ((UInt8.ofNat ((crc l).toNat / 256)).toNat : Int) := by
    have := shr_u32 (crc l) 8 (by decide)
    rw [show ((8 : Nat) : Int) = 8 from rfl] at this
    rw [this]; exact byte_of _
  have c2 : IntKind.wrap .u8 (shrI .u32 (((crc l).toNat : Nat) : Int) 16) = ((UInt8.ofNat ((crc l).toNat / 65536)).toNat : Int) := by
    have := shr_u32 (crc l) 16 (by decide)
    rw [show ((16 : Nat) : Int) = 16 from rfl] at this
    rw [this]; exact byte_of _
  have c3 : IntKind.wrap .u8 (shrI .u32 (((crc l).toNat : Nat) : Int) 24) = ((UInt8.ofNat ((crc l).toNat / 16777216)).toNat : Int) := by
    have := shr_u32 (crc l) 24 (by decide)
    rw [show ((24 : Nat) : Int) = 24 from rfl] at this
    rw [this]; exact byte_of _
  simp (decide := true) (implicitDefEqProofs := false) (maxDischargeDepth := 20) only [go_sem, ↓reduceIte, cr]
  generalize hM : ansM E F_sheafref1_Crc _ [] _ = M
  have oM : Old m3 M := by rw [← hM]; exact .ansM (.refl m3)
  clear hM cr
  have M1 := u2.old oM
  have M2 := u3.old oM
  have M3 := x3.old oM
  refine append_copy (sz := 1) ((M1.push _).appended' (by simp (decide := true) only [go_sem]) (by decide)) (by simpa using hln) (by simp (decide := true) only [go_sem]) (byteV_oneCell l) (by omega) fun m4 b4 p4 o4 q4 x4 s5 => ?_
  simp (decide := true) (implicitDefEqProofs := false) (maxDischargeDepth := 20) only [go_sem, ↓reduceIte, b0, c1, c2, c3]
  have hB3 := M3.lt
  have hB1 : b1 < M.size := by have := x1.lt; have := o2.size; have := o3.size; have := oM.size; omega
  have hB2 : b2 < M.size := by have := getM_lt g2; have := o3.size; have := oM.size; omega
  have o4s := o4.size
  have x4l := x4.lt
  obtain ⟨V, hV⟩ : ∃ V, V = [Value.int .u8 ((UInt8.ofNat (crc l).toNat).toNat : Int), .int .u8 ((UInt8.ofNat ((crc l).toNat / 256)).toNat : Int), .int .u8 ((UInt8.ofNat ((crc l).toNat / 65536)).toNat : Int), .int .u8 ((UInt8.ofNat ((crc l).toNat / 16777216)).toNat : Int)] := ⟨_, rfl⟩
  rw [← hV]
  have sV : SlA (m4.push (.cells false true V)) 1 (some ⟨m4.size, 0, none⟩) 4 4 V := SlA.new (by rw [getM_push, if_pos rfl]) (by rw [hV]; rfl) rfl
  have own4 : Own (m4.push (.cells false true V)) 1 (some ⟨b4, 0, p4⟩) n := by
    obtain ⟨tg, g⟩ := x4.push (.cells false true V)
    exact ⟨fun b hb => by cases hb; exact ⟨false, tg, _, g, .inr rfl, by simp [hln]⟩⟩
  refine append_new (s5.push _) (by omega) own4 (sV.appended' (by simp (decide := true) only [go_sem]) (by decide)) (by rw [hV]; rfl) (by simp (decide := true) only [go_sem]) (by rw [hV]; rfl) (by omega) fun m5 z5 g5 k5 s6 => ?_
  rw [size_push] at z5 g5 k5 s6 ⊢
  have eV : l.map byteV ++ V = (l ++ le4 (crc l)).map byteV := by rw [hV, List.map_append]; rfl
  rw [eV] at s6
  have keep : ∀ i, i < M.size → m5.get i = M.get i := by
    intro i hi
    rw [k5 i (by omega) (fun b hb => by cases hb; simp only; omega), getM_push, if_neg (by omega)]
    exact o4.get hi
  have oK : Old M m5 := .of_get (by omega) keep
  have N1 := M1.old oK
  have N2 := M2.old oK
  have N3 : SlA m5 1 (some ⟨b3, 0, none⟩) (n + 4) (n + 4) ((l ++ le4 (crc l)).map byteV) := by
    obtain ⟨tg, g⟩ := M3.old oK
    exact SlA.new g (by simp [le4, hln]) rfl
  have aM := fun (g : FuncId) (args : Array Value) (ids : List Nat) (mm : Mem) (x : Option Addr) (n c : Nat) (l : List UInt8) (h : SlA mm 1 x n c (l.map byteV)) => h.ansM (E := E) (g := g) (args := args) (ids := ids)
  have R1 := fun (m3 : Mem) (h : SlA m3 1 (some ⟨b1, 0, p1⟩) n n (l.map byteV)) (K : Value → Mem → Prop) => sum_eq h (by omega) K
  have R2 := fun (mm : Mem) (h : SlA mm 1 (some ⟨b3, 0, none⟩) (n + 4) (n + 4) ((l ++ le4 (crc l)).map byteV)) (k : SlA mm 1 (some ⟨m4.size + 1, 0, some 1⟩) (n + 4) (n + 4) ((l ++ le4 (crc l)).map byteV)) (K : Value → Mem → Prop) => callQ_eq (SameY h k (by omega) (by omega)) K
  have R3 := fun (mm : Mem) (h : SlA mm 1 (some ⟨b1, 0, p1⟩) n n (l.map byteV)) (K : Value → Mem → Prop) => callQ_eq (Good_at h (by omega)) K
  have R4 := fun (mm : Mem) (h : SlA mm 1 (some ⟨b2, 0, none⟩) (n + 80) (n + 80) ((l ++ List.replicate 80 7).map byteV)) (k : SlA mm 1 (some ⟨b1, 0, p1⟩) n n (l.map byteV)) (K : Value → Mem → Prop) => callQ_eq (Intact_at h k (by omega)) K
  rw [show decide (l ++ le4 (crc l) = l ++ le4 (crc l)) = true by simp] at R2
  rw [show (((7 : UInt8).toNat : Nat) : Int) = 7 from rfl] at R4
  clear M1 M2 M3 u2 u3 s1 s2 s3 s4 s5 sV own4 k5 keep s2'
  by_cases h4 : n < 4
  · have d1 : decide ((4 : Int) ≤ (n : Int)) = false := by simp; omega
    have gl : good l = false := by unfold good; rw [hln]; simp; omega
    rw [gl] at R3
    simp (decide := true) (implicitDefEqProofs := false) (maxDischargeDepth := 20) only [go_sem, ↓reduceIte, d1, R1, R2, R3, R4, aM, SlA.gm, N1, N2, N3, s6, beq_self_eq_true, true_implies, false_implies]
  · obtain ⟨k, hk⟩ : ∃ k, n = k + 4 := ⟨n - 4, by omega⟩
    obtain ⟨p, a, b, c, d, hl4, hp⟩ := last4 l (by omega)
    have hpk : p.length = k := by omega
    have d1 : decide ((4 : Int) ≤ (n : Int)) = true := by simp; omega
    have w1 : IntKind.wrap .i64 ((n : Int) - 4) = (k : Int) := by rw [wrap_i64_id _ (by omega) (by omega)]; omega
    have w2 : IntKind.wrap .i64 ((k : Int) + 1) = ((k + 1 : Nat) : Int) := by rw [wrap_i64_id _ (by omega) (by omega)]; omega
    have w3 : IntKind.wrap .i64 ((k : Int) + 2) = ((k + 2 : Nat) : Int) := by rw [wrap_i64_id _ (by omega) (by omega)]; omega
    have w4 : IntKind.wrap .i64 ((k : Int) + 3) = ((k + 3 : Nat) : Int) := by rw [wrap_i64_id _ (by omega) (by omega)]; omega
    obtain ⟨sk, sK⟩ := N1.sliceTo (E := E) (k := .i64) (show k ≤ n by omega)
    have ek : (l.map byteV).take (k * 1) = p.map byteV := by
      rw [Nat.mul_one, hl4, List.map_append, ← hpk, ← List.length_map (f := byteV), List.take_left]
    rw [ek] at sK
    have cr := fun K => callQ_eq (Crc_at sK (by omega)) K
    unfold u32 at cr
    obtain ⟨y, hy⟩ : ∃ y, y = crc p := ⟨_, rfl⟩
    rw [← hy] at cr
    have f0 : IntKind.wrap .u8 ((y.toNat : Nat) : Int) = ((UInt8.ofNat y.toNat).toNat : Int) := byte_of _
    have f1 : IntKind.wrap .u8 (shrI .u32 ((y.toNat : Nat) : Int) 8) = ((UInt8.ofNat (y.toNat / 256)).toNat : Int) := by
      have := shr_u32 y 8 (by decide)
      rw [show ((8 : Nat) : Int) = 8 from rfl] at this
      rw [this]; exact byte_of _
    have f2 : IntKind.wrap .u8 (shrI .u32 ((y.toNat : Nat) : Int) 16) = ((UInt8.ofNat (y.toNat / 65536)).toNat : Int) := by
      have := shr_u32 y 16 (by decide)
      rw [show ((16 : Nat) : Int) = 16 from rfl] at this
      rw [this]; exact byte_of _
    have f3 : IntKind.wrap .u8 (shrI .u32 ((y.toNat : Nat) : Int) 24) = ((UInt8.ofNat (y.toNat / 16777216)).toNat : Int) := by
      have := shr_u32 y 24 (by decide)
      rw [show ((24 : Nat) : Int) = 24 from rfl] at this
      rw [this]; exact byte_of _
    have gl : good l = (decide (a = UInt8.ofNat y.toNat) && (decide (b = UInt8.ofNat (y.toNat / 256)) && (decide (c = UInt8.ofNat (y.toNat / 65536)) && decide (d = UInt8.ofNat (y.toNat / 16777216))))) := by
      unfold good
      have e : l.take (l.length - 4) = p := by rw [hln, show n - 4 = p.length by omega, hl4, List.take_left]
      rw [e, ← hy, Bool.eq_iff_iff]
      simp only [decide_eq_true_eq, Bool.and_eq_true]
      rw [hl4, List.append_cancel_left_eq]
      unfold le4
      simp only [List.cons.injEq, and_true, List.length_append, List.length_cons, List.length_nil]
      constructor
      · rintro ⟨_, h1, h2, h3, h4⟩
        exact ⟨h1.symm, h2.symm, h3.symm, h4.symm⟩
      · rintro ⟨h1, h2, h3, h4⟩
        exact ⟨by omega, h1.symm, h2.symm, h3.symm, h4.symm⟩
    have y0 := N1.at_map (show k < n by omega)
    have y1 := N1.at_map (show k + 1 < n by omega)
    have y2 := N1.at_map (show k + 2 < n by omega)
    have y3 := N1.at_map (show k + 3 < n by omega)
    have i0 : l[k]'(by omega) = a := by simp only [hl4]; rw [List.getElem_append_right (by omega)]; simp [hpk]
    have i1 : l[k + 1]'(by omega) = b := by simp only [hl4]; rw [List.getElem_append_right (by omega)]; simp [hpk]
    have i2 : l[k + 2]'(by omega) = c := by simp only [hl4]; rw [List.getElem_append_right (by omega)]; simp [hpk]
    have i3 : l[k + 3]'(by omega) = d := by simp only [hl4]; rw [List.getElem_append_right (by omega)]; simp [hpk]
    rw [i0, Nat.zero_add] at y0
    rw [i1, Nat.zero_add] at y1
    rw [i2, Nat.zero_add] at y2
    rw [i3, Nat.zero_add] at y3
    unfold byteV at y0 y1 y2 y3
    have l5 : b1 < m5.size := by omega
    have a0 : (0 : Int) ≤ (k : Int) := by omega
    have a1 : (0 : Int) ≤ ((k + 1 : Nat) : Int) := by omega
    have a2 : (0 : Int) ≤ ((k + 2 : Nat) : Int) := by omega
    have a3 : (0 : Int) ≤ ((k + 3 : Nat) : Int) := by omega
    have z0 : (k : Int) < (n : Int) := by omega
    have z1 : ((k + 1 : Nat) : Int) < (n : Int) := by omega
    have z2 : ((k + 2 : Nat) : Int) < (n : Int) := by omega
    have z3 : ((k + 3 : Nat) : Int) < (n : Int) := by omega
    have h0 := u8_eq a (UInt8.ofNat y.toNat)
    have h1 := u8_eq b (UInt8.ofNat (y.toNat / 256))
    have h2 := u8_eq c (UInt8.ofNat (y.toNat / 65536))
    have h3 := u8_eq d (UInt8.ofNat (y.toNat / 16777216))
    rw [gl] at R3
    generalize decide (a = UInt8.ofNat y.toNat) = t0 at *
    generalize decide (b = UInt8.ofNat (y.toNat / 256)) = t1 at *
    generalize decide (c = UInt8.ofNat (y.toNat / 65536)) = t2 at *
    generalize decide (d = UInt8.ofNat (y.toNat / 16777216)) = t3 at *
    cases t0 <;> cases t1 <;> cases t2 <;> cases t3 <;> simp only [Bool.true_and, Bool.and_true, Bool.false_and, Bool.and_false] at R3 <;>
    simp (decide := true) (implicitDefEqProofs := false) (maxDischargeDepth := 20) only [go_sem, ↓reduceIte, d1, w1, w2, w3, w4, sk, cr, f0, f1, f2, f3, y0, y1, y2, y3, l5, a0, a1, a2, a3, z0, z1, z2, z3, h0, h1, h2, h3, R1, R2, R3, R4, aM, SlA.gm, N1, N2, N3, s6, Int.toNat_natCast, beq_self_eq_true, true_implies, false_implies]
end Go.Proofs.Ytokkjdlnbccojaa.W
