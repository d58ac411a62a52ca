/-
  BurstApart.
-/
import Derived.Test.YtokkjdlnbccojaaBurstL
namespace Go.Proofs.Ytokkjdlnbccojaa.W
open Go.Abs
set_option linter.unusedSimpArgs false
set_option linter.unusedVariables false

theorem take_set_succ {α : Type} (l r : List α) (i : Nat) (v : α) (hi : i < l.length) (hi' : i < r.length) (h : l.take i = r.take i) (hv : v = r[i]) : (l.set i v).take (i + 1) = r.take (i + 1) := by
  rw [List.take_succ_eq_append_getElem (by simpa using hi), List.take_succ_eq_append_getElem hi', List.take_set_of_le (by omega), h, List.getElem_set_self, hv]

set_option maxRecDepth 100000 in
set_option maxHeartbeats 4000000 in
theorem Apart_loop1 (t : Fr) (m : Mem) (n ca cb cc B : Nat) (aa ab ac : Option Addr) (la lb lc : List UInt8) (ea : SlA m 1 aa n ca (la.map byteV)) (eb : SlA m 1 ab n cb (lb.map byteV)) (ec : SlA m 1 ac n cc (lc.map byteV)) (va vb vc : Nat) (hva : n ≤ va) (hvb : n ≤ vb) (hvc : n ≤ vc)
    (hn : n ≤ 60) (zs : List UInt8) (hz : zs.length = n) (hB : Box m B (zs.map byteV)) (hne : 0 < n → ∀ x, (aa = some x ∨ ab = some x ∨ ac = some x) → x.block ≠ B)
    (t0 : t 0 = .slice aa va ca) (t1 : t 1 = .slice ab vb cb) (t2 : t 2 = .slice ac vc cc) (t12 : t 12 = .slice (some ⟨B, 0, none⟩) n n) (t27 : t 27 = .int .i64 n) (t28 : t 28 = .int .i64 0) (K : Post3)
    (hK : ∀ t' m', Agree (writes c_sheaflaw3_BurstApart_7) t t' → SlA m' 1 aa n ca (la.map byteV) → SlA m' 1 ab n cb (lb.map byteV) → SlA m' 1 ac n cc (lc.map byteV) → m.size ≤ m'.size → Box m' B ((xb (xb la lb) lc).map byteV) → K .normal t' m') :
    wpM E F_sheaflaw3_BurstApart 108 none c_sheaflaw3_BurstApart_7 K t m := by
  have la' : la.length = n := by have := ea.len; simpa using this
  have lb' : lb.length = n := by have := eb.len; simpa using this
  have lc' : lc.length = n := by have := ec.len; simpa using this
  have lx : (xb la lb).length = n := by rw [xb_length _ _ (by omega)]; exact la'
  have lxx : (xb (xb la lb) lc).length = n := by rw [xb_length _ _ (by omega)]; exact lx
  refine wpM_cut (fun t' m' => SlA m' 1 aa n ca (la.map byteV) ∧ SlA m' 1 ab n cb (lb.map byteV) ∧ SlA m' 1 ac n cc (lc.map byteV) ∧ m.size ≤ m'.size ∧ Box m' B ((xb (xb la lb) lc).map byteV)) ?_ fun t' m' ha ⟨e1, e2, e3, e4, e5⟩ => hK t' m' ha e1 e2 e3 e4 e5
  simp only [c_sheaflaw3_BurstApart_7_at, wpM_block, c_sheaflaw3_BurstApart_6_at]
  refine wpM_loopA (fun j t' m' => ∃ i : Nat, i ≤ n ∧ j = n - i ∧ t' 28 = .int .i64 i ∧ SlA m' 1 aa n ca (la.map byteV) ∧ SlA m' 1 ab n cb (lb.map byteV) ∧ SlA m' 1 ac n cc (lc.map byteV) ∧ m.size ≤ m'.size ∧ ∃ cs : List UInt8, cs.length = n ∧ cs.take i = (xb (xb la lb) lc).take i ∧ Box m' B (cs.map byteV)) n
    ⟨0, by omega, rfl, t28, ea, eb, ec, Nat.le_refl _, zs, hz, by simp, hB⟩ ?_
  rintro j t' m' ha ⟨i, hi, rfl, e28, s1, s2, s3, hsz, cs, hcs, htk, x1⟩
  have a0 := (ha 0 (by decide +kernel)).trans t0
  have a1 := (ha 1 (by decide +kernel)).trans t1
  have a2 := (ha 2 (by decide +kernel)).trans t2
  have a12 := (ha 12 (by decide +kernel)).trans t12
  have a27 := (ha 27 (by decide +kernel)).trans t27
  by_cases hlt : i < n
  · have d1 : decide ((i : Int) < (n : Int)) = true := by simp; omega
    have w1 : IntKind.wrap .i64 ((i : Int) + 1) = ((i + 1 : Nat) : Int) := by rw [wrap_i64_id _ (by omega) (by omega)]; omega
    obtain ⟨b1, o1, p1, rfl⟩ := s1.addr (by omega)
    obtain ⟨b2, o2, p2, rfl⟩ := s2.addr (by omega)
    obtain ⟨b3, o3, p3, rfl⟩ := s3.addr (by omega)
    have q1 := hne (by omega) _ (.inl rfl)
    have q2 := hne (by omega) _ (.inr (.inl rfl))
    have q3 := hne (by omega) _ (.inr (.inr rfl))
    have r1 := s1.at_map hlt
    have r2 := s2.at_map hlt
    have r3 := s3.at_map hlt
    have lB := x1.lt
    obtain ⟨tg, g⟩ := x1
    unfold byteV at r1 r2 r3
    have z0 : (0 : Int) ≤ (i : Int) := by omega
    have z1 : (i : Int) < (n : Int) := by omega
    have z2 : (i : Int) < (va : Int) := by omega
    have z3 : (i : Int) < (vb : Int) := by omega
    have z4 : (i : Int) < (vc : Int) := by omega
    have z5 : decide (i + 1 ≤ cs.length) = true := by simp; omega
    simp (decide := true) (implicitDefEqProofs := false) (maxDischargeDepth := 20) only [go_sem, ↓reduceIte, a0, a1, a2, a12, a27, e28, d1, r1, r2, r3, g, lB, z0, z1, z2, z3, z4, z5, w1, Int.toNat_natCast, List.length_map, xor_u8, true_implies, false_implies]
    refine ⟨n - (i + 1), by omega, i + 1, by omega, rfl, rfl, s1.put _ fun x hx => by cases hx; exact q1, s2.put _ fun x hx => by cases hx; exact q2, s3.put _ fun x hx => by cases hx; exact q3, hsz, cs.set i (la[i]'(by omega) ^^^ lb[i]'(by omega) ^^^ lc[i]'(by omega)), by simpa using hcs, ?_, ?_⟩
    · refine take_set_succ _ _ _ _ (by omega) (by omega) htk ?_
      have h1 := xb_get la lb i (by omega) (by omega)
      have h2 := xb_get' (r := lc) h1 (List.getElem?_eq_getElem (show i < lc.length by omega))
      rw [List.getElem?_eq_getElem (by omega)] at h2
      exact (Option.some.inj h2).symm
    · have e : (cs.map byteV).set i (Value.int .u8 (((la[i]'(by omega) ^^^ lb[i]'(by omega) ^^^ lc[i]'(by omega)).toNat : Nat) : Int)) = (cs.set i (la[i]'(by omega) ^^^ lb[i]'(by omega) ^^^ lc[i]'(by omega))).map byteV := by rw [List.map_set]; rfl
      rw [e]
      exact .put lB
  · have d1 : decide ((i : Int) < (n : Int)) = false := by simp; omega
    have hin : i = n := by omega
    subst hin
    rw [List.take_of_length_le (by omega), List.take_of_length_le (by omega)] at htk
    subst htk
    simp (decide := true) (implicitDefEqProofs := false) (maxDischargeDepth := 20) only [go_sem, ↓reduceIte, a27, e28, d1, true_implies, false_implies]
    exact ⟨s1, s2, s3, hsz, x1⟩

theorem le4_get (w : BitVec 32) (i : Nat) (hi : i < 4) : (le4 w)[i]'(by simp [le4]; omega) = UInt8.ofNat (w.toNat / 2 ^ (8 * i)) := by
  have : i = 0 ∨ i = 1 ∨ i = 2 ∨ i = 3 := by omega
  rcases this with rfl | rfl | rfl | rfl <;> simp [le4]

/-- The bytes of a word, so many of them, laid on a row. -/
theorem xb_word (l : List UInt8) (k i : Nat) (w : BitVec 32) (hi : i < 4) (hk : k + 4 ≤ l.length) (v : UInt8) (hv : v = UInt8.ofNat (w.toNat / 2 ^ (8 * i))) :
    (xb l (List.replicate k 0 ++ (le4 w).take i ++ List.replicate (l.length - k - i) 0)).set (k + i) ((l[k + i]'(by omega)) ^^^ v) = xb l (List.replicate k 0 ++ (le4 w).take (i + 1) ++ List.replicate (l.length - k - (i + 1)) 0) := by
  have l4 : (le4 w).length = 4 := rfl
  have n1 : ∀ i, i ≤ 4 → (List.replicate k (0 : UInt8) ++ (le4 w).take i ++ List.replicate (l.length - k - i) 0).length = l.length := by intro i hi; simp [l4]; omega
  apply List.ext_getElem?
  intro j
  by_cases hj : j < l.length
  · rw [List.getElem?_set, xb_get' (List.getElem?_eq_getElem hj) (mid_get k _ ((le4 w).take i) j (by simp [l4]; omega)), xb_get' (List.getElem?_eq_getElem hj) (mid_get k _ ((le4 w).take (i + 1)) j (by simp [l4]; omega))]
    by_cases h : k + i = j
    · subst h
      rw [if_pos rfl, if_pos (by rw [xb_length _ _ (n1 i (by omega)).symm]; omega), dif_pos ⟨by omega, by simp [l4]; omega⟩]
      congr 2
      rw [hv, ← le4_get w i hi]
      simp
    · rw [if_neg h]
      by_cases h2 : k ≤ j ∧ j < k + i
      · rw [dif_pos ⟨h2.1, by simp [l4]; omega⟩, dif_pos ⟨h2.1, by simp [l4]; omega⟩]
        simp
      · rw [dif_neg (by simp [l4]; omega), dif_neg (by simp [l4]; omega)]
  · rw [List.getElem?_eq_none (by rw [List.length_set, xb_length _ _ (n1 i (by omega)).symm]; omega), List.getElem?_eq_none (by rw [xb_length _ _ (n1 (i + 1) (by omega)).symm]; omega)]

theorem xb_zeros (l : List UInt8) : xb l (List.replicate l.length 0) = l := by
  induction l with
  | nil => rfl
  | cons a l ih => simp [xb, List.replicate_succ, ih]

set_option maxRecDepth 100000 in
set_option maxHeartbeats 4000000 in
theorem Apart_loop2 (t : Fr) (m : Mem) (n k D : Nat) (p : Option Nat) (l : List UInt8) (w : BitVec 32) (hl : l.length = n) (hk : k + 4 ≤ n) (hn : n ≤ 60) (hD : Box m D (l.map byteV)) (hp : looseOk ⟨D, 0, p⟩ 1 = true) (aa : Option Addr) (na ca : Nat) (la : List UInt8) (ea : SlA m 1 aa na ca (la.map byteV)) (hne : ∀ x, aa = some x → x.block ≠ D)
    (t4 : t 4 = .int .u32 (w.toNat : Int)) (t14 : t 14 = .int .i64 k) (t15 : t 15 = .slice (some ⟨D, 0, p⟩) n n) (t16 : t 16 = .int .i64 0) (K : Post3)
    (hK : ∀ t' m', Agree (writes c_sheaflaw3_BurstApart_21) t t' → SlA m' 1 aa na ca (la.map byteV) → SlA m' 1 (some ⟨D, 0, p⟩) n n ((xb l (List.replicate k 0 ++ le4 w ++ List.replicate (n - k - 4) 0)).map byteV) → K .normal t' m') :
    wpM E F_sheaflaw3_BurstApart 108 none c_sheaflaw3_BurstApart_21 K t m := by
  refine wpM_cut (fun t' m' => SlA m' 1 aa na ca (la.map byteV) ∧ Box m' D ((xb l (List.replicate k 0 ++ le4 w ++ List.replicate (n - k - 4) 0)).map byteV)) ?_ fun t' m' ha ⟨e1, tg, e2⟩ => hK t' m' ha e1 (SlA.new e2 (by rw [List.length_map, xb_length _ _ (by simp [le4]; omega), hl, Nat.mul_one]) hp)
  simp only [c_sheaflaw3_BurstApart_21_at, wpM_block, c_sheaflaw3_BurstApart_20_at]
  refine wpM_loopA (fun j t' m' => ∃ i : Nat, i ≤ 4 ∧ j = 4 - i ∧ t' 16 = .int .i64 i ∧ SlA m' 1 aa na ca (la.map byteV) ∧ Box m' D ((xb l (List.replicate k 0 ++ (le4 w).take i ++ List.replicate (l.length - k - i) 0)).map byteV)) 4
    ⟨0, by omega, rfl, t16, ea, by
      have e : List.replicate k (0 : UInt8) ++ (le4 w).take 0 ++ List.replicate (l.length - k - 0) 0 = List.replicate l.length 0 := by
        rw [List.take_zero, List.append_nil, List.replicate_append_replicate]; congr 1; omega
      rw [e, xb_zeros]; exact hD⟩ ?_
  rintro j t' m' ha ⟨i, hi, rfl, e16, s1, x1⟩
  have a4 := (ha 4 (by decide +kernel)).trans t4
  have a14 := (ha 14 (by decide +kernel)).trans t14
  have a15 := (ha 15 (by decide +kernel)).trans t15
  by_cases hlt : i < 4
  · have d1 : decide ((i : Int) < 4) = true := by simp; omega
    have w1 : IntKind.wrap .i64 ((i : Int) + 1) = ((i + 1 : Nat) : Int) := by rw [wrap_i64_id _ (by omega) (by omega)]; omega
    have w2 : IntKind.wrap .i64 ((k : Int) + (i : Int)) = ((k + i : Nat) : Int) := by rw [wrap_i64_id _ (by omega) (by omega)]; omega
    have w3 : IntKind.wrap .i64 (8 * (i : Int)) = ((8 * i : Nat) : Int) := by rw [wrap_i64_id _ (by omega) (by omega)]; omega
    have w4 : IntKind.wrap .u8 (shrI .u32 (w.toNat : Int) ((8 * i : Nat) : Int)) = ((UInt8.ofNat (w.toNat / 2 ^ (8 * i))).toNat : Int) := by rw [shr_u32 w (8 * i) (by omega)]; exact byte_of _
    have hlen : (xb l (List.replicate k 0 ++ (le4 w).take i ++ List.replicate (l.length - k - i) 0)).length = n := by rw [xb_length _ _ (by simp [le4]; omega), hl]
    have hget : (xb l (List.replicate k 0 ++ (le4 w).take i ++ List.replicate (l.length - k - i) 0))[k + i]'(by omega) = l[k + i]'(by omega) := by
      have h1 := xb_get' (List.getElem?_eq_getElem (show k + i < l.length by omega)) (mid_get k (l.length - k - i) ((le4 w).take i) (k + i) (by simp [le4]; omega))
      rw [dif_neg (by simp [le4]; omega), List.getElem?_eq_getElem (by omega)] at h1
      rw [Option.some.inj h1]
      simp
    have s2 : SlA m' 1 (some ⟨D, 0, p⟩) n n ((xb l (List.replicate k 0 ++ (le4 w).take i ++ List.replicate (l.length - k - i) 0)).map byteV) := by
      obtain ⟨tg, g⟩ := x1
      exact SlA.new g (by rw [List.length_map, hlen, Nat.mul_one]) hp
    have r1 := s2.at_map (show k + i < n by omega)
    rw [hget, Nat.zero_add] at r1
    unfold byteV at r1
    have lD := x1.lt
    obtain ⟨tg, g⟩ := x1
    have z0 : (0 : Int) ≤ ((k + i : Nat) : Int) := by omega
    have z1 : ((k + i : Nat) : Int) < (n : Int) := by omega
    have z5 : decide (k + i + 1 ≤ (xb l (List.replicate k 0 ++ (le4 w).take i ++ List.replicate (l.length - k - i) 0)).length) = true := by rw [hlen]; simp; omega
    have z6 : decide (k + (i + 1) ≤ (xb l (List.replicate k 0 ++ (le4 w).take i ++ List.replicate (l.length - k - i) 0)).length) = true := by rw [hlen]; simp; omega
    have n3 : ¬ ((8 * i : Nat) : Int) < 0 := by omega
    simp (decide := true) (implicitDefEqProofs := false) (maxDischargeDepth := 20) only [go_sem, ↓reduceIte, a4, a14, a15, e16, d1, r1, g, lD, z0, z1, z5, z6, n3, w1, w2, w3, w4, Int.toNat_natCast, List.length_map, xor_u8, true_implies, false_implies]
    refine ⟨4 - (i + 1), by omega, i + 1, by omega, rfl, rfl, s1.put _ hne, ?_⟩
    have e : ((xb l (List.replicate k 0 ++ (le4 w).take i ++ List.replicate (l.length - k - i) 0)).map byteV).set (k + i) (Value.int .u8 (((l[k + i]'(by omega) ^^^ UInt8.ofNat (w.toNat / 2 ^ (8 * i))).toNat : Nat) : Int)) = (xb l (List.replicate k 0 ++ (le4 w).take (i + 1) ++ List.replicate (l.length - k - (i + 1)) 0)).map byteV := by
      rw [← xb_word l k i w hlt (by omega) _ rfl, List.map_set]; rfl
    rw [e]
    exact .put lD
  · have d1 : decide ((i : Int) < 4) = false := by simp; omega
    have hi4 : i = 4 := by omega
    subst hi4
    have e4 : (le4 w).take 4 = le4 w := rfl
    rw [e4, hl] at x1
    simp (decide := true) (implicitDefEqProofs := false) (maxDischargeDepth := 20) only [go_sem, ↓reduceIte, e16, d1, true_implies, false_implies]
    exact ⟨s1, x1⟩
end Go.Proofs.Ytokkjdlnbccojaa.W
