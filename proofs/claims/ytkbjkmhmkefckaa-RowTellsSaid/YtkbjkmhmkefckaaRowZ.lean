/-
  RowTells.
-/
import Derived.Test.YtkbjkmhmkefckaaRowY
import Derived.Test.YtkbjkmhmkefckaaRowW
import Derived.Test.YtkbjkmhmkefckaaBookI
import Derived.Test.YtkbjkmhmkefckaaCodeLaw
namespace Go.Proofs.Ytkbjkmhmkefckaa.W
open Go.Abs
set_option linter.unusedSimpArgs false
set_option linter.unusedVariables false

set_option maxRecDepth 100000 in
set_option maxHeartbeats 8000000 in
theorem RowTells_tail {B : Nat} {m : Mem} {t : Fr} {ar as_ ac ap ao : Option Addr} {nr cr ns cs nc cc kp no co : Nat} {xs ss cols ys : List Int} (hr : SlA m 1 ar nr cr (xs.map (.int .i64))) (hs : SlA m 1 as_ ns cs (ss.map (.int .i64))) (hc : SlA m 1 ac nc cc (cols.map (.int .i64)))
    (hp : SlA m 1 ap kp kp ((put xs).map (.int .u8))) (ho : SlA m 1 ao no co (ys.map (.int .u8))) (hnr : nr ≤ 12) (hns : ns ≤ 12) (hnc : nc ≤ 4) (hkp : kp ≤ 1000) (hno : no ≤ 1000) (hx : Ok64 xs) (hy : Byt ys)
    (t0 : t 0 = .slice ar nr cr) (t1 : t 1 = .slice as_ ns cs) (t5 : t 5 = .slice ac nc cc) (t13 : t 13 = .slice ap kp kp) (t14 : t 14 = .slice ao no co) :
    wpM E F_sheaflaw13_RowTells 109 none c_sheaflaw13_RowTells_6 (retK (ResK E [ResultVar.tmp 12] fun v _ => v = Value.bool true)) t m := by
  have hly : ys.length = no := by have := ho.len; simpa using this
  obtain ⟨l, hl⟩ : ∃ l, l = ys.map fun x => UInt8.ofNat x.toNat := ⟨_, rfl⟩
  have ey : l.map byteV = ys.map (Value.int .u8) := by rw [hl]; exact bytes_ints ys hy
  have hll : l.length = no := by rw [hl, List.length_map, hly]
  have ho' : SlA m 1 ao no co (l.map byteV) := by rw [ey]; exact ho
  simp (decide := true) (implicitDefEqProofs := false) (maxDischargeDepth := 20) only [go_sem, t0, t1, t5, t13, t14, ↓reduceIte, true_implies, false_implies]
  refine Roomy_at ho' (by omega) 7 fun m1 b o1 hb1 gb => ?_
  have hR : SlA m1 1 (some ⟨b, 0, none⟩) (no + 80) (no + 80) ((l ++ List.replicate 80 7).map byteV) := by
    obtain ⟨tg, g⟩ := gb
    exact .new g (by simp; omega) rfl
  obtain ⟨sl, hG⟩ := hR.sliceTo (E := E) (k := .i64) (show no ≤ no + 80 by omega)
  have e4 : ((l ++ List.replicate 80 7).map byteV).take (no * 1) = ys.map (Value.int .u8) := by
    rw [Nat.mul_one, List.map_append, ← hll, ← List.length_map (f := byteV), List.take_left, ey]
  rw [e4] at hG
  have sl' := sl 22 (by decide +kernel)
  simp (decide := true) (implicitDefEqProofs := false) (maxDischargeDepth := 20) only [go_sem, t0, t1, t5, t13, t14, sl', ↓reduceIte, true_implies, false_implies]
  refine (Get_at hG hy (by omega)).mono ?_
  rintro w m2 ⟨a2, k2, rfl, v2, o2⟩
  simp (decide := true) (implicitDefEqProofs := false) (maxDischargeDepth := 20) only [go_sem, t0, t1, t5, t13, t14, ↓reduceIte, true_implies, false_implies]
  have o12 := o1.trans o2
  refine (rGet_at (ho.old o12) hy (by omega)).mono ?_
  rintro w m3 ⟨a3, k3, rfl, v3, o3⟩
  rw [rgetL_eq ys hy] at v3 ⊢
  have o13 := o12.trans o3
  have lg : (getL ys).1.length ≤ 1000 := by
    have h3 := v3.len
    rw [List.length_map] at h3
    rcases getL_spec ys (getL ys).1 (getL ys).2 rfl hy with ⟨h1, h2, h4, h5⟩ | ⟨_, h2⟩
    · apply Decidable.byContradiction
      intro hgt
      have h6 : put (getL ys).1 = [] := by unfold put; rw [if_neg (by omega)]
      rw [h6] at h2
      have h7 := congrArg List.length h2
      rw [List.length_nil, List.length_take] at h7
      omega
    · rw [h2]; simp
  simp (decide := true) (implicitDefEqProofs := false) (maxDischargeDepth := 20) only [go_sem, t0, t1, t5, t13, t14, ↓reduceIte, true_implies, false_implies]
  refine (rPut_at (hr.old o13) hx).mono ?_
  rintro w m4 ⟨a4, k4, rfl, v4, o4, _⟩
  have o14 := o13.trans o4
  have hk4 : k4 = kp := by
    have h1 := v4.len
    have h2 := hp.len
    rw [List.length_map] at h1 h2
    omega
  simp (decide := true) (implicitDefEqProofs := false) (maxDischargeDepth := 20) only [go_sem, t0, t1, t5, t13, t14, ↓reduceIte, true_implies, false_implies]
  refine (SameB (hp.old o14) v4.sl (by omega) (by omega)).mono ?_
  rintro w m5 ⟨rfl, o5⟩
  rw [decide_eq_true rfl]
  have o24 := (o3.trans o4).trans o5
  have o34 := o4.trans o5
  have lk2 : k2 ≤ 1000 := by have := v2.len; rw [List.length_map] at this; omega
  have lk3 : k3 ≤ 1000 := by have := v3.len; rw [List.length_map] at this; omega
  simp (decide := true) (implicitDefEqProofs := false) (maxDischargeDepth := 20) only [go_sem, t0, t1, t5, t13, t14, ↓reduceIte, true_implies, false_implies]
  refine (SameI (v2.sl.old o24) (v3.sl.old o34) (by omega) (by omega)).mono ?_
  rintro w m6 ⟨rfl, o6⟩
  rw [decide_eq_true rfl]
  have o16 := (o14.trans o5).trans o6
  simp (decide := true) (implicitDefEqProofs := false) (maxDischargeDepth := 20) only [go_sem, t0, t1, t5, t13, t14, beq_self_eq_true, ↓reduceIte, true_implies, false_implies]
  refine (Compare_at (hr.old o16) (hs.old o16) (hc.old o16) (by omega) (by omega) (by omega)).mono ?_
  rintro w m7 ⟨rfl, o7⟩
  have o17 := o16.trans o7
  simp (decide := true) (implicitDefEqProofs := false) (maxDischargeDepth := 20) only [go_sem, t0, t1, t5, t13, t14, beq_self_eq_true, ↓reduceIte, true_implies, false_implies]
  refine (rCompare_at (hr.old o17) (hs.old o17) (hc.old o17) (by omega) (by omega) (by omega)).mono ?_
  rintro w m8 ⟨rfl, o8⟩
  have o18 := o17.trans o8
  have oB : Old m1 m8 := o2.trans (o3.trans (o4.trans (o5.trans (o6.trans (o7.trans o8)))))
  simp (decide := true) (implicitDefEqProofs := false) (maxDischargeDepth := 20) only [go_sem, t0, t1, t5, t13, t14, beq_self_eq_true, ↓reduceIte, true_implies, false_implies]
  refine (Intact_at (v := 7) (hR.old oB) (ho'.old o18) (by omega)).mono ?_
  rintro w m9 ⟨rfl, o9⟩
  simp (decide := true) (implicitDefEqProofs := false) (maxDischargeDepth := 20) only [go_sem, t0, t1, t5, t13, t14, beq_self_eq_true, ↓reduceIte, true_implies, false_implies]

theorem ints_oneCell (k : IntKind) (l : List Int) : (l.map (Value.int k)).all oneCell = true := by
  rw [List.all_eq_true]
  intro x hx
  obtain ⟨y, _, rfl⟩ := List.mem_map.1 hx
  rfl
theorem xor_u8_bd (a b : Int) : 0 ≤ xorI .u8 a b ∧ xorI .u8 a b < 256 := by
  unfold xorI
  rw [wrap_u8]
  omega

set_option maxRecDepth 100000 in
set_option maxHeartbeats 8000000 in
theorem RowTells_law (m : Mem) (hro : ∀ i c, m.get i = some c → c.writable = false)
    (a0 : Option Addr) (l0 c0 : Nat) (xs0 : List Int) (hs0 : SlA m 1 a0 l0 c0 (xs0.map (.int .i64))) (hl0 : xs0.length = l0) (hx0 : ∀ x ∈ xs0, -9223372036854775808 ≤ x ∧ x < 9223372036854775808)
    (a1 : Option Addr) (l1 c1 : Nat) (xs1 : List Int) (hs1 : SlA m 1 a1 l1 c1 (xs1.map (.int .i64))) (hl1 : xs1.length = l1) (hx1 : ∀ x ∈ xs1, -9223372036854775808 ≤ x ∧ x < 9223372036854775808)
    (a2 : Option Addr) (l2 c2 : Nat) (xs2 : List Int) (hs2 : SlA m 1 a2 l2 c2 (xs2.map (.int .u8))) (hl2 : xs2.length = l2) (hx2 : ∀ x ∈ xs2, 0 ≤ x ∧ x < 256)
    (at_ : Int) (hat : -9223372036854775808 ≤ at_) (hat' : at_ < 9223372036854775808) (x : Int) (hxb : 0 ≤ x) (hxb' : x < 256)
    (a5 : Option Addr) (l5 c5 : Nat) (xs5 : List Int) (hs5 : SlA m 1 a5 l5 c5 (xs5.map (.int .i64))) (hl5 : xs5.length = l5) (hx5 : ∀ x ∈ xs5, -9223372036854775808 ≤ x ∧ x < 9223372036854775808) :
    CallQ E F_sheaflaw13_RowTells [.slice a0 l0 c0, .slice a1 l1 c1, .slice a2 l2 c2, .int .i64 at_, .int .u8 x, .slice a5 l5 c5].toArray m fun v _ => v = .bool true := by
  obtain ⟨n0, g0⟩ : ∃ n, n = min l0 12 := ⟨_, rfl⟩
  obtain ⟨n1, g1⟩ : ∃ n, n = min l1 12 := ⟨_, rfl⟩
  obtain ⟨n2, g2⟩ : ∃ n, n = min l2 60 := ⟨_, rfl⟩
  obtain ⟨n5, g5⟩ : ∃ n, n = min l5 4 := ⟨_, rfl⟩
  have e0 : min (l0 : Int) 12 = (n0 : Int) := by omega
  have e1 : min (l1 : Int) 12 = (n1 : Int) := by omega
  have e2 : min (l2 : Int) 60 = (n2 : Int) := by omega
  have e5 : min (l5 : Int) 4 = (n5 : Int) := by omega
  obtain ⟨s0, A0⟩ := hs0.sliceTo (E := E) (k := .i64) (show n0 ≤ l0 by omega)
  obtain ⟨s1, A1⟩ := hs1.sliceTo (E := E) (k := .i64) (show n1 ≤ l1 by omega)
  obtain ⟨s2, A2⟩ := hs2.sliceTo (E := E) (k := .i64) (show n2 ≤ l2 by omega)
  obtain ⟨s5, A5⟩ := hs5.sliceTo (E := E) (k := .i64) (show n5 ≤ l5 by omega)
  rw [Nat.mul_one, ← List.map_take] at A0 A1 A2 A5
  have ok0 : Ok64 (xs0.take n0) := fun z hz => hx0 z (List.mem_of_mem_take hz)
  have by2 : Byt (xs2.take n2) := fun z hz => hx2 z (List.mem_of_mem_take hz)
  have lb2 : (xs2.take n2).length = n2 := by rw [List.length_take]; omega
  have s0' := s0 24 (by decide +kernel)
  have s1' := s1 24 (by decide +kernel)
  have s2' := s2 22 (by decide +kernel)
  have s5' := s5 24 (by decide +kernel)
  generalize xs0.take n0 = xs at *
  generalize xs1.take n1 = ss at *
  generalize xs2.take n2 = bs at *
  generalize xs5.take n5 = cols at *
  refine .enter fn_sheaflaw13_RowTells (by simp) ?_
  simp (decide := true) (implicitDefEqProofs := false) (maxDischargeDepth := 20) only [go_sem, e0, e1, e2, e5, s0', s1', s2', s5', ↓reduceIte, true_implies, false_implies]
  refine (Put_at A0 ok0).mono ?_
  rintro w m1 ⟨ap, kp, rfl, vp, o1, hap⟩
  have lkp : kp = (put xs).length := by have := vp.len; rw [List.length_map] at this; omega
  simp (decide := true) (implicitDefEqProofs := false) (maxDischargeDepth := 20) only [go_sem, e0, e1, e2, e5, s0', s1', s2', s5', ↓reduceIte, true_implies, false_implies]
  have z1 := o1.size
  have oE : Old m1 (m1.push (.cells false true [])) := .push (.refl _) _
  have vE : Vec m1.size (m1.push (.cells false true [])) 1 (some ⟨m1.size, 0, none⟩) 0 [] := .built (Nat.le_refl _) rfl
  generalize hc7 : c_sheaflaw13_RowTells_7 = c7
  refine vE.append (E := E) (st := 22) (xt := 22) oE.size ((A2.old (o1.trans oE)).appended' (by decide +kernel) (by decide)) (by rw [List.length_map, lb2, Nat.mul_one]) (by decide +kernel) (ints_oneCell _ _) (by omega) fun m2 aB vB kB eB => ?_
  rw [Nat.zero_add, List.nil_append] at vB
  rw [Nat.zero_add]
  have o12 : Old m1 m2 := vE.keepOld kB oE
  have o02 := o1.trans o12
  have vp2 := vp.old o12
  simp (decide := true) (implicitDefEqProofs := false) (maxDischargeDepth := 20) only [go_sem, ↓reduceIte, true_implies, false_implies]
  subst hc7
  rw [c_sheaflaw13_RowTells_7_at, wpM_seq]
  generalize hc6 : c_sheaflaw13_RowTells_6 = c6
  by_cases hp0 : put xs = []
  · have hk0 : kp = 0 := by rw [lkp, hp0]; rfl
    have d1 : decide ((kp : Int) > 0) = false := by simp; omega
    simp (decide := true) (implicitDefEqProofs := false) (maxDischargeDepth := 20) only [go_sem, d1, ↓reduceIte, true_implies, false_implies]
    subst hc6
    exact RowTells_tail (B := 0) (A0.old o02) (A1.old o02) (A5.old o02) vp2.sl vB.sl (by omega) (by omega) (by omega) (by omega) (by omega) ok0 by2 (by simp (decide := true) only [go_sem, ↓reduceIte]) (by simp (decide := true) only [go_sem, ↓reduceIte]) (by simp (decide := true) only [go_sem, ↓reduceIte]) (by simp (decide := true) only [go_sem, ↓reduceIte]) (by simp (decide := true) only [go_sem, ↓reduceIte])
  · have hk0 : 0 < kp := by rw [lkp]; exact List.length_pos_iff.2 hp0
    have h10 : xs.length ≤ 10 := by
      apply Decidable.byContradiction
      intro h
      exact hp0 (by unfold put; rw [if_neg h])
    have hkp : kp ≤ 1000 := by
      have h1 := putB_len xs ok0
      rw [lkp, put_head xs h10, List.length_cons]
      omega
    have d1 : decide ((kp : Int) > 0) = true := by simp; omega
    have wi := Within_ans at_ 0 ((kp : Int) - 1) hat hat' (by omega) (by omega) (by omega) (by omega)
    obtain ⟨i, hi⟩ : ∃ i : Nat, (i : Int) = 0 + at_ % ((kp : Int) - 1 - 0 + 1) := ⟨(0 + at_ % ((kp : Int) - 1 - 0 + 1)).toNat, by have := Int.emod_nonneg at_ (show (kp : Int) - 1 - 0 + 1 ≠ 0 by omega); omega⟩
    rw [← hi] at wi
    have hik : i < kp := by have := Int.emod_lt_of_pos at_ (show 0 < (kp : Int) - 1 - 0 + 1 by omega); omega
    have w1 : IntKind.wrap .i64 ((kp : Int) - 1) = (kp : Int) - 1 := wrap_i64_id _ (by omega) (by omega)
    simp (decide := true) (implicitDefEqProofs := false) (maxDischargeDepth := 20) only [go_sem, d1, ↓reduceIte, true_implies, false_implies]
    have oF : Old m2 (m2.push (.cells false true [])) := .push (.refl _) _
    have vF : Vec m2.size (m2.push (.cells false true [])) 1 (some ⟨m2.size, 0, none⟩) 0 [] := .built (Nat.le_refl _) rfl
    refine vF.append (E := E) (st := 22) (xt := 22) oF.size ((vp2.sl.old oF).appended' (by decide +kernel) (by decide)) (by rw [List.length_map, ← lkp, Nat.mul_one]) (by decide +kernel) (ints_oneCell _ _) (by omega) fun m3 aO vO kO eO => ?_
    rw [Nat.zero_add, List.nil_append] at vO
    rw [Nat.zero_add]
    have o23 : Old m2 m3 := vF.keepOld kO oF
    simp (decide := true) (implicitDefEqProofs := false) (maxDischargeDepth := 20) only [go_sem, w1, ↓reduceIte, true_implies, false_implies]
    refine (wi m3).mono ?_
    rintro w m4 ⟨rfl, o4⟩
    have vO4 := vO.old o4
    obtain ⟨bO, oO, sO, rfl⟩ := vO4.sl.addr hk0
    obtain ⟨hbO, hoff, tg, gO⟩ := vO4.blk _ rfl
    have hoff : oO = 0 := hoff
    subst hoff
    have gO : m4.get bO = some (.cells false tg ((put xs).map (.int .u8))) := gO
    have hbO : m2.size ≤ bO := hbO
    have lO := getM_lt gO
    have rO : m4.at bO i = some (.int .u8 ((put xs)[i]'(by omega))) := by
      have := vO4.sl.at_map hik
      rw [Nat.zero_add] at this
      exact this
    have y0 : (0 : Int) ≤ (i : Int) := by omega
    have y1 : (i : Int) < (kp : Int) := by omega
    have y2 : decide (i + 1 ≤ (put xs).length) = true := by simp; omega
    simp (decide := true) (implicitDefEqProofs := false) (maxDischargeDepth := 20) only [go_sem, rO, gO, lO, y0, y1, y2, Int.toNat_natCast, Nat.mul_one, List.length_map, ↓reduceIte, true_implies, false_implies]
    subst hc6
    obtain ⟨v, hv⟩ : ∃ v, v = xorI .u8 ((put xs)[i]'(by omega)) x := ⟨_, rfl⟩
    have hvb := xor_u8_bd ((put xs)[i]'(by omega)) x
    rw [← hv] at hvb ⊢
    have z2 := o12.size
    have o24 : Old m2 m4 := o23.trans o4
    have z4 := o24.size
    have oM : Old m2 (m4.put bO (some (.cells false tg (((put xs).map (.int .u8)).set i (.int .u8 v))))) := o24.put _ _ hbO
    have oM0 := o02.trans oM
    have hO : SlA (m4.put bO (some (.cells false tg (((put xs).map (.int .u8)).set i (.int .u8 v))))) 1 (some ⟨bO, 0, sO⟩) kp kp (((put xs).set i v).map (.int .u8)) := by
      have := (vO4.set (tg := tg) i (.int .u8 v)).sl
      rw [List.map_set]
      exact this
    have by3 : Byt ((put xs).set i v) := fun z hz => by
      rcases List.mem_or_eq_of_mem_set hz with h | h
      · exact put_byt' xs ok0 z h
      · rw [h]; exact hvb
    exact RowTells_tail (B := 0) (A0.old oM0) (A1.old oM0) (A5.old oM0) (vp2.sl.old oM) hO (by omega) (by omega) (by omega) (by omega) (by omega) ok0 by3 (by simp (decide := true) only [go_sem, ↓reduceIte]) (by simp (decide := true) only [go_sem, ↓reduceIte]) (by simp (decide := true) only [go_sem, ↓reduceIte]) (by simp (decide := true) only [go_sem, ↓reduceIte]) (by simp (decide := true) only [go_sem, ↓reduceIte])
end Go.Proofs.Ytkbjkmhmkefckaa.W
