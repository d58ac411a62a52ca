/-
  FlowChain, the law.
-/
import Derived.Test.YtgbpgkfmmhlkoaaFlowM
namespace Go.Proofs.Ytgbpgkfmmhlkoaa.W
open Go.Abs
set_option linter.unusedSimpArgs false
set_option linter.unusedVariables false

set_option maxRecDepth 10000 in
theorem takeF_map (g : Nat → Int) (n : Nat) : takeF (fun k => .int .i64 (g k)) n = ((List.range n).map g).map (.int .i64) := by
  unfold takeF
  rw [List.map_map]
  rfl
set_option maxRecDepth 10000 in
theorem sum_flatten : ∀ (l : List (List Int)), (l.map List.length).sum = l.flatten.length
  | [] => rfl
  | a :: l => by rw [List.map_cons, List.sum_cons, List.flatten_cons, List.length_append, sum_flatten l]

set_option maxRecDepth 100000 in
set_option maxHeartbeats 8000000 in
theorem FlowChain_law (m : Mem) (hro : ∀ i c, m.get i = some c → c.writable = false)
    (a0 : Option Addr) (l0 c0 : Nat) (xs0 : List Int) (hs0 : SlA m 1 a0 l0 c0 (xs0.map (.int .i64))) (hl0 : xs0.length = l0) (hx0 : ∀ x ∈ xs0, -9223372036854775808 ≤ x ∧ x < 9223372036854775808)
    (mm : Int) (hm : -9223372036854775808 ≤ mm) (hm' : mm < 9223372036854775808) (nn : Int) (hk : -9223372036854775808 ≤ nn) (hk' : nn < 9223372036854775808) :
    CallQ E F_sheaflaw10_FlowChain [.slice a0 l0 c0, .int .i64 mm, .int .i64 nn].toArray m fun v _ => v = .bool true := by
  obtain ⟨n, g0⟩ : ∃ n, n = min l0 30 := ⟨_, rfl⟩
  have m0 : min (l0 : Int) 30 = (n : Int) := by omega
  obtain ⟨s0, A⟩ := hs0.sliceTo (E := E) (k := .i64) (show n ≤ l0 by omega)
  rw [Nat.mul_one, ← List.map_take] at A
  generalize xs0.take n = xs at *
  have lx : xs.length = n := by have := A.len; simpa using this
  have s0' := s0 23 (by decide +kernel)
  have hn : n ≤ 1000000 := by omega
  refine .enter fn_sheaflaw10_FlowChain (by simp) ?_
  simp (decide := true) (implicitDefEqProofs := false) (maxDischargeDepth := 20) only [go_sem, ↓reduceIte, m0, s0', true_implies, false_implies]
  generalize hM : ((((((m.push (.cells false true [.int .i64 mm])).push (.cells false true [.int .i64 nn])).push (.cells false true [.nilFunc])).put (m.size + (1 + 1)) (some (.cells false true [.func (.func 44) #[] #[.pointer (some ⟨m.size, 0, none⟩)]]))).push
    (.cells false true [.nilFunc])).put (m.size + (1 + (1 + 1))) (some (.cells false true [.func (.func 45) #[] #[.pointer (some ⟨m.size + 1, 0, none⟩)]]))) = m1
  have om : Old m m1 := by rw [← hM]; exact .put (.push (.put (.push (.push (.push (.refl m) _) _) _) _ _ (by omega)) _) _ _ (by omega)
  have cm : cap1 m1 m.size (.int .i64 mm) := by
    unfold cap1
    rw [← hM, getM_put, if_neg (by omega), getM_push, if_neg (by simp; omega), getM_put, if_neg (by omega), getM_push, if_neg (by simp; omega), getM_push, if_neg (by simp), getM_push, if_pos rfl]
  have cn : cap1 m1 (m.size + 1) (.int .i64 nn) := by
    unfold cap1
    rw [← hM, getM_put, if_neg (by omega), getM_push, if_neg (by simp), getM_put, if_neg (by omega), getM_push, if_neg (by simp), getM_push, if_pos (by simp)]
  have cf : cap1 m1 (m.size + (1 + 1)) (.func (.func 44) #[] #[ptr m.size]) := by
    unfold cap1
    rw [← hM, getM_put, if_neg (by omega), getM_push, if_neg (by simp), getM_put, if_pos ⟨rfl, by simp⟩]
  have cg : cap1 m1 (m.size + (1 + (1 + 1))) (.func (.func 45) #[] #[ptr (m.size + 1)]) := by
    unfold cap1
    rw [← hM, getM_put, if_pos ⟨rfl, by simp⟩]
  generalize m.size + (1 + (1 + 1)) = bg at *
  generalize m.size + (1 + 1) = bf at *
  generalize m.size + 1 = bn at *
  generalize m.size = bm at *
  clear hM
  refine (From_at).mono ?_
  rintro w m2 ⟨bs, rfl, cs, o2⟩
  have cm2 := cm.old o2
  have cn2 := cn.old o2
  have cf2 := cf.old o2
  have cg2 := cg.old o2
  have A2 := A.old (om.trans o2)
  have rf := get_at0 cf2
  have rg := get_at0 cg2
  simp (decide := true) (implicitDefEqProofs := false) (maxDischargeDepth := 20) only [go_sem, rf, rg, ↓reduceIte, true_implies, false_implies]
  refine (MapII_at).mono ?_
  rintro w m3' ⟨b1, b2, rfl, c1', c2', o3'⟩
  obtain ⟨el, rfl, -⟩ := o3'.ugm
  have o3 : Old m2 (m2.ext el) := ⟨el, rfl⟩
  have c1 : cap1 (m2.ext el) b1 _ := get_ugm c1'
  have c2 : cap1 (m2.ext el) b2 _ := get_ugm c2'
  simp (decide := true) (implicitDefEqProofs := false) (maxDischargeDepth := 20) only [go_sem, ↓reduceIte, true_implies, false_implies]
  generalize m2.ext el = m3 at *
  clear c1' c2' o3'
  refine (MapII_at).mono ?_
  rintro w m4 ⟨b3, b4, rfl, c3, c4, o4⟩
  have o24 := o3.trans o4
  simp (decide := true) (implicitDefEqProofs := false) (maxDischargeDepth := 20) only [go_sem, ↓reduceIte, true_implies, false_implies]
  -- mapped twice
  have it1 : ∀ q, Old m2 q → Iter E q.get none' (.func (.func F_slices_Values_Sint_int_1) #[] #[ptr bs]) n anyO (pureEl (intsEl xs)) := fun q oq => ValuesI (cs.old oq) (fun _ z => (A2.old oq).froz z) hn
  let fg : Nat → Int := fun k => IntKind.wrap .i64 (xorI .i64 (xs.getD k 0) mm + nn)
  refine (ListI (g := fg) (MapII (a := fun k => vI (xorI .i64 (xs.getD k 0) mm)) (g := fun k => vI (fg k)) (MapII (a := fun k => vI (xs.getD k 0)) (g := fun k => vI (xorI .i64 (xs.getD k 0) mm)) (it1 m4 o24) (c1.old o4) (c2.old o4) (fun k _ => Chain1 (cm2.old o24) _)) c3 c4 (fun k _ => Chain2 (cn2.old o24) _)) hn (frozen_self m4) (fun _ h => h.elim) trivial).mono ?_
  rintro w m5 ⟨p5, rfl, V5, o5, -⟩
  have o5 := old_of_chg o5
  rw [takeF_map] at V5
  simp (decide := true) (implicitDefEqProofs := false) (maxDischargeDepth := 20) only [go_sem, ↓reduceIte, true_implies, false_implies]
  refine (MapII_at).mono ?_
  rintro w m6 ⟨b5, b6, rfl, c5, c6, o6⟩
  have o26 := o24.trans (o5.trans o6)
  simp (decide := true) (implicitDefEqProofs := false) (maxDischargeDepth := 20) only [go_sem, ↓reduceIte, true_implies, false_implies]
  refine (ListI (g := fg) (MapII (a := fun k => vI (xs.getD k 0)) (g := fun k => vI (fg k)) (it1 m6 o26) c5 c6 (fun k _ => Chain5 (cg2.old o26) (cf2.old o26) (cm2.old o26) (cn2.old o26) _)) hn (frozen_self m6) (fun _ h => h.elim) trivial).mono ?_
  rintro w m7 ⟨p7, rfl, V7, o7, -⟩
  have o7 := old_of_chg o7
  rw [takeF_map] at V7
  simp (decide := true) (implicitDefEqProofs := false) (maxDischargeDepth := 20) only [go_sem, ↓reduceIte, true_implies, false_implies]
  -- kept twice
  refine (Keep_at).mono ?_
  rintro w m8 ⟨d1, d2, rfl, k1, k2, o8⟩
  simp (decide := true) (implicitDefEqProofs := false) (maxDischargeDepth := 20) only [go_sem, ↓reduceIte, true_implies, false_implies]
  refine (Keep_at).mono ?_
  rintro w m9 ⟨d3, d4, rfl, k3, k4, o9⟩
  have o29 := o26.trans (o7.trans (o8.trans o9))
  simp (decide := true) (implicitDefEqProofs := false) (maxDischargeDepth := 20) only [go_sem, ↓reduceIte, true_implies, false_implies]
  have fl : ∀ p : Int → Bool, (xs.filter p).length ≤ n := fun p => Nat.le_trans (List.length_filter_le _ _) (by omega)
  have ffl : ∀ p q : Int → Bool, ((xs.filter p).filter q).length ≤ n := fun p q => Nat.le_trans (List.length_filter_le _ _) (fl p)
  refine (ListI (g := fun k => ((xs.filter evenI).filter lowI).getD k 0) (KeepI (pp := lowI) rfl (KeepI (pp := evenI) lx (it1 m9 o29) (k1.old o9) (k2.old o9) (fun k _ => Chain3 _ _)) k3 k4 (fun k _ => Chain4 _ _)) (Nat.le_trans (ffl _ _) hn) (frozen_self m9) (fun _ h => h.elim) (.inl ⟨rfl, .inl ⟨rfl, trivial⟩⟩)).mono ?_
  rintro w ma ⟨pa, rfl, Va, oa, -⟩
  have oa := old_of_chg oa
  rw [takeF_ints _ _ rfl] at Va
  simp (decide := true) (implicitDefEqProofs := false) (maxDischargeDepth := 20) only [go_sem, ↓reduceIte, true_implies, false_implies]
  refine (Keep_at).mono ?_
  rintro w mb ⟨d5, d6, rfl, k5, k6, ob⟩
  simp (decide := true) (implicitDefEqProofs := false) (maxDischargeDepth := 20) only [go_sem, ↓reduceIte, true_implies, false_implies]
  refine (Keep_at).mono ?_
  rintro w mc ⟨d7, d8, rfl, k7, k8, oc⟩
  have o2c := o29.trans (oa.trans (ob.trans oc))
  simp (decide := true) (implicitDefEqProofs := false) (maxDischargeDepth := 20) only [go_sem, ↓reduceIte, true_implies, false_implies]
  refine (ListI (g := fun k => ((xs.filter lowI).filter evenI).getD k 0) (KeepI (pp := evenI) rfl (KeepI (pp := lowI) lx (it1 mc o2c) (k5.old oc) (k6.old oc) (fun k _ => Chain4 _ _)) k7 k8 (fun k _ => Chain3 _ _)) (Nat.le_trans (ffl _ _) hn) (frozen_self mc) (fun _ h => h.elim) (.inl ⟨rfl, .inl ⟨rfl, trivial⟩⟩)).mono ?_
  rintro w md ⟨pd, rfl, Vd, od, -⟩
  have od := old_of_chg od
  rw [takeF_ints _ _ rfl] at Vd
  have hfeq : (xs.filter lowI).filter evenI = (xs.filter evenI).filter lowI := by
    rw [List.filter_filter, List.filter_filter]
    congr 1
    funext x
    rw [Bool.and_comm]
  simp (decide := true) (implicitDefEqProofs := false) (maxDischargeDepth := 20) only [go_sem, ↓reduceIte, true_implies, false_implies]
  -- groups
  refine (Groups_at).mono ?_
  rintro w me ⟨e1, e2, rfl, j1, j2, oe⟩
  simp (decide := true) (implicitDefEqProofs := false) (maxDischargeDepth := 20) only [go_sem, ↓reduceIte, true_implies, false_implies]
  refine (MapSI_at).mono ?_
  rintro w mf ⟨e3, e4, rfl, j3, j4, of⟩
  have o2f := o2c.trans (od.trans (oe.trans of))
  simp (decide := true) (implicitDefEqProofs := false) (maxDischargeDepth := 20) only [go_sem, ↓reduceIte, true_implies, false_implies]
  obtain ⟨gs, hgs⟩ : ∃ gs, gs = groupsL (fun a b => a == b) xs := ⟨_, rfl⟩
  have hflat : gs.flatten = xs := by rw [hgs]; exact groupsL_flat _ xs
  have hcut := groupsL_cut (fun a b : Int => a == b) xs
  have hgl : gs.length ≤ n := by
    rw [← lx, ← hflat, ← sum_flatten]
    rw [← hgs] at hcut
    have : ∀ l : List (List Int), (∀ g ∈ l, g ≠ []) → l.length ≤ (l.map List.length).sum := by
      intro l
      induction l with
      | nil => intro _; simp
      | cons g l ih =>
        intro h
        have h1 := List.length_pos_iff.2 (h g (by simp))
        have h2 := ih fun x hx => h x (by simp [hx])
        simp only [List.map_cons, List.sum_cons, List.length_cons]
        omega
    exact this gs fun g hg => (cut_mem _ hcut g hg).1
  have itg := MapSI (g := fun k => vI (((gs.getD k []).length : Nat) : Int)) (GroupsI (same := fun a b => a == b) lx hn (it1 mf o2f) (j1.old of) (j2.old of) (fun a b => Equal_ok _ a b)) j3 j4 (fun k vs m B hk _ hel => by
      obtain ⟨b, s, tg, rfl, _⟩ := hel
      rw [← hgs]
      exact ⟨_, rfl, Chain6 _ _ _ m⟩)
  rw [← hgs] at itg
  refine (ListI (g := fun k => (((gs.getD k []).length : Nat) : Int)) itg (by omega) (frozen_self mf) (fun _ h => h.elim) (.inl ⟨rfl, trivial⟩)).mono ?_
  rintro w mg ⟨pg, rfl, Vg, og, -⟩
  have og := old_of_chg og
  have hsz : takeF (fun k => .int .i64 (((gs.getD k []).length : Nat) : Int)) gs.length = (gs.map fun g => ((g.length : Nat) : Int)).map (.int .i64) := by
    rw [takeF_map]
    congr 1
    apply List.ext_getElem?
    intro i
    by_cases hi : i < gs.length
    · simp [hi, List.getD_eq_getElem?_getD, List.getElem?_eq_getElem hi]
    · rw [List.getElem?_eq_none (by simp; omega), List.getElem?_eq_none (by simp; omega)]
  rw [hsz] at Vg
  simp (decide := true) (implicitDefEqProofs := false) (maxDischargeDepth := 20) only [go_sem, ↓reduceIte, true_implies, false_implies]
  refine (From_at).mono ?_
  rintro w mh ⟨bz, rfl, cz, oh⟩
  simp (decide := true) (implicitDefEqProofs := false) (maxDischargeDepth := 20) only [go_sem, ↓reduceIte, true_implies, false_implies]
  obtain ⟨zs, hzs⟩ : ∃ zs : List Int, zs = gs.map fun g => ((g.length : Nat) : Int) := ⟨_, rfl⟩
  rw [← hzs] at Vg
  have lz : zs.length = gs.length := by rw [hzs]; simp
  let acc : Nat → Int := fun i => ((((gs.take i).map List.length).sum : Nat) : Int)
  have hsum : ∀ i, ((gs.take i).map List.length).sum ≤ n := by
    intro i
    rw [← lx, ← hflat, ← sum_flatten gs]
    conv => rhs; rw [← List.take_append_drop i gs]
    rw [List.map_append, List.sum_append]
    omega
  have acc1 : ∀ i, i < gs.length → IntKind.wrap .i64 (acc i + zs.getD i 0) = acc (i + 1) := by
    intro i hi
    have h1 := hsum (i + 1)
    have e1 : zs.getD i 0 = ((gs[i].length : Nat) : Int) := by rw [hzs]; simp [List.getD_eq_getElem?_getD, hi]
    have e2 : ((gs.take (i + 1)).map List.length).sum = ((gs.take i).map List.length).sum + gs[i].length := by
      rw [List.take_succ_eq_append_getElem hi, List.map_append, List.sum_append]
      simp
    show IntKind.wrap .i64 (((((gs.take i).map List.length).sum : Nat) : Int) + zs.getD i 0) = ((((gs.take (i + 1)).map List.length).sum : Nat) : Int)
    rw [e1, e2]
    rw [e2] at h1
    rw [wrap_i64_id _ (by omega) (by omega)]
    omega
  have hacc : acc gs.length = (n : Int) := by
    show ((((gs.take gs.length).map List.length).sum : Nat) : Int) = _
    rw [List.take_length, sum_flatten, hflat, lx]
  have Sg := Vg.sl.old oh
  refine (FoldI (g := fun k => zs.getD k 0) (ValuesI (Z := mh.get) (F := none') cz (fun _ z => Sg.froz z) (by omega)) acc (fun k hk => by rw [← acc1 k hk]; exact Chain7 _ _ _) (frozen_self mh) (fun _ h => h.elim) trivial).mono ?_
  rintro w mi ⟨rfl, oi, -⟩
  have oi := old_of_chg oi
  rw [hacc]
  have dn : ((n : Int) == (n : Int)) = true := by simp
  simp (decide := true) (implicitDefEqProofs := false) (maxDischargeDepth := 20) only [go_sem, dn, ↓reduceIte, true_implies, false_implies]
  have otail := o7.trans (o8.trans (o9.trans (oa.trans (ob.trans (oc.trans (od.trans (oe.trans (of.trans (og.trans (oh.trans oi))))))))))
  refine (SameI (V5.sl.old (o6.trans otail)) (V7.sl.old (o8.trans (o9.trans (oa.trans (ob.trans (oc.trans (od.trans (oe.trans (of.trans (og.trans (oh.trans oi))))))))))) (by omega) (by omega)).mono ?_
  rintro w mj ⟨rfl, oj⟩
  have e1 : decide ((List.range n).map fg = (List.range n).map fg) = true := by simp
  rw [e1]
  simp (decide := true) (implicitDefEqProofs := false) (maxDischargeDepth := 20) only [go_sem, dn, ↓reduceIte, true_implies, false_implies]
  refine (SameI (Va.sl.old (ob.trans (oc.trans (od.trans (oe.trans (of.trans (og.trans (oh.trans (oi.trans oj))))))))) (Vd.sl.old (oe.trans (of.trans (og.trans (oh.trans (oi.trans oj)))))) (Nat.le_trans (ffl _ _) (by omega)) (Nat.le_trans (ffl _ _) (by omega))).mono ?_
  rintro w mk ⟨rfl, ok⟩
  have e2 : decide ((xs.filter evenI).filter lowI = (xs.filter lowI).filter evenI) = true := by rw [hfeq]; simp
  rw [e2]
  simp (decide := true) (implicitDefEqProofs := false) (maxDischargeDepth := 20) only [go_sem, dn, ↓reduceIte, true_implies, false_implies]
end Go.Proofs.Ytgbpgkfmmhlkoaa.W
