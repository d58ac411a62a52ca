/-
  FlowLists, the law.
-/
import Derived.Test.YtgbpgkfmmhlkoaaFlowG
import Derived.Test.YtgbpgkfmmhlkoaaCodeLaw2
namespace Go.Proofs.Ytgbpgkfmmhlkoaa.W
open Go.Abs
set_option linter.unusedSimpArgs false
set_option linter.unusedVariables false

/-- A text of one byte. -/
def str1 (x : Int) : ByteArray := ⟨[UInt8.ofNat (IntKind.wrap .u8 x).toNat].toArray⟩

theorem Lists1 {Z : Nat → Option Blk} {b : Nat} {k : Int} (h : Z b = some (.cells false true [.int .i64 k])) (x : Int) : PureF E Z (.func (.func F_sheaflaw10_FlowLists_1) #[] #[ptr b]) [.int .i64 x] (.string (str1 (IntKind.wrap .i64 (x + k)))) := by
  intro m z
  rw [CallF_func]
  refine ⟨some40, ?_⟩
  have r := frozen_at z h
  have e : (#[] ++ [Value.int .i64 x].toArray ++ #[ptr b] : Array Value) = [Value.int .i64 x, ptr b].toArray := by simp
  rw [e]
  refine .enter fn_sheaflaw10_FlowLists_1 (by simp) ?_
  simp (decide := true) (implicitDefEqProofs := false) (maxDischargeDepth := 20) only [go_sem, r, Option.map_some, Option.bind_some, ↓reduceIte, true_implies, false_implies]
  first | done | rfl

theorem Lists2 {Z : Nat → Option Blk} {b : Nat} {d : Int} (h : Z b = some (.cells false true [.int .i64 d])) (x : Int) : PureF E Z (.func (.func F_sheaflaw10_FlowLists_2) #[] #[ptr b]) [.int .i64 x] (.bool (decide (andI .i64 x 7 < d))) := by
  intro m z
  rw [CallF_func]
  refine ⟨some41, ?_⟩
  have r := frozen_at z h
  have e : (#[] ++ [Value.int .i64 x].toArray ++ #[ptr b] : Array Value) = [Value.int .i64 x, ptr b].toArray := by simp
  rw [e]
  refine .enter fn_sheaflaw10_FlowLists_2 (by simp) ?_
  simp (decide := true) (implicitDefEqProofs := false) (maxDischargeDepth := 20) only [go_sem, r, Option.map_some, Option.bind_some, ↓reduceIte, true_implies, false_implies]

def fold3 (y x : Int) : Int := IntKind.wrap .i64 (IntKind.wrap .i64 (3 * y) + x)

theorem Lists3 {Z : Nat → Option Blk} (y x : Int) : PureF E Z (.func (.func F_sheaflaw10_FlowLists_3) #[] #[]) [.int .i64 y, .int .i64 x] (.int .i64 (fold3 y x)) := by
  intro m z
  rw [CallF_func]
  refine ⟨some43, ?_⟩
  have e : (#[] ++ [Value.int .i64 y, Value.int .i64 x].toArray ++ #[] : Array Value) = [Value.int .i64 y, Value.int .i64 x].toArray := by simp
  rw [e]
  refine .enter fn_sheaflaw10_FlowLists_3 (by simp) ?_
  simp (decide := true) (implicitDefEqProofs := false) (maxDischargeDepth := 20) only [go_sem, ↓reduceIte, true_implies, false_implies]
  first | done | rfl

set_option maxRecDepth 100000 in
set_option maxHeartbeats 8000000 in
theorem FlowLists_law (m : Mem) (hro : ∀ i c, m.get i = some c → c.writable = false)
    (a0 : Option Addr) (l0 c0 : Nat) (xs0 : List Int) (hs0 : SlA m 1 a0 l0 c0 (xs0.map (.int .i64))) (hl0 : xs0.length = l0) (hx0 : ∀ x ∈ xs0, -9223372036854775808 ≤ x ∧ x < 9223372036854775808)
    (mm : Int) (hm : -9223372036854775808 ≤ mm) (hm' : mm < 9223372036854775808) (k : Int) (hk : -9223372036854775808 ≤ k) (hk' : k < 9223372036854775808) :
    CallQ E F_sheaflaw10_FlowLists [.slice a0 l0 c0, .int .i64 mm, .int .i64 k].toArray m fun v _ => v = .bool true := by
  obtain ⟨n, g0⟩ : ∃ n, n = min l0 40 := ⟨_, rfl⟩
  have m0 : min (l0 : Int) 40 = (n : Int) := by omega
  obtain ⟨s0, A⟩ := hs0.sliceTo (E := E) (k := .i64) (show n ≤ l0 by omega)
  rw [Nat.mul_one, ← List.map_take] at A
  generalize xs0.take n = xs at *
  have lx : xs.length = n := by have := A.len; simpa using this
  have s0' := s0 23 (by decide +kernel)
  refine .enter fn_sheaflaw10_FlowLists (by simp) ?_
  simp (decide := true) (implicitDefEqProofs := false) (maxDischargeDepth := 20) only [go_sem, ↓reduceIte, m0, s0', true_implies, false_implies]
  have om : Old m (m.push (.cells false true [.int .i64 mm])) := .push (.refl m) _
  have cm : cap1 (m.push (.cells false true [.int .i64 mm])) m.size (.int .i64 mm) := by unfold cap1; rw [getM_push, if_pos rfl]
  generalize m.push (.cells false true [.int .i64 mm]) = m1 at *
  generalize m.size = bm at *
  refine (From_at).mono ?_
  rintro w m2 ⟨bs, rfl, cs, o2⟩
  simp (decide := true) (implicitDefEqProofs := false) (maxDischargeDepth := 20) only [go_sem, ↓reduceIte, true_implies, false_implies]
  refine ((Within_ans k 1 5 hk hk' (by omega) (by omega) (by omega) (by omega)) m2).mono ?_
  rintro w m3 ⟨rfl, o3⟩
  simp (decide := true) (implicitDefEqProofs := false) (maxDischargeDepth := 20) only [go_sem, ↓reduceIte, true_implies, false_implies]
  rw [put_push _ _ _ rfl]
  generalize hd : 1 + k % (5 - 1 + 1) = d
  have o4 : Old m3 (m3.ext [some (.cells false true [.int .i64 d])]) := ⟨_, rfl⟩
  have cd : cap1 (m3.ext [some (.cells false true [.int .i64 d])]) m3.size (.int .i64 d) := by unfold cap1; rw [← push_ext, getM_push, if_pos rfl]
  generalize m3.ext [some (.cells false true [.int .i64 d])] = m4 at *
  generalize m3.size = bd at *
  have cs4 := cs.old (o3.trans o4)
  have cm4 := cm.old (o2.trans (o3.trans o4))
  have A4 := A.old (om.trans (o2.trans (o3.trans o4)))
  have hn : n ≤ 1000000 := by omega
  -- the list
  refine (ListI (g := fun k => xs.getD k 0) (ValuesI (Z := m4.get) (F := none') cs4 (fun _ z => A4.froz z) hn) hn (frozen_self m4) (fun _ h => h.elim) trivial).mono ?_
  rintro w m5 ⟨p5, rfl, V5, o5, -⟩
  have o5 := old_of_chg o5
  rw [takeF_ints xs n lx] at V5
  simp (decide := true) (implicitDefEqProofs := false) (maxDischargeDepth := 20) only [go_sem, ↓reduceIte, true_implies, false_implies]
  refine (MapIS_at).mono ?_
  rintro w m6 ⟨b1, b2, rfl, c1, c2, o6⟩
  simp (decide := true) (implicitDefEqProofs := false) (maxDischargeDepth := 20) only [go_sem, ↓reduceIte, true_implies, false_implies]
  have o46 := o5.trans o6
  refine (ListS (g := fun k => str1 (IntKind.wrap .i64 (xs.getD k 0 + mm))) (MapIS (a := fun k => .int .i64 (xs.getD k 0)) (ValuesI (Z := m6.get) (F := none') (cs4.old o46) (fun _ z => (A4.old o46).froz z) hn) c1 c2 (fun k _ => Lists1 (cm4.old o46) _)) hn (frozen_self m6) (fun _ h => h.elim) trivial).mono ?_
  rintro w m7 ⟨p7, rfl, V7, o7, -⟩
  have o7 := old_of_chg o7
  simp (decide := true) (implicitDefEqProofs := false) (maxDischargeDepth := 20) only [go_sem, ↓reduceIte, true_implies, false_implies]
  refine (Keep_at).mono ?_
  rintro w m8 ⟨b3, b4, rfl, c3, c4, o8⟩
  simp (decide := true) (implicitDefEqProofs := false) (maxDischargeDepth := 20) only [go_sem, ↓reduceIte, true_implies, false_implies]
  have o48 := o46.trans (o7.trans o8)
  let pp : Int → Bool := fun x => decide (andI .i64 x 7 < d)
  have hfl : (xs.filter pp).length ≤ 1000000 := Nat.le_trans (List.length_filter_le _ _) (by omega)
  refine (ListI (g := fun k => (xs.filter pp).getD k 0) (KeepI (pp := pp) lx (ValuesI (Z := m8.get) (F := none') (cs4.old o48) (fun _ z => (A4.old o48).froz z) hn) c3 c4 (fun k _ => Lists2 (cd.old o48) _)) hfl (frozen_self m8) (fun _ h => h.elim) (.inl ⟨rfl, trivial⟩)).mono ?_
  rintro w m9 ⟨p9, rfl, V9, o9, -⟩
  have o9 := old_of_chg o9
  rw [takeF_ints _ _ rfl] at V9
  have o49 := o48.trans o9
  have rm := get_at0 (cm4.old o49)
  simp (decide := true) (implicitDefEqProofs := false) (maxDischargeDepth := 20) only [go_sem, rm, ↓reduceIte, true_implies, false_implies]
  let acc : Nat → Int := fun i => (xs.take i).foldl fold3 mm
  have acc1 : ∀ i, i < n → fold3 (acc i) (xs.getD i 0) = acc (i + 1) := by
    intro i hi
    show _ = (xs.take (i + 1)).foldl fold3 mm
    rw [List.take_succ_eq_append_getElem (by omega), List.foldl_append]
    simp [acc, List.getD_eq_getElem?_getD, List.getElem?_eq_getElem (show i < xs.length by omega)]
  refine (FoldI (g := fun k => xs.getD k 0) (ValuesI (Z := m9.get) (F := none') (cs4.old o49) (fun _ z => (A4.old o49).froz z) hn) acc (fun k hk => by rw [← acc1 k hk]; exact Lists3 _ _) (frozen_self m9) (fun _ h => h.elim) trivial).mono ?_
  rintro w ma ⟨rfl, oa, -⟩
  have oa := old_of_chg oa
  have o4a := o49.trans oa
  have rm := get_at0 (cm4.old o4a)
  simp (decide := true) (implicitDefEqProofs := false) (maxDischargeDepth := 20) only [go_sem, rm, ↓reduceIte, true_implies, false_implies]
  simp only [c_sheaflaw10_FlowLists_14_at, wpM_block, c_sheaflaw10_FlowLists_13_at]
  refine wpM_loopA (fun j t' m' => ∃ i pw kw, i ≤ n ∧ j = n - i ∧ t' 43 = .int .i64 (i : Nat) ∧ t' 14 = .slice pw kw kw ∧ Vec ma.size m' 1 pw kw (((xs.take i).filter pp).map (.int .i64)) ∧ t' 15 = .int .i64 (acc i) ∧ Old ma m') n ⟨0, none, 0, by omega, rfl, by simp (decide := true) only [go_sem, ↓reduceIte]; try rfl, by simp (decide := true) only [go_sem, ↓reduceIte], .nil _ _ _, by simp (decide := true) only [go_sem, ↓reduceIte]; rfl, .refl ma⟩ ?_
  rintro j t' mb ha ⟨i, pw, kw, hi, rfl, e43, e14, VW, e15, ob⟩
  have t4 := ha 4 (by decide +kernel)
  have t7 := ha 7 (by decide +kernel)
  have t8 := ha 8 (by decide +kernel)
  have t9 := ha 9 (by decide +kernel)
  have t10 := ha 10 (by decide +kernel)
  have t11 := ha 11 (by decide +kernel)
  have t12 := ha 12 (by decide +kernel)
  have t13 := ha 13 (by decide +kernel)
  have t41 := ha 41 (by decide +kernel)
  have t42 := ha 42 (by decide +kernel)
  simp (decide := true) only [go_sem, ↓reduceIte] at t4 t7 t8 t9 t10 t11 t12 t13 t41 t42
  have o4b := o4a.trans ob
  have hkw : kw = ((xs.take i).filter pp).length := by have := VW.len; simpa using this.symm
  have hkw2 : kw ≤ n := by rw [hkw]; exact Nat.le_trans (List.length_filter_le _ _) (by rw [List.length_take]; omega)
  by_cases hlt : i < n
  · have d1 : decide ((i : Int) < (n : Int)) = true := by simp; omega
    have d2 : decide ((i : Int) ≥ (n : Int)) = false := by simp; omega
    have w1 : IntKind.wrap .i64 ((i : Int) + 1) = ((i + 1 : Nat) : Int) := by rw [wrap_i64_id _ (by omega) (by omega)]; omega
    have z0 : (0 : Int) ≤ (i : Int) := by omega
    have z1 : (i : Int) < (n : Int) := by omega
    have Ab := A4.old o4b
    obtain ⟨ab, ao, asp, rfl⟩ := Ab.addr (by omega)
    have r := Ab.at_map hlt
    have S7 := V7.sl.old (o8.trans (o9.trans (oa.trans ob)))
    obtain ⟨sb, so, ssp, rfl⟩ := S7.addr (by omega)
    have rs := S7.at hlt
    have rs' : mb.at sb (so + i) = some (.string (str1 (IntKind.wrap .i64 (xs[i]'(by omega) + mm)))) := by
      rw [rs]
      simp [takeF, List.getD_eq_getElem?_getD, List.getElem?_eq_getElem (show i < xs.length by omega)]
    have rmm := get_at0 (cm4.old o4b)
    have rd := get_at0 (cd.old o4b)
    have nbd : ¬ bd = mb.size := by have := getM_lt (cd.old o4b); omega
    have a1 := acc1 i hlt
    have e1 : xs.getD i 0 = xs[i]'(by omega) := by simp [List.getD_eq_getElem?_getD, List.getElem?_eq_getElem (show i < xs.length by omega)]
    have ht : xs.take (i + 1) = xs.take i ++ [xs[i]'(by omega)] := List.take_succ_eq_append_getElem (by omega)
    rw [e1] at a1
    generalize xs[i]'(by omega) = x at *
    simp only [str1] at rs'
    have w2 : IntKind.wrap .i64 (IntKind.wrap .i64 (3 * acc i) + x) = acc (i + 1) := a1
    cases hp : pp x with
    | true =>
      have d3 : decide (andI .i64 x 7 < d) = true := hp
      have ff : (xs.take (i + 1)).filter pp = (xs.take i).filter pp ++ [x] := by rw [ht, List.filter_append]; simp [hp]
      simp (decide := true) (implicitDefEqProofs := false) (maxDischargeDepth := 20) only [go_sem, e43, e14, e15, t4, t7, t8, t9, t10, t11, t12, t13, t41, t42, d1, d2, d3, r, rs', rmm, rd, nbd, z0, z1, w1, w2, Option.map_some, Option.bind_some, Int.toNat_natCast, beq_self_eq_true, Bool.not_true, ↓reduceIte, true_implies, false_implies]
      have ow : Old mb (mb.push (.cells false true [.int .u8 (IntKind.wrap .u8 (IntKind.wrap .i64 (x + mm)))])) := .push (.refl _) _
      have VW' := VW.old ow
      have oc := ob.trans ow
      refine VW'.appendQ (by simp) oc.size rfl (by omega) (by decide +kernel) (by decide +kernel) rfl (by omega) fun md pd sd vd kd _ => ?_
      simp (decide := true) (implicitDefEqProofs := false) (maxDischargeDepth := 20) only [go_sem, e43, e14, e15, t4, t7, t8, t9, t10, t11, t12, t13, t41, t42, w1, w2, ↓reduceIte, true_implies, false_implies]
      refine ⟨n - (i + 1), by omega, i + 1, _, kw + 1, by omega, rfl, rfl, rfl, ?_, rfl, VW'.keepOld kd oc⟩
      rw [ff, List.map_append]
      exact vd
    | false =>
      have d3 : decide (andI .i64 x 7 < d) = false := hp
      have ff : (xs.take (i + 1)).filter pp = (xs.take i).filter pp := by rw [ht, List.filter_append]; simp [hp]
      simp (decide := true) (implicitDefEqProofs := false) (maxDischargeDepth := 20) only [go_sem, e43, e14, e15, t4, t7, t8, t9, t10, t11, t12, t13, t41, t42, d1, d2, d3, r, rs', rmm, rd, nbd, z0, z1, w1, w2, Option.map_some, Option.bind_some, Int.toNat_natCast, beq_self_eq_true, Bool.not_true, ↓reduceIte, true_implies, false_implies]
      refine ⟨n - (i + 1), by omega, i + 1, pw, kw, by omega, rfl, rfl, rfl, ?_, rfl, ?_⟩
      · rw [ff]
        exact VW.push _
      · first | exact .push ob _ | exact ob
  · have d1 : decide ((i : Int) < (n : Int)) = false := by simp; omega
    have hin : i = n := by omega
    subst hin
    simp (decide := true) (implicitDefEqProofs := false) (maxDischargeDepth := 20) only [go_sem, e43, t4, t7, t8, t9, t10, t11, t12, t13, t41, t42, d1, ↓reduceIte, true_implies, false_implies]
    rw [← lx, List.take_length] at VW
    refine (SameI (V5.sl.old (o6.trans (o7.trans (o8.trans (o9.trans (oa.trans ob)))))) (A4.old o4b) (by omega) (by omega)).mono ?_
    rintro w mc ⟨rfl, oc⟩
    have d2 : decide (xs = xs) = true := by simp
    rw [d2]
    simp (decide := true) (implicitDefEqProofs := false) (maxDischargeDepth := 20) only [go_sem, e43, e14, e15, t4, t7, t8, t9, t10, t11, t12, t13, t41, t42, beq_self_eq_true, ↓reduceIte, true_implies, false_implies]
    refine (SameI (V9.sl.old (oa.trans (ob.trans oc))) (VW.sl.old oc) (by omega) (by omega)).mono ?_
    rintro w md ⟨rfl, od⟩
    have d3 : decide (xs.filter pp = xs.filter pp) = true := by simp
    rw [d3]
    simp (decide := true) (implicitDefEqProofs := false) (maxDischargeDepth := 20) only [go_sem, e43, e14, e15, t4, t7, t8, t9, t10, t11, t12, t13, t41, t42, beq_self_eq_true, ↓reduceIte, true_implies, false_implies]
    have o4d := o4b.trans (oc.trans od)
    refine (ListI (g := fun k => xs.getD k 0) (ValuesI (Z := md.get) (F := none') (cs4.old o4d) (fun _ z => (A4.old o4d).froz z) hn) hn (frozen_self md) (fun _ h => h.elim) trivial).mono ?_
    rintro w me ⟨pe, rfl, VE, oe, -⟩
    have oe := old_of_chg oe
    rw [takeF_ints xs i lx] at VE
    simp (decide := true) (implicitDefEqProofs := false) (maxDischargeDepth := 20) only [go_sem, e43, e14, e15, t4, t7, t8, t9, t10, t11, t12, t13, t41, t42, beq_self_eq_true, ↓reduceIte, true_implies, false_implies]
    refine (SameI VE.sl (A4.old (o4d.trans oe)) (by omega) (by omega)).mono ?_
    rintro w mf ⟨rfl, of⟩
    rw [d2]
    simp (decide := true) (implicitDefEqProofs := false) (maxDischargeDepth := 20) only [go_sem, ↓reduceIte, true_implies, false_implies]
end Go.Proofs.Ytgbpgkfmmhlkoaa.W
