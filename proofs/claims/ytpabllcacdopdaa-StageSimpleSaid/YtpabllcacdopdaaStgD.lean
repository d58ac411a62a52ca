/-
  StageSimple: the shapes.
-/
import Derived.Test.YtpabllcacdopdaaStgC
import Derived.Test.YtpabllcacdopdaaBookI
namespace Go.Proofs.Ytpabllcacdopdaa.W
open Go.Abs
set_option linter.unusedSimpArgs false
set_option linter.unusedVariables false

theorem sla_but {m m' : Mem} {sz : Nat} {l : List Nat} {a : Option Addr} {n c : Nat} {xs : List Value} (h : SlA m sz a n c xs) (z : Frozen (butL m l) m') (hn : ∀ b, a = some b → xs ≠ [] → b.block ∉ l) : SlA m' sz a n c xs := h.keep fun b hb hx => by
  obtain ⟨ro, tg, cs, g, _⟩ := (h.rows b hb hx).blk
  rw [g]
  exact z _ _ (butL_at g (hn b hb hx))

def why1 (es : List HRow) (k : Nat) : Int := if goodL 1 (es.getD k noRow).xs then 0 else 1

/-- What is kept of the rows so far, and how many they are. -/
structure GoodJ (gb nb : Nat) (k : Nat) (xss : List (List Int)) (m : Mem) (A : Set') (ag : Option Addr) (gs : List HRow) : Prop where
  cnt : cap1 m nb (vI (k : Nat))
  box : cap1 m gb (.slice ag gs.length gs.length)
  vec : Vec 0 m 1 ag gs.length (gs.map HRow.v)
  xs : gs.map HRow.xs = xss
  row : ∀ g ∈ gs, g.At m
  blk : ∀ g ∈ gs, ∀ x, g.ad = some x → A x.block ∧ x.block ≠ nb ∧ x.block ≠ gb ∧ ∀ y, ag = some y → x.block ≠ y.block
  own : ∀ y, ag = some y → A y.block ∧ y.block ≠ nb ∧ y.block ≠ gb
  an : A nb
  ag : A gb
theorem GoodJ.loc (gb nb k : Nat) (xss : List (List Int)) : LocP fun m A => ∃ ag gs, GoodJ gb nb k xss m A ag gs := by
  rintro m m' A ⟨ag, gs, h⟩ hk hs
  exact ⟨ag, gs, (hk _ h.an).trans h.cnt, (hk _ h.ag).trans h.box, h.vec.keep fun x hx => hk _ (h.own x hx).1, h.xs, fun g hg => (h.row g hg).keep fun x hx _ => hk _ (h.blk g hg x hx).1, h.blk, h.own, h.an, h.ag⟩

theorem take_take_eq (xs : List Int) (h : xs.length ≤ 10) : ((7 :: xs).take 10).drop 1 = xs.take (min (xs.length + 1) 10 - 1) := by
  simp only [List.take_succ_cons, List.drop_succ_cons, List.drop_zero]
  apply List.ext_getElem?
  intro i
  simp only [List.getElem?_take]
  by_cases h1 : i < 9
  · rw [if_pos h1]
    split
    · rfl
    · rw [List.getElem?_eq_none (by omega)]
  · rw [if_neg h1, if_neg (by omega)]

set_option maxRecDepth 100000 in
set_option maxHeartbeats 8000000 in
theorem Simple_shape {m : Mem} {t : Fr} {ob gb nb : Nat} {aO : Option Addr} {es : List HRow} {s : Value} (hbO : cap1 m ob (.slice aO es.length es.length)) (hO : SlA m 1 aO es.length es.length (es.map HRow.v)) (hes : ∀ e ∈ es, e.At m) (h10 : ∀ e ∈ es, e.n ≤ 10) (hN : es.length ≤ 20)
    (hOb : ∀ x, aO = some x → x.block ≠ gb ∧ x.block ≠ nb) (heb : ∀ e ∈ es, ∀ x, e.ad = some x → x.block ≠ gb ∧ x.block ≠ nb)
    (hgb : cap1 m gb (.slice none 0 0)) (hnb : cap1 m nb (vI 0)) (hne : gb ≠ nb) (hog : ob ≠ gb ∧ ob ≠ nb)
    (it : Iter E (butL m [gb, nb]) none' s es.length anyO (cloneEl es (why1 es)))
    (t61 : t 61 = s) (t8 : t 8 = ptr ob) (t9 : t 9 = ptr gb) (t11 : t 11 = ptr nb) {K : Post3}
    (hK : ∀ m' A ag gs, GoodJ gb nb es.length ((es.map HRow.xs).filter (goodL 1)) m' A ag gs → (∀ i, A i → i = gb ∨ i = nb ∨ m.size ≤ i) → m.size ≤ m'.size → (∀ i, i < m.size → i ≠ gb → i ≠ nb → m'.get i = m.get i) → K .normal t m') :
    wpM E F_sheaflaw17_StageSimple 196 none c_sheaflaw17_StageSimple_26 K t m := by
  simp only [c_sheaflaw17_StageSimple_26_at, wpM_block, c_sheaflaw17_StageSimple_25_at]
  have lgb := getM_lt hgb
  have lnb := getM_lt hnb
  refine wpM_rangeP (A := fun i => i = gb ∨ i = nb) it (fun t => upd (upd t 13 (t 62)) 14 (t 63)) (by simp (decide := true) only [go_sem, t61, ↓reduceIte]) rfl asg_sheaflaw17_StageSimple_0 body_sheaflaw17_StageSimple_0 (by decide) (fun K l t m h => by simp (decide := true) only [go_sem, ↓reduceIte]; exact h)
    (fun k m A => ∃ ag gs, GoodJ gb nb k (((es.map HRow.xs).take k).filter (goodL 1)) m A ag gs) noD (fun k => GoodJ.loc _ _ _ _) noD_loc (butL_frozen _ _) (fun i hi => ⟨by rcases hi with rfl | rfl <;> assumption, butL_no (by simpa using hi), fun h => h.elim⟩) (fun i hi => hi.elim) trivial
    ⟨none, [], hnb, hgb, .nil _ _ _, rfl, (fun g h => by simp at h), (fun g h => by simp at h), (fun y h => by cases h), .inr rfl, .inl rfl⟩ ?_ ?_ ?_
  · rintro k vs m1 A B l hk z1 o1 o2 dis - ⟨ag, gs, J⟩ ⟨ac, rfl, V, hB⟩ hin hms
    refine ⟨rfl, ?_⟩
    have rO := frozen_at z1 (butL_at hbO (by simp; exact hog))
    have SO := sla_but hO z1 (fun b hb hx => by have := hOb b hb; simp; exact this)
    have hem : es[k] ∈ es := List.getElem_mem hk
    have eR : es.getD k noRow = es[k] := by simp [List.getD_eq_getElem?_getD, hk]
    obtain ⟨ab, ao, asp, rfl⟩ := SO.addr (by omega)
    have rE : m1.at ab (ao + k) = some (HRow.v es[k]) := SO.at_map hk
    have hAt : (es[k]).At m1 := (hes _ hem).keep fun b hb hx => by
      obtain ⟨ro, tg, cs, g, _⟩ := ((hes _ hem).sl.rows b hb (by simpa using hx)).blk
      rw [g]
      exact z1 _ _ (butL_at g (by have := heb _ hem b hb; simp; exact this))
    have hl10 := h10 _ hem
    have rE2 : ∀ q, Old m1 q → q.at ab (ao + k) = some (HRow.v es[k]) := fun q oq => (SO.old oq).at_map hk
    have htk : ((es.map HRow.xs).take (k + 1)).filter (goodL 1) = ((es.map HRow.xs).take k).filter (goodL 1) ++ if goodL 1 es[k].xs then [es[k].xs] else [] := by
      rw [List.take_succ_eq_append_getElem (by simpa using hk), List.filter_append, List.getElem_map]
      congr 1
      by_cases hg : goodL 1 es[k].xs = true
      · rw [if_pos hg, List.filter_cons_of_pos hg]; rfl
      · rw [if_neg hg, List.filter_cons_of_neg hg]; rfl
    have hw : why1 es k = if goodL 1 es[k].xs then 0 else 1 := by unfold why1; rw [eR]
    rw [eR] at V ⊢
    rw [hw]
    generalize es[k] = r at *
    obtain ⟨rad, rn, rc, rxs⟩ := r
    have hrl := hAt.len
    simp only at hrl hl10 V hAt htk hw ⊢
    have rE' : m1.at ab (ao + k) = some (.slice rad rn rc) := rE
    have rN := get_at0 J.cnt
    have rG := get_at0 J.box
    have oB : ∀ i, B i → i ≠ nb ∧ i ≠ gb := fun i hi => ⟨fun e => dis _ J.an (e ▸ hi), fun e => dis _ J.ag (e ▸ hi)⟩
    have w1 : IntKind.wrap .i64 ((k : Int) + 1) = ((k + 1 : Nat) : Int) := by rw [wrap_i64_id _ (by omega) (by omega)]; omega
    have tail : ∀ mq, Old m1 mq → ∀ t' : Fr, t' 8 = ptr ob → t' 9 = ptr gb → t' 11 = ptr nb → t' 13 = .slice ac rn rn → t' 14 = vI (if goodL 1 rxs = true then 0 else 1) →
        wpM E F_sheaflaw17_StageSimple 196 (some l) c_sheaflaw17_StageSimple_22 (blockK 3 fun x _ m2 => ∃ A', ChgS (fun i => A i ∨ B i) m1 m2 ∧ NewS (fun i => A i ∨ B i) m1 m2 A' ∧ match x with
          | .normal => ∃ ag gs, GoodJ gb nb (k + 1) (((es.map HRow.xs).take (k + 1)).filter (goodL 1)) m2 A' ag gs
          | x => (x = .ret ∨ ∃ i, x = .exit i) ∧ noD k x m2 A') t' mq := by
      intro mq oq t' f8 f9 f11 f13 f14
      obtain ⟨q, hq⟩ : ∃ q, q = min (rn + 1) 10 := ⟨_, rfl⟩
      simp (decide := true) (implicitDefEqProofs := false) (maxDischargeDepth := 20) only [go_sem, f8, f9, f11, f13, f14, ↓reduceIte, true_implies, false_implies]
      refine (Reject_at 7 (V.sl.old oq) (by omega)).mono ?_
      rintro w m3 ⟨a', rfl, X, o3⟩
      rw [← hq] at X ⊢
      have oq3 := oq.trans o3
      have w2 : IntKind.wrap .i64 ((rn : Int) + 1) = ((rn + 1 : Nat) : Int) := by rw [wrap_i64_id _ (by omega) (by omega)]; omega
      have mn : min ((rn + 1 : Nat) : Int) 10 = (q : Int) := by omega
      have d0 : ((q : Int) != (q : Int)) = false := by simp
      have w3 : IntKind.wrap .i64 ((q : Int) - 1) = ((q - 1 : Nat) : Int) := by rw [wrap_i64_id _ (by omega) (by omega)]; omega
      obtain ⟨xb, xo, xp, rfl⟩ := X.addr (by omega)
      have r7 : m3.at xb (xo + Int.toNat 0) = some (.int .i64 7) := X.at_map (show 0 < q by omega)
      have z7 : (0 : Int) < (q : Int) := by omega
      obtain ⟨s1, P1⟩ := X.sliceFrom (E := E) (k := .i64) (show 1 ≤ q by omega)
      have s1' := s1 22 (by decide +kernel)
      obtain ⟨s2, P2⟩ := (V.sl.old oq3).sliceTo (E := E) (k := .i64) (show q - 1 ≤ rn by omega)
      have s2' := s2 22 (by decide +kernel)
      rw [Nat.mul_one, ← List.map_take] at P2
      rw [Nat.one_mul, ← List.map_drop] at P1
      simp only [Nat.mul_one, Option.map_some, show ((1 : Nat) : Int) = 1 from rfl] at s1' P1
      have hxx : ((7 :: rxs).take 10).drop 1 = rxs.take (q - 1) := by rw [take_take_eq rxs (by omega), hrl, hq]
      rw [hxx] at P1
      generalize (if q = 1 then (some ⟨xb, xo, xp⟩ : Option Addr) else some ⟨xb, xo + 1, xp⟩) = xa at *
      simp (decide := true) (implicitDefEqProofs := false) (maxDischargeDepth := 20) only [go_sem, f8, f9, f11, f13, f14, w2, w3, mn, d0, r7, z7, s1', s2', ↓reduceIte, true_implies, false_implies]
      refine (SameI P1 P2 (by omega) (by omega)).mono ?_
      rintro w m4 ⟨rfl, o4⟩
      have dd : decide (rxs.take (q - 1) = rxs.take (q - 1)) = true := by simp
      rw [dd]
      have o14 := oq3.trans o4
      have gN : m4.get nb = some (.cells false true [vI (k : Nat)]) := J.cnt.old o14
      have gG : m4.get gb = some (.cells false true [.slice ag gs.length gs.length]) := J.box.old o14
      have rN := get_at0 gN
      have rG := get_at0 gG
      have hgl : gs.length ≤ k := by
        have h1 := congrArg List.length J.xs
        have h2 := List.length_filter_le (goodL 1) ((es.map HRow.xs).take k)
        rw [List.length_take] at h2
        simp only [List.length_map] at h1 h2
        omega
      cases hgd : goodL 1 rxs with
      | true =>
        rw [hgd] at htk
        simp only [if_true] at htk
        simp (decide := true) (implicitDefEqProofs := false) (maxDischargeDepth := 20) only [go_sem, f8, f9, f11, f13, f14, hgd, rG, ↓reduceIte, true_implies, false_implies]
        have hV4 := J.vec.old o14
        refine hV4.append1' (Nat.zero_le _) rfl (by decide) (by decide +kernel) (by decide +kernel) rfl (by omega) fun m5 b5 s5 v5 k5 hb5 => ?_
        have hne5 : ∀ i, i < m4.size → (∀ y, ag = some y → i ≠ y.block) → m5.get i = m4.get i := k5.2
        have gG5 : m5.get gb = _ := (hne5 gb (getM_lt gG) fun y hy e => (J.own y hy).2.2 e.symm).trans gG
        have gN5 : m5.get nb = _ := (hne5 nb (getM_lt gN) fun y hy e => (J.own y hy).2.1 e.symm).trans gN
        obtain ⟨m6, hm6⟩ : ∃ m6, m6 = m5.put gb (some (.cells false true [.slice (some ⟨b5, 0, s5⟩) (gs.length + 1) (gs.length + 1)])) := ⟨_, rfl⟩
        have s6 : m6.size = m5.size := by rw [hm6, size_put]
        have gN6 : m6.get nb = some (.cells false true [vI (k : Nat)]) := by rw [hm6, getM_put, if_neg (fun e => hne e.1.symm)]; exact gN5
        have rN6 := get_at0 gN6
        simp (decide := true) (implicitDefEqProofs := false) (maxDischargeDepth := 20) only [go_sem, f8, f9, f11, f13, f14, gG5, ← hm6, rN6, gN6, w1, ↓reduceIte, true_implies, false_implies]
        obtain ⟨m7, hm7⟩ : ∃ m7, m7 = m6.put nb (some (.cells false true [vI ((k + 1 : Nat) : Int)])) := ⟨_, rfl⟩
        rw [← hm7]
        have s7 : m7.size = m6.size := by rw [hm7, size_put]
        have g7 : ∀ i, i ≠ nb → i ≠ gb → m7.get i = m5.get i := fun i h1 h2 => by rw [hm7, getM_put, if_neg (fun e => h1 e.1), hm6, getM_put, if_neg (fun e => h2 e.1)]
        have s45 := k5.1
        have s14 := o14.size
        have l5 : b5 < m5.size := v5.lt rfl
        have lA : ∀ i, A i → i < m1.size := fun i hi => (o1 i hi).1
        have lB : ∀ i, B i → i < m1.size := fun i hi => (o2 i hi).1
        have lN := lA _ J.an
        have lG := lA _ J.ag
        have g71 : ∀ i, i < m1.size → i ≠ nb → i ≠ gb → (∀ y, ag = some y → i ≠ y.block) → m7.get i = m1.get i := fun i h1 h2 h3 h4 => by rw [g7 i h2 h3, hne5 i (by omega) h4, o14.get h1]
        refine ⟨fun i => (A i ∨ B i) ∨ i = b5, ⟨by omega, fun i hi hna => ?_⟩, fun i hi => ?_, some ⟨b5, 0, s5⟩, gs ++ [⟨ac, rn, rn, rxs⟩], ?_, ?_, ?_, ?_, ?_, ?_, ?_, .inl (.inl J.an), .inl (.inl J.ag)⟩
        · exact g71 i hi (fun e => hna (.inl (e ▸ J.an))) (fun e => hna (.inl (e ▸ J.ag))) fun y hy e => hna (.inl (e ▸ (J.own y hy).1))
        · rcases hi with (hi | hi) | rfl
          · exact ⟨by have := lA i hi; omega, .inl (.inl hi)⟩
          · exact ⟨by have := lB i hi; omega, .inl (.inr hi)⟩
          · exact ⟨by omega, .inr (by omega)⟩
        · unfold cap1
          rw [hm7, getM_put, if_pos ⟨rfl, by omega⟩]
        · unfold cap1
          rw [hm7, getM_put, if_neg (fun e => hne e.1), hm6, getM_put, if_pos ⟨rfl, by omega⟩, List.length_append]
          rfl
        · rw [List.length_append, List.map_append]
          exact v5.keep fun x hx => by cases hx; exact g7 _ (by show b5 ≠ nb; omega) (by show b5 ≠ gb; omega)
        · rw [List.map_append, J.xs, htk]
          rfl
        · intro g hg
          rcases List.mem_append.1 hg with hg | hg
          · exact (J.row g hg).keep fun x hx _ => by
              obtain ⟨h1, h2, h3, h4⟩ := J.blk g hg x hx
              exact g71 _ (lA _ h1) h2 h3 h4
          · rw [List.mem_singleton.1 hg]
            refine ⟨V.sl.keep fun x hx _ => ?_, hrl, hAt.bd⟩
            have hb := (hB _).2 ⟨x, hx, rfl⟩
            exact g71 _ (lB _ hb) (oB _ hb).1 (oB _ hb).2 fun y hy e => dis _ (J.own y hy).1 (e ▸ hb)
        · intro g hg x hx
          rcases List.mem_append.1 hg with hg | hg
          · obtain ⟨h1, h2, h3, h4⟩ := J.blk g hg x hx
            exact ⟨.inl (.inl h1), h2, h3, fun y hy => by cases hy; have := lA _ h1; show x.block ≠ b5; omega⟩
          · rw [List.mem_singleton.1 hg] at hx
            have hb := (hB _).2 ⟨x, hx, rfl⟩
            exact ⟨.inl (.inr hb), (oB _ hb).1, (oB _ hb).2, fun y hy => by cases hy; have := lB _ hb; show x.block ≠ b5; omega⟩
        · intro y hy
          cases hy
          exact ⟨.inr rfl, by show b5 ≠ nb; omega, by show b5 ≠ gb; omega⟩
      | false =>
        rw [hgd] at htk
        simp only [Bool.false_eq_true, if_false, List.append_nil] at htk
        simp (decide := true) (implicitDefEqProofs := false) (maxDischargeDepth := 20) only [go_sem, f8, f9, f11, f13, f14, hgd, rN, gN, w1, ↓reduceIte, true_implies, false_implies]
        obtain ⟨m7, hm7⟩ : ∃ m7, m7 = m4.put nb (some (.cells false true [vI ((k + 1 : Nat) : Int)])) := ⟨_, rfl⟩
        rw [← hm7]
        have s7 : m7.size = m4.size := by rw [hm7, size_put]
        have s14 := o14.size
        have lA : ∀ i, A i → i < m1.size := fun i hi => (o1 i hi).1
        have lB : ∀ i, B i → i < m1.size := fun i hi => (o2 i hi).1
        have lN := lA _ J.an
        have g71 : ∀ i, i < m1.size → i ≠ nb → m7.get i = m1.get i := fun i h1 h2 => by rw [hm7, getM_put, if_neg (fun e => h2 e.1), o14.get h1]
        refine ⟨fun i => A i ∨ B i, ⟨by omega, fun i hi hna => g71 i hi fun e => hna (.inl (e ▸ J.an))⟩, fun i hi => ⟨by rcases hi with hi | hi; (have := lA i hi; omega); (have := lB i hi; omega), .inl hi⟩, ag, gs, ?_, ?_, ?_, ?_, ?_, ?_, ?_, .inl J.an, .inl J.ag⟩
        · unfold cap1
          rw [hm7, getM_put, if_pos ⟨rfl, by omega⟩]
        · exact (g71 gb (lA _ J.ag) hne).trans J.box
        · exact J.vec.keep fun x hx => g71 _ (lA _ (J.own x hx).1) (J.own x hx).2.1
        · rw [J.xs, htk]
        · exact fun g hg => (J.row g hg).keep fun x hx _ => g71 _ (lA _ (J.blk g hg x hx).1) (J.blk g hg x hx).2.1
        · exact fun g hg x hx => ⟨.inl (J.blk g hg x hx).1, (J.blk g hg x hx).2⟩
        · exact fun y hy => ⟨.inl (J.own y hy).1, (J.own y hy).2⟩
    have d1 : decide ((k : Int) ≥ ((es.length : Nat) : Int)) = false := by simp; omega
    have z0 : (0 : Int) ≤ (k : Int) := by omega
    have z1' : (k : Int) < ((es.length : Nat) : Int) := by omega
    simp only [c_sheaflaw17_StageSimple_24_at, wpM_block, c_sheaflaw17_StageSimple_23_at, wpM_seq]
    generalize hc22 : c_sheaflaw17_StageSimple_22 = c22 at *
    simp (decide := true) (implicitDefEqProofs := false) (maxDischargeDepth := 20) only [go_sem, t8, t9, t11, rN, rO, rE', d1, z0, z1', ↓reduceIte, Int.toNat_natCast, true_implies, false_implies]
    refine (SameI V.sl hAt.sl (by omega) (by simp only; omega)).mono ?_
    rintro w m2 ⟨rfl, oa⟩
    have dd : decide (rxs = rxs) = true := by simp
    rw [dd]
    simp (decide := true) (implicitDefEqProofs := false) (maxDischargeDepth := 20) only [go_sem, t8, t9, t11, ↓reduceIte, true_implies, false_implies]
    refine (CGood_at 1 (V.sl.old oa)).mono ?_
    rintro w m3 ⟨rfl, ob3⟩
    cases hgd : goodL 1 rxs with
    | true =>
      rw [hgd] at tail
      simp (decide := true) (implicitDefEqProofs := false) (maxDischargeDepth := 20) only [go_sem, t8, t9, t11, ↓reduceIte, true_implies, false_implies]
      refine tail m3 (oa.trans ob3) _ ?_ ?_ ?_ ?_ ?_ <;> simp (decide := true) only [go_sem, t8, t9, t11, ↓reduceIte]
    | false =>
      rw [hgd] at tail
      simp (decide := true) (implicitDefEqProofs := false) (maxDischargeDepth := 20) only [go_sem, t8, t9, t11, ↓reduceIte, true_implies, false_implies]
      refine tail m3 (oa.trans ob3) _ ?_ ?_ ?_ ?_ ?_ <;> simp (decide := true) only [go_sem, t8, t9, t11, ↓reduceIte]
  · rintro m' A' z' o' - ⟨ag, gs, J⟩ c1 c2
    rw [show es.length = (es.map HRow.xs).length by simp, List.take_length] at J
    simp (decide := true) (implicitDefEqProofs := false) (maxDischargeDepth := 20) only [go_sem, ↓reduceIte, true_implies, false_implies]
    refine hK m' A' ag gs (by simpa using J) (fun i hi => ?_) c1.size fun i hi h1 h2 => c1.get i hi fun e => ?_
    · rcases (c2 i hi).2 with (e | e) | e
      · exact .inl e
      · exact .inr (.inl e)
      · exact .inr (.inr e)
    · rcases e with (e | e) | e
      · exact h1 e
      · exact h2 e
      · exact e
  · rintro k x m' A' _ _ _ _ _ h
    exact h.elim
end Go.Proofs.Ytpabllcacdopdaa.W
