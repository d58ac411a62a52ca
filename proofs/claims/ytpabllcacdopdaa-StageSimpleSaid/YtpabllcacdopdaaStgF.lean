/-
  StageSimple, the law.
-/
import Derived.Test.YtpabllcacdopdaaStgE
import Derived.Test.YtpabllcacdopdaaBook
namespace Go.Proofs.Ytpabllcacdopdaa.W
open Go.Abs
set_option linter.unusedSimpArgs false
set_option linter.unusedVariables false

theorem box_two (P : Mem → Prop) (m : Mem) (cb : Nat) (v v0 v1 : List Value) (hc : cb < m.size) (h : ∀ m', m'.get cb = some (.cells false true v) → m'.get m.size = some (.cells false true v0) → m'.get (m.size + 1) = some (.cells false true v1) → (∀ i, i < m.size → i ≠ cb → m'.get i = m.get i) → m'.size = m.size + 2 → P m') :
    P (((m.put cb (some (.cells false true v))).push (.cells false true v0)).push (.cells false true v1)) := by
  refine h _ ?_ ?_ ?_ (fun i hi hne => ?_) (by simp)
  · rw [getM_push, if_neg (by simp; omega), getM_push, if_neg (by simp; omega), getM_put, if_pos ⟨rfl, hc⟩]
  · rw [getM_push, if_neg (by simp), getM_push, if_pos (by simp)]
  · rw [getM_push, if_pos (by simp)]
  · rw [getM_push, if_neg (by simp; omega), getM_push, if_neg (by simp; omega), getM_put, if_neg (fun e => hne e.1)]

set_option maxRecDepth 100000 in
set_option maxHeartbeats 8000000 in
theorem StageSimple_law (m : Mem) (hro : ∀ i c, m.get i = some c → c.writable = false)
    (a0 : Option Addr) (l0 c0 : Nat) (rs : List HRow) (hs : SlA m 1 a0 l0 c0 (rs.map HRow.v)) (hl : rs.length = l0) (hr : ∀ r ∈ rs, r.At m)
    (from_ : Int) (hf : -9223372036854775808 ≤ from_) (hf' : from_ < 9223372036854775808) (days : Int) (hd : -9223372036854775808 ≤ days) (hd' : days < 9223372036854775808) :
    CallQ E F_sheaflaw17_StageSimple [.slice a0 l0 c0, .int .i64 from_, .int .i64 days].toArray m fun v _ => v = .bool true := by
  refine .enter fn_sheaflaw17_StageSimple (by simp) ?_
  simp (decide := true) (implicitDefEqProofs := false) (maxDischargeDepth := 20) only [go_sem, ↓reduceIte, true_implies, false_implies]
  obtain ⟨rb, hrb⟩ : ∃ b, b = m.size := ⟨_, rfl⟩
  have gR : (m.push (.cells false true [.bool false])).get rb = some (.cells false true [.bool false]) := by rw [hrb, getM_push, if_pos rfl]
  have oP : Old m (m.push (.cells false true [.bool false])) := .push (.refl m) _
  rw [← hrb]
  generalize (m.push (.cells false true [.bool false])) = mP at *
  refine ((Within_ans from_ 0 50 hf hf' (by omega) (by omega) (by omega) (by omega)) mP).mono ?_
  rintro w m1 ⟨rfl, o1⟩
  obtain ⟨X, hX⟩ : ∃ X, X = 0 + from_ % (50 - 0 + 1) := ⟨_, rfl⟩
  rw [← hX]
  simp (decide := true) (implicitDefEqProofs := false) (maxDischargeDepth := 20) only [go_sem, ↓reduceIte, true_implies, false_implies]
  obtain ⟨cb, hcb⟩ : ∃ b, b = m1.size := ⟨_, rfl⟩
  obtain ⟨m2, hm2⟩ : ∃ m2, m2 = (m1.push (.cells false true [.int .i64 0, .int .i64 0, .int .i64 0, .int .i64 0])).put m1.size (some (.cells false true [.int .i64 X, .int .i64 0, .int .i64 0, .int .i64 0])) := ⟨_, rfl⟩
  have gC : m2.get cb = some (.cells false true [.int .i64 X, .int .i64 0, .int .i64 0, .int .i64 0]) := by rw [hcb, hm2, getM_put, if_pos ⟨rfl, by simp⟩]
  have o2 : Old m1 m2 := by rw [hm2]; exact .put (.push (.refl m1) _) _ _ (Nat.le_refl _)
  rw [← hm2, ← hcb]
  refine ((Within_ans days 0 20 hd hd' (by omega) (by omega) (by omega) (by omega)) (m2.gm [cb])).mono ?_
  rintro w m3 ⟨rfl, o3'⟩
  obtain ⟨el, rfl, -⟩ := o3'.ugm
  have o3 : Old m2 (m2.ext el) := ⟨el, rfl⟩
  obtain ⟨D, hD⟩ : ∃ D, D = 0 + days % (20 - 0 + 1) := ⟨_, rfl⟩
  rw [← hD]
  have w1 : IntKind.wrap .i64 (X + D) = X + D := wrap_i64_id _ (by omega) (by omega)
  have gC3 : (m2.ext el).get cb = some (.cells false true [.int .i64 X, .int .i64 0, .int .i64 0, .int .i64 0]) := (o3.get (getM_lt gC)).trans gC
  simp (decide := true) (implicitDefEqProofs := false) (maxDischargeDepth := 20) only [go_sem, ↓reduceIte, gC3, w1, true_implies, false_implies]
  have e1 : m2.size + el.length = (m2.ext el).size := (size_ext _ _).symm
  have e2 : m2.size + (el.length + 1) = (m2.ext el).size + 1 := by rw [size_ext]; omega
  rw [e1, e2]
  clear e1 e2 o3'
  generalize m2.ext el = m3 at *
  obtain ⟨Y, hY⟩ : ∃ Y, Y = X + D := ⟨_, rfl⟩
  rw [← hY]
  have o13 := o1.trans (o2.trans o3)
  refine box_two (fun mm => wpM E _ _ _ _ _ _ mm) m3 cb _ _ _ (getM_lt gC3) fun m4 hC4 hO4 hG4 k4 s4 => ?_
  obtain ⟨ob, hob⟩ : ∃ b, b = m3.size := ⟨_, rfl⟩
  obtain ⟨gb, hgb⟩ : ∃ b, b = m3.size + 1 := ⟨_, rfl⟩
  rw [← hob] at hO4 ⊢
  rw [← hgb] at hG4
  rw [show ob + 1 = gb by omega]
  have oP' : Old m m3 := oP.trans o13
  have h3 := oP'.size
  have lcb : cb < m3.size := getM_lt gC3
  have lrb : rb < m3.size := Nat.lt_of_lt_of_le (getM_lt gR) o13.size
  have hcm : m.size < cb := by rw [hcb]; have := o1.size; have := getM_lt gR; omega
  have o4 : ∀ i, i < m.size → m4.get i = m.get i := fun i hi => by rw [k4 i (by omega) (by omega), oP'.get hi]
  have hs4 : SlA m4 1 a0 l0 c0 (rs.map HRow.v) := hs.keep fun b hb hne => o4 _ ((hs.rows b hb hne).lt)
  have lr : ∀ r ∈ rs, ∀ b, r.ad = some b → r.xs ≠ [] → b.block < m.size := fun r h b hb hne => ((hr r h).sl.rows b hb (by simpa using hne)).lt
  have hr4 : ∀ r ∈ rs, r.At m4 := fun r h => (hr r h).keep fun b hb hne => o4 _ (lr r h b hb hne)
  refine Simple_own (ob := ob) hs4 hr4 hl hO4 (fun r h b hb hne => by have := lr r h b hb hne; omega) (fun b hb hne => by have := (hs.rows b hb (by simpa using hne)).lt; omega)
    (by simp (decide := true) only [go_sem, ↓reduceIte]) (by simp (decide := true) only [go_sem, ↓reduceIte]) (by simp (decide := true) only [go_sem, ↓reduceIte]) fun t5 m5 a es ha5 H => ?_
  have e7 := ha5 7 (by decide +kernel)
  have e8 := ha5 8 (by decide +kernel)
  have e9 := ha5 9 (by decide +kernel)
  have e6 := ha5 6 (by decide +kernel)
  simp (decide := true) only [go_sem, ↓reduceIte] at e6 e7 e8 e9
  clear ha5
  have hlen : es.length = min l0 20 := by
    have := congrArg List.length H.xs
    simp at this
    omega
  have rO := get_at0 H.box
  have lob := getM_lt H.box
  have nob : ¬ ob = m5.size := by omega
  simp (decide := true) (implicitDefEqProofs := false) (maxDischargeDepth := 20) only [go_sem, e6, e7, e8, e9, rO, nob, ↓reduceIte, true_implies, false_implies]
  obtain ⟨nb, hnb⟩ : ∃ b, b = m5.size := ⟨_, rfl⟩
  rw [← hnb]
  have hm6 : ∃ m6, m6 = (m5.push (.cells false true [.int .i64 0])).put nb (some (.cells false true [.int .i64 0])) := ⟨_, rfl⟩
  obtain ⟨m6, hm6⟩ := hm6
  rw [← hm6]
  have gN6 : cap1 m6 nb (vI 0) := by unfold cap1; rw [hm6, hnb, getM_put, if_pos ⟨rfl, by simp⟩]
  have o6 : Old m5 m6 := by rw [hm6, hnb]; exact .put (.push (.refl m5) _) _ _ (Nat.le_refl _)
  clear hm6
  refine (From_at).mono ?_
  rintro w m7 ⟨bv, rfl, cv, hbv, o7⟩
  simp (decide := true) (implicitDefEqProofs := false) (maxDischargeDepth := 20) only [go_sem, e6, e7, e8, e9, ↓reduceIte, true_implies, false_implies]
  refine (Shape_at).mono ?_
  rintro w m8 ⟨b1, b2, b3, rfl, c1, c2, c3, hb1, hb2, hb3, o8⟩
  simp (decide := true) (implicitDefEqProofs := false) (maxDischargeDepth := 20) only [go_sem, e6, e7, e8, e9, ↓reduceIte, true_implies, false_implies]
  have o58 := o6.trans (o7.trans o8)
  have z6 := o6.size
  have z7 := o7.size
  have z8 := o8.size
  have ln6 := getM_lt gN6
  have z45 := H.size
  have lgb := getM_lt hG4
  have lob4 := getM_lt hO4
  have lcb4 := getM_lt hC4
  have gN8 := gN6.old (o7.trans o8)
  have gO8 : cap1 m8 ob (.slice a es.length es.length) := (o58.get lob).trans H.box
  have gG5 : m5.get gb = some (.cells false true [.slice none 0 0]) := (H.keep gb lgb (by omega)).trans hG4
  have gG8 : cap1 m8 gb (.slice none 0 0) := (o58.get (getM_lt gG5)).trans gG5
  have S8 := H.vec.sl.old o58
  have cv8 := cv.old o8
  have row8 : ∀ e ∈ es, e.At m8 := fun e he => (H.row e he).old o58
  have blk8 : ∀ e ∈ es, ∀ x, e.ad = some x → x.block ≠ gb ∧ x.block ≠ nb := fun e he x hx => by
    obtain ⟨b, s, h1, h2, h3, _⟩ := H.blk e he
    rw [h1] at hx
    cases hx
    exact ⟨by show b ≠ gb; omega, by show b ≠ nb; omega⟩
  have oblk : ∀ x, a = some x → x.block ≠ gb ∧ x.block ≠ nb := fun x hx => by
    have h1 := (H.vec.blk x hx).1
    have h2 := H.vec.lt hx
    exact ⟨by omega, by omega⟩
  have hR : ∀ m', Frozen (butL m8 [gb, nb]) m' → ∀ k, (es.getD k noRow).At m' := fun m' z k => by
    rw [List.getD_eq_getElem?_getD]
    cases hg : es[k]? with
    | none => exact noRow_at m'
    | some r =>
      have hm := List.mem_of_getElem? hg
      exact (row8 r hm).keep fun b hb hx => by
        obtain ⟨ro, tg, cs, g, _⟩ := ((row8 r hm).sl.rows b hb (by simpa using hx)).blk
        rw [g]
        exact z _ _ (butL_at g (by have := blk8 _ hm b hb; simp; exact this))
  have h10 : ∀ e ∈ es, e.n ≤ 10 := fun e he => by
    have h1 : e.xs ∈ es.map HRow.xs := List.mem_map.2 ⟨e, he, rfl⟩
    rw [H.xs] at h1
    obtain ⟨r, _, h2⟩ := List.mem_map.1 h1
    rw [← (H.row e he).len, ← h2, List.length_take]
    omega
  have hRn : ∀ k, (es.getD k noRow).n ≤ 1000000 := fun k => by
    rw [List.getD_eq_getElem?_getD]
    cases hg : es[k]? with
    | none => exact Nat.zero_le _
    | some r => have := h10 r (List.mem_of_getElem? hg); simp; omega
  have no8 : ∀ b, m6.size ≤ b → b ∉ [gb, nb] := fun b hb => by simp; omega
  have it := EachI (why := 1) (p := fun k => goodL 1 (es.getD k noRow).xs) (F := none') (ValuesR (n := es.length) (butL_at cv8 (no8 _ hbv)) (fun m' z => sla_but S8 z fun b hb hx => by have := oblk b hb; simp; exact this) (by omega)) hR hRn
    (butL_at c1 (no8 _ (by omega))) (butL_at c2 (no8 _ (by omega))) (butL_at c3 (no8 _ (by omega))) (fun k hk m' z => Shape_ok (hR m' z k))
  refine Simple_shape (ob := ob) (gb := gb) (nb := nb) gO8 S8 row8 h10 (by omega) oblk blk8 gG8 gN8 (by omega) ⟨by omega, by omega⟩ it (by simp (decide := true) only [go_sem, ↓reduceIte]) (by simp (decide := true) only [go_sem, e8, ↓reduceIte]) (by simp (decide := true) only [go_sem, e9, ↓reduceIte]) (by simp (decide := true) only [go_sem, ↓reduceIte]) fun m9 A ag gs J hA z9 k9 => ?_
  have gC9 : m9.get cb = some (.cells false true [.int .i64 X, .int .i64 Y, .int .i64 0, .int .i64 0]) := by
    rw [k9 cb (by omega) (by omega) (by omega), o58.get (by omega), H.keep cb lcb4 (by omega), hC4]
  have gR9 : m9.get rb = some (.cells false true [.bool false]) := by
    rw [k9 rb (by omega) (by omega) (by omega), o58.get (by omega), H.keep rb (by omega) (by omega), k4 rb (by omega) (by omega), o13.get (getM_lt gR), gR]
  have rG9 := get_at0 J.box
  have lG9 := getM_lt J.box
  have lC9 := getM_lt gC9
  have nG : ¬ gb = m9.size := by omega
  have nC : ¬ cb = m9.size := by omega
  have rC9 : m9.rows cb 0 4 = some [.int .i64 X, .int .i64 Y, .int .i64 0, .int .i64 0] := by unfold Mem.rows; rw [gC9]; rfl
  simp (decide := true) (implicitDefEqProofs := false) (maxDischargeDepth := 20) only [go_sem, e6, e7, e8, e9, rG9, nG, nC, rC9, ↓reduceIte, true_implies, false_implies]
  obtain ⟨kb, hkb⟩ : ∃ b, b = m9.size := ⟨_, rfl⟩
  rw [← hkb]
  have hm10 : ∃ m10, m10 = (m9.push (.cells false true [.int .i64 0])).put kb (some (.cells false true [.int .i64 0])) := ⟨_, rfl⟩
  obtain ⟨m10, hm10⟩ := hm10
  rw [← hm10]
  have gK10 : cap1 m10 kb (vI 0) := by unfold cap1; rw [hm10, hkb, getM_put, if_pos ⟨rfl, by simp⟩]
  have o10 : Old m9 m10 := by rw [hm10, hkb]; exact .put (.push (.refl m9) _) _ _ (Nat.le_refl _)
  clear hm10
  refine (From_at).mono ?_
  rintro w m11' ⟨bw, rfl, cw', hbw, o11'⟩
  rw [gm_size] at hbw
  obtain ⟨el, rfl, -⟩ := o11'.ugm
  have o11 : Old m10 (m10.ext el) := ⟨el, rfl⟩
  have cw : cap1 (m10.ext el) bw _ := get_ugm cw'
  simp (decide := true) (implicitDefEqProofs := false) (maxDischargeDepth := 20) only [go_sem, e6, e7, e8, e9, ↓reduceIte, true_implies, false_implies]
  clear cw' o11'
  generalize m10.ext el = m11 at *
  refine (Days_at).mono ?_
  rintro w m12 ⟨d1, d2, d3, dc, rfl, q1, q2, q3, qc, hd1, hd2, hd3, hdc, o12⟩
  have z10 := o10.size
  have z11 := o11.size
  have z12 := o12.size
  have lk10 := getM_lt gK10
  have o9 := o10.trans (o11.trans o12)
  have gK12 := gK10.old (o11.trans o12)
  have gG12 : cap1 m12 gb (.slice ag gs.length gs.length) := (o9.get lG9).trans J.box
  have S12 := J.vec.sl.old o9
  have row12 : ∀ e ∈ gs, e.At m12 := fun e he => (J.row e he).old o9
  have gC12 := (o9.get lC9).trans gC9
  have hA9 : ∀ i, A i → i < m9.size → i ≠ kb := fun i _ h => by omega
  have blk12 : ∀ e ∈ gs, ∀ x, e.ad = some x → e.xs ≠ [] → x.block ≠ kb := fun e he x hx hne => by
    have := ((J.row e he).sl.rows x hx (by simpa using hne)).lt
    omega
  have gblk : ∀ x, ag = some x → x.block ≠ kb := fun x hx => by
    have := J.vec.lt hx
    omega
  have hgood : ∀ e ∈ gs, goodL 1 e.xs = true := fun e he => by
    have h1 : e.xs ∈ gs.map HRow.xs := List.mem_map.2 ⟨e, he, rfl⟩
    rw [J.xs] at h1
    exact (List.mem_filter.1 h1).2
  have h6 : ∀ e ∈ gs, e.n = 6 := fun e he => by
    have h1 := hgood e he
    rw [← (J.row e he).len]
    by_cases h : e.xs.length = 6
    · exact h
    · rw [goodL_len 1 e.xs (by simpa [spansL] using h)] at h1
      cases h1
  have hgl : gs.length ≤ es.length := by
    have h1 := congrArg List.length J.xs
    have h2 := List.length_filter_le (goodL 1) (es.map HRow.xs)
    simp only [List.length_map] at h1 h2
    omega
  have hR2 : ∀ m', Frozen (butL m12 [kb]) m' → ∀ k, (gs.getD k noRow).At m' := fun m' z k => by
    rw [List.getD_eq_getElem?_getD]
    cases hg : gs[k]? with
    | none => exact noRow_at m'
    | some r =>
      have hm := List.mem_of_getElem? hg
      exact (row12 r hm).keep fun b hb hx => by
        obtain ⟨ro, tg, cs, g, _⟩ := ((row12 r hm).sl.rows b hb (by simpa using hx)).blk
        rw [g]
        exact z _ _ (butL_at g (by have := blk12 _ hm b hb hx; simp; exact this))
  have hRn2 : ∀ k, (gs.getD k noRow).n ≤ 1000000 := fun k => by
    rw [List.getD_eq_getElem?_getD]
    cases hg : gs[k]? with
    | none => exact Nat.zero_le _
    | some r => have := h6 r (List.mem_of_getElem? hg); simp; omega
  have no12 : ∀ b, m10.size ≤ b → b ∉ [kb] := fun b hb => by simp; omega
  have it2 := EachI (why := 3) (p := fun k => dayB X Y (gs.getD k noRow).xs) (F := none') (ValuesR (n := gs.length) (butL_at (cw.old o12) (no12 _ hbw)) (fun m' z => sla_but S12 z fun b hb hx => by have := gblk b hb; simp; exact this) (by omega)) hR2 hRn2
    (butL_at q1 (no12 _ (by omega))) (butL_at q2 (no12 _ (by omega))) (butL_at q3 (no12 _ (by omega))) (fun k hk m' z => Days_ok (hR2 m' z k) (z _ _ (butL_at qc (no12 _ (by omega)))))
  simp (decide := true) (implicitDefEqProofs := false) (maxDischargeDepth := 20) only [go_sem, e6, e7, e8, e9, ↓reduceIte, true_implies, false_implies]
  refine Simple_days (gb := gb) (cb := cb) (kb := kb) (x := X) (y := Y) gG12 S12 row12 h6 (by omega) gC12 gblk blk12 gK12 (by omega) (by omega) it2 (by simp (decide := true) only [go_sem, ↓reduceIte]) (by simp (decide := true) only [go_sem, e7, ↓reduceIte]) (by simp (decide := true) only [go_sem, e9, ↓reduceIte]) (by simp (decide := true) only [go_sem, ↓reduceIte]) fun m13 gK13 z13 k13 => ?_
  have keep : ∀ i, i < m9.size → m13.get i = m9.get i := fun i hi => by rw [k13 i (by omega) (by omega), o9.get hi]
  have gN13 : m13.get nb = some (.cells false true [vI (es.length : Nat)]) := (keep nb (getM_lt J.cnt)).trans J.cnt
  have gG13 : m13.get gb = some (.cells false true [.slice ag gs.length gs.length]) := (keep gb lG9).trans J.box
  have gO13 : m13.get ob = some (.cells false true [.slice a es.length es.length]) := (keep ob (by omega)).trans ((k9 ob (by omega) (by omega) (by omega)).trans gO8)
  have gR13 : m13.get rb = some (.cells false true [.bool false]) := (keep rb (getM_lt gR9)).trans gR9
  have rN := get_at0 gN13
  have rG := get_at0 gG13
  have rO' := get_at0 gO13
  have rK := get_at0 gK13
  have t1 : (((es.length : Nat) : Int) == ((es.length : Nat) : Int)) = true := by simp
  have t2 : (((gs.length : Nat) : Int) == ((gs.length : Nat) : Int)) = true := by simp
  have lrb := getM_lt gR13
  simp (decide := true) (implicitDefEqProofs := false) (maxDischargeDepth := 20) only [go_sem, e6, e7, e8, e9, rN, rG, rO', rK, t1, t2, gR13, lrb, ↓reduceIte, true_implies, false_implies]
end Go.Proofs.Ytpabllcacdopdaa.W
