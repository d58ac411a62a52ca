/-
  sums.Total: an iterator of sums.
-/
import Derived.Test.YtjmppooebppecaaSumA
namespace Go.Proofs.Ytjmppooebppecaa.W
open Go.Abs
set_option linter.unusedSimpArgs false
set_option linter.unusedVariables false

abbrev Grp := List Int × Int
def stepT (key : List Nat) (col : Nat) (st : List Grp × Option Grp) (r : List Int) : List Grp × Option Grp :=
  match st.2 with
  | none => (st.1, some (keyV key r, 0 + r.getD col 0))
  | some g => if g.1 = keyV key r then (st.1, some (g.1, g.2 + r.getD col 0)) else (st.1 ++ [g], some (keyV key r, 0 + r.getD col 0))
def stT (key : List Nat) (col : Nat) (rs : List (List Int)) : List Grp × Option Grp := rs.foldl (stepT key col) ([], none)
def totL (key : List Nat) (col : Nat) (rs : List (List Int)) : List Grp := (stT key col rs).1 ++ (stT key col rs).2.toList
def outT (g : Grp) : List Int := g.1 ++ [g.2]

theorem stT_snoc (key : List Nat) (col : Nat) (rs : List (List Int)) (r : List Int) : stT key col (rs ++ [r]) = stepT key col (stT key col rs) r := by unfold stT; rw [List.foldl_append]; rfl
theorem foldl_grow (key : List Nat) (col : Nat) : ∀ (l : List (List Int)) (st : List Grp × Option Grp), ∃ t, (l.foldl (stepT key col) st).1 = st.1 ++ t
  | [], st => ⟨[], by simp⟩
  | r :: l, st => by
    obtain ⟨t, ht⟩ := foldl_grow key col l (stepT key col st r)
    rw [List.foldl_cons, ht]
    unfold stepT
    split
    · exact ⟨t, rfl⟩
    · split
      · exact ⟨t, rfl⟩
      · exact ⟨_ :: t, by rw [List.append_assoc]; rfl⟩
theorem totL_grow (key : List Nat) (col : Nat) (rs : List (List Int)) (k : Nat) : ∃ t, totL key col rs = (stT key col (rs.take k)).1 ++ t := by
  obtain ⟨t, ht⟩ := foldl_grow key col (rs.drop k) (stT key col (rs.take k))
  have : stT key col rs = (rs.drop k).foldl (stepT key col) (stT key col (rs.take k)) := by
    unfold stT
    rw [← List.foldl_append, List.take_append_drop]
  exact ⟨t ++ (stT key col rs).2.toList, by unfold totL; rw [this, ht, List.append_assoc]⟩
theorem totL_at (key : List Nat) (col : Nat) (rs : List (List Int)) (k : Nat) (g : Grp) (h : (stT key col (rs.take (k + 1))).1 = (stT key col (rs.take k)).1 ++ [g]) : (totL key col rs)[(stT key col (rs.take k)).1.length]? = some g := by
  obtain ⟨t, ht⟩ := totL_grow key col rs (k + 1)
  rw [ht, h, List.append_assoc]
  simp

theorem foldl_len (key : List Nat) (col : Nat) : ∀ (l : List (List Int)) (st : List Grp × Option Grp), (∀ g, st.2 = some g → g.1.length = key.length) → ∀ g, (l.foldl (stepT key col) st).2 = some g → g.1.length = key.length
  | [], st, h => h
  | r :: l, st, h => by
    rw [List.foldl_cons]
    refine foldl_len key col l _ fun g hg => ?_
    unfold stepT at hg
    split at hg
    · cases hg; simp [keyV]
    · rename_i g0 h0
      split at hg
      · cases hg; exact h g0 h0
      · cases hg; simp [keyV]
theorem stT_len (key : List Nat) (col : Nat) (rs : List (List Int)) (g : Grp) (h : (stT key col rs).2 = some g) : g.1.length = key.length := foldl_len key col rs ([], none) (fun g h => by cases h) g h

theorem sla_pre {m : Mem} {b L : Nat} {ro tg : Bool} {xs : List Int} {v : Value} (g : m.get b = some (.cells ro tg (xs.map (.int .i64) ++ [v]))) (hl : xs.length = L) : SlA m 1 (some ⟨b, 0, none⟩) L (L + 1) (xs.map (.int .i64)) := by
  refine ⟨by simp [hl], by omega, fun b' hb => by cases hb; rfl, fun b' hb _ => ?_, fun h => by cases h⟩
  cases hb
  refine .of_blk g ?_ ?_
  · show 0 + _ ≤ _
    rw [List.length_append]; omega
  · show List.take _ (List.drop 0 _) = _
    rw [List.drop_zero, List.take_left]

/-- A row of sums that is handed over. -/
def totEl (gs : List Grp) : Nat → List Value → Mem → Set' → Prop := fun k vs m B =>
  ∃ g b, gs[k]? = some g ∧ vs = [.slice (some ⟨b, 0, none⟩) (outT g).length (outT g).length, .bool true] ∧ m.get b = some (.cells false true ((outT g).map (.int .i64))) ∧ ∀ i, B i ↔ i = b
theorem totEl_loc (gs : List Grp) (k : Nat) (vs : List Value) : LocP (totEl gs k vs) := by
  rintro m m' A ⟨g, b, h1, h2, h3, h4⟩ hk hs
  exact ⟨g, b, h1, h2, (hk _ ((h4 _).2 rfl)).trans h3, h4⟩

def curS : Option Grp → Int
  | none => 0
  | some g => g.2

/-- The boxes of a total that is under way. -/
structure TotJ (yb kb sb tb : Nat) (y : Value) (cur : Option Grp) (m : Mem) (A1 A : Set') : Prop where
  gy : m.get yb = some (.cells false true [y])
  gt : m.get tb = some (.cells false true [.func (.func F_sums_Total_1_1) #[] #[ptr kb, ptr sb, ptr yb]])
  gk : match cur with
    | none => m.get kb = some (.cells false true [.slice none 0 0])
    | some g => ∃ b, m.get kb = some (.cells false true [.slice (some ⟨b, 0, none⟩) g.1.length (g.1.length + 1)]) ∧ m.get b = some (.cells false true (g.1.map (.int .i64) ++ [.int .i64 0])) ∧ A b ∧ ¬ A1 b ∧ b ≠ kb ∧ b ≠ sb ∧ b ≠ yb ∧ b ≠ tb
  gs : ∃ tg, m.get sb = some (.cells false tg (Wc (curS cur)))
  ay : A yb ∧ ¬ A1 yb
  ak : A kb ∧ ¬ A1 kb
  as_ : A sb ∧ ¬ A1 sb
  at_ : A tb ∧ ¬ A1 tb
  sub : ∀ i, A1 i → A i
theorem TotJ.loc {yb kb sb tb : Nat} {y : Value} {cur : Option Grp} {m m' : Mem} {A1 A : Set'} (h : TotJ yb kb sb tb y cur m A1 A) (hk : ∀ i, A i → m'.get i = m.get i) : TotJ yb kb sb tb y cur m' A1 A where
  gy := (hk _ h.ay.1).trans h.gy
  gt := (hk _ h.at_.1).trans h.gt
  gk := by
    have := h.gk
    cases cur with
    | none => exact (hk _ h.ak.1).trans this
    | some g =>
      obtain ⟨b, h1, h2, h3, h4⟩ := this
      exact ⟨b, (hk _ h.ak.1).trans h1, (hk _ h3).trans h2, h3, h4⟩
  gs := by obtain ⟨tg, h1⟩ := h.gs; exact ⟨tg, (hk _ h.as_.1).trans h1⟩
  ay := h.ay
  ak := h.ak
  as_ := h.as_
  at_ := h.at_
  sub := h.sub

theorem tot_boxes (P : Mem → Prop) (m : Mem) (v0 : Value) (l1 l2 : List Value) (v3 v4 : Value) (h : ∀ m', m'.get m.size = some (.cells false true [v0]) → m'.get (m.size + 1) = some (.cells false true l1) → m'.get (m.size + (1 + 1)) = some (.cells false true l2) → m'.get (m.size + (1 + (1 + 1))) = some (.cells false true [v4]) → Old m m' → m'.size = m.size + 4 → P m') :
    P (((((m.push (.cells false true [v0])).push (.cells false true l1)).push (.cells false true l2)).push (.cells false true [v3])).put (m.size + (1 + (1 + 1))) (some (.cells false true [v4]))) := by
  refine h _ ?_ ?_ ?_ ?_ (.put (.push (.push (.push (.push (.refl m) _) _) _) _) _ _ (by omega)) (by simp)
  · rw [getM_put, if_neg (by omega), getM_push, if_neg (by simp only [size_push]; omega), getM_push, if_neg (by simp only [size_push]; omega), getM_push, if_neg (by simp only [size_push]; omega), getM_push, if_pos rfl]
  · rw [getM_put, if_neg (by omega), getM_push, if_neg (by simp only [size_push]; omega), getM_push, if_neg (by simp only [size_push]; omega), getM_push, if_pos (by simp)]
  · rw [getM_put, if_neg (by omega), getM_push, if_neg (by simp only [size_push]; omega), getM_push, if_pos (by simp)]
  · rw [getM_put, if_pos ⟨rfl, by simp only [size_push]; omega⟩]

def fin3 (P : Prop) (Q : Prop) : Exit → Prop
  | .normal => P
  | .ret => Q
  | _ => False
@[go_sem] theorem fin3_normal (P Q : Prop) : fin3 P Q .normal = P := rfl
@[go_sem] theorem fin3_ret (P Q : Prop) : fin3 P Q .ret = Q := rfl

set_option maxRecDepth 100000 in
set_option maxHeartbeats 8000000 in
theorem TotalI {Z : Nat → Option Blk} {F : Set'} {s : Value} {n : Nat} {rs : List HRow} {key : List Nat} {col : Nat} {ka : Option Addr} {kn kc : Nat} (hs : Iter E Z F s n anyO (pureEl (rowsEl rs))) (hr : ∀ m, Frozen Z m → ∀ k, (rs.getD k noRow).At m) (hl : rs.length = n)
    (hks : ∀ m, Frozen Z m → SlA m 1 ka kn kc (key.map natV)) (hkn : kn ≤ 100) {b1 b2 b3 : Nat} {r1 t1 r2 t2 r3 t3 : Bool} (h1 : Z b1 = some (.cells r1 t1 [s])) (h2 : Z b2 = some (.cells r2 t2 [.slice ka kn kc])) (h3 : Z b3 = some (.cells r3 t3 [natV col]))
    (hb : ∀ g ∈ totL key col (rs.map HRow.xs), -9223372036854775808 ≤ g.2 ∧ g.2 < 9223372036854775808) :
    Iter E Z F (.func (.func F_sums_Total_1) #[] #[ptr b1, ptr b2, ptr b3]) (totL key col (rs.map HRow.xs)).length anyO (totEl (totL key col (rs.map HRow.xs))) where
  fn := ⟨_, _, _, rfl⟩
  locO := fun _ _ _ _ _ => trivial
  locE := totEl_loc _
  go := by
    intro y hy I D lI lD step m A z o hF own0 i0
    obtain ⟨yf, ya, yc, rfl⟩ := hy
    rw [CallF_func]
    refine ⟨by simp only [go_sem], ?_⟩
    have e : (#[] ++ [Value.func yf ya yc].toArray ++ #[ptr b1, ptr b2, ptr b3] : Array Value) = [Value.func yf ya yc, ptr b1, ptr b2, ptr b3].toArray := by simp
    rw [e]
    refine .enter fn_sums_Total_1 (by simp) ?_
    have r1 := frozen_at z h1
    have lb1 := z.lt h1
    have n1 : ¬ b1 = m.size := by omega
    have n2 : ¬ b1 = m.size + 1 := by omega
    have n3 : ¬ b1 = m.size + (1 + 1) := by omega
    have n4 : ¬ b1 = m.size + (1 + (1 + 1)) := by omega
    simp (decide := true) (implicitDefEqProofs := false) (maxDischargeDepth := 20) only [go_sem, r1, n1, n2, n3, n4, ↓reduceIte, true_implies, false_implies]
    refine tot_boxes (fun mm => wpM E _ _ _ _ _ _ mm) m _ _ _ _ _ fun m1 q0 q1 q2 q3 ho hs1 => ?_
    obtain ⟨yb, hyb⟩ : ∃ b, b = m.size := ⟨_, rfl⟩
    obtain ⟨kb, hkb⟩ : ∃ b, b = m.size + 1 := ⟨_, rfl⟩
    obtain ⟨sb, hsb⟩ : ∃ b, b = m.size + (1 + 1) := ⟨_, rfl⟩
    obtain ⟨tb, htb⟩ : ∃ b, b = m.size + (1 + (1 + 1)) := ⟨_, rfl⟩
    rw [← htb] at q3 ⊢
    rw [← hsb] at q2 q3 ⊢
    rw [← hkb] at q1 q3 ⊢
    rw [← hyb] at q0 q3 ⊢
    simp only [c_sums_Total_1_9_at, wpM_block, c_sums_Total_1_8_at]
    obtain ⟨xss, hxss⟩ : ∃ x, x = rs.map HRow.xs := ⟨_, rfl⟩
    rw [← hxss] at hb step ⊢
    have hxl : xss.length = n := by rw [hxss, List.length_map, hl]
    have hZF : ∀ i, m.size ≤ i → Z i = none ∧ ¬ F i := fun i hi => ⟨z.free hi, fun f => by have := (hF i f).1; omega⟩
    refine wpM_rangeP (A := fun i => A i ∨ i = yb ∨ i = kb ∨ i = sb ∨ i = tb) hs (fun t => upd t 8 (t 12)) (by simp (decide := true) only [go_sem, ↓reduceIte]) rfl asg_sums_Total_1_0 body_sums_Total_1_0 (by decide) (fun K l t m h => by simp (decide := true) only [go_sem, ↓reduceIte]; exact h)
      (fun k m A => ∃ A1, I (stT key col (xss.take k)).1.length m A1 ∧ TotJ yb kb sb tb (.func yf ya yc) (stT key col (xss.take k)).2 m A1 A)
      (fun k x m A => x = .ret ∧ ∃ g, (stT key col (xss.take (k + 1))).1 = (stT key col (xss.take k)).1 ++ [g] ∧ ∃ A1, D (stT key col (xss.take k)).1.length m A1 ∧ ∀ i, A1 i → A i)
      (fun k m1 m2 A' ⟨A1, h1, h2⟩ hk hs => ⟨A1, lI _ m1 m2 A1 h1 (fun i hi => hk i (h2.sub i hi)) hs, h2.loc hk⟩) (fun k x m1 m2 A' ⟨h1, g, h2, A1, h3, h4⟩ hk hs => ⟨h1, g, h2, A1, lD _ m1 m2 A1 h3 (fun i hi => hk i (h4 i hi)) hs, h4⟩)
      (z.old ho) (fun i hi => ?_) (fun i hi => ⟨by have := (hF i hi).1; omega, (hF i hi).2⟩) trivial ⟨A, lI 0 m _ A i0 (fun i hi => ho.get (o i hi).1) ho.size, ?_⟩ ?_ ?_ ?_
    · rcases hi with hi | hi
      · exact ⟨Nat.lt_of_lt_of_le (o i hi).1 ho.size, (o i hi).2⟩
      · exact ⟨by omega, hZF i (by omega)⟩
    · have na : ∀ i, m.size ≤ i → ¬ A i := fun i hi h => by have := (o i h).1; omega
      exact ⟨q0, q3, q1, ⟨true, q2⟩, ⟨.inr (.inl rfl), na _ (by omega)⟩, ⟨.inr (.inr (.inl rfl)), na _ (by omega)⟩, ⟨.inr (.inr (.inr (.inl rfl))), na _ (by omega)⟩, ⟨.inr (.inr (.inr (.inr rfl))), na _ (by omega)⟩, fun i hi => .inl hi⟩
    · rintro k vs m2 A' B l hk z1 o1 o2 dis - ⟨A1, hI, J⟩ hel hin hms
      subst hel
      refine ⟨rfl, ?_⟩
      have hrow := hr m2 z1 k
      have hrF : ∀ m', Frozen Z m' → (rs.getD k noRow).At m' := fun m' z => hr m' z k
      have hel : rowsEl rs k = [(rs.getD k noRow).v] := rfl
      have st1 : stT key col (xss.take (k + 1)) = stepT key col (stT key col (xss.take k)) (rs.getD k noRow).xs := by
        rw [List.take_succ_eq_append_getElem (by omega), stT_snoc]
        congr 1
        simp only [hxss, List.getElem_map, List.getD_eq_getElem?_getD, List.getElem?_eq_getElem (show k < rs.length by omega), Option.getD_some]
      rw [hel]
      generalize rs.getD k noRow = row at *
      obtain ⟨rad, rn, rc, rxs⟩ := row
      have hsl : SlA m2 1 rad rn rc (rxs.map (.int .i64)) := hrow.sl
      have hbd := hrow.bd
      simp only [HRow.v] at st1 hbd ⊢
      have hcv : -9223372036854775808 ≤ rxs.getD col 0 ∧ rxs.getD col 0 < 9223372036854775808 := by
        rw [List.getD_eq_getElem?_getD]
        cases hg : rxs[col]? with
        | none => exact ⟨by decide, by decide⟩
        | some v => exact hbd v (List.mem_of_getElem? hg)
      have hlt : ∀ i, A' i → i < m2.size := fun i hi => (o1 i hi).1
      have rk2 := frozen_at z1 h2
      simp only [c_sums_Total_1_7_at, wpM_block, c_sums_Total_1_6_at, wpM_seq]
      refine wpM_mono c_sums_Total_1_5 _ _ (fun x t' m' hk => ?_) _ _ (wpM_agree c_sums_Total_1_5 _ _ (.refl _ _) (fun i hi => hi) (K := fun x t' m' => fin3
          (∃ A2 Aq g0, I (stT key col (xss.take (k + 1))).1.length m' A2 ∧ TotJ yb kb sb tb (.func yf ya yc) (some g0) m' A2 Aq ∧ Trs (fun i => A' i ∨ B i) m2 m' Aq ∧ (stT key col (xss.take (k + 1))).2 = some (g0.1, g0.2 + rxs.getD col 0))
          (∃ A'_1, ChgS (fun i => A' i ∨ B i) m2 m' ∧ NewS (fun i => A' i ∨ B i) m2 m' A'_1 ∧ ∃ g, (stT key col (xss.take (k + 1))).1 = (stT key col (xss.take k)).1 ++ [g] ∧ ∃ A1, D (stT key col (xss.take k)).1.length m' A1 ∧ ∀ i, A1 i → A'_1 i) x) ?_)
      · obtain ⟨hag, hk⟩ := hk
        cases x with
        | normal =>
          obtain ⟨A2, Aq, g0, hI2, J2, T, hst⟩ := hk
          have a3 := hag 3 (by decide +kernel)
          have a6 := hag 6 (by decide +kernel)
          have a8 := hag 8 (by decide +kernel)
          simp (decide := true) only [go_sem, ↓reduceIte] at a3 a6 a8
          have zm := z1.chg T.c (fun i hi => hi.elim (fun h => (o1 i h).2.1) fun h => (o2 i h).2.1)
          have rc3 := frozen_at zm h3
          simp (decide := true) (implicitDefEqProofs := false) (maxDischargeDepth := 20) only [go_sem, a3, a6, a8, rc3, ↓reduceIte, true_implies, false_implies]
          refine (SAt_at col (hrF m' zm).sl).mono ?_
          rintro w m3 ⟨rfl, o3⟩
          simp (decide := true) (implicitDefEqProofs := false) (maxDischargeDepth := 20) only [go_sem, a3, a6, a8, ↓reduceIte, true_implies, false_implies]
          obtain ⟨tg, hgs⟩ := J2.gs
          have hls := getM_lt hgs
          refine SumAdd (x := g0.2) (b := sb) ⟨tg, (o3.get hls).trans hgs⟩ hcv.1 hcv.2 fun m4 u4 b4 => ?_
          simp (decide := true) (implicitDefEqProofs := false) (maxDischargeDepth := 20) only [go_sem, ↓reduceIte, true_implies, false_implies]
          have lAq : ∀ i, Aq i → i < m'.size := fun i hi => (T.n i hi).1
          have g4 : ∀ i, i < m'.size → i ≠ sb → m4.get i = m'.get i := fun i hi hne => by rw [u4.get i (Nat.lt_of_lt_of_le hi o3.size) hne, o3.get hi]
          have s4 : m'.size ≤ m4.size := Nat.le_trans o3.size u4.size
          have T4 : Trs Aq m' m4 Aq := ⟨⟨s4, fun i hi hna => g4 i hi fun e => hna (e ▸ J2.as_.1)⟩, fun i hi => ⟨Nat.lt_of_lt_of_le (lAq i hi) s4, .inl hi⟩⟩
          have TT := T.trans T4
          have gA : ∀ i, Aq i → i ≠ sb → m4.get i = m'.get i := fun i hi hne => g4 i (lAq i hi) hne
          refine ⟨Aq, TT.c, TT.n, A2, lI _ m' m4 A2 hI2 (fun i hi => gA i (J2.sub i hi) fun e => J2.as_.2 (e ▸ hi)) s4, ?_⟩
          rw [hst]
          have ne : ∀ i v, m'.get i = some (.cells false true [v]) → i ≠ sb := fun i v hg e => by
            rw [e, hgs] at hg
            simp [Wc] at hg
          obtain ⟨kbb, k1, k2, k3, k4, k5⟩ := J2.gk
          exact ⟨(gA _ J2.ay.1 (ne _ _ J2.gy)).trans J2.gy, (gA _ J2.at_.1 (ne _ _ J2.gt)).trans J2.gt, ⟨kbb, (gA _ J2.ak.1 (ne _ _ k1)).trans k1, (gA _ k3 k5.2.1).trans k2, k3, k4, k5⟩, b4, J2.ay, J2.ak, J2.as_, J2.at_, J2.sub⟩
        | ret =>
          obtain ⟨A3, c1, c2, g, hg, A4, hD, hs4⟩ := hk
          exact ⟨A3, c1, c2, .inl rfl, rfl, g, hg, A4, hD, hs4⟩
        | _ => exact hk.elim
      · obtain ⟨st, hst⟩ : ∃ x, x = stT key col (xss.take k) := ⟨_, rfl⟩
        rw [← hst] at J hI st1 ⊢
        simp (decide := true) (implicitDefEqProofs := false) (maxDischargeDepth := 20) only [go_sem, rk2, ↓reduceIte, true_implies, false_implies]
        refine (Columns_at hsl (hks m2 z1) (by omega)).mono ?_
        rintro w m3 ⟨xb, rfl, hxb, gx, o3⟩
        have J3 := J.loc (m' := m3) fun i hi => o3.get (hlt i hi)
        have hI3 := lI _ m2 m3 A1 hI (fun i hi => o3.get (hlt i (J.sub i hi))) o3.size
        have hkl : (keyV key rxs).length = kn := by have := (hks m2 z1).len; simp at this; simp [keyV, this]
        have lx := getM_lt gx
        have ea : (#[] ++ #[] ++ #[ptr kb, ptr sb, ptr yb] : Array Value) = [ptr kb, ptr sb, ptr yb].toArray := by simp
        have lyb := hlt _ J.ay.1
        have lkb := hlt _ J.ak.1
        have lsb := hlt _ J.as_.1
        have ltb := hlt _ J.at_.1
        have z3s := o3.size
        have reset : ∀ (m6 : Mem) (A2 : Set') (j' : Nat) (kv x0 y0 : Value) (tg : Bool), I j' m6 A2 → m6.get yb = some (.cells false true [.func yf ya yc]) → m6.get tb = some (.cells false true [.func (.func F_sums_Total_1_1) #[] #[ptr kb, ptr sb, ptr yb]]) →
            m6.get kb = some (.cells false true [kv]) → m6.get sb = some (.cells false tg [x0, y0]) → ¬ A2 yb → ¬ A2 kb → ¬ A2 sb → ¬ A2 tb → ¬ A2 xb → ChgS (fun i => A' i ∨ B i) m2 m6 → NewS (fun i => A' i ∨ B i) m2 m6 A2 → m6.get xb = some (.cells false true ((keyV key rxs).map (.int .i64) ++ [.int .i64 0])) →
            ∃ A2 Aq, I j' ((m6.put kb (some (.cells false true [.slice (some ⟨xb, 0, none⟩) kn (kn + 1)]))).put sb (some (.cells false tg [.int .i64 0, .int .u64 0]))) A2 ∧ TotJ yb kb sb tb (.func yf ya yc) (some (keyV key rxs, 0)) ((m6.put kb (some (.cells false true [.slice (some ⟨xb, 0, none⟩) kn (kn + 1)]))).put sb (some (.cells false tg [.int .i64 0, .int .u64 0]))) A2 Aq ∧
              Trs (fun i => A' i ∨ B i) m2 ((m6.put kb (some (.cells false true [.slice (some ⟨xb, 0, none⟩) kn (kn + 1)]))).put sb (some (.cells false tg [.int .i64 0, .int .u64 0]))) Aq := by
          intro m6 A2 j' kv x0 y0 tg hI6 gy6 gt6 gk6 gs6 ny nk ns nt nx c6 n6 gx6
          obtain ⟨m7, hm7⟩ : ∃ m7, m7 = (m6.put kb (some (.cells false true [.slice (some ⟨xb, 0, none⟩) kn (kn + 1)]))).put sb (some (.cells false tg [.int .i64 0, .int .u64 0])) := ⟨_, rfl⟩
          rw [← hm7]
          have lk6 := getM_lt gk6
          have ls6 := getM_lt gs6
          have s7 : m7.size = m6.size := by rw [hm7, size_put, size_put]
          have g7 : ∀ i, i ≠ kb → i ≠ sb → m7.get i = m6.get i := fun i h1 h2 => by rw [hm7, getM_put, if_neg (fun e => h2 e.1), getM_put, if_neg (fun e => h1 e.1)]
          have gk7 : m7.get kb = some (.cells false true [.slice (some ⟨xb, 0, none⟩) kn (kn + 1)]) := by rw [hm7, getM_put, if_neg (fun e => by omega), getM_put, if_pos ⟨rfl, lk6⟩]
          have gs7 : m7.get sb = some (.cells false tg [.int .i64 0, .int .u64 0]) := by rw [hm7, getM_put, if_pos ⟨rfl, by rw [size_put]; exact ls6⟩]
          refine ⟨A2, fun i => A2 i ∨ i = yb ∨ i = kb ∨ i = sb ∨ i = tb ∨ i = xb, lI _ m6 m7 A2 hI6 (fun i hi => g7 i (fun e => nk (e ▸ hi)) (fun e => ns (e ▸ hi))) (by omega), ?_, ?_⟩
          · exact ⟨(g7 _ (by omega) (by omega)).trans gy6, (g7 _ (by omega) (by omega)).trans gt6, ⟨xb, by rw [hkl]; exact gk7, (g7 _ (by omega) (by omega)).trans gx6, .inr (.inr (.inr (.inr (.inr rfl)))), nx, by omega, by omega, by omega, by omega⟩, ⟨tg, gs7⟩,
              ⟨.inr (.inl rfl), ny⟩, ⟨.inr (.inr (.inl rfl)), nk⟩, ⟨.inr (.inr (.inr (.inl rfl))), ns⟩, ⟨.inr (.inr (.inr (.inr (.inl rfl)))), nt⟩, fun i hi => .inl hi⟩
          · refine ⟨⟨by have := c6.size; omega, fun i hi hna => ?_⟩, fun i hi => ?_⟩
            · rw [g7 i (fun e => hna (.inl (e ▸ J.ak.1))) (fun e => hna (.inl (e ▸ J.as_.1))), c6.get i hi hna]
            · have lm := c6.size
              rcases hi with hi | rfl | rfl | rfl | rfl | rfl
              · have := n6 i hi
                exact ⟨by omega, this.2⟩
              · exact ⟨by omega, .inl (.inl J.ay.1)⟩
              · exact ⟨by omega, .inl (.inl J.ak.1)⟩
              · exact ⟨by omega, .inl (.inl J.as_.1)⟩
              · exact ⟨by omega, .inl (.inl J.at_.1)⟩
              · exact ⟨by have := getM_lt gx6; omega, .inr hxb⟩
        have nx1 : ¬ A1 xb := fun h => by have := hlt _ (J.sub _ h); omega
        cases hcur : st.2 with
        | none =>
          have J3' := J3
          rw [hcur] at J3'
          have gk3 : m3.get kb = some (.cells false true [.slice none 0 0]) := J3'.gk
          have rk := get_at0 gk3
          have rt := get_at0 J3.gt
          have st1' : stT key col (xss.take (k + 1)) = (st.1, some (keyV key rxs, 0 + rxs.getD col 0)) := by rw [st1]; unfold stepT; rw [hcur]
          simp (decide := true) (implicitDefEqProofs := false) (maxDischargeDepth := 20) only [go_sem, rk, rt, ↓reduceIte, true_implies, false_implies]
          rw [ea]
          refine (Tell_nil gk3).mono ?_
          rintro w m6 ⟨rfl, o6⟩
          obtain ⟨tg, gs3⟩ := J3'.gs
          have gs6 : m6.get sb = _ := (o6.get (getM_lt gs3)).trans gs3
          have gk6 := (o6.get (getM_lt gk3)).trans gk3
          have o26 := o3.trans o6
          obtain ⟨A2, Aq, k1, k2, k3⟩ := reset m6 A1 st.1.length _ _ _ tg (lI _ m3 m6 A1 hI3 (fun i hi => o6.get (by have := hlt i (J.sub i hi); omega)) o6.size) ((o6.get (by omega)).trans J3.gy) ((o6.get (by omega)).trans J3.gt) gk6 gs6 J.ay.2 J.ak.2 J.as_.2 J.at_.2 nx1 (o26.chg _) (fun i hi => ⟨Nat.lt_of_lt_of_le (hlt i (J.sub i hi)) o26.size, .inl (.inl (J.sub i hi))⟩) ((o6.get lx).trans gx)
          have nks : ¬ sb = kb := by omega
          simp only [Wc, curS] at gs6
          have ls6 := getM_lt gs6
          simp (decide := true) (implicitDefEqProofs := false) (maxDischargeDepth := 20) only [go_sem, gk6, gs6, nks, ls6, st1', ↓reduceIte, true_implies, false_implies]
          exact ⟨A2, Aq, (keyV key rxs, 0), k1, k2, k3, rfl⟩
        | some g =>
          have J3' := J3
          rw [hcur] at J3'
          obtain ⟨b, gk3, gb3, hAb, nAb, hbk, hbs, hby, hbt⟩ := J3'.gk
          have hgl : g.1.length = kn := by
            rw [stT_len key col (xss.take k) g (by rw [← hst]; exact hcur), ← hkl]
            simp [keyV]
          rw [hgl] at gk3
          have rk := get_at0 gk3
          have lb2 := hlt _ hAb
          have SK := sla_pre gb3 hgl
          have SX := sla_pre gx hkl
          simp (decide := true) (implicitDefEqProofs := false) (maxDischargeDepth := 20) only [go_sem, rk, ↓reduceIte, true_implies, false_implies]
          refine (Equal_at SK SX (by omega)).mono ?_
          rintro w m4 ⟨rfl, o4⟩
          have o24 := o3.trans o4
          have J4 := J.loc (m' := m4) fun i hi => o24.get (hlt i hi)
          have hI4 := lI _ m2 m4 A1 hI (fun i hi => o24.get (hlt i (J.sub i hi))) o24.size
          by_cases heq : g.1 = keyV key rxs
          · have dq : decide (g.1 = keyV key rxs) = true := by simpa using heq
            rw [dq]
            have st1' : stT key col (xss.take (k + 1)) = (st.1, some (g.1, g.2 + rxs.getD col 0)) := by rw [st1]; unfold stepT; rw [hcur]; simp only [if_pos heq]
            simp (decide := true) (implicitDefEqProofs := false) (maxDischargeDepth := 20) only [go_sem, st1', ↓reduceIte, true_implies, false_implies]
            rw [hcur] at J4
            exact ⟨A1, A', g, hI4, J4, ⟨o24.chg _, fun i hi => ⟨Nat.lt_of_lt_of_le (hlt i hi) o24.size, .inl (.inl hi)⟩⟩, rfl⟩
          · have dq : decide (g.1 = keyV key rxs) = false := by simpa using heq
            rw [dq]
            have st1' : stT key col (xss.take (k + 1)) = (st.1 ++ [g], some (keyV key rxs, 0 + rxs.getD col 0)) := by rw [st1]; unfold stepT; rw [hcur]; simp only [if_neg heq]
            have hat := totL_at key col xss k g (by rw [st1', ← hst])
            rw [← hst] at hat
            have hj := (List.getElem?_eq_some_iff.1 hat).1
            have hgb := hb g (List.mem_of_getElem? hat)
            have gk4 := (o4.get (getM_lt gk3)).trans gk3
            have gb4 := (o4.get (getM_lt gb3)).trans gb3
            have gx4 := (o4.get lx).trans gx
            have rt := get_at0 J4.gt
            simp (decide := true) (implicitDefEqProofs := false) (maxDischargeDepth := 20) only [go_sem, rt, ↓reduceIte, true_implies, false_implies]
            rw [ea]
            obtain ⟨tg, gs4⟩ := J4.gs
            rw [hcur] at gs4
            refine Tell_some (s := g.2) gk4 gb4 hgl (by omega) ⟨tg, gs4⟩ hgb J4.gy hbk hbs hby fun m5 z5 k5 g5 => ?_
            have z4 := o24.size
            have k25 : ∀ i, i < m2.size → i ≠ b → m5.get i = m2.get i := fun i hi hne => by rw [k5 i (by omega) hne, o24.get hi]
            have lA1 : ∀ i, A1 i → i < m2.size := fun i hi => hlt i (J.sub i hi)
            have zb : Z b = none := (o1 b hAb).2.1
            have fz5 : Frozen Z m5 := fun i c hi => by
              rw [k25 i (z1.lt hi) (fun e => by rw [e, zb] at hi; cases hi)]
              exact z1 i c hi
            have hol : (outT g).length = kn + 1 := by unfold outT; rw [List.length_append, hgl]; rfl
            refine (step st.1.length _ m5 A1 (fun i => i = b) hj fz5 (fun i hi => ⟨by have := lA1 i hi; omega, (o1 i (J.sub i hi)).2⟩) (fun i hi => by rw [hi]; exact ⟨by omega, (o1 b hAb).2⟩) (fun i hi e => nAb (e ▸ hi)) (fun i hi => by have := (hF i hi).1; omega) trivial
              (lI _ m2 m5 A1 hI (fun i hi => k25 i (lA1 i hi) fun e => nAb (e ▸ hi)) (by omega)) ⟨g, b, hat, by rw [hol], g5, fun i => Iff.rfl⟩).mono ?_
            rintro w m6 ⟨A2, c1, c2, hw⟩
            have z6 := c1.size
            have g6 : ∀ i, i < m5.size → ¬ A1 i → i ≠ b → m6.get i = m5.get i := fun i hi h1 h2 => c1.get i hi fun e => e.elim h1 h2
            have c26 : ChgS (fun i => A' i ∨ B i) m2 m6 := ⟨by omega, fun i hi hna => by
              have nb : i ≠ b := fun e => hna (.inl (e ▸ hAb))
              rw [g6 i (by omega) (fun h => hna (.inl (J.sub i h))) nb, k25 i hi nb]⟩
            have n26 : NewS (fun i => A' i ∨ B i) m2 m6 A2 := fun i hi => ⟨(c2 i hi).1, by
              rcases (c2 i hi).2 with (h | h) | h
              · exact .inl (.inl (J.sub i h))
              · rw [h]; exact .inl (.inl hAb)
              · exact .inr (by omega)⟩
            have nA2 : ∀ i, i < m5.size → ¬ A1 i → i ≠ b → ¬ A2 i := fun i hi h1 h2 h => by
              rcases (c2 i h).2 with (h | h) | h
              · exact h1 h
              · exact h2 h
              · omega
            have m4z : xb < m4.size := by have := o4.size; omega
            rcases hw with ⟨rfl, hI2⟩ | ⟨rfl, hD⟩
            · have gk6 : m6.get kb = _ := (g6 kb (by omega) J.ak.2 (Ne.symm hbk)).trans ((k5 kb (by omega) (Ne.symm hbk)).trans gk4)
              have gs6 : m6.get sb = _ := (g6 sb (by omega) J.as_.2 (Ne.symm hbs)).trans ((k5 sb (by omega) (Ne.symm hbs)).trans gs4)
              obtain ⟨A3, Aq, q1, q2, q3⟩ := reset m6 A2 (st.1.length + 1) _ _ _ tg hI2 ((g6 yb (by omega) J.ay.2 (Ne.symm hby)).trans ((k5 yb (by omega) (Ne.symm hby)).trans J4.gy)) ((g6 tb (by omega) J.at_.2 (Ne.symm hbt)).trans ((k5 tb (by omega) (Ne.symm hbt)).trans J4.gt)) gk6 gs6
                (nA2 _ (by omega) J.ay.2 (Ne.symm hby)) (nA2 _ (by omega) J.ak.2 (Ne.symm hbk)) (nA2 _ (by omega) J.as_.2 (Ne.symm hbs)) (nA2 _ (by omega) J.at_.2 (Ne.symm hbt)) (nA2 _ (by omega) nx1 (by omega)) c26 n26 ((g6 xb (by omega) nx1 (by omega)).trans ((k5 xb m4z (by omega)).trans gx4))
              have nks : ¬ sb = kb := by omega
              simp only [Wc, curS] at gs6
              have ls6 := getM_lt gs6
              have el : (st.1 ++ [g]).length = st.1.length + 1 := by simp
              simp (decide := true) (implicitDefEqProofs := false) (maxDischargeDepth := 20) only [go_sem, gk6, gs6, nks, ls6, st1', el, ↓reduceIte, true_implies, false_implies]
              exact ⟨A3, Aq, (keyV key rxs, 0), q1, q2, q3, rfl⟩
            · simp (decide := true) (implicitDefEqProofs := false) (maxDischargeDepth := 20) only [go_sem, st1', ↓reduceIte, true_implies, false_implies]
              exact ⟨A2, c26, n26, g, rfl, A2, hD, fun i hi => hi⟩
    · rintro m' A' z' o' - ⟨A1, hI, J⟩ c1 c2
      rw [show n = xss.length from hxl.symm, List.take_length] at hI J
      have hlt : ∀ i, A' i → i < m'.size := fun i hi => (o' i hi).1
      have lA1 : ∀ i, A1 i → i < m'.size := fun i hi => hlt i (J.sub i hi)
      have ea : (#[] ++ #[] ++ #[ptr kb, ptr sb, ptr yb] : Array Value) = [ptr kb, ptr sb, ptr yb].toArray := by simp
      have rt := get_at0 J.gt
      have c1s := c1.size
      have hos := ho.size
      -- what is left, seen from ahead of the boxes
      have outC : ∀ i, i < m.size → ¬ (A i ∨ F i) → m'.get i = m.get i := fun i hi hna => by
        rw [c1.get i (by omega) (by
          rintro ((h | h) | h)
          · exact hna (.inl h)
          · omega
          · exact hna (.inr h)), ho.get hi]
      have outN : ∀ i, A' i → A i ∨ m.size ≤ i := fun i hi => by
        rcases (c2 i hi).2 with (h | h) | h
        · exact .inl h
        · exact .inr (by omega)
        · exact .inr (by omega)
      simp (decide := true) (implicitDefEqProofs := false) (maxDischargeDepth := 20) only [go_sem, rt, ↓reduceIte, true_implies, false_implies]
      rw [ea]
      cases hcur : (stT key col xss).2 with
      | none =>
        rw [hcur] at J
        have gk : m'.get kb = some (.cells false true [.slice none 0 0]) := J.gk
        refine (Tell_nil gk).mono ?_
        rintro w m6 ⟨rfl, o6⟩
        have el : (totL key col xss).length = (stT key col xss).1.length := by unfold totL; rw [hcur]; simp
        simp (decide := true) (implicitDefEqProofs := false) (maxDischargeDepth := 20) only [go_sem, el, ↓reduceIte, true_implies, false_implies]
        have o6s := o6.size
        exact ⟨A1, ⟨by omega, fun i hi hna => by rw [o6.get (by omega), outC i hi hna]⟩, fun i hi => ⟨by have := lA1 i hi; omega, outN i (J.sub i hi)⟩, .inl ⟨trivial, lI _ m' m6 A1 hI (fun i hi => o6.get (lA1 i hi)) o6s⟩⟩
      | some g =>
        rw [hcur] at J
        obtain ⟨b, gk3, gb3, hAb, nAb, hbk, hbs, hby, hbt⟩ := J.gk
        obtain ⟨tg, gs4⟩ := J.gs
        have hgl := stT_len key col xss g hcur
        have hkl : key.length = kn := by have := (hks m' z').len; simpa using this
        have lb := hlt _ hAb
        have eT : totL key col xss = (stT key col xss).1 ++ [g] := by unfold totL; rw [hcur]; rfl
        have hat : (totL key col xss)[(stT key col xss).1.length]? = some g := by rw [eT]; simp
        have hj := (List.getElem?_eq_some_iff.1 hat).1
        have hgb := hb g (List.mem_of_getElem? hat)
        refine Tell_some (s := g.2) gk3 gb3 rfl (by omega) ⟨tg, gs4⟩ hgb J.gy hbk hbs hby fun m5 z5 k5 g5 => ?_
        have zb : Z b = none := (o' b hAb).2.1
        have fz5 : Frozen Z m5 := fun i c hi => by
          rw [k5 i (z'.lt hi) (fun e => by rw [e, zb] at hi; cases hi)]
          exact z' i c hi
        have hol : (outT g).length = g.1.length + 1 := by unfold outT; rw [List.length_append]; rfl
        refine (step (stT key col xss).1.length _ m5 A1 (fun i => i = b) hj fz5 (fun i hi => ⟨by have := lA1 i hi; omega, (o' i (J.sub i hi)).2⟩) (fun i hi => by rw [hi]; exact ⟨by omega, (o' b hAb).2⟩) (fun i hi e => nAb (e ▸ hi)) (fun i hi => by have := (hF i hi).1; omega) trivial
          (lI _ m' m5 A1 hI (fun i hi => k5 i (lA1 i hi) fun e => nAb (e ▸ hi)) (by omega)) ⟨g, b, hat, by rw [hol], g5, fun i => Iff.rfl⟩).mono ?_
        rintro w m6 ⟨A2, d1, d2, hw⟩
        have z6 := d1.size
        have el : (totL key col xss).length = (stT key col xss).1.length + 1 := by rw [eT]; simp
        have fin : ChgS (fun i => A i ∨ F i) m m6 ∧ NewS A m m6 A2 := by
          refine ⟨⟨by omega, fun i hi hna => ?_⟩, fun i hi => ⟨(d2 i hi).1, ?_⟩⟩
          · have nA : ∀ x, A' x → i = x → False := fun x hx e => by
              subst e
              rcases outN i hx with h | h
              · exact hna (.inl h)
              · omega
            rw [d1.get i (by omega) (fun e => e.elim (fun h => nA i (J.sub i h) rfl) fun h => nA b hAb h), k5 i (by omega) (fun h => nA b hAb h), outC i hi hna]
          · rcases (d2 i hi).2 with (h | h) | h
            · exact outN i (J.sub i h)
            · rw [h]; exact outN b hAb
            · exact .inr (by omega)
        rcases hw with ⟨rfl, hI2⟩ | ⟨rfl, hD⟩
        · simp (decide := true) (implicitDefEqProofs := false) (maxDischargeDepth := 20) only [go_sem, el, ↓reduceIte, true_implies, false_implies]
          exact ⟨A2, fin.1, fin.2, .inl ⟨trivial, hI2⟩⟩
        · simp (decide := true) (implicitDefEqProofs := false) (maxDischargeDepth := 20) only [go_sem, el, ↓reduceIte, true_implies, false_implies]
          exact ⟨A2, fin.1, fin.2, .inr ⟨_, Nat.lt_succ_self _, trivial, hD⟩⟩
    · rintro k x m' A' hk z' o' - hx ⟨rfl, g, hg, A1, hD, hsub⟩ c1 c2
      have hlen : (stT key col (xss.take k)).1.length < (totL key col xss).length := by
        have := totL_at key col xss k g hg
        exact (List.getElem?_eq_some_iff.1 this).1
      simp (decide := true) (implicitDefEqProofs := false) (maxDischargeDepth := 20) only [go_sem, ↓reduceIte, true_implies, false_implies]
      refine ⟨A1, ⟨by have := c1.size; have := ho.size; omega, fun i hi hna => ?_⟩, fun i hi => ?_, .inr ⟨_, hlen, trivial, hD⟩⟩
      · rw [c1.get i (by omega) (by
          rintro ((h | h) | h)
          · exact hna (.inl h)
          · omega
          · exact hna (.inr h)), ho.get hi]
      · have := c2 i (hsub i hi)
        refine ⟨this.1, ?_⟩
        rcases this.2 with (h | h) | h
        · exact .inl h
        · exact .inr (by omega)
        · exact .inr (by omega)
end Go.Proofs.Ytjmppooebppecaa.W
