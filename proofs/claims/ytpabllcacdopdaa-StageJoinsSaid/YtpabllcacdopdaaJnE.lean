/-
  stage.found as an iterator.
-/
import Derived.Test.YtpabllcacdopdaaJnD
namespace Go.Proofs.Ytpabllcacdopdaa.W
open Go.Abs
set_option linter.unusedSimpArgs false
set_option linter.unusedVariables false

def hitR (col : Nat) (l xs : List HRow) (k : Nat) : Option HRow := hitJ (cmpR col) (stJ (cmpR col) l (xs.take (k + 1))) (xs.getD k noRow)

theorem stJ_in (cmp : HRow → HRow → Int) (l : List HRow) : ∀ xs : List HRow, ((stJ cmp l xs).there = true → (stJ cmp l xs).last ∈ l) ∧ ∀ y ∈ (stJ cmp l xs).left, y ∈ l := by
  have skip : ∀ (x : HRow) (L : List HRow), ((skipL cmp x L).2.2 = true → (skipL cmp x L).1 ∈ L) ∧ ∀ y ∈ (skipL cmp x L).2.1, y ∈ L := by
    intro x L
    induction L with
    | nil => exact ⟨fun h => (by cases h), fun y h => h⟩
    | cons z L ih =>
      unfold skipL
      split
      · exact ⟨fun h => List.mem_cons_of_mem _ (ih.1 h), fun y h => List.mem_cons_of_mem _ (ih.2 y h)⟩
      · exact ⟨fun _ => by simp, fun y h => List.mem_cons_of_mem _ h⟩
  intro xs
  refine snocInd (P := fun xs => ((stJ cmp l xs).there = true → (stJ cmp l xs).last ∈ l) ∧ ∀ y ∈ (stJ cmp l xs).left, y ∈ l) ⟨fun h => (by cases h), fun y h => h⟩ (fun xs x ih => ?_) xs
  rw [stJ_snoc]
  unfold stepJ
  split
  · have := skip x (stJ cmp l xs).left
    exact ⟨fun h => ih.2 _ (this.1 h), fun y h => ih.2 _ (this.2 y h)⟩
  · exact ih
theorem hitR_in {col : Nat} {l xs : List HRow} {k : Nat} {y : HRow} (h : hitR col l xs k = some y) : y ∈ l := by
  unfold hitR hitJ at h
  split at h
  · rename_i hc
    cases h
    exact (stJ_in _ _ _).1 hc.1
  · cases h

attribute [-go_sem] c_stage_found_1_7_at in
set_option maxRecDepth 100000 in
set_option maxHeartbeats 16000000 in
theorem FoundI {Z : Nat → Option Blk} {s pf : Value} {n col : Nat} {why : Int} {xs l : List HRow} {putL : List Int → List Int → List Int} (hxl : xs.length = n) (hll : l.length ≤ 1000000) (hcol : col ≤ 1000) (hs : ∀ Z', SubZ Z Z' → Iter E Z' none' s n anyO (pureEl (rowsEl xs))) (hxs : ∀ k, RowZ Z (xs.getD k noRow)) (hxn : ∀ k, (xs.getD k noRow).n ≤ 900) (hls : ∀ y ∈ l, RowZ Z y)
    {bc bi bn bw bp cb : Nat} (hc : Z bc = some (.cells false true [vI (col : Nat)])) (hi : Z bi = some (.cells false true [s])) (hn : Z bn = some (.cells false true [.func (.func F_flow_Cursor_Sint_1) #[] #[ptr cb]])) (hw : Z bw = some (.cells false true [vI why])) (hp : Z bp = some (.cells false true [pf])) (hput : ∀ Z', SubZ Z Z' → PutOk Z' pf putL) (hpf : ∃ g a b, pf = .func g a b) :
    Iter E Z (fun i => i = cb) (.func (.func F_stage_found_1) #[] #[ptr bc, ptr bi, ptr bn, ptr bw, ptr bp]) n (JO Z cb (cmpR col) l xs) (foundEl putL col why (hitR col l xs) xs) where
  fn := ⟨_, _, _, rfl⟩
  locO := fun k m m' h hk => h.keep (hk cb rfl)
  locE := foundEl_loc _ _ _ _ _
  go := by
    intro y hy I D lI lD step m A z o hF own0 i0
    obtain ⟨yf, ya, yc, rfl⟩ := hy
    obtain ⟨pg, pa, pb, rfl⟩ := hpf
    obtain ⟨sf, sa, sb, rfl⟩ := (hs Z fun _ _ h => h).fn
    have hcb := hF cb rfl
    rw [CallF_func]
    refine ⟨by simp only [go_sem], ?_⟩
    have e : (#[] ++ [Value.func yf ya yc].toArray ++ #[ptr bc, ptr bi, ptr bn, ptr bw, ptr bp] : Array Value) = [Value.func yf ya yc, ptr bc, ptr bi, ptr bn, ptr bw, ptr bp].toArray := by simp
    rw [e]
    refine .enter fn_stage_found_1 (by simp) ?_
    have ri := frozen_at z hi
    have rn := frozen_at z hn
    have ni : ¬ bi = m.size := by have := z.lt hi; omega
    have nn : ¬ bn = m.size := by have := z.lt hn; omega
    simp (decide := true) (implicitDefEqProofs := false) (maxDischargeDepth := 20) only [go_sem, ri, rn, ni, nn, ↓reduceIte, true_implies, false_implies]
    obtain ⟨yb, hyb⟩ : ∃ b, b = m.size := ⟨_, rfl⟩
    obtain ⟨m0, hm0⟩ : ∃ m0, m0 = m.push (.cells false true [Value.func yf ya yc]) := ⟨_, rfl⟩
    have gy0 : m0.get yb = some (.cells false true [Value.func yf ya yc]) := by rw [hm0, hyb, getM_push, if_pos rfl]
    have o0 : Old m m0 := by rw [hm0]; exact .push (.refl m) _
    have s0 : m0.size = m.size + 1 := by rw [hm0, size_push]
    rw [← hyb, ← hm0]
    clear hm0
    refine (Join_at).mono ?_
    rintro w m1 ⟨b1, b2, b3, rfl, c1, c2, c3, hb1, hb2, hb3, hbd, o1⟩
    simp (decide := true) (implicitDefEqProofs := false) (maxDischargeDepth := 20) only [go_sem, ↓reduceIte, true_implies, false_implies]
    simp only [c_stage_found_1_13_at, wpM_block, c_stage_found_1_12_at]
    have oo := o0.trans o1
    have gy1 := (o1.get (getM_lt gy0)).trans gy0
    let P : List (Nat × Blk) := [(yb, .cells false true [Value.func yf ya yc]), (b1, .cells false true [Value.func (.func sf) sa sb]), (b2, .cells false true [.func (.func F_flow_Cursor_Sint_1) #[] #[ptr cb]]), (b3, .cells false true [.func (.func F_stage_found_1_1) #[] #[ptr bc]])]
    have hP : ∀ p ∈ P, m.size ≤ p.1 ∧ m1.get p.1 = some p.2 := by
      intro p hp
      simp only [P, List.mem_cons, List.not_mem_nil, or_false] at hp
      rcases hp with rfl | rfl | rfl | rfl
      · exact ⟨by show m.size ≤ yb; omega, gy1⟩
      · exact ⟨by show m.size ≤ b1; omega, c1⟩
      · exact ⟨by show m.size ≤ b2; omega, c2⟩
      · exact ⟨by show m.size ≤ b3; omega, c3⟩
    have sub : SubZ Z (extZ Z P) := extZ_sub fun p hp => .inl (z.free (hP p hp).1)
    have zout : ∀ i, i < m.size → extZ Z P i = Z i := fun i hi => extZ_out fun p hp e => by have := (hP p hp).1; omega
    have z1y : extZ Z P yb = some (.cells false true [Value.func yf ya yc]) := extZ_in (by simp [P, List.lookup])
    have z1b1 : extZ Z P b1 = some (.cells false true [Value.func (.func sf) sa sb]) := extZ_in (by
      have e1 : (b1 == yb) = false := by rw [beq_eq_false_iff_ne]; omega
      simp [P, List.lookup, e1])
    have z1b2 : extZ Z P b2 = some (.cells false true [.func (.func F_flow_Cursor_Sint_1) #[] #[ptr cb]]) := extZ_in (by
      have e1 : (b2 == yb) = false := by rw [beq_eq_false_iff_ne]; omega
      have e2 : (b2 == b1) = false := by rw [beq_eq_false_iff_ne]; omega
      simp [P, List.lookup, e1, e2])
    have z1b3 : extZ Z P b3 = some (.cells false true [.func (.func F_stage_found_1_1) #[] #[ptr bc]]) := extZ_in (by
      have e1 : (b3 == yb) = false := by rw [beq_eq_false_iff_ne]; omega
      have e2 : (b3 == b1) = false := by rw [beq_eq_false_iff_ne]; omega
      have e3 : (b3 == b2) = false := by rw [beq_eq_false_iff_ne]; omega
      simp [P, List.lookup, e1, e2, e3])
    have zf1 : Frozen (extZ Z P) m1 := extZ_frozen (z.old oo) fun p hp => (hP p hp).2
    obtain ⟨Z', hZ'⟩ : ∃ Z', Z' = extZ Z P := ⟨_, rfl⟩
    rw [← hZ'] at sub zout z1y z1b1 z1b2 z1b3 zf1
    clear hZ'
    have it := JoinI (Z0 := Z) (Z := Z') (l := l) sub hxl hll (fun k => (hxs k).sub sub) hls (hs Z' sub) z1b1 z1b2 z1b3 (fun a b ha hb => Order_ok (col := col) (sub _ _ hc) hcol a b ha hb)
    have own1 : JO Z cb (cmpR col) l xs 0 m1 := own0.keep (oo.get hcb.1)
    refine wpM_rangeP (A := A) it (fun t => upd (upd t 8 (t 16)) 9 (t 17)) (by simp (decide := true) only [go_sem, ↓reduceIte]) rfl asg_stage_found_1_0 body_stage_found_1_0 (by decide) (fun K l t m h => by simp (decide := true) only [go_sem, ↓reduceIte]; exact h)
      I (fun k x m A => x = .ret ∧ D k m A) lI (fun k x m1 m2 A' h q r => ⟨h.1, lD k m1 m2 A' h.2 q r⟩) zf1 (fun i hi => ⟨Nat.lt_of_lt_of_le (o i hi).1 oo.size, by rw [zout i (o i hi).1]; exact (o i hi).2.1, (o i hi).2.2⟩) (fun i hi => by rw [hi]; exact ⟨Nat.lt_of_lt_of_le hcb.1 oo.size, by rw [zout cb hcb.1]; exact hcb.2⟩) own1
      (lI 0 m m1 A i0 (fun i hi => oo.get (o i hi).1) oo.size) ?_ ?_ ?_
    · rintro k vs m2 A' B lp hk z2 o1' o2' dis ow hI ⟨p, rfl, hm⟩ hin hms
      refine ⟨rfl, ?_⟩
      have zz2 := sub.frozen z2
      have hsz2 : m1.size ≤ m2.size := hms
      have oos := oo.size
      have hrow := (hxs k) m2 zz2
      have hrn := hxn k
      have hmem : ∀ y, hitR col l xs k = some y → RowZ Z' y := fun y h => (hls y (hitR_in h)).sub sub
      have hm' : match hitR col l xs k with
        | none => p = .pointer none
        | some y => ∃ b, p = ptr b ∧ m2.get b = some (.cells false true [y.v]) ∧ B b := hm
      clear hm
      have lA' : ∀ i, A' i → i < m2.size ∧ Z i = none ∧ ¬ i = cb := fun i hi => by
        refine ⟨(o1' i hi).1, ?_, (o1' i hi).2.2⟩
        cases hz : Z i with
        | none => rfl
        | some b =>
          have h2 := sub i b hz
          rw [(o1' i hi).2.1] at h2
          cases h2
      -- the yield
      have fin : ∀ (m5 : Mem) (a' : Option Addr) (xs' : List Int) (w : Int) (t' : Fr), Vec m2.size m5 1 a' xs'.length (xs'.map (.int .i64)) → m2.size ≤ m5.size → (∀ i, i < m2.size → m5.get i = m2.get i) → xs' = foundR putL (xs.getD k noRow) (hitR col l xs k) → w = foundW col why (xs.getD k noRow) (hitR col l xs k) → t' 8 = .slice a' xs'.length xs'.length → t' 10 = vI w → t' 6 = ptr yb →
          wpM E F_stage_found_1 44 (some lp) c_stage_found_1_7 (blockK 1 fun x x_1 m2_1 => ∃ A'_1, ChgS (fun i => A' i ∨ B i) m2 m2_1 ∧ NewS (fun i => A' i ∨ B i) m2 m2_1 A'_1 ∧ match x with
            | .normal => I (k + 1) m2_1 A'_1
            | x => (x = .ret ∨ ∃ i, x = .exit i) ∧ x = .ret ∧ D k m2_1 A'_1) t' m5 := by
        intro m5 a' xs' w t' V hs5 hk5 hx hw' e8 e10 e6
        have z5 : Frozen Z' m5 := fun i b hi => (hk5 i (z2.lt hi)).trans (z2 i b hi)
        have zz5 := sub.frozen z5
        have ry := frozen_at z5 z1y
        simp only [c_stage_found_1_7_at]
        simp (decide := true) (implicitDefEqProofs := false) (maxDischargeDepth := 20) only [go_sem, e6, e8, e10, ry, ↓reduceIte, true_implies, false_implies]
        have hBc : ∀ i, (∃ x, a' = some x ∧ i = x.block) → m2.size ≤ i ∧ i < m5.size := fun i ⟨x, hx, e⟩ => e ▸ ⟨(V.blk x hx).1, V.lt hx⟩
        refine CallF.step ((step k _ m5 A' (fun i => ∃ x, a' = some x ∧ i = x.block) hk zz5 (fun i hi => ⟨by have := (lA' i hi).1; omega, (lA' i hi).2⟩) (fun i hi => ⟨(hBc i hi).2, zz2.free (hBc i hi).1, fun e => by have := (hBc i hi).1; have : i = cb := e; omega⟩) (fun i hi h => by have := (lA' i hi).1; have := (hBc i h).1; omega) (fun i hi => by rw [hi]; omega) (ow.keep (hk5 cb (by omega))) (lI k m2 m5 A' hI (fun i hi => hk5 i (lA' i hi).1) hs5) ⟨a', by rw [← hx, ← hw'], by rw [← hx]; exact V.mono (Nat.zero_le _), fun _ => Iff.rfl⟩).mono ?_)
        rintro w m6 ⟨A2, k1, k2, hw⟩
        have k1s := k1.size
        have c26 : ChgS (fun i => A' i ∨ B i) m2 m6 := ⟨by omega, fun i hi hna => by rw [k1.get i (by omega) (by
            rintro (h | h)
            · exact hna (.inl h)
            · have := (hBc i h).1; omega), hk5 i hi]⟩
        have n26 : NewS (fun i => A' i ∨ B i) m2 m6 A2 := fun i hi => ⟨(k2 i hi).1, by
          rcases (k2 i hi).2 with (h | h) | h
          · exact .inl (.inl h)
          · exact .inr (hBc i h).1
          · exact .inr (by omega)⟩
        rcases hw with ⟨rfl, hI2⟩ | ⟨rfl, hD⟩
        · simp (decide := true) (implicitDefEqProofs := false) (maxDischargeDepth := 20) only [go_sem, ↓reduceIte, true_implies, false_implies]
          exact ⟨A2, c26, n26, hI2⟩
        · simp (decide := true) (implicitDefEqProofs := false) (maxDischargeDepth := 20) only [go_sem, ↓reduceIte, true_implies, false_implies]
          exact ⟨A2, c26, n26, .inl trivial, hD⟩
      have rw2 := frozen_at z2 (sub _ _ hw)
      have rp2 := frozen_at z2 (sub _ _ hp)
      have rc2 := frozen_at z2 (sub _ _ hc)
      have hrl := hrow.len
      have hfr : foundR putL (xs.getD k noRow) none = (xs.getD k noRow).xs := rfl
      generalize hR : xs.getD k noRow = row at *
      obtain ⟨rad, rn', rc', rxs⟩ := row
      simp only at hrl hrn hfr
      subst hrl
      simp (decide := true) (implicitDefEqProofs := false) (maxDischargeDepth := 20) only [go_sem, HRow.v, ↓reduceIte, true_implies, false_implies]
      refine (Clone_at hrow.sl (by simp only; omega)).mono ?_
      rintro w m3 ⟨a3, rfl, V3, o3⟩
      simp only at V3 ⊢
      have z3 := z2.old o3
      have rw3 := frozen_at z3 (sub _ _ hw)
      have rp3 := frozen_at z3 (sub _ _ hp)
      have rc3 := frozen_at z3 (sub _ _ hc)
      cases hh : hitR col l xs k with
      | none =>
        rw [hh] at hm' fin
        have hm' : p = .pointer none := hm'
        subst hm'
        by_cases hc5 : col = 5
        · have d5 : (((col : Nat) : Int) == 5) = true := by rw [hc5]; rfl
          simp (decide := true) (implicitDefEqProofs := false) (maxDischargeDepth := 20) only [go_sem, rw3, rc3, d5, ↓reduceIte, true_implies, false_implies]
          refine (At_at col V3.sl (by omega)).mono ?_
          rintro w m4 ⟨rfl, o4⟩
          have o24 := o3.trans o4
          by_cases h0 : rxs.getD 5 0 = 0
          · have d0 : (rxs.getD col 0 == 0) = true := by rw [hc5]; simpa using h0
            simp (decide := true) (implicitDefEqProofs := false) (maxDischargeDepth := 20) only [go_sem, d0, ↓reduceIte, true_implies, false_implies]
            exact fin m4 a3 rxs 0 _ (V3.old o4) o24.size (fun i hi => o24.get hi) rfl (by unfold foundW; exact (if_pos ⟨hc5, h0⟩).symm) (by simp (decide := true) only [go_sem, ↓reduceIte]) (by simp (decide := true) only [go_sem, ↓reduceIte]) (by simp (decide := true) only [go_sem, ↓reduceIte])
          · have d0 : (rxs.getD col 0 == 0) = false := by rw [hc5]; simpa using h0
            simp (decide := true) (implicitDefEqProofs := false) (maxDischargeDepth := 20) only [go_sem, d0, ↓reduceIte, true_implies, false_implies]
            exact fin m4 a3 rxs why _ (V3.old o4) o24.size (fun i hi => o24.get hi) rfl (by unfold foundW; exact (if_neg (fun h => h0 h.2)).symm) (by simp (decide := true) only [go_sem, ↓reduceIte]) (by simp (decide := true) only [go_sem, ↓reduceIte]) (by simp (decide := true) only [go_sem, ↓reduceIte])
        · have d5 : (((col : Nat) : Int) == 5) = false := by rw [beq_eq_false_iff_ne]; omega
          simp (decide := true) (implicitDefEqProofs := false) (maxDischargeDepth := 20) only [go_sem, rw3, rc3, d5, ↓reduceIte, true_implies, false_implies]
          exact fin m3 a3 rxs why _ V3 o3.size (fun i hi => o3.get hi) rfl (by unfold foundW; exact (if_neg (fun h => hc5 h.1)).symm) (by simp (decide := true) only [go_sem, ↓reduceIte]) (by simp (decide := true) only [go_sem, ↓reduceIte]) (by simp (decide := true) only [go_sem, ↓reduceIte])
      | some y =>
        rw [hh] at hm' fin
        obtain ⟨b, rfl, gb, hB⟩ := hm'
        have hyz := hmem y hh
        have rb3 : m3.at b 0 = some y.v := get_at0 ((o3.get (getM_lt gb)).trans gb)
        simp (decide := true) (implicitDefEqProofs := false) (maxDischargeDepth := 20) only [go_sem, rw3, rp3, rb3, nilOk, ↓reduceIte, true_implies, false_implies]
        refine CallF.step ((hput Z' sub m3 m2.size a3 rxs.length rxs y z3 hyz o3.size (by omega) V3).mono ?_)
        rintro w m4 ⟨a4, rfl, V4, s34, k4⟩
        simp (decide := true) (implicitDefEqProofs := false) (maxDischargeDepth := 20) only [go_sem, ↓reduceIte, true_implies, false_implies]
        refine fin m4 a4 (putL rxs y.xs) 0 _ V4 (by have := o3.size; omega) (fun i hi => (k4 i hi).trans (o3.get hi)) rfl rfl ?_ ?_ ?_ <;> simp (decide := true) only [go_sem, ↓reduceIte]
    · rintro m' A' z' o' ow hI c1' c2'
      have oos := oo.size
      simp (decide := true) (implicitDefEqProofs := false) (maxDischargeDepth := 20) only [go_sem, ↓reduceIte, true_implies, false_implies]
      refine ⟨A', ⟨by have := c1'.size; omega, fun i hi hna => by rw [c1'.get i (by omega) hna, oo.get hi]⟩, fun i hi => ⟨(c2' i hi).1, (c2' i hi).2.imp id fun h => by omega⟩, .inl ⟨ow, hI⟩⟩
    · rintro k x m' A' hk z' o' ow hx ⟨rfl, hD⟩ c1' c2'
      have oos := oo.size
      simp (decide := true) (implicitDefEqProofs := false) (maxDischargeDepth := 20) only [go_sem, ↓reduceIte, true_implies, false_implies]
      refine ⟨A', ⟨by have := c1'.size; omega, fun i hi hna => by rw [c1'.get i (by omega) hna, oo.get hi]⟩, fun i hi => ⟨(c2' i hi).1, (c2' i hi).2.imp id fun h => by omega⟩, .inr ⟨k, hk, ow, hD⟩⟩
end Go.Proofs.Ytpabllcacdopdaa.W
