/-
  Rows compared; the list of a total.
-/
import Derived.Test.YtjmppooebppecaaSumB
import Derived.Test.YtjmppooebppecaaBookI
import Derived.Test.YtjmppooebppecaaCodeLaw2
namespace Go.Proofs.Ytjmppooebppecaa.W
open Go.Abs
set_option linter.unusedSimpArgs false
set_option linter.unusedVariables false

set_option maxRecDepth 100000 in
set_option maxHeartbeats 4000000 in
theorem Rows_at {m : Mem} {a b : Option Addr} {n n' c c' : Nat} {rs qs : List HRow} (h : SlA m 1 a n c (rs.map HRow.v)) (k : SlA m 1 b n' c' (qs.map HRow.v)) (hr : ∀ r ∈ rs, r.At m ∧ r.n ≤ 1000000) (hq : ∀ r ∈ qs, r.At m ∧ r.n ≤ 1000000) (hn : n ≤ 1000000) (hn' : n' ≤ 1000000) :
    CallQ E F_sheafkeep_Rows [.slice a n c, .slice b n' c'].toArray m fun w m' => w = .bool (decide (rs.map HRow.xs = qs.map HRow.xs)) ∧ Old m m' := by
  refine .enter fn_sheafkeep_Rows (by simp) ?_
  have hl : rs.length = n := by have := h.len; simpa using this
  have kl : qs.length = n' := by have := k.len; simpa using this
  by_cases hne : n = n'
  · subst hne
    have d0 : ((n : Int) != (n : Int)) = false := by simp
    simp (decide := true) (implicitDefEqProofs := false) (maxDischargeDepth := 20) only [go_sem, ↓reduceIte, d0, true_implies, false_implies]
    simp only [c_sheafkeep_Rows_13_at, wpM_block, c_sheafkeep_Rows_12_at]
    refine wpM_loopA (fun j t' m' => ∃ i : Nat, i ≤ n ∧ j = n - i ∧ t' 13 = .int .i64 (i : Nat) ∧ Old m m' ∧ (rs.map HRow.xs).take i = (qs.map HRow.xs).take i) n ⟨0, by omega, rfl, by simp (decide := true) only [go_sem, ↓reduceIte]; try rfl, .refl m, by simp⟩ ?_
    rintro j t' m' ha ⟨i, hi, rfl, e13, o, hp⟩
    have a0 := ha 0 (by decide +kernel)
    have a1 := ha 1 (by decide +kernel)
    have a12 := ha 12 (by decide +kernel)
    simp (decide := true) only [go_sem, ↓reduceIte] at a0 a1 a12
    by_cases hlt : i < n
    · have d1 : decide ((i : Int) < (n : Int)) = true := by simp; omega
      have w1 : IntKind.wrap .i64 ((i : Int) + 1) = ((i + 1 : Nat) : Int) := by rw [wrap_i64_id _ (by omega) (by omega)]; omega
      have z0 : (0 : Int) ≤ (i : Int) := by omega
      have z1 : (i : Int) < (n : Int) := by omega
      obtain ⟨b1, o1, s1, rfl⟩ := h.addr (by omega)
      obtain ⟨b2, o2, s2, rfl⟩ := k.addr (by omega)
      have r1 : m'.at b1 (o1 + i) = some (HRow.v rs[i]) := (h.old o).at_map hlt
      have r2 : m'.at b2 (o2 + i) = some (HRow.v qs[i]) := (k.old o).at_map hlt
      have A1 := hr rs[i] (List.getElem_mem _)
      have A2 := hq qs[i] (List.getElem_mem _)
      have t1 : (rs.map HRow.xs).take (i + 1) = (rs.map HRow.xs).take i ++ [rs[i].xs] := by rw [List.take_succ_eq_append_getElem (by simpa using (show i < rs.length by omega)), List.getElem_map]
      have t2 : (qs.map HRow.xs).take (i + 1) = (qs.map HRow.xs).take i ++ [qs[i].xs] := by rw [List.take_succ_eq_append_getElem (by simpa using (show i < qs.length by omega)), List.getElem_map]
      have hx1 : (rs.map HRow.xs)[i]? = some rs[i].xs := by simp [List.getElem?_eq_getElem (show i < rs.length by omega)]
      have hx2 : (qs.map HRow.xs)[i]? = some qs[i].xs := by simp [List.getElem?_eq_getElem (show i < qs.length by omega)]
      generalize rs[i] = r at *
      generalize qs[i] = q at *
      obtain ⟨ra, rn, rc, rx⟩ := r
      obtain ⟨qa, qn, qc, qx⟩ := q
      have r1 : m'.at b1 (o1 + i) = some (.slice ra rn rc) := r1
      have r2 : m'.at b2 (o2 + i) = some (.slice qa qn qc) := r2
      simp (decide := true) (implicitDefEqProofs := false) (maxDischargeDepth := 20) only [go_sem, ↓reduceIte, a0, a1, a12, e13, d1, z0, z1, r1, r2, Int.toNat_natCast, true_implies, false_implies]
      refine (SameI (A1.1.sl.old o) (A2.1.sl.old o) (by have := A1.2; simp only at this ⊢; omega) (by have := A2.2; simp only at this ⊢; omega)).mono ?_
      rintro w m2 ⟨rfl, o3⟩
      simp only at t1 t2 hx1 hx2 ⊢
      by_cases he : rx = qx
      · have dd : decide (rx = qx) = true := by simpa using he
        rw [dd]
        simp (decide := true) (implicitDefEqProofs := false) (maxDischargeDepth := 20) only [go_sem, ↓reduceIte, a0, a1, a12, e13, w1, true_implies, false_implies]
        exact ⟨n - (i + 1), by omega, i + 1, by omega, rfl, rfl, o.trans o3, by rw [t1, t2, hp, he]⟩
      · have dd : decide (rx = qx) = false := by simpa using he
        rw [dd]
        have hf : decide (rs.map HRow.xs = qs.map HRow.xs) = false := by
          simp only [decide_eq_false_iff_not]
          intro e
          rw [e, hx2] at hx1
          exact he (Option.some.inj hx1).symm
        simp (decide := true) (implicitDefEqProofs := false) (maxDischargeDepth := 20) only [go_sem, ↓reduceIte, a0, a1, a12, e13, hf, true_implies, false_implies]
        exact o.trans o3
    · have d1 : decide ((i : Int) < (n : Int)) = false := by simp; omega
      rw [List.take_of_length_le (by simp; omega), List.take_of_length_le (by simp; omega)] at hp
      have hf : decide (rs.map HRow.xs = qs.map HRow.xs) = true := by simpa using hp
      simp (decide := true) (implicitDefEqProofs := false) (maxDischargeDepth := 20) only [go_sem, ↓reduceIte, a0, a1, a12, e13, d1, hf, true_implies, false_implies]
      exact o
  · have d0 : ((n : Int) != (n' : Int)) = true := by simp; omega
    have hf : decide (rs.map HRow.xs = qs.map HRow.xs) = false := by
      simp only [decide_eq_false_iff_not]
      intro e
      have := congrArg List.length e
      simp at this
      omega
    simp (decide := true) (implicitDefEqProofs := false) (maxDischargeDepth := 20) only [go_sem, ↓reduceIte, d0, hf, true_implies, false_implies]

theorem sla_but {m m' : Mem} {sz : Nat} {l : List Nat} {a : Option Addr} {n c : Nat} {xs : List Value} (h : SlA m sz a n c xs) (z : Frozen (butL m l) m') (hn : ∀ b, a = some b → xs ≠ [] → b.block ∉ l) : SlA m' sz a n c xs := h.keep fun b hb hx => by
  obtain ⟨ro, tg, cs, g, _⟩ := (h.rows b hb hx).blk
  rw [g]
  exact z _ _ (butL_at g (hn b hb hx))
theorem row_but {m m' : Mem} {l : List Nat} {r : HRow} (h : r.At m) (z : Frozen (butL m l) m') (hn : ∀ b, r.ad = some b → r.xs ≠ [] → b.block ∉ l) : r.At m' := ⟨sla_but h.sl z fun b hb hx => hn b hb (by simpa using hx), h.len, h.bd⟩

/-- A list of rows in a box that grows. -/
structure ListJ (B0 ob : Nat) (xss : List (List Int)) (m : Mem) (A : Set') (ag : Option Addr) (gs : List HRow) : Prop where
  box : cap1 m ob (.slice ag gs.length gs.length)
  vec : Vec B0 m 1 ag gs.length (gs.map HRow.v)
  xs : gs.map HRow.xs = xss
  row : ∀ g ∈ gs, g.At m
  blk : ∀ g ∈ gs, ∀ x, g.ad = some x → A x.block ∧ x.block ≠ ob ∧ ∀ y, ag = some y → x.block ≠ y.block
  own : ∀ y, ag = some y → A y.block ∧ y.block ≠ ob
  ao : A ob
theorem ListJ.loc (B0 ob : Nat) (xss : List (List Int)) : LocP fun m A => ∃ ag gs, ListJ B0 ob xss m A ag gs := by
  rintro m m' A ⟨ag, gs, h⟩ hk hs
  exact ⟨ag, gs, (hk _ h.ao).trans h.box, h.vec.keep fun x hx => hk _ (h.own x hx).1, h.xs, fun g hg => (h.row g hg).keep fun x hx _ => hk _ (h.blk g hg x hx).1, h.blk, h.own, h.ao⟩

/-- A row more. -/
theorem ListJ.more {B0 ob : Nat} {xss : List (List Int)} {m m5 m6 : Mem} {A B : Set'} {ag : Option Addr} {gs : List HRow} (J : ListJ B0 ob xss m A ag gs) {r : HRow} (hr : r.At m) (hlA : ∀ i, A i → i < m.size) (hlB : ∀ i, B i → i < m.size) (dis : ∀ i, A i → ¬ B i) (hrB : ∀ x, r.ad = some x → B x.block)
    {b5 : Nat} {s5 : Option Nat} (v5 : Vec B0 m5 1 (some ⟨b5, 0, s5⟩) (gs.length + 1) (gs.map HRow.v ++ [r.v])) (k5 : KeepA ag m m5) (hb5 : m.size ≤ b5) (h6 : m6 = m5.put ob (some (.cells false true [.slice (some ⟨b5, 0, s5⟩) (gs.length + 1) (gs.length + 1)]))) :
    ListJ B0 ob (xss ++ [r.xs]) m6 (fun i => (A i ∨ B i) ∨ i = b5) (some ⟨b5, 0, s5⟩) (gs ++ [r]) ∧ Trs (fun i => A i ∨ B i) m m6 (fun i => (A i ∨ B i) ∨ i = b5) := by
  have lo := hlA _ J.ao
  have s45 := k5.1
  have s6 : m6.size = m5.size := by rw [h6, size_put]
  have l5 : b5 < m5.size := v5.lt rfl
  have g6 : ∀ i, i ≠ ob → m6.get i = m5.get i := fun i h2 => by rw [h6, getM_put, if_neg (fun e => h2 e.1)]
  have g61 : ∀ i, i < m.size → i ≠ ob → (∀ y, ag = some y → i ≠ y.block) → m6.get i = m.get i := fun i h1 h2 h3 => by rw [g6 i h2, k5.2 i h1 h3]
  refine ⟨⟨?_, ?_, ?_, ?_, ?_, ?_, .inl (.inl J.ao)⟩, ⟨⟨by omega, fun i hi hna => g61 i hi (fun e => hna (.inl (e ▸ J.ao))) fun y hy e => hna (.inl (e ▸ (J.own y hy).1))⟩, fun i hi => ?_⟩⟩
  · unfold cap1
    rw [h6, getM_put, if_pos ⟨rfl, by omega⟩, List.length_append]
    rfl
  · rw [List.length_append, List.map_append]
    exact v5.keep fun x hx => by cases hx; exact g6 _ (by show b5 ≠ ob; omega)
  · rw [List.map_append, J.xs]
    rfl
  · intro g hg
    rcases List.mem_append.1 hg with hg | hg
    · exact (J.row g hg).keep fun x hx _ => by
        obtain ⟨h1, h2, h3⟩ := J.blk g hg x hx
        exact g61 _ (hlA _ h1) h2 h3
    · rw [List.mem_singleton.1 hg]
      exact hr.keep fun x hx _ => g61 _ (hlB _ (hrB x hx)) (fun e => dis _ J.ao (e ▸ hrB x hx)) fun y hy e => dis _ (J.own y hy).1 (e ▸ hrB x hx)
  · intro g hg x hx
    rcases List.mem_append.1 hg with hg | hg
    · obtain ⟨h1, h2, h3⟩ := J.blk g hg x hx
      exact ⟨.inl (.inl h1), h2, fun y hy => by cases hy; have := hlA _ h1; show x.block ≠ b5; omega⟩
    · rw [List.mem_singleton.1 hg] at hx
      have hb := hrB x hx
      exact ⟨.inl (.inr hb), fun e => dis _ J.ao (e ▸ hb), fun y hy => by cases hy; have := hlB _ hb; show x.block ≠ b5; omega⟩
  · intro y hy
    cases hy
    exact ⟨.inr rfl, by show b5 ≠ ob; omega⟩
  · rcases hi with (hi | hi) | rfl
    · exact ⟨by have := hlA i hi; omega, .inl (.inl hi)⟩
    · exact ⟨by have := hlB i hi; omega, .inl (.inr hi)⟩
    · exact ⟨by omega, .inr hb5⟩

set_option maxRecDepth 100000 in
set_option maxHeartbeats 4000000 in
theorem STotal_at {m : Mem} {sf : Fn} {sa sb : Array Value} {ka : Option Addr} {kn kc : Nat} {col : Nat} : CallQ E F_sums_Total [.func sf sa sb, natV col, .slice ka kn kc].toArray m fun w m' => ∃ b1 b2 b3, w = .func (.func F_sums_Total_1) #[] #[ptr b1, ptr b2, ptr b3] ∧ cap1 m' b1 (.func sf sa sb) ∧ cap1 m' b2 (.slice ka kn kc) ∧ cap1 m' b3 (natV col) ∧ m.size ≤ b1 ∧ m.size ≤ b2 ∧ m.size ≤ b3 ∧ Old m m' := by
  refine .enter fn_sums_Total (by simp) ?_
  simp (decide := true) (implicitDefEqProofs := false) (maxDischargeDepth := 20) only [go_sem, ↓reduceIte, true_implies, false_implies]
  refine ⟨m.size, m.size + (1 + 1), m.size + 1, rfl, ?_, ?_, ?_, by omega, by omega, by omega⟩
  · unfold cap1; rw [getM_push, if_neg (by simp only [size_push]; omega), getM_push, if_neg (by simp), getM_push, if_pos rfl]
  · unfold cap1; rw [getM_push, if_pos (by simp)]
  · unfold cap1; rw [getM_push, if_neg (by simp), getM_push, if_pos (by simp)]
end Go.Proofs.Ytjmppooebppecaa.W
