/-
  Join: asking on.
-/
import Derived.Test.YtpabllcacdopdaaJnA
namespace Go.Proofs.Ytpabllcacdopdaa.W
open Go.Abs
set_option linter.unusedSimpArgs false
set_option linter.unusedVariables false

/-- A join's boxes. -/
structure JB (Z : Nat → Option Blk) (lb ab tb cb : Nat) (s : JS) (m : Mem) : Prop where
  l : m.get lb = some (.cells false true [s.last.v])
  a : m.get ab = some (.cells false true [.bool s.asked])
  t : m.get tb = some (.cells false true [.bool s.there])
  c : CurAt Z cb s.left m
  r : RowZ Z s.last ∧ ∀ y ∈ s.left, RowZ Z y

theorem JB.keep {Z : Nat → Option Blk} {lb ab tb cb : Nat} {s : JS} {m m' : Mem} (h : JB Z lb ab tb cb s m) (k : ∀ i, i = lb ∨ i = ab ∨ i = tb ∨ i = cb → m'.get i = m.get i) : JB Z lb ab tb cb s m' :=
  ⟨(k _ (.inl rfl)).trans h.l, (k _ (.inr (.inl rfl))).trans h.a, (k _ (.inr (.inr (.inl rfl)))).trans h.t, h.c.keep (k _ (.inr (.inr (.inr rfl)))), h.r⟩
theorem CurAt.lt {Z : Nat → Option Blk} {b : Nat} {l : List HRow} {m : Mem} (h : CurAt Z b l m) : b < m.size := by
  obtain ⟨a, c, hc, _⟩ := h
  exact getM_lt hc
theorem JB.old {Z : Nat → Option Blk} {lb ab tb cb : Nat} {s : JS} {m m' : Mem} (h : JB Z lb ab tb cb s m) (o : Old m m') : JB Z lb ab tb cb s m' :=
  h.keep fun i hi => o.get (by rcases hi with rfl | rfl | rfl | rfl <;> first | exact getM_lt h.l | exact getM_lt h.a | exact getM_lt h.t | exact h.c.lt)

theorem stepJ_next (cmp : HRow → HRow → Int) (s : JS) (x : HRow) (h : s.asked = false ∨ (s.there = true ∧ cmp x s.last > 0)) : stepJ cmp ⟨true, !s.left.isEmpty, s.left.headD noRow, s.left.tail⟩ x = stepJ cmp s x := by
  unfold stepJ
  rw [if_pos h]
  cases hl : s.left with
  | nil => simp [skipL]
  | cons y l =>
    simp only [List.isEmpty_cons, Bool.not_false, List.headD_cons, List.tail_cons, Bool.true_eq_false, false_or, true_and, skipL]
    by_cases hc : cmp x y > 0
    · rw [if_pos hc, if_pos hc]
    · rw [if_neg hc, if_neg hc]

def msJ (s : JS) : Nat := 2 * s.left.length + if s.asked = false ∨ s.there = true then 1 else 0

set_option maxRecDepth 100000 in
set_option maxHeartbeats 4000000 in
theorem Join_skip {Z0 Z : Nat → Option Blk} {lb ab tb cb bn bc l : Nat} {f : Fn} {fa fb : Array Value} {cmp : HRow → HRow → Int} {s : JS} {x : HRow} {m : Mem} {t : Fr} (H : JB Z0 lb ab tb cb s m) (z : Frozen Z m) (h0 : SubZ Z0 Z) (zn : ∀ i, i = lb ∨ i = ab ∨ i = tb ∨ i = cb → Z i = none)
    (d1 : lb ≠ ab) (d2 : lb ≠ tb) (d3 : lb ≠ cb) (d4 : ab ≠ tb) (d5 : ab ≠ cb) (d6 : tb ≠ cb) (hl : s.left.length ≤ 1000000) (hx : RowZ Z x)
    (hbn : Z bn = some (.cells false true [.func (.func F_flow_Cursor_Sint_1) #[] #[ptr cb]])) (hbc : Z bc = some (.cells false true [.func f fa fb])) (hc : ∀ a b, RowZ Z a → RowZ Z b → PureF E Z (.func f fa fb) [a.v, b.v] (vI (cmp a b)))
    (t2 : t 2 = ptr bc) (t3 : t 3 = ptr bn) (t5 : t 5 = ptr lb) (t6 : t 6 = ptr ab) (t7 : t 7 = ptr tb) (t8 : t 8 = x.v) {K : Post3}
    (hK : ∀ t' m', Agree (writes c_flow_Join_Sint_Sint_1_6) t t' → JB Z0 lb ab tb cb (stepJ cmp s x) m' → ChgS (fun i => i = lb ∨ i = ab ∨ i = tb ∨ i = cb) m m' → Frozen Z m' → K .normal t' m') :
    wpM E F_flow_Join_Sint_Sint_1 44 (some l) c_flow_Join_Sint_Sint_1_6 K t m := by
  refine wpM_cut (fun t' m' => JB Z0 lb ab tb cb (stepJ cmp s x) m' ∧ ChgS (fun i => i = lb ∨ i = ab ∨ i = tb ∨ i = cb) m m' ∧ Frozen Z m') ?_ fun t' m' hag ⟨h1, h2, h3⟩ => hK t' m' hag h1 h2 h3
  simp only [c_flow_Join_Sint_Sint_1_6_at, wpM_block, c_flow_Join_Sint_Sint_1_5_at]
  refine wpM_loopA (fun j t' m' => ∃ s', j = msJ s' ∧ JB Z0 lb ab tb cb s' m' ∧ stepJ cmp s' x = stepJ cmp s x ∧ s'.left.length ≤ s.left.length ∧ ChgS (fun i => i = lb ∨ i = ab ∨ i = tb ∨ i = cb) m m' ∧ Frozen Z m') (msJ s) ⟨s, rfl, H, rfl, Nat.le_refl _, .refl _ _, z⟩ ?_
  rintro j t' m' hag ⟨s', rfl, H', hst, hle, hch, z'⟩
  have b2 := (hag 2 (by decide +kernel)).trans t2
  have b3 := (hag 3 (by decide +kernel)).trans t3
  have b5 := (hag 5 (by decide +kernel)).trans t5
  have b6 := (hag 6 (by decide +kernel)).trans t6
  have b7 := (hag 7 (by decide +kernel)).trans t7
  have b8 := (hag 8 (by decide +kernel)).trans t8
  have ra := get_at0 H'.a
  have rt := get_at0 H'.t
  have rl := get_at0 H'.l
  have rc := frozen_at z' hbc
  -- one more answer
  have fin : ∀ (m1 m2 : Mem), Old m' m1 → (s'.asked = false ∨ (s'.there = true ∧ cmp x s'.last > 0)) → CurAt Z0 cb s'.left.tail m2 → ChgS (fun i => i = cb) m1 m2 → m2.size = m1.size → ∀ X Y W : Blk, X = .cells false true [(s'.left.headD noRow).v] → Y = .cells false true [.bool (!s'.left.isEmpty)] → W = .cells false true [.bool true] →
      ∃ j, j < msJ s' ∧ ∃ s', j = msJ s' ∧ JB Z0 lb ab tb cb s' (((m2.put lb (some X)).put tb (some Y)).put ab (some W)) ∧ stepJ cmp s' x = stepJ cmp s x ∧ s'.left.length ≤ s.left.length ∧ ChgS (fun i => i = lb ∨ i = ab ∨ i = tb ∨ i = cb) m (((m2.put lb (some X)).put tb (some Y)).put ab (some W)) ∧ Frozen Z (((m2.put lb (some X)).put tb (some Y)).put ab (some W)) := by
    rintro m1 m2 o1 hcond hcur hch2 hsz X Y W rfl rfl rfl
    have z1 := z'.old o1
    have H1 := H'.old o1
    have ll : lb < m2.size := by have := getM_lt H1.l; omega
    have la : ab < m2.size := by have := getM_lt H1.a; omega
    have lt : tb < m2.size := by have := getM_lt H1.t; omega
    refine ⟨msJ ⟨true, !s'.left.isEmpty, s'.left.headD noRow, s'.left.tail⟩, ?_, ⟨true, !s'.left.isEmpty, s'.left.headD noRow, s'.left.tail⟩, rfl, ⟨?_, ?_, ?_, ?_, ?_⟩, (stepJ_next cmp s' x hcond).trans hst, ?_, ?_, ?_⟩
    · unfold msJ
      have h1 : (if s'.asked = false ∨ s'.there = true then 1 else 0) = 1 := if_pos (hcond.imp id And.left)
      rw [h1]
      cases hl : s'.left with
      | nil => simp
      | cons y l => simp
    · rw [getM_put, if_neg (fun e => d1 e.1), getM_put, if_neg (fun e => d2 e.1), getM_put, if_pos ⟨rfl, ll⟩]
    · rw [getM_put, if_pos ⟨rfl, by rw [size_put, size_put]; exact la⟩]
    · rw [getM_put, if_neg (fun e => d4 e.1.symm), getM_put, if_pos ⟨rfl, by rw [size_put]; exact lt⟩]
    · refine hcur.keep ?_
      rw [getM_put, if_neg (fun e => d5 e.1.symm), getM_put, if_neg (fun e => d6 e.1.symm), getM_put, if_neg (fun e => d3 e.1.symm)]
    · refine ⟨?_, fun y hy => H'.r.2 y (List.mem_of_mem_tail hy)⟩
      cases hl : s'.left with
      | nil => exact fun m _ => noRow_at m
      | cons y l => exact H'.r.2 y (by rw [hl]; simp)
    · simp only [List.length_tail]; omega
    · have c2 : ChgS (fun i => i = lb ∨ i = ab ∨ i = tb ∨ i = cb) m m2 := (hch.trans (o1.chg none') (C := fun i => i = lb ∨ i = ab ∨ i = tb ∨ i = cb) (fun _ h => h) (fun _ _ h => h.elim)).trans hch2 (fun _ h => h) (fun _ _ h => .inr (.inr (.inr h)))
      exact ((c2.put _ _ (.inl (.inl rfl))).put _ _ (.inl (.inr (.inr (.inl rfl))))).put _ _ (.inl (.inr (.inl rfl)))
    · have z2 : Frozen Z m2 := z1.chg hch2 fun i hi => zn i (.inr (.inr (.inr hi)))
      exact ((z2.put (zn lb (.inl rfl)) _).put (zn tb (.inr (.inr (.inl rfl)))) _).put (zn ab (.inr (.inl rfl))) _
  have next : ∀ m1, Old m' m1 → CallQ E F_flow_Cursor_Sint_1 #[ptr cb] m1 fun w m2 => w = .tuple #[(s'.left.headD noRow).v, .bool (!s'.left.isEmpty)] ∧ CurAt Z0 cb s'.left.tail m2 ∧ ChgS (fun i => i = cb) m1 m2 ∧ m2.size = m1.size := by
    intro m1 o1
    obtain ⟨_, nx⟩ := Next_at (H'.old o1).c (h0.frozen (z'.old o1)) (by omega)
    have e : (#[] ++ ([] : List Value).toArray ++ #[ptr cb] : Array Value) = #[ptr cb] := by simp
    rw [e] at nx
    exact nx
  have keep : ∀ m1 m2, Old m' m1 → ChgS (fun i => i = cb) m1 m2 → m2.size = m1.size → m2.get lb = some (.cells false true [s'.last.v]) ∧ m2.get ab = some (.cells false true [.bool s'.asked]) ∧ m2.get tb = some (.cells false true [.bool s'.there]) ∧ lb < m2.size ∧ ab < m2.size ∧ tb < m2.size := by
    intro m1 m2 o1 hch2 hsz
    have H1 := H'.old o1
    have g1 : ∀ i, i ≠ cb → m2.get i = m1.get i := fun i hi => by
      by_cases h : i < m1.size
      · exact hch2.get i h hi
      · rw [getM_none h, getM_none (by omega)]
    exact ⟨(g1 lb d3).trans H1.l, (g1 ab d5).trans H1.a, (g1 tb d6).trans H1.t, by have := getM_lt H1.l; omega, by have := getM_lt H1.a; omega, by have := getM_lt H1.t; omega⟩
  have stay : s'.asked = true → ¬ (s'.there = true ∧ cmp x s'.last > 0) → s' = stepJ cmp s x := fun h1 h2 => by
    rw [← hst]
    unfold stepJ
    rw [if_neg]
    rintro (h | h)
    · rw [h1] at h; cases h
    · exact h2 h
  cases hak : s'.asked with
  | false =>
    rw [hak] at ra
    have rn := frozen_at z' hbn
    simp (decide := true) (implicitDefEqProofs := false) (maxDischargeDepth := 20) only [go_sem, HRow.v, b3, b6, ra, rn, ↓reduceIte, true_implies, false_implies]
    refine (next _ (.refl _)).mono ?_
    rintro w m2 ⟨rfl, hcur, hch2, hsz⟩
    obtain ⟨gl, ga, gt, ll, la, lt⟩ := keep _ m2 (.refl _) hch2 hsz
    simp (decide := true) (implicitDefEqProofs := false) (maxDischargeDepth := 20) only [go_sem, HRow.v, b5, b6, b7, gl, ga, gt, ll, la, lt, d1, d2, d4, d1.symm, d2.symm, d4.symm, ↓reduceIte, true_implies, false_implies]
    exact fin _ m2 (.refl _) (.inl hak) hcur hch2 hsz _ _ _ rfl rfl rfl
  | true =>
    rw [hak] at ra
    cases hth : s'.there with
    | false =>
      rw [hth] at rt
      simp (decide := true) (implicitDefEqProofs := false) (maxDischargeDepth := 20) only [go_sem, HRow.v, b6, b7, ra, rt, ↓reduceIte, true_implies, false_implies]
      have := stay hak (fun h => by rw [hth] at h; cases h.1)
      rw [← this]
      exact ⟨H', hch, z'⟩
    | true =>
      rw [hth] at rt
      simp (decide := true) (implicitDefEqProofs := false) (maxDischargeDepth := 20) only [go_sem, HRow.v, b2, b5, b6, b7, b8, ra, rt, rl, rc, ↓reduceIte, true_implies, false_implies]
      refine CallF.step ((hc x s'.last hx (H'.r.1.sub h0) m' z').mono ?_)
      rintro w m1 ⟨rfl, o1⟩
      by_cases hgt : cmp x s'.last > 0
      · have dg : decide (cmp x s'.last > 0) = true := by simpa using hgt
        have rn := frozen_at (z'.old o1) hbn
        simp (decide := true) (implicitDefEqProofs := false) (maxDischargeDepth := 20) only [go_sem, HRow.v, b3, dg, rn, ↓reduceIte, true_implies, false_implies]
        refine (next _ o1).mono ?_
        rintro w m2 ⟨rfl, hcur, hch2, hsz⟩
        obtain ⟨gl, ga, gt, ll, la, lt⟩ := keep _ m2 o1 hch2 hsz
        simp (decide := true) (implicitDefEqProofs := false) (maxDischargeDepth := 20) only [go_sem, HRow.v, b5, b6, b7, gl, ga, gt, ll, la, lt, d1, d2, d4, d1.symm, d2.symm, d4.symm, ↓reduceIte, true_implies, false_implies]
        exact fin _ m2 o1 (.inr ⟨hth, hgt⟩) hcur hch2 hsz _ _ _ rfl rfl rfl
      · have dg : decide (cmp x s'.last > 0) = false := by simpa using hgt
        simp (decide := true) (implicitDefEqProofs := false) (maxDischargeDepth := 20) only [go_sem, HRow.v, dg, ↓reduceIte, true_implies, false_implies]
        have := stay hak (fun h => hgt h.2)
        rw [← this]
        exact ⟨H'.old o1, hch.trans (o1.chg none') (fun _ h => h) (fun _ _ h => h.elim), z'.old o1⟩
end Go.Proofs.Ytpabllcacdopdaa.W
