/-
  Cursor, Join. Join: asking on. Join. stage.found: what another file has.
-/
import Derived.Test.YtpabllcacdopdaaStgA
import Derived.Test.YtpabllcacdopdaaAbs28
import Derived.Test.YtpabllcacdopdaaCodeWide
import Derived.Test.YtpabllcacdopdaaSrtA
namespace Go.Proofs.Ytpabllcacdopdaa.W
open Go.Abs
set_option linter.unusedSimpArgs false
set_option linter.unusedVariables false


/-! ### JnA -/

def PureF (E : Env) (Z : Nat → Option Blk) (f : Value) (a : List Value) (v : Value) : Prop := ∀ m, Frozen Z m → CallF E f a m fun w m' => w = v ∧ Old m m'
theorem callF_of {E : Env} {g : FuncId} {cap : Array Value} {ys : List Value} {l : List Value} {m : Mem} {K : Value → Mem → Prop} (hs : (E.fn g).isSome = true) (e : #[] ++ ys.toArray ++ cap = l.toArray) (h : CallQ E g l.toArray m K) : CallF E (.func (.func g) #[] cap) ys m K := by
  rw [CallF_func, e]
  exact ⟨hs, h⟩
theorem snocInd {α : Type} {P : List α → Prop} (h0 : P []) (h1 : ∀ xs x, P xs → P (xs ++ [x])) (xs : List α) : P xs := by
  rw [← List.reverse_reverse xs]
  induction xs.reverse with
  | nil => exact h0
  | cons x t ih => rw [List.reverse_cons]; exact h1 _ _ ih
/-- A row that stays. -/
def RowZ (Z : Nat → Option Blk) (r : HRow) : Prop := ∀ m, Frozen Z m → r.At m

theorem RowZ.sub {Z0 Z : Nat → Option Blk} {r : HRow} (h : RowZ Z0 r) (h0 : SubZ Z0 Z) : RowZ Z r := fun m z => h m (h0.frozen z)

theorem Cursor_at {m : Mem} {a : Option Addr} {n c : Nat} : CallQ E F_flow_Cursor_Sint [.slice a n c].toArray m fun w m' => w = .func (.func F_flow_Cursor_Sint_1) #[] #[ptr m.size] ∧ cap1 m' m.size (.slice a n c) ∧ Old m m' := by
  refine .enter fn_flow_Cursor_Sint (by simp) ?_
  simp (decide := true) (implicitDefEqProofs := false) (maxDischargeDepth := 20) only [go_sem, HRow.v, ↓reduceIte, true_implies, false_implies]
  unfold cap1
  rw [getM_push, if_pos rfl]

theorem Join_at {m : Mem} {f g h : Fn} {fa fb ga gb ha hb : Array Value} : CallQ E F_flow_Join_Sint_Sint [.func f fa fb, .func g ga gb, .func h ha hb].toArray m fun w m' => ∃ b1 b2 b3, w = .func (.func F_flow_Join_Sint_Sint_1) #[] #[ptr b1, ptr b3, ptr b2] ∧ cap1 m' b1 (.func f fa fb) ∧ cap1 m' b2 (.func g ga gb) ∧ cap1 m' b3 (.func h ha hb) ∧ m.size ≤ b1 ∧ m.size ≤ b2 ∧ m.size ≤ b3 ∧ (b1 ≠ b2 ∧ b1 ≠ b3 ∧ b2 ≠ b3) ∧ Old m m' := by
  refine .enter fn_flow_Join_Sint_Sint (by simp) ?_
  simp (decide := true) (implicitDefEqProofs := false) (maxDischargeDepth := 20) only [go_sem, HRow.v, ↓reduceIte, true_implies, false_implies]
  refine ⟨m.size, m.size + 1, m.size + (1 + 1), rfl, ?_, ?_, ?_, by omega, by omega, by omega, by omega⟩
  · unfold cap1; rw [getM_push, if_neg (by simp; omega), getM_push, if_neg (by simp), getM_push, if_pos rfl]
  · unfold cap1; rw [getM_push, if_neg (by simp), getM_push, if_pos (by simp)]
  · unfold cap1; rw [getM_push, if_pos (by simp)]

/-- What a cursor has left, its box: the rest of a list that stays. -/
def CurAt (Z : Nat → Option Blk) (b : Nat) (l : List HRow) (m : Mem) : Prop := ∃ a c, cap1 m b (.slice a l.length c) ∧ ∀ m', Frozen Z m' → SlA m' 1 a l.length c (l.map HRow.v)

set_option maxRecDepth 100000 in
theorem Next_at {Z : Nat → Option Blk} {b : Nat} {l : List HRow} {m : Mem} (h : CurAt Z b l m) (z : Frozen Z m) (hl : l.length ≤ 1000000) : CallF E (.func (.func F_flow_Cursor_Sint_1) #[] #[ptr b]) [] m fun w m' => w = .tuple #[(l.headD noRow).v, .bool (!l.isEmpty)] ∧ CurAt Z b l.tail m' ∧ ChgS (fun i => i = b) m m' ∧ m'.size = m.size := by
  obtain ⟨a, c, hc, hs⟩ := h
  have r := get_at0 hc
  have lb := getM_lt hc
  refine callF_of some38 (l := [ptr b]) (by simp) (.enter fn_flow_Cursor_Sint_1 (by simp) ?_)
  cases l with
  | nil =>
    simp (decide := true) (implicitDefEqProofs := false) (maxDischargeDepth := 20) only [go_sem, HRow.v, r, List.length_nil, ↓reduceIte, true_implies, false_implies]
    exact ⟨rfl, ⟨a, c, hc, hs⟩, .refl _ _⟩
  | cons x t =>
    have S := hs m z
    obtain ⟨ab, ao, asp, rfl⟩ := S.addr (by simp)
    have hg : m.get b = some (.cells false true [.slice (some ⟨ab, ao, asp⟩) (t.length + 1) c]) := hc
    have rx : m.at ab (ao + Int.toNat 0) = some (x.v) := S.at_map (show 0 < (x :: t).length by simp)
    have d1 : (((t.length + 1 : Nat) : Int) == 0) = false := by rw [beq_eq_false_iff_ne]; omega
    have z1 : (0 : Int) < ((t.length + 1 : Nat) : Int) := by omega
    have sf := fun mm (hh : Frozen Z mm) => (hs mm hh).sliceFrom (E := E) (k := .i64) (show 1 ≤ (x :: t).length by simp)
    have s1 := (sf m z).1 23 (by decide +kernel)
    simp only [List.length_cons, Nat.add_sub_cancel, Nat.mul_one, Option.map_some, show ((1 : Nat) : Int) = 1 from rfl] at s1 sf
    simp (decide := true) (implicitDefEqProofs := false) (maxDischargeDepth := 20) only [go_sem, HRow.v, r, rx, d1, z1, s1, hg, lb, List.length_cons, ↓reduceIte, true_implies, false_implies]
    refine ⟨rfl, ⟨_, _, ?_, fun m' z' => (sf m' z').2⟩, (ChgS.refl _ _).put _ _ (.inl rfl)⟩
    unfold cap1
    rw [getM_put, if_pos ⟨rfl, lb⟩]
    rfl
theorem CurAt.keep {Z : Nat → Option Blk} {b : Nat} {l : List HRow} {m m' : Mem} (h : CurAt Z b l m) (k : m'.get b = m.get b) : CurAt Z b l m' := by
  obtain ⟨a, c, hc, hs⟩ := h
  exact ⟨a, c, k.trans hc, hs⟩

/-- Asked on: what the last one was, what is left, whether there was one: until it is not behind any more. -/
def skipL (cmp : HRow → HRow → Int) (x : HRow) : List HRow → HRow × List HRow × Bool
  | [] => (noRow, [], false)
  | y :: l => if cmp x y > 0 then skipL cmp x l else (y, l, true)
/-- A join's state: nothing was asked yet; or the last answer, and whether it was one. -/
structure JS where
  asked : Bool
  there : Bool
  last : HRow
  left : List HRow
def stepJ (cmp : HRow → HRow → Int) (s : JS) (x : HRow) : JS :=
  if s.asked = false ∨ (s.there = true ∧ cmp x s.last > 0) then ⟨true, (skipL cmp x s.left).2.2, (skipL cmp x s.left).1, (skipL cmp x s.left).2.1⟩ else s
def stJ (cmp : HRow → HRow → Int) (l : List HRow) (xs : List HRow) : JS := xs.foldl (stepJ cmp) ⟨false, false, noRow, l⟩
/-- What it finds for the last one. -/
def hitJ (cmp : HRow → HRow → Int) (s : JS) (x : HRow) : Option HRow := if s.there = true ∧ cmp x s.last = 0 then some s.last else none

theorem stJ_snoc (cmp : HRow → HRow → Int) (l xs : List HRow) (x : HRow) : stJ cmp l (xs ++ [x]) = stepJ cmp (stJ cmp l xs) x := by
  unfold stJ
  rw [List.foldl_append]
  rfl
theorem skipL_len (cmp : HRow → HRow → Int) (x : HRow) : ∀ l, (skipL cmp x l).2.1.length ≤ l.length
  | [] => Nat.le_refl _
  | y :: l => by
    unfold skipL
    split
    · exact Nat.le_succ_of_le (skipL_len cmp x l)
    · exact Nat.le_succ _
theorem stepJ_len (cmp : HRow → HRow → Int) (s : JS) (x : HRow) : (stepJ cmp s x).left.length ≤ s.left.length := by
  unfold stepJ
  split
  · exact skipL_len _ _ _
  · exact Nat.le_refl _
theorem stJ_len (cmp : HRow → HRow → Int) (l xs : List HRow) : (stJ cmp l xs).left.length ≤ l.length := by
  refine snocInd (P := fun xs => (stJ cmp l xs).left.length ≤ l.length) (Nat.le_refl _) (fun xs x ih => ?_) xs
  rw [stJ_snoc]
  exact Nat.le_trans (stepJ_len _ _ _) ih


/-! ### JnB -/

/-- A join's boxes. -/
structure JB (Z : Nat → Option Blk) (lb ab tb cb : Nat) (s : JS) (m : Mem) : Prop where
  l : m.get lb = some (.cells false true [s.last.v])
  a : m.get ab = some (.cells false true [.bool s.asked])
  t : m.get tb = some (.cells false true [.bool s.there])
  c : CurAt Z cb s.left m
  r : RowZ Z s.last ∧ ∀ y ∈ s.left, RowZ Z y

theorem JB.keep {Z : Nat → Option Blk} {lb ab tb cb : Nat} {s : JS} {m m' : Mem} (h : JB Z lb ab tb cb s m) (k : ∀ i, i = lb ∨ i = ab ∨ i = tb ∨ i = cb → m'.get i = m.get i) : JB Z lb ab tb cb s m' :=
  ⟨(k _ (.inl rfl)).trans h.l, (k _ (.inr (.inl rfl))).trans h.a, (k _ (.inr (.inr (.inl rfl)))).trans h.t, h.c.keep (k _ (.inr (.inr (.inr rfl)))), h.r⟩
theorem CurAt.lt {Z : Nat → Option Blk} {b : Nat} {l : List HRow} {m : Mem} (h : CurAt Z b l m) : b < m.size := by
  obtain ⟨a, c, hc, _⟩ := h
  exact getM_lt hc
theorem JB.old {Z : Nat → Option Blk} {lb ab tb cb : Nat} {s : JS} {m m' : Mem} (h : JB Z lb ab tb cb s m) (o : Old m m') : JB Z lb ab tb cb s m' :=
  h.keep fun i hi => o.get (by rcases hi with rfl | rfl | rfl | rfl <;> first | exact getM_lt h.l | exact getM_lt h.a | exact getM_lt h.t | exact h.c.lt)

theorem stepJ_next (cmp : HRow → HRow → Int) (s : JS) (x : HRow) (h : s.asked = false ∨ (s.there = true ∧ cmp x s.last > 0)) : stepJ cmp ⟨true, !s.left.isEmpty, s.left.headD noRow, s.left.tail⟩ x = stepJ cmp s x := by
  unfold stepJ
  rw [if_pos h]
  cases hl : s.left with
  | nil => simp [skipL]
  | cons y l =>
    simp only [List.isEmpty_cons, Bool.not_false, List.headD_cons, List.tail_cons, Bool.true_eq_false, false_or, true_and, skipL]
    by_cases hc : cmp x y > 0
    · rw [if_pos hc, if_pos hc]
    · rw [if_neg hc, if_neg hc]

def msJ (s : JS) : Nat := 2 * s.left.length + if s.asked = false ∨ s.there = true then 1 else 0

set_option maxRecDepth 100000 in
set_option maxHeartbeats 4000000 in
theorem Join_skip {Z0 Z : Nat → Option Blk} {lb ab tb cb bn bc l : Nat} {f : Fn} {fa fb : Array Value} {cmp : HRow → HRow → Int} {s : JS} {x : HRow} {m : Mem} {t : Fr} (H : JB Z0 lb ab tb cb s m) (z : Frozen Z m) (h0 : SubZ Z0 Z) (zn : ∀ i, i = lb ∨ i = ab ∨ i = tb ∨ i = cb → Z i = none)
    (d1 : lb ≠ ab) (d2 : lb ≠ tb) (d3 : lb ≠ cb) (d4 : ab ≠ tb) (d5 : ab ≠ cb) (d6 : tb ≠ cb) (hl : s.left.length ≤ 1000000) (hx : RowZ Z x)
    (hbn : Z bn = some (.cells false true [.func (.func F_flow_Cursor_Sint_1) #[] #[ptr cb]])) (hbc : Z bc = some (.cells false true [.func f fa fb])) (hc : ∀ a b, RowZ Z a → RowZ Z b → PureF E Z (.func f fa fb) [a.v, b.v] (vI (cmp a b)))
    (t2 : t 2 = ptr bc) (t3 : t 3 = ptr bn) (t5 : t 5 = ptr lb) (t6 : t 6 = ptr ab) (t7 : t 7 = ptr tb) (t8 : t 8 = x.v) {K : Post3}
    (hK : ∀ t' m', Agree (writes c_flow_Join_Sint_Sint_1_6) t t' → JB Z0 lb ab tb cb (stepJ cmp s x) m' → ChgS (fun i => i = lb ∨ i = ab ∨ i = tb ∨ i = cb) m m' → Frozen Z m' → K .normal t' m') :
    wpM E F_flow_Join_Sint_Sint_1 44 (some l) c_flow_Join_Sint_Sint_1_6 K t m := by
  refine wpM_cut (fun t' m' => JB Z0 lb ab tb cb (stepJ cmp s x) m' ∧ ChgS (fun i => i = lb ∨ i = ab ∨ i = tb ∨ i = cb) m m' ∧ Frozen Z m') ?_ fun t' m' hag ⟨h1, h2, h3⟩ => hK t' m' hag h1 h2 h3
  simp only [c_flow_Join_Sint_Sint_1_6_at, wpM_block, c_flow_Join_Sint_Sint_1_5_at]
  refine wpM_loopA (fun j t' m' => ∃ s', j = msJ s' ∧ JB Z0 lb ab tb cb s' m' ∧ stepJ cmp s' x = stepJ cmp s x ∧ s'.left.length ≤ s.left.length ∧ ChgS (fun i => i = lb ∨ i = ab ∨ i = tb ∨ i = cb) m m' ∧ Frozen Z m') (msJ s) ⟨s, rfl, H, rfl, Nat.le_refl _, .refl _ _, z⟩ ?_
  rintro j t' m' hag ⟨s', rfl, H', hst, hle, hch, z'⟩
  have b2 := (hag 2 (by decide +kernel)).trans t2
  have b3 := (hag 3 (by decide +kernel)).trans t3
  have b5 := (hag 5 (by decide +kernel)).trans t5
  have b6 := (hag 6 (by decide +kernel)).trans t6
  have b7 := (hag 7 (by decide +kernel)).trans t7
  have b8 := (hag 8 (by decide +kernel)).trans t8
  have ra := get_at0 H'.a
  have rt := get_at0 H'.t
  have rl := get_at0 H'.l
  have rc := frozen_at z' hbc
  -- one more answer
  have fin : ∀ (m1 m2 : Mem), Old m' m1 → (s'.asked = false ∨ (s'.there = true ∧ cmp x s'.last > 0)) → CurAt Z0 cb s'.left.tail m2 → ChgS (fun i => i = cb) m1 m2 → m2.size = m1.size → ∀ X Y W : Blk, X = .cells false true [(s'.left.headD noRow).v] → Y = .cells false true [.bool (!s'.left.isEmpty)] → W = .cells false true [.bool true] →
      ∃ j, j < msJ s' ∧ ∃ s', j = msJ s' ∧ JB Z0 lb ab tb cb s' (((m2.put lb (some X)).put tb (some Y)).put ab (some W)) ∧ stepJ cmp s' x = stepJ cmp s x ∧ s'.left.length ≤ s.left.length ∧ ChgS (fun i => i = lb ∨ i = ab ∨ i = tb ∨ i = cb) m (((m2.put lb (some X)).put tb (some Y)).put ab (some W)) ∧ Frozen Z (((m2.put lb (some X)).put tb (some Y)).put ab (some W)) := by
    rintro m1 m2 o1 hcond hcur hch2 hsz X Y W rfl rfl rfl
    have z1 := z'.old o1
    have H1 := H'.old o1
    have ll : lb < m2.size := by have := getM_lt H1.l; omega
    have la : ab < m2.size := by have := getM_lt H1.a; omega
    have lt : tb < m2.size := by have := getM_lt H1.t; omega
    refine ⟨msJ ⟨true, !s'.left.isEmpty, s'.left.headD noRow, s'.left.tail⟩, ?_, ⟨true, !s'.left.isEmpty, s'.left.headD noRow, s'.left.tail⟩, rfl, ⟨?_, ?_, ?_, ?_, ?_⟩, (stepJ_next cmp s' x hcond).trans hst, ?_, ?_, ?_⟩
    · unfold msJ
      have h1 : (if s'.asked = false ∨ s'.there = true then 1 else 0) = 1 := if_pos (hcond.imp id And.left)
      rw [h1]
      cases hl : s'.left with
      | nil => simp
      | cons y l => simp
    · rw [getM_put, if_neg (fun e => d1 e.1), getM_put, if_neg (fun e => d2 e.1), getM_put, if_pos ⟨rfl, ll⟩]
    · rw [getM_put, if_pos ⟨rfl, by rw [size_put, size_put]; exact la⟩]
    · rw [getM_put, if_neg (fun e => d4 e.1.symm), getM_put, if_pos ⟨rfl, by rw [size_put]; exact lt⟩]
    · refine hcur.keep ?_
      rw [getM_put, if_neg (fun e => d5 e.1.symm), getM_put, if_neg (fun e => d6 e.1.symm), getM_put, if_neg (fun e => d3 e.1.symm)]
    · refine ⟨?_, fun y hy => H'.r.2 y (List.mem_of_mem_tail hy)⟩
      cases hl : s'.left with
      | nil => exact fun m _ => noRow_at m
      | cons y l => exact H'.r.2 y (by rw [hl]; simp)
    · simp only [List.length_tail]; omega
    · have c2 : ChgS (fun i => i = lb ∨ i = ab ∨ i = tb ∨ i = cb) m m2 := (hch.trans (o1.chg none') (C := fun i => i = lb ∨ i = ab ∨ i = tb ∨ i = cb) (fun _ h => h) (fun _ _ h => h.elim)).trans hch2 (fun _ h => h) (fun _ _ h => .inr (.inr (.inr h)))
      exact ((c2.put _ _ (.inl (.inl rfl))).put _ _ (.inl (.inr (.inr (.inl rfl))))).put _ _ (.inl (.inr (.inl rfl)))
    · have z2 : Frozen Z m2 := z1.chg hch2 fun i hi => zn i (.inr (.inr (.inr hi)))
      exact ((z2.put (zn lb (.inl rfl)) _).put (zn tb (.inr (.inr (.inl rfl)))) _).put (zn ab (.inr (.inl rfl))) _
  have next : ∀ m1, Old m' m1 → CallQ E F_flow_Cursor_Sint_1 #[ptr cb] m1 fun w m2 => w = .tuple #[(s'.left.headD noRow).v, .bool (!s'.left.isEmpty)] ∧ CurAt Z0 cb s'.left.tail m2 ∧ ChgS (fun i => i = cb) m1 m2 ∧ m2.size = m1.size := by
    intro m1 o1
    obtain ⟨_, nx⟩ := Next_at (H'.old o1).c (h0.frozen (z'.old o1)) (by omega)
    have e : (#[] ++ ([] : List Value).toArray ++ #[ptr cb] : Array Value) = #[ptr cb] := by simp
    rw [e] at nx
    exact nx
  have keep : ∀ m1 m2, Old m' m1 → ChgS (fun i => i = cb) m1 m2 → m2.size = m1.size → m2.get lb = some (.cells false true [s'.last.v]) ∧ m2.get ab = some (.cells false true [.bool s'.asked]) ∧ m2.get tb = some (.cells false true [.bool s'.there]) ∧ lb < m2.size ∧ ab < m2.size ∧ tb < m2.size := by
    intro m1 m2 o1 hch2 hsz
    have H1 := H'.old o1
    have g1 : ∀ i, i ≠ cb → m2.get i = m1.get i := fun i hi => by
      by_cases h : i < m1.size
      · exact hch2.get i h hi
      · rw [getM_none h, getM_none (by omega)]
    exact ⟨(g1 lb d3).trans H1.l, (g1 ab d5).trans H1.a, (g1 tb d6).trans H1.t, by have := getM_lt H1.l; omega, by have := getM_lt H1.a; omega, by have := getM_lt H1.t; omega⟩
  have stay : s'.asked = true → ¬ (s'.there = true ∧ cmp x s'.last > 0) → s' = stepJ cmp s x := fun h1 h2 => by
    rw [← hst]
    unfold stepJ
    rw [if_neg]
    rintro (h | h)
    · rw [h1] at h; cases h
    · exact h2 h
  cases hak : s'.asked with
  | false =>
    rw [hak] at ra
    have rn := frozen_at z' hbn
    simp (decide := true) (implicitDefEqProofs := false) (maxDischargeDepth := 20) only [go_sem, HRow.v, b3, b6, ra, rn, ↓reduceIte, true_implies, false_implies]
    refine (next _ (.refl _)).mono ?_
    rintro w m2 ⟨rfl, hcur, hch2, hsz⟩
    obtain ⟨gl, ga, gt, ll, la, lt⟩ := keep _ m2 (.refl _) hch2 hsz
    simp (decide := true) (implicitDefEqProofs := false) (maxDischargeDepth := 20) only [go_sem, HRow.v, b5, b6, b7, gl, ga, gt, ll, la, lt, d1, d2, d4, d1.symm, d2.symm, d4.symm, ↓reduceIte, true_implies, false_implies]
    exact fin _ m2 (.refl _) (.inl hak) hcur hch2 hsz _ _ _ rfl rfl rfl
  | true =>
    rw [hak] at ra
    cases hth : s'.there with
    | false =>
      rw [hth] at rt
      simp (decide := true) (implicitDefEqProofs := false) (maxDischargeDepth := 20) only [go_sem, HRow.v, b6, b7, ra, rt, ↓reduceIte, true_implies, false_implies]
      have := stay hak (fun h => by rw [hth] at h; cases h.1)
      rw [← this]
      exact ⟨H', hch, z'⟩
    | true =>
      rw [hth] at rt
      simp (decide := true) (implicitDefEqProofs := false) (maxDischargeDepth := 20) only [go_sem, HRow.v, b2, b5, b6, b7, b8, ra, rt, rl, rc, ↓reduceIte, true_implies, false_implies]
      refine CallF.step ((hc x s'.last hx (H'.r.1.sub h0) m' z').mono ?_)
      rintro w m1 ⟨rfl, o1⟩
      by_cases hgt : cmp x s'.last > 0
      · have dg : decide (cmp x s'.last > 0) = true := by simpa using hgt
        have rn := frozen_at (z'.old o1) hbn
        simp (decide := true) (implicitDefEqProofs := false) (maxDischargeDepth := 20) only [go_sem, HRow.v, b3, dg, rn, ↓reduceIte, true_implies, false_implies]
        refine (next _ o1).mono ?_
        rintro w m2 ⟨rfl, hcur, hch2, hsz⟩
        obtain ⟨gl, ga, gt, ll, la, lt⟩ := keep _ m2 o1 hch2 hsz
        simp (decide := true) (implicitDefEqProofs := false) (maxDischargeDepth := 20) only [go_sem, HRow.v, b5, b6, b7, gl, ga, gt, ll, la, lt, d1, d2, d4, d1.symm, d2.symm, d4.symm, ↓reduceIte, true_implies, false_implies]
        exact fin _ m2 o1 (.inr ⟨hth, hgt⟩) hcur hch2 hsz _ _ _ rfl rfl rfl
      · have dg : decide (cmp x s'.last > 0) = false := by simpa using hgt
        simp (decide := true) (implicitDefEqProofs := false) (maxDischargeDepth := 20) only [go_sem, HRow.v, dg, ↓reduceIte, true_implies, false_implies]
        have := stay hak (fun h => hgt h.2)
        rw [← this]
        exact ⟨H'.old o1, hch.trans (o1.chg none') (fun _ h => h) (fun _ _ h => h.elim), z'.old o1⟩


/-! ### JnC -/

/-- What Join yields: a number, and a pointer to a copy of what was found. -/
def joinEl (cmp : HRow → HRow → Int) (l xs : List HRow) : Nat → List Value → Mem → Set' → Prop := fun k vs m B => ∃ p, vs = [(xs.getD k noRow).v, p] ∧
  match hitJ cmp (stJ cmp l (xs.take (k + 1))) (xs.getD k noRow) with
  | none => p = .pointer none
  | some y => ∃ b, p = ptr b ∧ m.get b = some (.cells false true [y.v]) ∧ B b
theorem joinEl_loc (cmp : HRow → HRow → Int) (l xs : List HRow) (k : Nat) (vs : List Value) : LocP (joinEl cmp l xs k vs) := by
  rintro m m' B ⟨p, h1, h2⟩ hk hs
  refine ⟨p, h1, ?_⟩
  split
  · rename_i e
    rw [e] at h2
    exact h2
  · rename_i y e
    rw [e] at h2
    obtain ⟨b, h3, h4, h5⟩ := h2
    exact ⟨b, h3, (hk b h5).trans h4, h5⟩

/-- Where a cursor stands. -/
def JO (Z : Nat → Option Blk) (cb : Nat) (cmp : HRow → HRow → Int) (l xs : List HRow) : Nat → Mem → Prop := fun j m => CurAt Z cb (stJ cmp l (xs.take j)).left m

/-- A join under way beside its consumer. -/
structure JX (Z : Nat → Option Blk) (y : Value) (yb lb ab tb cb : Nat) (Q : Mem → Set' → Prop) (s : JS) (m : Mem) (A : Set') (A1 : Set') : Prop where
  q : Q m A1
  y : m.get yb = some (.cells false true [y])
  b : JB Z lb ab tb cb s m
  A : ∀ i, A i ↔ A1 i ∨ i = yb ∨ i = lb ∨ i = ab ∨ i = tb ∨ i = cb
  n : ∀ i, A1 i → i ≠ yb ∧ i ≠ lb ∧ i ≠ ab ∧ i ≠ tb ∧ i ≠ cb

theorem JX.loc {Z : Nat → Option Blk} {y : Value} {yb lb ab tb cb : Nat} {Q : Mem → Set' → Prop} (hl : LocP Q) (s : JS) : LocP fun m A => ∃ A1, JX Z y yb lb ab tb cb Q s m A A1 := by
  rintro m m' A ⟨A1, h⟩ hk hs
  refine ⟨A1, hl m m' A1 h.q (fun i hi => hk i ((h.A i).2 (.inl hi))) hs, (hk yb ((h.A yb).2 (.inr (.inl rfl)))).trans h.y, h.b.keep fun i hi => hk i ((h.A i).2 ?_), h.A, h.n⟩
  rcases hi with e | e | e | e
  · exact .inr (.inr (.inl e))
  · exact .inr (.inr (.inr (.inl e)))
  · exact .inr (.inr (.inr (.inr (.inl e))))
  · exact .inr (.inr (.inr (.inr (.inr e))))

set_option maxRecDepth 100000 in
set_option maxHeartbeats 4000000 in
theorem JoinI {Z0 Z : Nat → Option Blk} {s : Value} {f : Fn} {fa fb : Array Value} {n : Nat} {xs l : List HRow} (h0 : SubZ Z0 Z) (hl : xs.length = n) (hll : l.length ≤ 1000000) (hxs : ∀ k, RowZ Z (xs.getD k noRow)) (hls : ∀ y ∈ l, RowZ Z0 y) {cmp : HRow → HRow → Int} (hs : Iter E Z none' s n anyO (pureEl (rowsEl xs))) {b1 b2 b3 cb : Nat}
    (h1 : Z b1 = some (.cells false true [s])) (h2 : Z b2 = some (.cells false true [.func (.func F_flow_Cursor_Sint_1) #[] #[ptr cb]])) (h3 : Z b3 = some (.cells false true [.func f fa fb])) (hc : ∀ a b, RowZ Z a → RowZ Z b → PureF E Z (.func f fa fb) [a.v, b.v] (vI (cmp a b))) :
    Iter E Z (fun i => i = cb) (.func (.func F_flow_Join_Sint_Sint_1) #[] #[ptr b1, ptr b3, ptr b2]) n (JO Z0 cb cmp l xs) (joinEl cmp l xs) where
  fn := ⟨_, _, _, rfl⟩
  locO := fun k m m' h hk => h.keep (hk cb rfl)
  locE := joinEl_loc _ _ _
  go := by
    intro y hy I D lI lD step m A z o hF own0 i0
    have step : StepOk E Z _ _ _ _ y I D := step
    obtain ⟨yf, ya, yc, rfl⟩ := hy
    have own0 : CurAt Z0 cb l m := own0
    have hcb := hF cb rfl
    rw [CallF_func]
    refine ⟨some69, ?_⟩
    have e : (#[] ++ [Value.func yf ya yc].toArray ++ #[ptr b1, ptr b3, ptr b2] : Array Value) = [Value.func yf ya yc, ptr b1, ptr b3, ptr b2].toArray := by simp
    rw [e]
    refine .enter fn_flow_Join_Sint_Sint_1 (by simp) ?_
    have r0 := frozen_at z h1
    have lt1 := z.lt h1
    have n1 : ¬ b1 = m.size := by omega
    have n2 : ¬ b1 = m.size + 1 := by omega
    have n3 : ¬ b1 = m.size + (1 + 1) := by omega
    have n4 : ¬ b1 = m.size + (1 + (1 + 1)) := by omega
    simp (decide := true) (implicitDefEqProofs := false) (maxDischargeDepth := 20) only [go_sem, HRow.v, r0, n1, n2, n3, n4, ↓reduceIte, true_implies, false_implies]
    generalize hm1 : (((((m.push (.cells false true [Value.func yf ya yc])).push (.cells false true [.slice none 0 0])).push (.cells false true [.bool false])).push (.cells false true [.bool false])).put (m.size + (1 + 1)) (some (.cells false true [.bool false]))).put (m.size + (1 + (1 + 1))) (some (.cells false true [.bool false])) = m1
    have ho : Old m m1 := by rw [← hm1]; exact .put (.put (.push (.push (.push (.push (.refl m) _) _) _) _) _ _ (by omega)) _ _ (by omega)
    obtain ⟨yb, hyb⟩ : ∃ b, b = m.size := ⟨_, rfl⟩
    obtain ⟨lb, hlb⟩ : ∃ b, b = m.size + 1 := ⟨_, rfl⟩
    obtain ⟨ab, hab⟩ : ∃ b, b = m.size + (1 + 1) := ⟨_, rfl⟩
    obtain ⟨tb, htb⟩ : ∃ b, b = m.size + (1 + (1 + 1)) := ⟨_, rfl⟩
    have qy : m1.get yb = some (.cells false true [Value.func yf ya yc]) := by
      rw [← hm1, hyb, getM_put, if_neg (by omega), getM_put, if_neg (by omega), getM_push, if_neg (by simp <;> omega), getM_push, if_neg (by simp <;> omega), getM_push, if_neg (by simp), getM_push, if_pos rfl]
    have ql : m1.get lb = some (.cells false true [noRow.v]) := by
      rw [← hm1, hlb, getM_put, if_neg (by omega), getM_put, if_neg (by omega), getM_push, if_neg (by simp <;> omega), getM_push, if_neg (by simp <;> omega), getM_push, if_pos (by simp)]
      rfl
    have qa : m1.get ab = some (.cells false true [.bool false]) := by
      rw [← hm1, hab, getM_put, if_neg (by omega), getM_put, if_pos ⟨rfl, by simp⟩]
    have qt : m1.get tb = some (.cells false true [.bool false]) := by
      rw [← hm1, htb, getM_put, if_pos ⟨rfl, by simp⟩]
    rw [← htb, ← hab, ← hlb, ← hyb]
    clear hm1
    have zz := z.old ho
    have zfree : ∀ i, m.size ≤ i → Z i = none := fun i hi => z.free hi
    have zn : ∀ i, i = lb ∨ i = ab ∨ i = tb ∨ i = cb → Z i = none := by
      rintro i (rfl | rfl | rfl | rfl)
      · exact zfree _ (by omega)
      · exact zfree _ (by omega)
      · exact zfree _ (by omega)
      · exact hcb.2
    have zy : Z yb = none := zfree _ (by omega)
    have mine : ∀ i, (i = yb ∨ i = lb ∨ i = ab ∨ i = tb) → m.size ≤ i := by
      rintro i (rfl | rfl | rfl | rfl) <;> omega
    have nA : ∀ i, A i → i ≠ yb ∧ i ≠ lb ∧ i ≠ ab ∧ i ≠ tb ∧ i ≠ cb := fun i hi => by
      have h := o i hi
      exact ⟨by omega, by omega, by omega, by omega, h.2.2⟩
    simp only [c_flow_Join_Sint_Sint_1_17_at, wpM_block, c_flow_Join_Sint_Sint_1_16_at]
    refine wpM_rangeP (A := fun i => A i ∨ i = yb ∨ i = lb ∨ i = ab ∨ i = tb ∨ i = cb) hs (fun t => upd t 8 (t 12)) (by simp (decide := true) only [go_sem, HRow.v, ↓reduceIte]) rfl asg_flow_Join_Sint_Sint_1_0 body_flow_Join_Sint_Sint_1_0 (by decide) (fun K l t m h => by simp (decide := true) only [go_sem, HRow.v, ↓reduceIte]; exact h)
      (fun k m A => ∃ A1, JX Z0 (.func yf ya yc) yb lb ab tb cb (I k) (stJ cmp l (xs.take k)) m A A1)
      (fun k x m A => x = .ret ∧ ∃ A1, JX Z0 (.func yf ya yc) yb lb ab tb cb (D k) (stJ cmp l (xs.take (k + 1))) m A A1)
      (fun k => JX.loc (lI k) _) (fun k x m1 m2 A' h q r => ⟨h.1, JX.loc (lD k) _ m1 m2 A' h.2 q r⟩) zz
      (by
        rintro i (hi | rfl | rfl | rfl | rfl | rfl)
        · exact ⟨Nat.lt_of_lt_of_le (o i hi).1 ho.size, (o i hi).2.1, fun h => h⟩
        · exact ⟨getM_lt qy, zy, fun h => h⟩
        · exact ⟨getM_lt ql, zn _ (.inl rfl), fun h => h⟩
        · exact ⟨getM_lt qa, zn _ (.inr (.inl rfl)), fun h => h⟩
        · exact ⟨getM_lt qt, zn _ (.inr (.inr (.inl rfl))), fun h => h⟩
        · exact ⟨Nat.lt_of_lt_of_le hcb.1 ho.size, hcb.2, fun h => h⟩) (fun _ h => h.elim) trivial
      ⟨A, lI 0 m _ A i0 (fun i hi => ho.get (o i hi).1) ho.size, qy, ⟨ql, qa, qt, own0.keep (ho.get hcb.1), fun m _ => noRow_at m, hls⟩, fun _ => Iff.rfl, nA⟩ ?_ ?_ ?_
    · rintro k vs m2 A' B lp hk z1 o1 o2 dis ow ⟨A1, hX⟩ hel hin hms
      have hel : vs = [(xs.getD k noRow).v] := hel
      subst hel
      refine ⟨rfl, ?_⟩
      have hmm : m.size ≤ m2.size := Nat.le_trans ho.size hms
      have st1 : stJ cmp l (xs.take (k + 1)) = stepJ cmp (stJ cmp l (xs.take k)) (xs.getD k noRow) := by
        rw [List.take_succ_eq_append_getElem (by omega), stJ_snoc]
        simp [List.getD_eq_getElem?_getD, List.getElem?_eq_getElem (show k < xs.length by omega)]
      have hlen : (stJ cmp l (xs.take k)).left.length ≤ 1000000 := Nat.le_trans (stJ_len _ _ _) hll
      have ylt := getM_lt hX.y
      simp only [c_flow_Join_Sint_Sint_1_15_at, wpM_block, c_flow_Join_Sint_Sint_1_14_at, wpM_seq]
      refine Join_skip (x := xs.getD k noRow) hX.b z1 h0 zn (by omega) (by omega) (by omega) (by omega) (by omega) (by omega) hlen (hxs k) h2 h3 hc (by simp (decide := true) only [go_sem, HRow.v, ↓reduceIte]) (by simp (decide := true) only [go_sem, HRow.v, ↓reduceIte]) (by simp (decide := true) only [go_sem, HRow.v, ↓reduceIte]) (by simp (decide := true) only [go_sem, HRow.v, ↓reduceIte]) (by simp (decide := true) only [go_sem, HRow.v, ↓reduceIte]) (by simp (decide := true) only [go_sem, HRow.v, ↓reduceIte]) fun t3 m3 hag H3 hch z3 => ?_
      have e2 := hag 2 (by decide +kernel)
      have e4 := hag 4 (by decide +kernel)
      have e5 := hag 5 (by decide +kernel)
      have e7 := hag 7 (by decide +kernel)
      have e8 := hag 8 (by decide +kernel)
      simp (decide := true) only [go_sem, HRow.v, ↓reduceIte] at e2 e4 e5 e7 e8
      rw [← st1] at H3
      have elx : ∀ p m B, (match hitJ cmp (stJ cmp l (xs.take (k + 1))) (xs.getD k noRow) with | none => p = .pointer none | some y => ∃ b, p = ptr b ∧ m.get b = some (.cells false true [y.v]) ∧ B b) → joinEl cmp l xs k [(xs.getD k noRow).v, p] m B := fun p m B h => ⟨p, rfl, h⟩
      have hxk := hxs k
      generalize xs.getD k noRow = x at *
      generalize hT : stJ cmp l (xs.take (k + 1)) = T at *
      have gy3 : m3.get yb = some (.cells false true [Value.func yf ya yc]) := (hch.get yb ylt (by omega)).trans hX.y
      have hI3 : I k m3 A1 := lI k m2 m3 A1 hX.q (fun i hi => hch.get i (o1 i ((hX.A i).2 (.inl hi))).1 (by have := hX.n i hi; omega)) hch.size
      have rl := get_at0 H3.l
      have rt := get_at0 H3.t
      have rc := frozen_at z3 h3
      -- the yield, and what is behind it
      let P4 : List (Nat × Blk) := [(yb, .cells false true [.func yf ya yc]), (lb, .cells false true [T.last.v]), (ab, .cells false true [.bool T.asked]), (tb, .cells false true [.bool T.there])]
      have hP4 : ∀ i, (∃ p ∈ P4, i = p.1) ↔ i = yb ∨ i = lb ∨ i = ab ∨ i = tb := by
        intro i
        simp only [P4, List.mem_cons, List.not_mem_nil, or_false, exists_eq_or_imp, exists_eq_left]
      have yield : ∀ (m5 : Mem) (p : Value) (B5 : Set'), Old m3 m5 → (∀ i, B5 i → m3.size ≤ i ∧ i < m5.size) → joinEl cmp l xs k [x.v, p] m5 B5 →
          CallF E (.func yf ya yc) [x.v, p] m5 fun w m' => ∃ A'', ChgS (fun i => A' i ∨ B i) m2 m' ∧ NewS (fun i => A' i ∨ B i) m2 m' A'' ∧ (w = .bool true ∧ (∃ A1, JX Z0 (.func yf ya yc) yb lb ab tb cb (I (k + 1)) T m' A'' A1) ∨ w = .bool false ∧ (∃ A1, JX Z0 (.func yf ya yc) yb lb ab tb cb (D k) T m' A'' A1)) := by
        intro m5 p B5 o5 hB5 hel5
        have H5 := H3.old o5
        have y5 := (o5.get (getM_lt gy3)).trans gy3
        have z5 := z3.old o5
        have s25 : m2.size ≤ m5.size := Nat.le_trans hch.size o5.size
        have A1lt : ∀ i, A1 i → i < m3.size := fun i hi => Nat.lt_of_lt_of_le (o1 i ((hX.A i).2 (.inl hi))).1 hch.size
        have hI5 : I k m5 A1 := lI k m3 m5 A1 hI3 (fun i hi => o5.get (A1lt i hi)) o5.size
        have hp5 : ∀ p ∈ P4, m5.get p.1 = some p.2 ∧ ¬ A1 p.1 := by
          intro p hp
          have hn : ¬ A1 p.1 := fun h => by
            have := hX.n _ h
            have := (hP4 p.1).1 ⟨p, hp, rfl⟩
            omega
          refine ⟨?_, hn⟩
          simp only [P4, List.mem_cons, List.not_mem_nil, or_false] at hp
          rcases hp with rfl | rfl | rfl | rfl
          · exact y5
          · exact H5.l
          · exact H5.a
          · exact H5.t
        have plt : ∀ i, i = yb ∨ i = lb ∨ i = ab ∨ i = tb → i < m3.size := by
          rintro i (rfl | rfl | rfl | rfl)
          · exact getM_lt gy3
          · exact getM_lt H3.l
          · exact getM_lt H3.a
          · exact getM_lt H3.t
        refine (step.yield (vs := [x.v, p]) (P := P4) (A := fun i => A1 i ∨ ∃ p ∈ P4, i = p.1) (B := B5) hk z5 ?_ ?_ ?_ ?_ ?_ hI5 hp5 (fun _ => Iff.rfl) hel5).mono ?_
        · rintro i (hi | hi)
          · have := A1lt i hi
            exact ⟨by have := o5.size; omega, (o1 i ((hX.A i).2 (.inl hi))).2.1, (hX.n i hi).2.2.2.2⟩
          · have h4 := (hP4 i).1 hi
            have := plt i h4
            have := mine i h4
            exact ⟨by have := o5.size; omega, zfree i this, by omega⟩
        · intro i hi
          have := hB5 i hi
          exact ⟨this.2, z3.free this.1, by have := hch.size; omega⟩
        · rintro i (hi | hi) hb
          · have := A1lt i hi; have := hB5 i hb; omega
          · have := plt i ((hP4 i).1 hi); have := hB5 i hb; omega
        · intro i hi; omega
        · show CurAt Z0 cb (stJ cmp l (xs.take (k + 1))).left m5
          rw [hT]
          exact H5.c
        · rintro w m6 ⟨A2, t6, p6, hw⟩
          have hcb6 : m6.get cb = m5.get cb := t6.c.get cb H5.c.lt (by
            rintro ((h | h) | h)
            · exact (hX.n cb h).2.2.2.2 rfl
            · have := mine cb ((hP4 cb).1 h); omega
            · have := hB5 cb h; have := hch.size; omega)
          have n2 : ∀ i, A2 i → i ≠ yb ∧ i ≠ lb ∧ i ≠ ab ∧ i ≠ tb ∧ i ≠ cb := by
            intro i hi
            have g : ∀ q ∈ P4, i ≠ q.1 := fun q hq e => (p6 q hq).2 (e ▸ hi)
            refine ⟨g (yb, .cells false true [.func yf ya yc]) (by simp [P4]), g (lb, .cells false true [T.last.v]) (by simp [P4]), g (ab, .cells false true [.bool T.asked]) (by simp [P4]), g (tb, .cells false true [.bool T.there]) (by simp [P4]), ?_⟩
            rintro rfl
            rcases (t6.n i (.inl hi)).2 with (h | h) | h
            · rcases h with h | h
              · exact (hX.n i h).2.2.2.2 rfl
              · have := mine i ((hP4 i).1 h); omega
            · have := hB5 i h; have := H3.c.lt; omega
            · have := H5.c.lt; omega
          have c6 : ChgS (fun i => A' i ∨ B i) m2 m6 := by
            refine ⟨by have := t6.c.size; omega, fun i hi hna => ?_⟩
            have hnA' : ¬ A' i := fun h => hna (.inl h)
            rw [t6.c.get i (by omega) (by
              rintro ((h | h) | h)
              · exact hnA' ((hX.A i).2 (.inl h))
              · have := (hP4 i).1 h
                exact hnA' ((hX.A i).2 (.inr (by omega)))
              · have := hB5 i h; have := hch.size; omega), o5.get (by have := hch.size; omega), hch.get i hi (fun h => hnA' ((hX.A i).2 (.inr (by omega))))]
          have mk : ∀ (Q : Mem → Set' → Prop), Q m6 A2 → JX Z0 (.func yf ya yc) yb lb ab tb cb Q T m6 (fun i => A2 i ∨ i = yb ∨ i = lb ∨ i = ab ∨ i = tb ∨ i = cb) A2 := fun Q hQ =>
            ⟨hQ, (p6 (yb, .cells false true [.func yf ya yc]) (by simp [P4])).1, ⟨(p6 (lb, .cells false true [T.last.v]) (by simp [P4])).1, (p6 (ab, .cells false true [.bool T.asked]) (by simp [P4])).1, (p6 (tb, .cells false true [.bool T.there]) (by simp [P4])).1, H5.c.keep hcb6, H5.r⟩, fun _ => Iff.rfl, n2⟩
          refine ⟨fun i => A2 i ∨ i = yb ∨ i = lb ∨ i = ab ∨ i = tb ∨ i = cb, c6, fun i hi => ?_, ?_⟩
          · rcases hi with hi | hi
            · refine ⟨(t6.n i (.inl hi)).1, ?_⟩
              rcases (t6.n i (.inl hi)).2 with (h | h) | h
              · exact .inl (.inl ((hX.A i).2 (h.imp id fun h => by have := (hP4 i).1 h; omega)))
              · exact .inr (by have := hB5 i h; have := hch.size; omega)
              · exact .inr (by omega)
            · refine ⟨?_, .inl (.inl ((hX.A i).2 (.inr hi)))⟩
              have : i < m3.size := by
                by_cases h : i = cb
                · rw [h]; exact H3.c.lt
                · exact plt i (by omega)
              have := o5.size; have := t6.c.size; omega
          · rcases hw with ⟨rfl, hQ⟩ | ⟨rfl, hQ⟩
            · exact .inl ⟨rfl, A2, mk _ hQ⟩
            · exact .inr ⟨rfl, A2, mk _ hQ⟩
      have done_ : ∀ (w : Value) (m' : Mem), (∃ A'', ChgS (fun i => A' i ∨ B i) m2 m' ∧ NewS (fun i => A' i ∨ B i) m2 m' A'' ∧ (w = .bool true ∧ (∃ A1, JX Z0 (.func yf ya yc) yb lb ab tb cb (I (k + 1)) T m' A'' A1) ∨ w = .bool false ∧ (∃ A1, JX Z0 (.func yf ya yc) yb lb ab tb cb (D k) T m' A'' A1))) →
          (w = .bool true ∧ ∃ A'', ChgS (fun i => A' i ∨ B i) m2 m' ∧ NewS (fun i => A' i ∨ B i) m2 m' A'' ∧ ∃ A1, JX Z0 (.func yf ya yc) yb lb ab tb cb (I (k + 1)) T m' A'' A1) ∨ (w = .bool false ∧ ∃ A'', ChgS (fun i => A' i ∨ B i) m2 m' ∧ NewS (fun i => A' i ∨ B i) m2 m' A'' ∧ ∃ A1, JX Z0 (.func yf ya yc) yb lb ab tb cb (D k) T m' A'' A1) := by
        rintro w m' ⟨A'', c, n, ⟨hw, h⟩ | ⟨hw, h⟩⟩
        · exact .inl ⟨hw, A'', c, n, h⟩
        · exact .inr ⟨hw, A'', c, n, h⟩
      have ry3 := get_at0 gy3
      cases hth : T.there with
      | false =>
        rw [hth] at rt
        simp (decide := true) (implicitDefEqProofs := false) (maxDischargeDepth := 20) only [go_sem, HRow.v, e2, e4, e5, e7, e8, rt, ry3, ↓reduceIte, true_implies, false_implies]
        refine CallF.step ((yield m3 (.pointer none) none' (.refl _) (fun _ h => h.elim) (elx _ _ _ (by unfold hitJ; rw [if_neg (by rw [hth]; simp)]))).mono fun w m6 hw => ?_)
        rcases done_ w m6 hw with ⟨rfl, h⟩ | ⟨rfl, A'', c, nn, h⟩
        · simp (decide := true) (implicitDefEqProofs := false) (maxDischargeDepth := 20) only [go_sem, HRow.v, ↓reduceIte, true_implies, false_implies]
          exact h
        · simp (decide := true) (implicitDefEqProofs := false) (maxDischargeDepth := 20) only [go_sem, HRow.v, ↓reduceIte, true_implies, false_implies]
          exact ⟨A'', c, nn, .inl trivial, h⟩
      | true =>
        rw [hth] at rt
        simp (decide := true) (implicitDefEqProofs := false) (maxDischargeDepth := 20) only [go_sem, HRow.v, e2, e4, e5, e7, e8, rt, rl, rc, ↓reduceIte, true_implies, false_implies]
        refine CallF.step ((hc x T.last hxk (H3.r.1.sub h0) m3 z3).mono ?_)
        rintro w m4 ⟨rfl, o4⟩
        have rl4 : m4.at lb 0 = _ := get_at0 ((o4.get (getM_lt H3.l)).trans H3.l)
        have ry4 : m4.at yb 0 = _ := get_at0 ((o4.get (getM_lt gy3)).trans gy3)
        by_cases h0 : cmp x T.last = 0
        · have d0 : (cmp x T.last == 0) = true := by simpa using h0
          have nyb : ¬ yb = m4.size := by have := at_lt ry4; omega
          simp (decide := true) (implicitDefEqProofs := false) (maxDischargeDepth := 20) only [go_sem, HRow.v, e2, e4, e5, e7, e8, d0, rl4, ry4, nyb, ↓reduceIte, true_implies, false_implies]
          rw [put_push _ _ _ rfl]
          have o45 : Old m4 (m4.ext [some (.cells false true [T.last.v])]) := ⟨_, rfl⟩
          refine CallF.step ((yield (m4.ext [some (.cells false true [T.last.v])]) (.pointer (some ⟨m4.size, 0, none⟩)) (fun i => i = m4.size) (o4.trans o45) (fun i hi => ⟨by rw [hi]; exact o4.size, by rw [hi, size_ext]; simp⟩) (elx _ _ _ (by
            unfold hitJ
            rw [if_pos ⟨hth, h0⟩]
            exact ⟨m4.size, rfl, by rw [← push_ext, getM_push, if_pos rfl], rfl⟩))).mono fun w m6 hw => ?_)
          rcases done_ w m6 hw with ⟨rfl, h⟩ | ⟨rfl, A'', c, nn, h⟩
          · simp (decide := true) (implicitDefEqProofs := false) (maxDischargeDepth := 20) only [go_sem, HRow.v, ↓reduceIte, true_implies, false_implies]
            exact h
          · simp (decide := true) (implicitDefEqProofs := false) (maxDischargeDepth := 20) only [go_sem, HRow.v, ↓reduceIte, true_implies, false_implies]
            exact ⟨A'', c, nn, .inl trivial, h⟩
        · have d0 : (cmp x T.last == 0) = false := by simpa using h0
          simp (decide := true) (implicitDefEqProofs := false) (maxDischargeDepth := 20) only [go_sem, HRow.v, e2, e4, e5, e7, e8, d0, rl4, ry4, ↓reduceIte, true_implies, false_implies]
          refine CallF.step ((yield m4 (.pointer none) none' o4 (fun _ h => h.elim) (elx _ _ _ (by unfold hitJ; rw [if_neg (fun h => h0 h.2)]))).mono fun w m6 hw => ?_)
          rcases done_ w m6 hw with ⟨rfl, h⟩ | ⟨rfl, A'', c, nn, h⟩
          · simp (decide := true) (implicitDefEqProofs := false) (maxDischargeDepth := 20) only [go_sem, HRow.v, ↓reduceIte, true_implies, false_implies]
            exact h
          · simp (decide := true) (implicitDefEqProofs := false) (maxDischargeDepth := 20) only [go_sem, HRow.v, ↓reduceIte, true_implies, false_implies]
            exact ⟨A'', c, nn, .inl trivial, h⟩
    · rintro m' A' z' o' ow ⟨A1, hX⟩ c1 c2
      have oc : ChgS (fun i => A i ∨ i = cb) m m' := ⟨Nat.le_trans ho.size c1.size, fun i hi hne => by
        rw [c1.get i (Nat.lt_of_lt_of_le hi ho.size) (by
          rintro ((h | h) | h)
          · exact hne (.inl h)
          · by_cases hq : i = cb
            · exact hne (.inr hq)
            · have := mine i (by omega); omega
          · exact h), ho.get hi]⟩
      have on : NewS A m m' A1 := fun i hi => by
        have h2 := c2 i ((hX.A i).2 (.inl hi))
        refine ⟨h2.1, ?_⟩
        rcases h2.2 with (h | h) | h
        · exact .inl h
        · have := hX.n i hi; omega
        · exact .inr (Nat.le_trans ho.size h)
      simp (decide := true) (implicitDefEqProofs := false) (maxDischargeDepth := 20) only [go_sem, HRow.v, ↓reduceIte, true_implies, false_implies]
      refine ⟨A1, oc, on, .inl ⟨?_, hX.q⟩⟩
      have e : xs.take (n + 1) = xs.take n := by rw [List.take_of_length_le (by omega), List.take_of_length_le (by omega)]
      show CurAt Z0 cb (stJ cmp l (xs.take (n + 1))).left m'
      rw [e]
      exact hX.b.c
    · rintro k x m' A' hk z' o' ow hx ⟨rfl, A1, hX⟩ c1 c2
      have oc : ChgS (fun i => A i ∨ i = cb) m m' := ⟨Nat.le_trans ho.size c1.size, fun i hi hne => by
        rw [c1.get i (Nat.lt_of_lt_of_le hi ho.size) (by
          rintro ((h | h) | h)
          · exact hne (.inl h)
          · by_cases hq : i = cb
            · exact hne (.inr hq)
            · have := mine i (by omega); omega
          · exact h), ho.get hi]⟩
      have on : NewS A m m' A1 := fun i hi => by
        have h2 := c2 i ((hX.A i).2 (.inl hi))
        refine ⟨h2.1, ?_⟩
        rcases h2.2 with (h | h) | h
        · exact .inl h
        · have := hX.n i hi; omega
        · exact .inr (Nat.le_trans ho.size h)
      simp (decide := true) (implicitDefEqProofs := false) (maxDischargeDepth := 20) only [go_sem, HRow.v, ↓reduceIte, true_implies, false_implies]
      exact ⟨A1, oc, on, .inr ⟨k, hk, hX.b.c, hX.q⟩⟩


/-! ### JnD -/

theorem NaN_ans (x : Int) : Ans E F_cmp_isNaN_int [.int .i64 x] (.bool false) := by
  refine .of fn_cmp_isNaN_int (by simp) fun m => ?_
  have d1 : (x != x) = false := by simp
  simp (decide := true) (implicitDefEqProofs := false) (maxDischargeDepth := 20) only [go_sem, ↓reduceIte, d1, true_implies, false_implies]
set_option maxRecDepth 100000 in
theorem CmpI_ans (x y : Int) : Ans E F_cmp_Compare_int [.int .i64 x, .int .i64 y] (.int .i64 (cmpI x y)) := by
  refine .of fn_cmp_Compare_int (by simp) fun m => ?_
  have nx := NaN_ans x
  have ny := NaN_ans y
  unfold cmpI
  by_cases h : x < y
  · have d1 : decide (x < y) = true := by simpa using h
    rw [if_pos h]
    simp (decide := true) (implicitDefEqProofs := false) (maxDischargeDepth := 20) only [go_sem, ↓reduceIte, d1, nx.eq, ny.eq, true_implies, false_implies]
  · have d1 : decide (x < y) = false := by simpa using h
    rw [if_neg h]
    by_cases k : y < x
    · have d2 : decide (x > y) = true := by simpa using k
      rw [if_pos k]
      simp (decide := true) (implicitDefEqProofs := false) (maxDischargeDepth := 20) only [go_sem, ↓reduceIte, d1, d2, nx.eq, ny.eq, true_implies, false_implies]
    · have d2 : decide (x > y) = false := by simpa using k
      rw [if_neg k]
      simp (decide := true) (implicitDefEqProofs := false) (maxDischargeDepth := 20) only [go_sem, ↓reduceIte, d1, d2, nx.eq, ny.eq, true_implies, false_implies]

def cmpR (col : Nat) (a b : HRow) : Int := cmpI (a.xs.getD col 0) (b.xs.getD 0 0)
set_option maxRecDepth 100000 in
theorem Order_ok {Z : Nat → Option Blk} {bc col : Nat} {ro tg : Bool} (hb : Z bc = some (.cells ro tg [vI (col : Nat)])) (hcol : col ≤ 1000) (a b : HRow) (ha : RowZ Z a) (hbz : RowZ Z b) : PureF E Z (.func (.func F_stage_found_1_1) #[] #[ptr bc]) [a.v, b.v] (vI (cmpR col a b)) := fun m z => by
  obtain ⟨aad, an, ac, axs⟩ := a
  obtain ⟨bad, bn, bcc, bxs⟩ := b
  have rc := frozen_at z hb
  refine callF_of (by simp only [go_sem]) (l := [.slice aad an ac, .slice bad bn bcc, ptr bc]) (by simp [HRow.v]) (.enter fn_stage_found_1_1 (by simp) ?_)
  simp (decide := true) (implicitDefEqProofs := false) (maxDischargeDepth := 20) only [go_sem, rc, ↓reduceIte, true_implies, false_implies]
  refine (At_at col (ha m z).sl (by omega)).mono ?_
  rintro w m1 ⟨rfl, o1⟩
  simp (decide := true) (implicitDefEqProofs := false) (maxDischargeDepth := 20) only [go_sem, ↓reduceIte, true_implies, false_implies]
  refine (At_at 0 ((hbz m z).sl.old o1) (by omega)).mono ?_
  rintro w m2 ⟨rfl, o2⟩
  simp (decide := true) (implicitDefEqProofs := false) (maxDischargeDepth := 20) only [go_sem, ↓reduceIte, true_implies, false_implies]
  refine ((CmpI_ans _ _) m2).mono ?_
  rintro w m3 ⟨rfl, o3⟩
  simp (decide := true) (implicitDefEqProofs := false) (maxDischargeDepth := 20) only [go_sem, ↓reduceIte, true_implies, false_implies]
  exact ⟨rfl, o1.trans (o2.trans o3)⟩

/-- What is laid behind a row that has found its like. -/
def PutOk (Z : Nat → Option Blk) (f : Value) (putL : List Int → List Int → List Int) : Prop := ∀ (m : Mem) (B : Nat) (a : Option Addr) (n : Nat) (xs : List Int) (y : HRow), Frozen Z m → RowZ Z y → B ≤ m.size → n ≤ 1000 → Vec B m 1 a n (xs.map (.int .i64)) →
  CallF E f [.slice a n n, y.v] m fun w m' => ∃ a', w = .slice a' (putL xs y.xs).length (putL xs y.xs).length ∧ Vec B m' 1 a' (putL xs y.xs).length ((putL xs y.xs).map (.int .i64)) ∧ m.size ≤ m'.size ∧ ∀ i, i < B → m'.get i = m.get i

set_option maxRecDepth 100000 in
theorem Entities_ok (Z : Nat → Option Blk) : PutOk Z (.func (.func F_stage_Entities_1) #[] #[]) fun r x => r ++ [x.getD 1 0, x.getD 2 0] := fun m B a n xs y z hy hB hn V => by
  obtain ⟨yad, yn, yc, yxs⟩ := y
  refine callF_of (by simp only [go_sem]) (l := [.slice a n n, .slice yad yn yc]) (by simp [HRow.v]) (.enter fn_stage_Entities_1 (by simp) ?_)
  have hl : xs.length = n := by have := V.len; simpa using this
  simp (decide := true) (implicitDefEqProofs := false) (maxDischargeDepth := 20) only [go_sem, ↓reduceIte, true_implies, false_implies]
  refine (At_at 1 (hy m z).sl (by omega)).mono ?_
  rintro w m1 ⟨rfl, o1⟩
  simp (decide := true) (implicitDefEqProofs := false) (maxDischargeDepth := 20) only [go_sem, ↓reduceIte, true_implies, false_implies]
  refine (At_at 2 ((hy m z).sl.old o1) (by omega)).mono ?_
  rintro w m2 ⟨rfl, o2⟩
  have o02 := o1.trans o2
  have s02 := o02.size
  simp (decide := true) (implicitDefEqProofs := false) (maxDischargeDepth := 20) only [go_sem, ↓reduceIte, true_implies, false_implies]
  obtain ⟨mp, hmp⟩ : ∃ mp, mp = m2.push (.cells false true [.int .i64 (yxs.getD 1 0), .int .i64 (yxs.getD 2 0)]) := ⟨_, rfl⟩
  have op : Old m2 mp := by rw [hmp]; exact .push (.refl m2) _
  have sp : mp.size = m2.size + 1 := by rw [hmp, size_push]
  have S : SlA mp 1 (some ⟨m2.size, 0, none⟩) 2 2 [.int .i64 (yxs.getD 1 0), .int .i64 (yxs.getD 2 0)] := .new (by rw [hmp, getM_push, if_pos rfl]) rfl rfl
  rw [← hmp]
  refine (V.old (o02.trans op)).append (by omega) (S.appended' (by decide +kernel) (by decide)) rfl (by decide +kernel) rfl (by omega) fun m3 a3 v3 k3 h3 => ?_
  simp (decide := true) (implicitDefEqProofs := false) (maxDischargeDepth := 20) only [go_sem, ↓reduceIte, true_implies, false_implies]
  have e1 : (xs ++ [yxs.getD 1 0, yxs.getD 2 0]).length = n + 2 := by simp [hl]
  refine ⟨a3, by rw [e1], ?_, by have := k3.1; omega, fun i hi => ?_⟩
  · rw [e1, List.map_append]
    exact v3
  · rw [k3.2 i (by omega) fun x hx e => by have := (V.blk x hx).1; omega, (o02.trans op).get (by omega)]
theorem Partners_ok (Z : Nat → Option Blk) : PutOk Z (.func (.func F_stage_Partners_1) #[] #[]) fun r x => r := fun m B a n xs y z hy hB hn V => by
  obtain ⟨yad, yn, yc, yxs⟩ := y
  refine callF_of (by simp only [go_sem]) (l := [.slice a n n, .slice yad yn yc]) (by simp [HRow.v]) (.enter fn_stage_Partners_1 (by simp) ?_)
  have hl : xs.length = n := by have := V.len; simpa using this
  simp (decide := true) (implicitDefEqProofs := false) (maxDischargeDepth := 20) only [go_sem, ↓reduceIte, true_implies, false_implies]
  exact ⟨a, by rw [hl], by rw [hl]; exact ⟨V, fun _ _ => trivial⟩⟩

/-- The row that comes out, and why it doesn't stand. -/
def foundR (putL : List Int → List Int → List Int) (r : HRow) (hit : Option HRow) : List Int := match hit with
  | some y => putL r.xs y.xs
  | none => r.xs
def foundW (col : Nat) (why : Int) (r : HRow) (hit : Option HRow) : Int := match hit with
  | some _ => 0
  | none => if col = 5 ∧ r.xs.getD 5 0 = 0 then 0 else why
def foundEl (putL : List Int → List Int → List Int) (col : Nat) (why : Int) (hit : Nat → Option HRow) (xs : List HRow) : Nat → List Value → Mem → Set' → Prop := fun k vs m B =>
  ∃ a, vs = [.slice a (foundR putL (xs.getD k noRow) (hit k)).length (foundR putL (xs.getD k noRow) (hit k)).length, vI (foundW col why (xs.getD k noRow) (hit k))] ∧
    Vec 0 m 1 a (foundR putL (xs.getD k noRow) (hit k)).length ((foundR putL (xs.getD k noRow) (hit k)).map (.int .i64)) ∧ ∀ i, B i ↔ ∃ x, a = some x ∧ i = x.block
theorem foundEl_loc (putL : List Int → List Int → List Int) (col : Nat) (why : Int) (hit : Nat → Option HRow) (xs : List HRow) (k : Nat) (vs : List Value) : LocP (foundEl putL col why hit xs k vs) := by
  rintro m m' A ⟨a, h1, h2, h3⟩ hk hs
  exact ⟨a, h1, h2.keep fun x hx => hk _ ((h3 _).2 ⟨x, hx, rfl⟩), h3⟩
theorem CurAt.sub {Z : Nat → Option Blk} {b : Nat} {l : List HRow} {m : Mem} (h : CurAt Z b l m) : b < m.size := h.lt

end Go.Proofs.Ytpabllcacdopdaa.W
