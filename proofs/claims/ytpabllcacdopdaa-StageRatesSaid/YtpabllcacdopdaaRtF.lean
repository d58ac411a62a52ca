/-
  stage.Rates: what is behind. stage.Rates: asked on. stage.Rates: a line's money. stage.Rates as an iterator. stage.Rates as an iterator: the whole. stage.Rates: the call; the last rate that is not behind.
-/
import Derived.Test.YtpabllcacdopdaaJnD
import Derived.Test.YtpabllcacdopdaaScG
import Derived.Test.YtpabllcacdopdaaJnD
namespace Go.Proofs.Ytpabllcacdopdaa.W
open Go.Abs
set_option linter.unusedSimpArgs false
set_option linter.unusedVariables false


/-! ### RtA -/

theorem loop3 {E : Env} {f n : Nat} {rd : Option Nat} {b : MC} {K : Post3} {t : Fr} {m : Mem} (h : wpM E f n rd b (seqK (fun t m => wpM E f n rd b (seqK (fun t m => wpM E f n rd b (seqK (fun _ _ => False) K) t m) K) t m) K) t m) : wpM E f n rd (.loop b) K t m := ⟨3, h⟩
set_option maxRecDepth 100000 in
set_option maxHeartbeats 4000000 in
theorem Or2_at {m : Mem} {a : Option Addr} {c : Nat} {x y : Int} (h : SlA m 1 a 2 c ([x, y].map (.int .i64))) : CallQ E F_cmp_Or_int [.slice a 2 c].toArray m fun w m' => w = .int .i64 (if x = 0 then y else x) ∧ Old m m' := by
  refine .enter fn_cmp_Or_int (by simp) ?_
  obtain ⟨ab, ao, asp, rfl⟩ := h.addr (by omega)
  have q0 : m.at ab (ao + Int.toNat 0) = some (.int .i64 x) := h.at_map (show 0 < 2 by omega)
  have q1 : m.at ab (ao + Int.toNat 1) = some (.int .i64 y) := h.at_map (show 1 < 2 by omega)
  have w1 : IntKind.wrap .i64 (0 + 1) = 1 := rfl
  have w2 : IntKind.wrap .i64 (1 + 1) = 2 := rfl
  have l2 : decide ((0 : Int) < ((2 : Nat) : Int)) = true := rfl
  have l3 : decide ((1 : Int) < ((2 : Nat) : Int)) = true := rfl
  have l4 : decide ((2 : Int) < ((2 : Nat) : Int)) = false := rfl
  simp (decide := true) (implicitDefEqProofs := false) (maxDischargeDepth := 20) only [go_sem, ↓reduceIte, true_implies, false_implies]
  simp only [c_cmp_Or_int_10_at, wpM_block, c_cmp_Or_int_9_at]
  refine loop3 ?_
  by_cases hx : x = 0
  · have d0 : (x != 0) = false := by simpa using hx
    rw [if_pos hx]
    by_cases hy : y = 0
    · have d1 : (y != 0) = false := by simpa using hy
      simp (decide := true) (implicitDefEqProofs := false) (maxDischargeDepth := 20) only [go_sem, q0, q1, d0, d1, w1, w2, l2, l3, l4, ↓reduceIte, true_implies, false_implies]
      rw [hy]
    · have d1 : (y != 0) = true := by simpa using hy
      simp (decide := true) (implicitDefEqProofs := false) (maxDischargeDepth := 20) only [go_sem, q0, q1, d0, d1, w1, w2, l2, l3, l4, ↓reduceIte, true_implies, false_implies]
  · have d0 : (x != 0) = true := by simpa using hx
    rw [if_neg hx]
    simp (decide := true) (implicitDefEqProofs := false) (maxDischargeDepth := 20) only [go_sem, q0, d0, w1, w2, l2, l3, l4, ↓reduceIte, true_implies, false_implies]

/-- A rate against a line: its currency, then its day. -/
def behI (xs ys : List Int) : Int := if cmpI (xs.getD 0 0) (ys.getD 6 0) = 0 then cmpI (xs.getD 1 0) (ys.getD 3 0) else cmpI (xs.getD 0 0) (ys.getD 6 0)
set_option maxRecDepth 100000 in
set_option maxHeartbeats 4000000 in
theorem Behind_at {m : Mem} {a b : Option Addr} {n c n' c' : Nat} {xs ys : List Int} (h : SlA m 1 a n c (xs.map (.int .i64))) (k : SlA m 1 b n' c' (ys.map (.int .i64))) (hn : n ≤ 1000000) (hn' : n' ≤ 1000000) :
    CallQ E F_stage_behind [.slice a n c, .slice b n' c'].toArray m fun w m' => w = .bool (decide (behI xs ys > 0)) ∧ Old m m' := by
  refine .enter fn_stage_behind (by simp) ?_
  simp (decide := true) (implicitDefEqProofs := false) (maxDischargeDepth := 20) only [go_sem, ↓reduceIte, true_implies, false_implies]
  refine (At_at 0 h (by omega)).mono ?_
  rintro w m1 ⟨rfl, o1⟩
  simp (decide := true) (implicitDefEqProofs := false) (maxDischargeDepth := 20) only [go_sem, ↓reduceIte, true_implies, false_implies]
  refine (At_at 6 (k.old o1) (by omega)).mono ?_
  rintro w m2 ⟨rfl, o2⟩
  have o02 := o1.trans o2
  simp (decide := true) (implicitDefEqProofs := false) (maxDischargeDepth := 20) only [go_sem, ↓reduceIte, true_implies, false_implies]
  refine ((CmpI_ans _ _) m2).mono ?_
  rintro w m3 ⟨rfl, o3⟩
  have o03 := o02.trans o3
  simp (decide := true) (implicitDefEqProofs := false) (maxDischargeDepth := 20) only [go_sem, ↓reduceIte, true_implies, false_implies]
  refine (At_at 1 (h.old o03) (by omega)).mono ?_
  rintro w m4 ⟨rfl, o4⟩
  have o04 := o03.trans o4
  simp (decide := true) (implicitDefEqProofs := false) (maxDischargeDepth := 20) only [go_sem, ↓reduceIte, true_implies, false_implies]
  refine (At_at 3 (k.old o04) (by omega)).mono ?_
  rintro w m5 ⟨rfl, o5⟩
  have o05 := o04.trans o5
  simp (decide := true) (implicitDefEqProofs := false) (maxDischargeDepth := 20) only [go_sem, ↓reduceIte, true_implies, false_implies]
  refine ((CmpI_ans _ _) m5).mono ?_
  rintro w m6 ⟨rfl, o6⟩
  have o06 := o05.trans o6
  simp (decide := true) (implicitDefEqProofs := false) (maxDischargeDepth := 20) only [go_sem, ↓reduceIte, true_implies, false_implies]
  obtain ⟨m7, hm7⟩ : ∃ m7, m7 = m6.push (.cells false true [.int .i64 (cmpI (xs.getD 0 0) (ys.getD 6 0)), .int .i64 (cmpI (xs.getD 1 0) (ys.getD 3 0))]) := ⟨_, rfl⟩
  have o7 : Old m6 m7 := by rw [hm7]; exact .push (.refl m6) _
  rw [← hm7]
  refine (Or2_at (x := cmpI (xs.getD 0 0) (ys.getD 6 0)) (y := cmpI (xs.getD 1 0) (ys.getD 3 0)) (.new (by rw [hm7, getM_push, if_pos rfl]; rfl) rfl rfl)).mono ?_
  rintro w m8 ⟨rfl, o8⟩
  simp (decide := true) (implicitDefEqProofs := false) (maxDischargeDepth := 20) only [go_sem, ↓reduceIte, true_implies, false_implies]
  exact ⟨rfl, o06.trans (o7.trans o8)⟩


/-! ### RtB -/

/-- What is asked of the rates. -/
structure RS where
  asked : Bool
  there : Bool
  ahead : HRow
  left : List HRow
  cur : Int
  mul : Int
  div : Int
def askR (s : RS) : RS := ⟨true, !s.left.isEmpty, s.left.headD noRow, s.left.tail, if s.there then s.ahead.xs.getD 0 0 else s.cur, if s.there then s.ahead.xs.getD 2 0 else s.mul, if s.there then s.ahead.xs.getD 3 0 else s.div⟩
def moreR (s : RS) (r : List Int) : Bool := !s.asked || (s.there && !decide (behI s.ahead.xs r > 0))
def szR (s : RS) : Nat := 2 * s.left.length + (if s.there then 1 else 0) + (if s.asked then 0 else 1)
theorem askR_sz (s : RS) (r : List Int) (h : moreR s r = true) : szR (askR s) < szR s := by
  obtain ⟨a, t, ah, l, c, mu, d⟩ := s
  unfold szR askR
  cases l with
  | nil => cases a <;> cases t <;> simp [moreR] at h ⊢
  | cons y l => cases a <;> cases t <;> simp <;> omega
def advR (s : RS) (r : List Int) : Nat → RS
  | 0 => s
  | f + 1 => if moreR s r then advR (askR s) r f else s

theorem advR_stop {s : RS} {r : List Int} (h : moreR s r = false) (f : Nat) : advR s r f = s := by
  cases f with
  | zero => rfl
  | succ f =>
    show (if moreR s r = true then _ else s) = s
    rw [if_neg (by rw [h]; exact Bool.noConfusion)]

/-- The boxes. -/
structure RB (m : Mem) (ab b5 b6 b7 tb kb : Nat) (s : RS) : Prop where
  a : m.get ab = some (.cells false true [s.ahead.v])
  c : m.get b5 = some (.cells false true [vI s.cur])
  mu : m.get b6 = some (.cells false true [vI s.mul])
  d : m.get b7 = some (.cells false true [vI s.div])
  t : m.get tb = some (.cells false true [.bool s.there])
  k : m.get kb = some (.cells false true [.bool s.asked])

set_option maxRecDepth 100000 in
set_option maxHeartbeats 8000000 in
theorem Rates_take {m : Mem} {t : Fr} {rd : Option Nat} {ab b5 b6 b7 tb kb : Nat} {s : RS} (B : RB m ab b5 b6 b7 tb kb s) (ha : s.there = true → s.ahead.At m ∧ s.ahead.n ≤ 1000000) (hne : ab < b5 ∧ b5 < b6 ∧ b6 < b7 ∧ b7 < tb ∧ tb < kb)
    (t4 : t 4 = ptr ab) (t5 : t 5 = ptr b5) (t6 : t 6 = ptr b6) (t7 : t 7 = ptr b7) (t28 : t 28 = .bool s.there) {K : Post3}
    (hK : ∀ t' m', Agree (writes c_stage_Rates_1_2) t t' → RB m' ab b5 b6 b7 tb kb ⟨s.asked, s.there, s.ahead, s.left, (askR s).cur, (askR s).mul, (askR s).div⟩ → m.size ≤ m'.size → (∀ i, i < m.size → i ≠ b5 → i ≠ b6 → i ≠ b7 → m'.get i = m.get i) → K .normal t' m') :
    wpM E F_stage_Rates_1 68 rd c_stage_Rates_1_2 K t m := by
  refine wpM_cut (fun t' m' => RB m' ab b5 b6 b7 tb kb ⟨s.asked, s.there, s.ahead, s.left, (askR s).cur, (askR s).mul, (askR s).div⟩ ∧ m.size ≤ m'.size ∧ ∀ i, i < m.size → i ≠ b5 → i ≠ b6 → i ≠ b7 → m'.get i = m.get i) ?_ fun t' m' hg ⟨h1, h2, h3⟩ => hK t' m' hg h1 h2 h3
  obtain ⟨ask, the, ahd, lft, cur, mul, dv⟩ := s
  cases the with
  | false =>
    simp only at t28
    simp (decide := true) (implicitDefEqProofs := false) (maxDischargeDepth := 20) only [go_sem, t28, ↓reduceIte, true_implies, false_implies]
    exact ⟨B, fun _ _ _ _ _ => trivial⟩
  | true =>
    obtain ⟨hA, hn⟩ := ha rfl
    obtain ⟨ad, n, c, xs⟩ := ahd
    simp only at t28 hn
    have hS : SlA m 1 ad n c (xs.map (.int .i64)) := hA.sl
    have rA : m.at ab 0 = some (.slice ad n c) := get_at0 B.a
    have c0 : ∀ (mm : Mem) (h : SlA mm 1 ad n c (xs.map (.int .i64))) (K : Value → Mem → Prop), CallQ E F_stage_at #[.slice ad n c, .int .i64 0] mm K = K (.int .i64 (xs.getD 0 0)) (ansM E F_stage_at #[.slice ad n c, .int .i64 0] [] mm) := fun mm h K => callQ_eq (args := [.slice ad n c, .int .i64 0]) (At_at 0 h (by omega)) K
    have c2 : ∀ (mm : Mem) (h : SlA mm 1 ad n c (xs.map (.int .i64))) (K : Value → Mem → Prop), CallQ E F_stage_at #[.slice ad n c, .int .i64 2] mm K = K (.int .i64 (xs.getD 2 0)) (ansM E F_stage_at #[.slice ad n c, .int .i64 2] [] mm) := fun mm h K => callQ_eq (args := [.slice ad n c, .int .i64 2]) (At_at 2 h (by omega)) K
    have c3 : ∀ (mm : Mem) (h : SlA mm 1 ad n c (xs.map (.int .i64))) (K : Value → Mem → Prop), CallQ E F_stage_at #[.slice ad n c, .int .i64 3] mm K = K (.int .i64 (xs.getD 3 0)) (ansM E F_stage_at #[.slice ad n c, .int .i64 3] [] mm) := fun mm h K => callQ_eq (args := [.slice ad n c, .int .i64 3]) (At_at 3 h (by omega)) K
    have gC := B.c
    have gM := B.mu
    have gD := B.d
    have l5 := getM_lt gC
    have l6 := getM_lt gM
    have l7 := getM_lt gD
    simp (decide := true) (implicitDefEqProofs := false) (maxDischargeDepth := 20) only [go_sem, t4, t5, t6, t7, t28, rA, c0, c2, c3, hS, SlA.gm, SlA.ansM, gC, gM, gD, ↓reduceIte, true_implies, false_implies]
    obtain ⟨M, hM⟩ : ∃ M, M = ansM E F_stage_at #[.slice ad n c, .int .i64 3] [] (ansM E F_stage_at #[.slice ad n c, .int .i64 2] [ab] (ansM E F_stage_at #[.slice ad n c, .int .i64 0] [ab, ab] m)) := ⟨_, rfl⟩
    have oM : Old m M := by rw [hM]; exact .ansM (.ansM (.ansM (.refl m)))
    have sM := oM.size
    rw [← hM]
    clear hM
    have gC' : M.get b5 = some (.cells false true [vI cur]) := (oM.get l5).trans gC
    have gM' : M.get b6 = some (.cells false true [vI mul]) := (oM.get l6).trans gM
    have gD' : M.get b7 = some (.cells false true [vI dv]) := (oM.get l7).trans gD
    have k5 := getM_lt gC'
    have k6 := getM_lt gM'
    have k7 := getM_lt gD'
    have n65 : ¬ b6 = b5 := by omega
    have n75 : ¬ b7 = b5 := by omega
    have n76 : ¬ b7 = b6 := by omega
    simp (decide := true) (implicitDefEqProofs := false) (maxDischargeDepth := 20) only [go_sem, t4, t5, t6, t7, gC', gM', gD', k5, k6, k7, n65, n75, n76, ↓reduceIte, true_implies, false_implies]
    have gp : ∀ i, i ≠ b5 → i ≠ b6 → i ≠ b7 → (((M.put b5 (some (.cells false true [vI (xs.getD 0 0)]))).put b6 (some (.cells false true [vI (xs.getD 2 0)]))).put b7 (some (.cells false true [vI (xs.getD 3 0)]))).get i = M.get i := fun i h1 h2 h3 => by
      rw [getM_put, if_neg (fun e => h3 e.1), getM_put, if_neg (fun e => h2 e.1), getM_put, if_neg (fun e => h1 e.1)]
    refine ⟨⟨(gp _ (by omega) (by omega) (by omega)).trans ((oM.get (getM_lt B.a)).trans B.a), ?_, ?_, ?_, (gp _ (by omega) (by omega) (by omega)).trans ((oM.get (getM_lt B.t)).trans B.t), (gp _ (by omega) (by omega) (by omega)).trans ((oM.get (getM_lt B.k)).trans B.k)⟩, sM, fun i hi h1 h2 h3 => by rw [if_neg h3, if_neg h2, if_neg h1, oM.get hi]⟩
    · rw [getM_put, if_neg (fun e => by omega), getM_put, if_neg (fun e => by omega), getM_put, if_pos ⟨rfl, k5⟩]; rfl
    · rw [getM_put, if_neg (fun e => by omega), getM_put, if_pos ⟨rfl, by rw [size_put]; exact k6⟩]; rfl
    · rw [getM_put, if_pos ⟨rfl, by rw [size_put, size_put]; exact k7⟩]; rfl

set_option maxRecDepth 100000 in
set_option maxHeartbeats 8000000 in
theorem Rates_next {Z : Nat → Option Blk} {m : Mem} {t : Fr} {rd : Option Nat} {ab b5 b6 b7 tb kb cb nb : Nat} {rn tn : Bool} {s : RS} (z : Frozen Z m) (B : RB m ab b5 b6 b7 tb kb s) (C : CurAt Z cb s.left m) (hll : s.left.length ≤ 1000000)
    (hz : ∀ i, (i = ab ∨ i = tb ∨ i = kb ∨ i = cb) → Z i = none) (hne : ab < b5 ∧ b5 < b6 ∧ b6 < b7 ∧ b7 < tb ∧ tb < kb) (hcb : cb < ab)
    (hnb : Z nb = some (.cells rn tn [.func (.func F_flow_Cursor_Sint_1) #[] #[ptr cb]]))
    (t2 : t 2 = ptr nb) (t4 : t 4 = ptr ab) (t8 : t 8 = ptr tb) (t9 : t 9 = ptr kb) {K : Post3}
    (hK : ∀ t' m', Agree (writes c_stage_Rates_1_4) t t' → RB m' ab b5 b6 b7 tb kb ⟨true, !s.left.isEmpty, s.left.headD noRow, s.left.tail, s.cur, s.mul, s.div⟩ → CurAt Z cb s.left.tail m' → m'.size = m.size → (∀ i, i < m.size → i ≠ ab → i ≠ tb → i ≠ kb → i ≠ cb → m'.get i = m.get i) → K .normal t' m') :
    wpM E F_stage_Rates_1 68 rd c_stage_Rates_1_4 K t m := by
  refine wpM_cut (fun t' m' => RB m' ab b5 b6 b7 tb kb ⟨true, !s.left.isEmpty, s.left.headD noRow, s.left.tail, s.cur, s.mul, s.div⟩ ∧ CurAt Z cb s.left.tail m' ∧ m'.size = m.size ∧ (∀ i, i < m.size → i ≠ ab → i ≠ tb → i ≠ kb → i ≠ cb → m'.get i = m.get i)) ?_ fun t' m' hg ⟨h1, h2, h3, h4⟩ => hK t' m' hg h1 h2 h3 h4
  have rn' := frozen_at z hnb
  simp (decide := true) (implicitDefEqProofs := false) (maxDischargeDepth := 20) only [go_sem, t2, rn', ↓reduceIte, true_implies, false_implies]
  refine CallF.step ((Next_at C z hll).mono ?_)
  rintro w m1 ⟨rfl, C1, ch, s1⟩
  have g1 : ∀ i, i < m.size → i ≠ cb → m1.get i = m.get i := fun i hi h => ch.get i hi h
  have gA := (g1 ab (getM_lt B.a) (by omega)).trans B.a
  have gT := (g1 tb (getM_lt B.t) (by omega)).trans B.t
  have gK := (g1 kb (getM_lt B.k) (by omega)).trans B.k
  have lA := getM_lt gA
  have lT := getM_lt gT
  have lK := getM_lt gK
  have n1 : ¬ tb = ab := by omega
  have n2 : ¬ kb = ab := by omega
  have n3 : ¬ kb = tb := by omega
  obtain ⟨hd, hhd⟩ : ∃ hd, hd = s.left.headD noRow := ⟨_, rfl⟩
  rw [← hhd]
  obtain ⟨had, hn, hc, hxs⟩ := hd
  obtain ⟨mF, hmF⟩ : ∃ mF, mF = ((m1.put ab (some (.cells false true [.slice had hn hc]))).put tb (some (.cells false true [.bool (!s.left.isEmpty)]))).put kb (some (.cells false true [.bool true])) := ⟨_, rfl⟩
  have gp : ∀ i, i ≠ ab → i ≠ tb → i ≠ kb → mF.get i = m1.get i := fun i h1 h2 h3 => by
    rw [hmF, getM_put, if_neg (fun e => h3 e.1), getM_put, if_neg (fun e => h2 e.1), getM_put, if_neg (fun e => h1 e.1)]
  have gA' : mF.get ab = some (.cells false true [.slice had hn hc]) := by rw [hmF, getM_put, if_neg (fun e => by omega), getM_put, if_neg (fun e => by omega), getM_put, if_pos ⟨rfl, lA⟩]
  have gT' : mF.get tb = some (.cells false true [.bool (!s.left.isEmpty)]) := by rw [hmF, getM_put, if_neg (fun e => by omega), getM_put, if_pos ⟨rfl, by rw [size_put]; exact lT⟩]
  have gK' : mF.get kb = some (.cells false true [.bool true]) := by rw [hmF, getM_put, if_pos ⟨rfl, by rw [size_put, size_put]; exact lK⟩]
  have sF : mF.size = m1.size := by rw [hmF, size_put, size_put, size_put]
  simp (decide := true) (implicitDefEqProofs := false) (maxDischargeDepth := 20) only [go_sem, HRow.v, t4, t8, t9, gA, gT, gK, lA, lT, lK, n1, n2, n3, ← hmF, ↓reduceIte, true_implies, false_implies]
  refine ⟨⟨gA', (gp _ (by omega) (by omega) (by omega)).trans ((g1 _ (getM_lt B.c) (by omega)).trans B.c), (gp _ (by omega) (by omega) (by omega)).trans ((g1 _ (getM_lt B.mu) (by omega)).trans B.mu), (gp _ (by omega) (by omega) (by omega)).trans ((g1 _ (getM_lt B.d) (by omega)).trans B.d), gT', gK'⟩, C1.keep (gp cb (by omega) (by omega) (by omega)), by omega, fun i hi h1 h2 h3 h4 => by rw [gp i h1 h2 h3, g1 i hi h4]⟩

attribute [-go_sem] c_stage_Rates_1_2_at c_stage_Rates_1_4_at in
set_option maxRecDepth 100000 in
set_option maxHeartbeats 8000000 in
theorem Rates_ask {Z : Nat → Option Blk} {m0 : Mem} {t : Fr} {rd : Option Nat} {ab b5 b6 b7 tb kb cb nb : Nat} {rn tn : Bool} {s0 : RS} {rad : Option Addr} {rnn rc : Nat} {r : List Int} (z : Frozen Z m0) (B : RB m0 ab b5 b6 b7 tb kb s0) (C : CurAt Z cb s0.left m0) (hll : s0.left.length ≤ 1000000)
    (hz : ∀ i, (i = ab ∨ i = b5 ∨ i = b6 ∨ i = b7 ∨ i = tb ∨ i = kb ∨ i = cb) → Z i = none) (hne : ab < b5 ∧ b5 < b6 ∧ b6 < b7 ∧ b7 < tb ∧ tb < kb) (hcb : cb < ab)
    (hnb : Z nb = some (.cells rn tn [.func (.func F_flow_Cursor_Sint_1) #[] #[ptr cb]])) (hr : ∀ m, Frozen Z m → SlA m 1 rad rnn rc (r.map (.int .i64))) (hrn : rnn ≤ 1000000) (ha0 : s0.there = true → RowZ Z s0.ahead ∧ s0.ahead.n ≤ 1000000) (hl0 : ∀ y ∈ s0.left, RowZ Z y ∧ y.n ≤ 1000000)
    (t2 : t 2 = ptr nb) (t4 : t 4 = ptr ab) (t5 : t 5 = ptr b5) (t6 : t 6 = ptr b6) (t7 : t 7 = ptr b7) (t8 : t 8 = ptr tb) (t9 : t 9 = ptr kb) (t10 : t 10 = .slice rad rnn rc) {K : Post3}
    (hK : ∀ t' m', Agree (writes c_stage_Rates_1_9) t t' → RB m' ab b5 b6 b7 tb kb (advR s0 r (szR s0)) → CurAt Z cb (advR s0 r (szR s0)).left m' → ChgS (fun i => i = ab ∨ i = b5 ∨ i = b6 ∨ i = b7 ∨ i = tb ∨ i = kb ∨ i = cb) m0 m' → K .normal t' m') :
    wpM E F_stage_Rates_1 68 rd c_stage_Rates_1_9 K t m0 := by
  refine wpM_cut (fun t' m' => RB m' ab b5 b6 b7 tb kb (advR s0 r (szR s0)) ∧ CurAt Z cb (advR s0 r (szR s0)).left m' ∧ ChgS (fun i => i = ab ∨ i = b5 ∨ i = b6 ∨ i = b7 ∨ i = tb ∨ i = kb ∨ i = cb) m0 m') ?_ fun t' m' ha ⟨h1, h2, h3⟩ => hK t' m' ha h1 h2 h3
  simp only [c_stage_Rates_1_9_at, wpM_block, c_stage_Rates_1_8_at]
  refine wpM_loopA (fun j t' m' => ∃ s f, j = szR s ∧ szR s ≤ f ∧ advR s r f = advR s0 r (szR s0) ∧ s.left.length ≤ 1000000 ∧ RB m' ab b5 b6 b7 tb kb s ∧ CurAt Z cb s.left m' ∧ (s.there = true → RowZ Z s.ahead ∧ s.ahead.n ≤ 1000000) ∧ (∀ y ∈ s.left, RowZ Z y ∧ y.n ≤ 1000000) ∧ ChgS (fun i => i = ab ∨ i = b5 ∨ i = b6 ∨ i = b7 ∨ i = tb ∨ i = kb ∨ i = cb) m0 m') (szR s0)
    ⟨s0, szR s0, rfl, Nat.le_refl _, rfl, hll, B, C, ha0, hl0, .refl _ _⟩ ?_
  rintro j t' m' ha ⟨s, f, rfl, hf, hadv, hsl, B', C', hah, hlf, ch⟩
  have e2 := (ha 2 (by decide +kernel)).trans t2
  have e4 := (ha 4 (by decide +kernel)).trans t4
  have e5 := (ha 5 (by decide +kernel)).trans t5
  have e6 := (ha 6 (by decide +kernel)).trans t6
  have e7 := (ha 7 (by decide +kernel)).trans t7
  have e8 := (ha 8 (by decide +kernel)).trans t8
  have e9 := (ha 9 (by decide +kernel)).trans t9
  have e10 := (ha 10 (by decide +kernel)).trans t10
  have z' : Frozen Z m' := z.chg ch hz
  obtain ⟨ask, the, ahd, lft, cur, mul, dv⟩ := s
  have gA := B'.a
  have gK := B'.k
  have gT := B'.t
  have rK := get_at0 gK
  have rT := get_at0 gT
  have rA := get_at0 gA
  simp only at rK rT rA
  have lcb : cb < m'.size := by
    obtain ⟨ca, cc, h, _⟩ := C'
    exact getM_lt h
  -- a round more
  have round : moreR ⟨ask, the, ahd, lft, cur, mul, dv⟩ r = true → ∀ (t1 : Fr) (m1 : Mem) (Q R : Post3), Old m' m1 → t1 2 = ptr nb → t1 4 = ptr ab → t1 5 = ptr b5 → t1 6 = ptr b6 → t1 7 = ptr b7 → t1 8 = ptr tb → t1 9 = ptr kb → t1 28 = .bool the →
      (∀ (t2 : Fr) (m2 : Mem), (∃ j, j < szR ⟨ask, the, ahd, lft, cur, mul, dv⟩ ∧ ∃ s f, j = szR s ∧ szR s ≤ f ∧ advR s r f = advR s0 r (szR s0) ∧ s.left.length ≤ 1000000 ∧ RB m2 ab b5 b6 b7 tb kb s ∧ CurAt Z cb s.left m2 ∧ (s.there = true → RowZ Z s.ahead ∧ s.ahead.n ≤ 1000000) ∧ (∀ y ∈ s.left, RowZ Z y ∧ y.n ≤ 1000000) ∧ ChgS (fun i => i = ab ∨ i = b5 ∨ i = b6 ∨ i = b7 ∨ i = tb ∨ i = kb ∨ i = cb) m0 m2) → Q .normal t2 m2) → wpM E F_stage_Rates_1 68 rd c_stage_Rates_1_2 (seqK (wpM E F_stage_Rates_1 68 rd c_stage_Rates_1_4 Q) R) t1 m1 := by
    intro hmore t1 m1 Q R o1 q2 q4 q5 q6 q7 q8 q9 q28 hQ
    obtain ⟨s, hs⟩ : ∃ s : RS, s = ⟨ask, the, ahd, lft, cur, mul, dv⟩ := ⟨_, rfl⟩
    rw [← hs] at hmore B' hf hadv hQ
    have hthe : s.there = the := by rw [hs]
    have hlft : s.left = lft := by rw [hs]
    have hahd : s.ahead = ahd := by rw [hs]
    rw [← hthe] at q28
    simp only at C' hsl hah hlf
    rw [← hlft] at C' hsl hlf
    rw [← hthe, ← hahd] at hah
    clear hs
    have B1 : RB m1 ab b5 b6 b7 tb kb s := ⟨(o1.get (getM_lt B'.a)).trans B'.a, (o1.get (getM_lt B'.c)).trans B'.c, (o1.get (getM_lt B'.mu)).trans B'.mu, (o1.get (getM_lt B'.d)).trans B'.d, (o1.get (getM_lt B'.t)).trans B'.t, (o1.get (getM_lt B'.k)).trans B'.k⟩
    have z1 : Frozen Z m1 := z'.old o1
    have s1 := o1.size
    have chs := ch.size
    refine Rates_take (s := s) B1 (fun h => ⟨(hah h).1 m1 z1, (hah h).2⟩) hne q4 q5 q6 q7 q28 fun t2 m2 hag B2 s2 k2 => ?_
    have g2 := (hag 2 (by decide +kernel)).trans q2
    have g4 := (hag 4 (by decide +kernel)).trans q4
    have g8 := (hag 8 (by decide +kernel)).trans q8
    have g9 := (hag 9 (by decide +kernel)).trans q9
    have z2 : Frozen Z m2 := fun i c hi => by
      rw [k2 i (z1.lt hi) (fun e => by rw [e, hz b5 (by simp)] at hi; cases hi) (fun e => by rw [e, hz b6 (by simp)] at hi; cases hi) (fun e => by rw [e, hz b7 (by simp)] at hi; cases hi)]
      exact z1 i c hi
    have C2 : CurAt Z cb s.left m2 := C'.keep (by rw [k2 cb (by omega) (by omega) (by omega) (by omega), o1.get lcb])
    show wpM E F_stage_Rates_1 68 rd c_stage_Rates_1_4 Q t2 m2
    refine Rates_next (s := ⟨s.asked, s.there, s.ahead, s.left, (askR s).cur, (askR s).mul, (askR s).div⟩) z2 B2 C2 hsl (fun i hi => hz i (by omega)) hne hcb hnb g2 g4 g8 g9 fun t3 m3 hag3 B3 C3 s3 k3 => hQ t3 m3 ?_
    have hsz := askR_sz s r hmore
    obtain ⟨f', rfl⟩ : ∃ f', f = f' + 1 := ⟨f - 1, by omega⟩
    refine ⟨szR (askR s), hsz, askR s, f', rfl, by omega, ?_, ?_, B3, C3, fun h => ?_, fun y hy => hlf y (List.mem_of_mem_tail hy), ⟨by omega, fun i hi hna => ?_⟩⟩
    · rw [← hadv]
      show _ = if moreR s r = true then advR (askR s) r f' else s
      rw [if_pos hmore]
    · show s.left.tail.length ≤ 1000000
      rw [List.length_tail]
      omega
    · have h : (!s.left.isEmpty) = true := h
      show RowZ Z (s.left.headD noRow) ∧ (s.left.headD noRow).n ≤ 1000000
      cases hL : s.left with
      | nil => rw [hL] at h; cases h
      | cons y l => exact hlf y (by rw [hL]; exact List.mem_cons_self)
    · simp only [not_or] at hna
      rw [k3 i (by omega) hna.1 hna.2.2.2.2.1 hna.2.2.2.2.2.1 hna.2.2.2.2.2.2, k2 i (by omega) hna.2.1 hna.2.2.1 hna.2.2.2.1, o1.get (by omega), ch.get i hi (by simp only [not_or]; exact hna)]
  cases ask with
  | false =>
    simp (decide := true) (implicitDefEqProofs := false) (maxDischargeDepth := 20) only [go_sem, e2, e4, e5, e6, e7, e8, e9, e10, rK, rT, rA, ↓reduceIte, true_implies, false_implies]
    refine round rfl _ m' _ _ (.refl m') ?_ ?_ ?_ ?_ ?_ ?_ ?_ ?_ fun t2 m2 h => h
    all_goals simp (decide := true) only [go_sem, e2, e4, e5, e6, e7, e8, e9, ↓reduceIte]
  | true =>
    cases the with
    | false =>
      simp (decide := true) (implicitDefEqProofs := false) (maxDischargeDepth := 20) only [go_sem, e2, e4, e5, e6, e7, e8, e9, e10, rK, rT, rA, ↓reduceIte, true_implies, false_implies]
      rw [← hadv, advR_stop (by rfl)]
      exact ⟨B', C', ch⟩
    | true =>
      obtain ⟨hz1, hz2⟩ := hah rfl
      obtain ⟨ad, an, ac, axs⟩ := ahd
      simp (decide := true) (implicitDefEqProofs := false) (maxDischargeDepth := 20) only [go_sem, e2, e4, e5, e6, e7, e8, e9, e10, rK, rT, rA, HRow.v, ↓reduceIte, true_implies, false_implies]
      refine (Behind_at (hz1 m' z').sl (hr m' z') hz2 hrn).mono ?_
      rintro w m1 ⟨rfl, o1⟩
      have B1 : RB m1 ab b5 b6 b7 tb kb ⟨true, true, ⟨ad, an, ac, axs⟩, lft, cur, mul, dv⟩ := ⟨(o1.get (getM_lt B'.a)).trans B'.a, (o1.get (getM_lt B'.c)).trans B'.c, (o1.get (getM_lt B'.mu)).trans B'.mu, (o1.get (getM_lt B'.d)).trans B'.d, (o1.get (getM_lt B'.t)).trans B'.t, (o1.get (getM_lt B'.k)).trans B'.k⟩
      have rT1 := get_at0 B1.t
      simp only at rT1
      cases hb : decide (behI axs r > 0) with
      | true =>
        simp (decide := true) (implicitDefEqProofs := false) (maxDischargeDepth := 20) only [go_sem, e2, e4, e5, e6, e7, e8, e9, e10, rT1, ↓reduceIte, true_implies, false_implies]
        rw [← hadv, advR_stop (by unfold moreR; simp only; rw [hb]; rfl)]
        refine ⟨B1, C'.keep (o1.get lcb), ⟨by have := ch.size; have := o1.size; omega, fun i hi hna => ?_⟩⟩
        rw [o1.get (by have := ch.size; omega), ch.get i hi hna]
      | false =>
        simp (decide := true) (implicitDefEqProofs := false) (maxDischargeDepth := 20) only [go_sem, e2, e4, e5, e6, e7, e8, e9, e10, rT1, ↓reduceIte, true_implies, false_implies]
        refine round (by unfold moreR; simp only; rw [hb]; rfl) _ m1 _ _ o1 ?_ ?_ ?_ ?_ ?_ ?_ ?_ ?_ fun t2 m2 h => h
        all_goals simp (decide := true) only [go_sem, e2, e4, e5, e6, e7, e8, e9, ↓reduceIte]


/-! ### RtC -/

def fit64 (x : Int) : Prop := -9223372036854775808 ≤ x ∧ x < 9223372036854775808
instance (x : Int) : Decidable (fit64 x) := inferInstanceAs (Decidable (_ ∧ _))
/-- Is there a rate? -/
def hasR (s : RS) (r : List Int) : Bool := s.div != 0 && s.cur == r.getD 6 0
def outR (s : RS) (r : List Int) : List Int := if hasR s r = true ∧ fit64 (r.getD 4 0 * s.mul) then r ++ [r.getD 4 0 * s.mul] else r
def whyR (s : RS) (r : List Int) : Int := if hasR s r = true then 0 else 7
theorem near_one (a : Nat) : near a 1 = a := by unfold near; rw [Nat.mod_one, Nat.div_one]; simp
theorem quo_one (x : Int) : quoI x 1 = x := by unfold quoI; rw [near_one]; split <;> omega
theorem quoA_one (x : Int) : quoA x 1 = if fit64 x then .tuple #[.int .i64 x, .bool true] else .tuple #[.int .i64 0, .bool false] := by unfold quoA; rw [quo_one]; rfl

set_option maxRecDepth 100000 in
set_option maxHeartbeats 8000000 in
theorem Rates_out {Bm : Nat} {m : Mem} {t : Fr} {rd : Option Nat} {ab b5 b6 b7 tb kb : Nat} {s : RS} {rad a : Option Addr} {n rc : Nat} {r : List Int} (B : RB m ab b5 b6 b7 tb kb s) (hS : SlA m 1 rad n rc (r.map (.int .i64))) (hbd : ∀ x ∈ r, -9223372036854775808 ≤ x ∧ x < 9223372036854775808) (hdiv : s.div = 0 ∨ s.div = 1) (hmul : -9223372036854775808 ≤ s.mul ∧ s.mul < 9223372036854775808)
    (V : Vec Bm m 1 a r.length (r.map (.int .i64))) (hBm : Bm ≤ m.size) (hrl : r.length ≤ 1000) (t5 : t 5 = ptr b5) (t6 : t 6 = ptr b6) (t7 : t 7 = ptr b7) (t10 : t 10 = .slice rad n rc) (t11 : t 11 = .slice a r.length r.length) (t12 : t 12 = vI 7) {K : Post3}
    (hK : ∀ t' m' a', Agree (writes c_stage_Rates_1_15) t t' → t' 11 = .slice a' (outR s r).length (outR s r).length → t' 12 = vI (whyR s r) → Vec Bm m' 1 a' (outR s r).length ((outR s r).map (.int .i64)) → m.size ≤ m'.size → (∀ i, i < m.size → (∀ y, a = some y → i ≠ y.block) → m'.get i = m.get i) → K .normal t' m') :
    wpM E F_stage_Rates_1 68 rd c_stage_Rates_1_15 K t m := by
  refine wpM_cut (fun t' m' => ∃ a', t' 11 = .slice a' (outR s r).length (outR s r).length ∧ t' 12 = vI (whyR s r) ∧ Vec Bm m' 1 a' (outR s r).length ((outR s r).map (.int .i64)) ∧ m.size ≤ m'.size ∧ (∀ i, i < m.size → (∀ y, a = some y → i ≠ y.block) → m'.get i = m.get i)) ?_ fun t' m' hg ⟨a', h1, h2, h3, h4, h5⟩ => hK t' m' a' hg h1 h2 h3 h4 h5
  have r5 := get_at0 B.c
  have r6 := get_at0 B.mu
  have r7 := get_at0 B.d
  have c6 : ∀ (mm : Mem) (h : SlA mm 1 rad n rc (r.map (.int .i64))) (K : Value → Mem → Prop), CallQ E F_stage_at #[.slice rad n rc, .int .i64 6] mm K = K (.int .i64 (r.getD 6 0)) (ansM E F_stage_at #[.slice rad n rc, .int .i64 6] [] mm) := fun mm h K => callQ_eq (args := [.slice rad n rc, .int .i64 6]) (At_at 6 h (by omega)) K
  have c4 : ∀ (mm : Mem) (h : SlA mm 1 rad n rc (r.map (.int .i64))) (K : Value → Mem → Prop), CallQ E F_stage_at #[.slice rad n rc, .int .i64 4] mm K = K (.int .i64 (r.getD 4 0)) (ansM E F_stage_at #[.slice rad n rc, .int .i64 4] [] mm) := fun mm h K => callQ_eq (args := [.slice rad n rc, .int .i64 4]) (At_at 4 h (by omega)) K
  rcases hdiv with hd | hd
  · have d0 : (s.div != 0) = false := by rw [hd]; rfl
    have hh : hasR s r = false := by unfold hasR; rw [d0]; rfl
    have eo : outR s r = r := by unfold outR; rw [hh]; exact if_neg fun h => Bool.noConfusion h.1
    have ew : whyR s r = 7 := by unfold whyR; rw [hh]; rfl
    rw [eo, ew]
    simp (decide := true) (implicitDefEqProofs := false) (maxDischargeDepth := 20) only [go_sem, t5, t6, t7, t10, t11, t12, r7, d0, ↓reduceIte, true_implies, false_implies]
    exact ⟨a, rfl, V, fun _ _ _ => trivial⟩
  · have d0 : (s.div != 0) = true := by rw [hd]; rfl
    cases hc : (s.cur == r.getD 6 0) with
    | false =>
      have hh : hasR s r = false := by unfold hasR; rw [d0, hc]; rfl
      have eo : outR s r = r := by unfold outR; rw [hh]; exact if_neg fun h => Bool.noConfusion h.1
      have ew : whyR s r = 7 := by unfold whyR; rw [hh]; rfl
      rw [eo, ew]
      simp (decide := true) (implicitDefEqProofs := false) (maxDischargeDepth := 20) only [go_sem, t5, t6, t7, t10, t11, t12, r5, r7, d0, c6, hS, SlA.gm, SlA.ansM, hc, ↓reduceIte, true_implies, false_implies]
      have oM : Old m (ansM E F_stage_at #[Value.slice rad n rc, Value.int IntKind.i64 6] [b5] m) := .ansM (.refl m)
      exact ⟨a, rfl, V.old oM, fun i hi _ => oM.get hi⟩
    | true =>
      have hh : hasR s r = true := by unfold hasR; rw [d0, hc]; rfl
      have ew : whyR s r = 0 := by unfold whyR; rw [hh]; rfl
      simp (decide := true) (implicitDefEqProofs := false) (maxDischargeDepth := 20) only [go_sem, t5, t6, t7, t10, t11, t12, r5, r7, d0, c6, hS, SlA.gm, SlA.ansM, hc, ↓reduceIte, true_implies, false_implies]
      obtain ⟨M, hM⟩ : ∃ M, M = ansM E F_stage_at #[Value.slice rad n rc, Value.int IntKind.i64 6] [b5] m := ⟨_, rfl⟩
      have oM : Old m M := by rw [hM]; exact .ansM (.refl m)
      rw [← hM]
      clear hM
      have r6M := get_at0 ((oM.get (getM_lt B.mu)).trans B.mu)
      have r7M := get_at0 ((oM.get (getM_lt B.d)).trans B.d)
      rw [hd] at r7M
      have hSM := hS.old oM
      have h4 : -9223372036854775808 ≤ r.getD 4 0 ∧ r.getD 4 0 < 9223372036854775808 := by
        rw [List.getD_eq_getElem?_getD]
        cases hg : r[4]? with
        | none => exact ⟨by decide, by decide⟩
        | some v => exact hbd v (List.mem_of_getElem? hg)
      have sc : Ans E F_money_Scale [.int .i64 (r.getD 4 0), .int .i64 s.mul, .int .i64 1] (if fit64 (r.getD 4 0 * s.mul) then .tuple #[.int .i64 (r.getD 4 0 * s.mul), .bool true] else .tuple #[.int .i64 0, .bool false]) := by
        rw [← quoA_one]
        exact Scale_ans _ _ h4.1 h4.2 hmul.1 hmul.2 1 (by decide) (by decide)
      simp (decide := true) (implicitDefEqProofs := false) (maxDischargeDepth := 20) only [go_sem, t5, t6, t7, t10, t11, t12, r6M, r7M, c4, hSM, SlA.gm, SlA.ansM, ↓reduceIte, true_implies, false_implies]
      obtain ⟨M2, hM2⟩ : ∃ M2, M2 = ansM E F_stage_at #[Value.slice rad n rc, Value.int IntKind.i64 4] [b6, b7] M := ⟨_, rfl⟩
      have oM2 : Old m M2 := by rw [hM2]; exact .ansM oM
      rw [← hM2]
      clear hM2
      refine (sc M2).mono ?_
      rintro w m3 ⟨rfl, o3⟩
      have o03 := oM2.trans o3
      by_cases hf : fit64 (r.getD 4 0 * s.mul)
      · have eo : outR s r = r ++ [r.getD 4 0 * s.mul] := by unfold outR; exact if_pos ⟨hh, hf⟩
        have el : (outR s r).length = r.length + 1 := by rw [eo]; simp
        rw [if_pos hf, ew]
        simp (decide := true) (implicitDefEqProofs := false) (maxDischargeDepth := 20) only [go_sem, t11, ↓reduceIte, true_implies, false_implies]
        have s03 := o03.size
        refine (V.old o03).appendQ rfl (by omega) rfl (by decide) (by decide +kernel) (by decide +kernel) rfl (by omega) fun m8 b8 s8 v8 k8 hb8 => ?_
        simp (decide := true) (implicitDefEqProofs := false) (maxDischargeDepth := 20) only [go_sem, ↓reduceIte, true_implies, false_implies]
        refine ⟨some ⟨b8, 0, s8⟩, by rw [el], ?_, by have := k8.1; omega, fun i hi hne => by rw [k8.2 i (by omega) hne, o03.get hi]⟩
        rw [el, eo, List.map_append]
        exact v8
      · have eo : outR s r = r := by unfold outR; exact if_neg fun h => hf h.2
        rw [if_neg hf, eo, ew]
        simp (decide := true) (implicitDefEqProofs := false) (maxDischargeDepth := 20) only [go_sem, t11, t12, ↓reduceIte, true_implies, false_implies]
        exact ⟨a, rfl, V.old o03, o03.size, fun i hi _ => o03.get hi⟩


/-! ### RtD -/

def initR (l : List HRow) : RS := ⟨false, false, noRow, l, 0, 0, 0⟩
def stR (l xs : List HRow) (k : Nat) : RS := (xs.take k).foldl (fun s x => advR s x.xs (szR s)) (initR l)
theorem stR_succ (l : List HRow) {xs : List HRow} {k : Nat} (h : k < xs.length) : stR l xs (k + 1) = advR (stR l xs k) (xs.getD k noRow).xs (szR (stR l xs k)) := by
  unfold stR
  rw [List.take_succ_eq_append_getElem h, List.foldl_append, show xs.getD k noRow = xs[k] by simp [List.getD_eq_getElem?_getD, h]]
  rfl
/-- What stays true of a state. -/
structure GoodR (P : HRow → Prop) (L : Nat) (s : RS) : Prop where
  a : s.there = true → P s.ahead
  l : ∀ y ∈ s.left, P y
  d : s.div = 0 ∨ s.div = 1
  m : fit64 s.mul
  n : s.left.length ≤ L
theorem GoodR.ask {P : HRow → Prop} {L : Nat} {s : RS} (h : GoodR P L s) (h3 : ∀ y, P y → y.xs.getD 3 0 = 1 ∧ fit64 (y.xs.getD 2 0)) : GoodR P L (askR s) := by
  refine ⟨fun ht => ?_, fun y hy => h.l y (List.mem_of_mem_tail hy), ?_, ?_, ?_⟩
  · have ht : (!s.left.isEmpty) = true := ht
    show P (s.left.headD noRow)
    cases hL : s.left with
    | nil => rw [hL] at ht; cases ht
    | cons y l => exact h.l y (by rw [hL]; exact List.mem_cons_self)
  · show (if s.there then s.ahead.xs.getD 3 0 else s.div) = 0 ∨ (if s.there then s.ahead.xs.getD 3 0 else s.div) = 1
    split
    · exact .inr (h3 _ (h.a (by assumption))).1
    · exact h.d
  · show fit64 (if s.there then s.ahead.xs.getD 2 0 else s.mul)
    split
    · exact (h3 _ (h.a (by assumption))).2
    · exact h.m
  · show s.left.tail.length ≤ L
    have := h.n
    rw [List.length_tail]
    omega
theorem GoodR.adv {P : HRow → Prop} {L : Nat} (h3 : ∀ y, P y → y.xs.getD 3 0 = 1 ∧ fit64 (y.xs.getD 2 0)) (r : List Int) : ∀ (f : Nat) {s : RS}, GoodR P L s → GoodR P L (advR s r f)
  | 0, s, h => h
  | f + 1, s, h => by
    show GoodR P L (if moreR s r = true then advR (askR s) r f else s)
    split
    · exact GoodR.adv h3 r f (h.ask h3)
    · exact h
theorem GoodR.st {P : HRow → Prop} (h3 : ∀ y, P y → y.xs.getD 3 0 = 1 ∧ fit64 (y.xs.getD 2 0)) (l xs : List HRow) (hl : ∀ y ∈ l, P y) : ∀ k, GoodR P l.length (stR l xs k) := fun k => by
  unfold stR
  have : ∀ (ys : List HRow) (s : RS), GoodR P l.length s → GoodR P l.length (ys.foldl (fun s x => advR s x.xs (szR s)) s) := fun ys => by
    induction ys with
    | nil => exact fun s h => h
    | cons y ys ih => exact fun s h => ih _ (GoodR.adv h3 y.xs _ h)
  exact this _ _ ⟨fun h => (by cases h), hl, .inl rfl, (show (-9223372036854775808 : Int) ≤ 0 ∧ (0 : Int) < 9223372036854775808 by decide), Nat.le_refl _⟩

def RO (Z : Nat → Option Blk) (cb : Nat) (l xs : List HRow) : Nat → Mem → Prop := fun k m => CurAt Z cb (stR l xs k).left m
def rateEl (l xs : List HRow) : Nat → List Value → Mem → Set' → Prop := fun k vs m B =>
  ∃ a, vs = [.slice a (outR (stR l xs (k + 1)) (xs.getD k noRow).xs).length (outR (stR l xs (k + 1)) (xs.getD k noRow).xs).length, vI (whyR (stR l xs (k + 1)) (xs.getD k noRow).xs)] ∧
    Vec 0 m 1 a (outR (stR l xs (k + 1)) (xs.getD k noRow).xs).length ((outR (stR l xs (k + 1)) (xs.getD k noRow).xs).map (.int .i64)) ∧ ∀ i, B i ↔ ∃ x, a = some x ∧ i = x.block
theorem rateEl_loc (l xs : List HRow) (k : Nat) (vs : List Value) : LocP (rateEl l xs k vs) := by
  rintro m m' A ⟨a, h1, h2, h3⟩ hk hs
  exact ⟨a, h1, h2.keep fun x hx => hk _ ((h3 _).2 ⟨x, hx, rfl⟩), h3⟩

theorem rates_boxes (P : Mem → Prop) (m : Mem) (y : Value) (h : ∀ m1, m1.get m.size = some (.cells false true [y]) → RB m1 (m.size + 1) (m.size + 2) (m.size + 3) (m.size + 4) (m.size + 5) (m.size + 6) (initR []) → Old m m1 → m1.size = m.size + 7 → P m1) :
    P (((((((((m.push (.cells false true [y])).push (.cells false true [.slice none 0 0])).push (.cells false true [.int .i64 0])).push (.cells false true [.int .i64 0])).push (.cells false true [.int .i64 0])).push (.cells false true [.bool false])).push (.cells false true [.bool false])).put (m.size + 5) (some (.cells false true [.bool false]))).put (m.size + 6) (some (.cells false true [.bool false]))) := by
  refine h _ ?_ ⟨?_, ?_, ?_, ?_, ?_, ?_⟩ (.put (.put (.push (.push (.push (.push (.push (.push (.push (.refl m) _) _) _) _) _) _) _) _ _ (by omega)) _ _ (by omega)) (by simp only [size_put, size_push])
  · simp only [getM_put, getM_push, size_put, size_push]
    rw [if_neg (by omega), if_neg (by omega), if_neg (by omega), if_neg (by omega), if_neg (by omega), if_neg (by omega), if_neg (by omega), if_neg (by omega), if_pos trivial]
  all_goals simp [getM_put, getM_push, size_put, size_push, initR, noRow, HRow.v]


/-! ### RtE -/

/-- The boxes of rates that are under way. -/
def bxR (yb ab b5 b6 b7 tb kb cb : Nat) (i : Nat) : Prop := i = yb ∨ i = ab ∨ i = b5 ∨ i = b6 ∨ i = b7 ∨ i = tb ∨ i = kb ∨ i = cb
structure RtJ (Z : Nat → Option Blk) (yb ab b5 b6 b7 tb kb cb : Nat) (y : Value) (s : RS) (m : Mem) (A1 A : Set') : Prop where
  gy : m.get yb = some (.cells false true [y])
  B : RB m ab b5 b6 b7 tb kb s
  C : CurAt Z cb s.left m
  own : ∀ i, bxR yb ab b5 b6 b7 tb kb cb i → A i ∧ ¬ A1 i
  sub : ∀ i, A1 i → A i
theorem RB.keep {m m' : Mem} {ab b5 b6 b7 tb kb : Nat} {s : RS} (h : RB m ab b5 b6 b7 tb kb s) (k : ∀ i, (i = ab ∨ i = b5 ∨ i = b6 ∨ i = b7 ∨ i = tb ∨ i = kb) → m'.get i = m.get i) : RB m' ab b5 b6 b7 tb kb s :=
  ⟨(k _ (by simp)).trans h.a, (k _ (by simp)).trans h.c, (k _ (by simp)).trans h.mu, (k _ (by simp)).trans h.d, (k _ (by simp)).trans h.t, (k _ (by simp)).trans h.k⟩
theorem RtJ.loc {Z : Nat → Option Blk} {yb ab b5 b6 b7 tb kb cb : Nat} {y : Value} {s : RS} {m m' : Mem} {A1 A : Set'} (h : RtJ Z yb ab b5 b6 b7 tb kb cb y s m A1 A) (hk : ∀ i, A i → m'.get i = m.get i) : RtJ Z yb ab b5 b6 b7 tb kb cb y s m' A1 A :=
  ⟨(hk _ (h.own _ (.inl rfl)).1).trans h.gy, h.B.keep fun i hi => hk i (h.own i (.inr (by omega))).1, h.C.keep (hk _ (h.own _ (by unfold bxR; simp)).1), h.own, h.sub⟩

attribute [-go_sem] c_stage_Rates_1_15_at in
set_option maxRecDepth 100000 in
set_option maxHeartbeats 16000000 in
theorem RatesI {Z : Nat → Option Blk} {s : Value} {n : Nat} {xs l : List HRow} (hxl : xs.length = n) (hll : l.length ≤ 1000000) (hs : ∀ Z', SubZ Z Z' → Iter E Z' none' s n anyO (pureEl (rowsEl xs))) (hxs : ∀ k, RowZ Z (xs.getD k noRow)) (hxn : ∀ k, (xs.getD k noRow).n ≤ 900) (hls : ∀ y ∈ l, (RowZ Z y ∧ y.n ≤ 1000000) ∧ y.xs.getD 3 0 = 1 ∧ fit64 (y.xs.getD 2 0))
    {bi bn cb : Nat} (hi : Z bi = some (.cells false true [s])) (hn : Z bn = some (.cells false true [.func (.func F_flow_Cursor_Sint_1) #[] #[ptr cb]])) :
    Iter E Z (fun i => i = cb) (.func (.func F_stage_Rates_1) #[] #[ptr bi, ptr bn]) n (RO Z cb l xs) (rateEl l xs) where
  fn := ⟨_, _, _, rfl⟩
  locO := fun k m m' h hk => h.keep (hk cb rfl)
  locE := rateEl_loc _ _
  go := by
    intro y hy I D lI lD step m A z o hF own0 i0
    obtain ⟨yf, ya, yc, rfl⟩ := hy
    obtain ⟨sf, sa, sb, rfl⟩ := (hs Z fun _ _ h => h).fn
    have hcb := hF cb rfl
    rw [CallF_func]
    refine ⟨by simp only [go_sem], ?_⟩
    have e : (#[] ++ [Value.func yf ya yc].toArray ++ #[ptr bi, ptr bn] : Array Value) = [Value.func yf ya yc, ptr bi, ptr bn].toArray := by simp
    rw [e]
    refine .enter fn_stage_Rates_1 (by simp) ?_
    have ri := frozen_at z hi
    have n0 : ¬ bi = m.size := by have := z.lt hi; omega
    have n1 : ¬ bi = m.size + 1 := by have := z.lt hi; omega
    have n2 : ¬ bi = m.size + (1 + 1) := by have := z.lt hi; omega
    have n3 : ¬ bi = m.size + (1 + (1 + 1)) := by have := z.lt hi; omega
    have n4 : ¬ bi = m.size + (1 + (1 + (1 + 1))) := by have := z.lt hi; omega
    have n5 : ¬ bi = m.size + (1 + (1 + (1 + (1 + 1)))) := by have := z.lt hi; omega
    have n6 : ¬ bi = m.size + (1 + (1 + (1 + (1 + (1 + 1))))) := by have := z.lt hi; omega
    simp (decide := true) (implicitDefEqProofs := false) (maxDischargeDepth := 20) only [go_sem, ri, n0, n1, n2, n3, n4, n5, n6, ↓reduceIte, true_implies, false_implies]
    refine rates_boxes (fun mm => wpM E _ _ _ _ _ _ mm) m _ fun m1 gy B0 o1 s1 => ?_
    obtain ⟨yb, hyb⟩ : ∃ b, b = m.size := ⟨_, rfl⟩
    obtain ⟨ab, hab⟩ : ∃ b, b = m.size + 1 := ⟨_, rfl⟩
    obtain ⟨b5, hb5⟩ : ∃ b, b = m.size + 2 := ⟨_, rfl⟩
    obtain ⟨b6, hb6⟩ : ∃ b, b = m.size + 3 := ⟨_, rfl⟩
    obtain ⟨b7, hb7⟩ : ∃ b, b = m.size + 4 := ⟨_, rfl⟩
    obtain ⟨tb, htb⟩ : ∃ b, b = m.size + 5 := ⟨_, rfl⟩
    obtain ⟨kb, hkb⟩ : ∃ b, b = m.size + 6 := ⟨_, rfl⟩
    rw [← hab, ← hb5, ← hb6, ← hb7, ← htb, ← hkb] at B0
    rw [← hyb] at gy
    rw [show m.size + (1 + (1 + (1 + (1 + (1 + 1))))) = kb by omega, show m.size + (1 + (1 + (1 + (1 + 1)))) = tb by omega, show m.size + (1 + (1 + (1 + 1))) = b7 by omega, show m.size + (1 + (1 + 1)) = b6 by omega, show m.size + (1 + 1) = b5 by omega, show m.size + 1 = ab by omega, ← hyb]
    have B1 : RB m1 ab b5 b6 b7 tb kb (stR l xs 0) := ⟨B0.a, B0.c, B0.mu, B0.d, B0.t, B0.k⟩
    have C1 : CurAt Z cb (stR l xs 0).left m1 := CurAt.keep own0 (o1.get hcb.1)
    have hZ : ∀ i, bxR yb ab b5 b6 b7 tb kb cb i → i < m1.size ∧ Z i = none := fun i hi => by
      by_cases hc : i = cb
      · rw [hc]; exact ⟨by have := o1.size; omega, hcb.2⟩
      · unfold bxR at hi
        exact ⟨by omega, z.free (by omega)⟩
    have hord : ab < b5 ∧ b5 < b6 ∧ b6 < b7 ∧ b7 < tb ∧ tb < kb := by omega
    have good := GoodR.st (P := fun y => (RowZ Z y ∧ y.n ≤ 1000000) ∧ y.xs.getD 3 0 = 1 ∧ fit64 (y.xs.getD 2 0)) (fun y h => h.2) l xs hls
    simp only [c_stage_Rates_1_22_at]
    refine wpM_rangeP (A := fun i => A i ∨ bxR yb ab b5 b6 b7 tb kb cb i) (hs Z fun _ _ h => h) (fun t => upd t 10 (t 16)) (by simp (decide := true) only [go_sem, ↓reduceIte]) rfl asg_stage_Rates_1_0 body_stage_Rates_1_0 (by decide) (fun K l t m h => by simp (decide := true) only [go_sem, ↓reduceIte]; exact h)
      (fun k m A => ∃ A1, I k m A1 ∧ RtJ Z yb ab b5 b6 b7 tb kb cb (.func yf ya yc) (stR l xs k) m A1 A)
      (fun k x m A => x = .ret ∧ ∃ A1, D k m A1 ∧ CurAt Z cb (stR l xs (k + 1)).left m ∧ A cb ∧ ∀ i, A1 i → A i ∧ ¬ bxR yb ab b5 b6 b7 tb kb cb i)
      (fun k m1 m2 A' ⟨A1, h1, h2⟩ hk hs => ⟨A1, lI _ m1 m2 A1 h1 (fun i hi => hk i (h2.sub i hi)) hs, h2.loc hk⟩)
      (fun k x m1 m2 A' ⟨h1, A1, h2, h3, h4, h5⟩ hk hs => ⟨h1, A1, lD _ m1 m2 A1 h2 (fun i hi => hk i (h5 i hi).1) hs, h3.keep (hk cb h4), h4, h5⟩)
      (z.old o1) (fun i hi => ?_) (fun i hi => hi.elim) trivial ⟨A, lI 0 m m1 A i0 (fun i hi => o1.get (o i hi).1) o1.size, gy, B1, C1, fun i hi => ⟨.inr hi, fun h => ?_⟩, fun i hi => .inl hi⟩ ?_ ?_ ?_
    · rcases hi with hi | hi
      · exact ⟨Nat.lt_of_lt_of_le (o i hi).1 o1.size, (o i hi).2.1, fun h => h⟩
      · exact ⟨(hZ i hi).1, (hZ i hi).2, fun h => h⟩
    · have h1 := o i h
      unfold bxR at hi
      by_cases hc : i = cb
      · exact h1.2.2 hc
      · omega
    · rintro k vs m2 A' Bs lp hk z2 o1' o2' dis - ⟨A1, hI, J⟩ hel hin hms
      subst hel
      refine ⟨rfl, ?_⟩
      have hrz := hxs k
      have hrn := hxn k
      have est := stR_succ l (xs := xs) (k := k) (by omega)
      have g1 := good (k + 1)
      have g0 := good k
      have lA' : ∀ i, A' i → i < m2.size := fun i hi => (o1' i hi).1
      have lbx : ∀ i, bxR yb ab b5 b6 b7 tb kb cb i → i < m2.size ∧ ¬ A1 i := fun i hi => ⟨lA' i (J.own i hi).1, (J.own i hi).2⟩
      rw [show rowsEl xs k = [(xs.getD k noRow).v] from rfl]
      have hstep := step k
      unfold rateEl at hstep
      generalize xs.getD k noRow = row at *
      obtain ⟨rad, rn', rc', rxs⟩ := row
      have hrl := (hrz m2 z2).len
      simp only at hrn est hrl hstep
      subst hrl
      simp (decide := true) (implicitDefEqProofs := false) (maxDischargeDepth := 20) only [go_sem, HRow.v, ↓reduceIte, true_implies, false_implies]
      refine Rates_ask (s0 := stR l xs k) (r := rxs) z2 J.B J.C (by have := g0.n; omega) (fun i hi => (hZ i (by unfold bxR; omega)).2) hord (by have := hcb.1; omega) hn (fun mm zz => (hrz mm zz).sl) (show rxs.length ≤ 1000000 by omega) (fun h => (g0.a h).1) (fun y hy => (g0.l y hy).1)
        (by simp (decide := true) only [go_sem, ↓reduceIte]) (by simp (decide := true) only [go_sem, ↓reduceIte]) (by simp (decide := true) only [go_sem, ↓reduceIte]) (by simp (decide := true) only [go_sem, ↓reduceIte]) (by simp (decide := true) only [go_sem, ↓reduceIte]) (by simp (decide := true) only [go_sem, ↓reduceIte]) (by simp (decide := true) only [go_sem, ↓reduceIte]) (by simp (decide := true) only [go_sem, ↓reduceIte]) fun t3 m3 hag B3 C3 ch3 => ?_
      rw [← est] at B3 C3
      have q3 := hag 3 (by decide +kernel)
      have q5 := hag 5 (by decide +kernel)
      have q6 := hag 6 (by decide +kernel)
      have q7 := hag 7 (by decide +kernel)
      have q10 := hag 10 (by decide +kernel)
      simp (decide := true) only [go_sem, ↓reduceIte] at q3 q5 q6 q7 q10
      clear hag
      have s3 := ch3.size
      have z3 : Frozen Z m3 := z2.chg ch3 fun i hi => (hZ i (by unfold bxR; omega)).2
      have gy3 : m3.get yb = some (.cells false true [.func yf ya yc]) := (ch3.get yb (lbx yb (.inl rfl)).1 (by have := hcb.1; omega)).trans J.gy
      simp (decide := true) (implicitDefEqProofs := false) (maxDischargeDepth := 20) only [go_sem, q3, q5, q6, q7, q10, HRow.v, ↓reduceIte, true_implies, false_implies]
      refine (Clone_at (hrz m3 z3).sl (show rxs.length ≤ 1000000 by omega)).mono ?_
      rintro w m4 ⟨a4, rfl, V4, o4⟩
      have s4 := o4.size
      simp (decide := true) (implicitDefEqProofs := false) (maxDischargeDepth := 20) only [go_sem, q3, q5, q6, q7, q10, HRow.v, ↓reduceIte, true_implies, false_implies]
      have V4' : Vec m3.size m4 1 a4 rxs.length (rxs.map (.int .i64)) := V4
      refine Rates_out (s := stR l xs (k + 1)) (r := rxs) (B3.keep fun i hi => o4.get ?_) ((hrz m3 z3).sl.old o4) (hrz m3 z3).bd g1.d g1.m V4' s4 (by omega)
        (by simp (decide := true) only [go_sem, q5, ↓reduceIte]) (by simp (decide := true) only [go_sem, q6, ↓reduceIte]) (by simp (decide := true) only [go_sem, q7, ↓reduceIte]) (by simp (decide := true) only [go_sem, q10, ↓reduceIte]) (by simp (decide := true) only [go_sem, ↓reduceIte]) (by simp (decide := true) only [go_sem, ↓reduceIte]) fun t5 m5 a5 hag5 h11 h12 V5 s5 k5 => ?_
      · have := lbx i (by unfold bxR; omega)
        omega
      have p3 := hag5 3 (by decide +kernel)
      simp (decide := true) only [go_sem, q3, ↓reduceIte] at p3
      clear hag5
      have k35 : ∀ i, i < m3.size → m5.get i = m3.get i := fun i hi => by
        rw [k5 i (by omega) fun y hy e => by have := (V4.blk y hy).1; omega, o4.get hi]
      have z5 : Frozen Z m5 := fun i c hi => (k35 i (z3.lt hi)).trans (z3 i c hi)
      have gy5 := (k35 yb (getM_lt gy3)).trans gy3
      have ry := get_at0 gy5
      have B5 : RB m5 ab b5 b6 b7 tb kb (stR l xs (k + 1)) := B3.keep fun i hi => k35 i (by have := lbx i (by unfold bxR; omega); omega)
      have C5 : CurAt Z cb (stR l xs (k + 1)).left m5 := C3.keep (k35 cb (by have := lbx cb (by unfold bxR; simp); omega))
      have ch2 : ∀ i, i < m2.size → ¬ bxR yb ab b5 b6 b7 tb kb cb i → m5.get i = m2.get i := fun i hi hb => by
        rw [k35 i (by omega), ch3.get i hi fun e => hb (by unfold bxR; omega)]
      have lA1 : ∀ i, A1 i → i < m2.size ∧ ¬ bxR yb ab b5 b6 b7 tb kb cb i := fun i hi => ⟨lA' i (J.sub i hi), fun h => (J.own i h).2 hi⟩
      have hBc : ∀ i, (∃ x, a5 = some x ∧ i = x.block) → m3.size ≤ i ∧ i < m5.size := fun i ⟨x, hx, e⟩ => e ▸ ⟨(V5.blk x hx).1, V5.lt hx⟩
      simp (decide := true) (implicitDefEqProofs := false) (maxDischargeDepth := 20) only [go_sem, p3, ry, h11, h12, ↓reduceIte, true_implies, false_implies]
      refine CallF.step ((hstep _ m5 A1 (fun i => ∃ x, a5 = some x ∧ i = x.block) hk z5 (fun i hi => ⟨by have := lA1 i hi; omega, (o1' i (J.sub i hi)).2.1, fun e => (lA1 i hi).2 (by unfold bxR; simp only at e; omega)⟩) (fun i hi => ⟨(hBc i hi).2, z3.free (hBc i hi).1, fun e => by have := (hBc i hi).1; have := lbx cb (by unfold bxR; simp); have e : i = cb := e; omega⟩) (fun i hi h => by have := (hBc i h).1; have := lA1 i hi; omega) (fun i hi => by have := lbx i (by unfold bxR; omega); omega) C5
        (lI k m2 m5 A1 hI (fun i hi => ch2 i (lA1 i hi).1 (lA1 i hi).2) (by omega)) ⟨a5, rfl, ⟨V5.sl, fun x hx => ⟨Nat.zero_le _, (V5.blk x hx).2⟩⟩, fun i => Iff.rfl⟩).mono ?_)
      rintro w m6 ⟨A2, c1, c2, hw⟩
      have s6 := c1.size
      have nb : ∀ i, bxR yb ab b5 b6 b7 tb kb cb i → m6.get i = m5.get i := fun i hi => c1.get i (by have := lbx i hi; omega) fun h => by
        rcases h with h | h
        · exact (lbx i hi).2 h
        · have := (hBc i h).1; have := lbx i hi; omega
      have nA2 : ∀ i, bxR yb ab b5 b6 b7 tb kb cb i → ¬ A2 i := fun i hi h => by
        have := lbx i hi
        rcases (c2 i h).2 with (h | h) | h
        · exact (lbx i hi).2 h
        · have := (hBc i h).1; omega
        · omega
      have c26 : ChgS (fun i => A' i ∨ Bs i) m2 m6 := ⟨by omega, fun i hi hna => by
        have hb : ¬ bxR yb ab b5 b6 b7 tb kb cb i := fun h => hna (.inl (J.own i h).1)
        rw [c1.get i (by omega) fun h => ?_, ch2 i hi hb]
        rcases h with h | h
        · exact hna (.inl (J.sub i h))
        · have := (hBc i h).1; omega⟩
      have n26 : NewS (fun i => A' i ∨ Bs i) m2 m6 (fun i => A2 i ∨ bxR yb ab b5 b6 b7 tb kb cb i) := fun i hi => by
        rcases hi with hi | hi
        · refine ⟨(c2 i hi).1, ?_⟩
          rcases (c2 i hi).2 with (h | h) | h
          · exact .inl (.inl (J.sub i h))
          · exact .inr (by have := (hBc i h).1; omega)
          · exact .inr (by omega)
        · exact ⟨by have := lbx i hi; omega, .inl (.inl (J.own i hi).1)⟩
      rcases hw with ⟨rfl, hI2⟩ | ⟨rfl, hD⟩
      · simp (decide := true) (implicitDefEqProofs := false) (maxDischargeDepth := 20) only [go_sem, ↓reduceIte, true_implies, false_implies]
        exact ⟨_, c26, n26, A2, hI2, (nb yb (.inl rfl)).trans gy5, B5.keep fun i hi => nb i (by unfold bxR; omega), C5.keep (nb cb (by unfold bxR; simp)), fun i hi => ⟨.inr hi, nA2 i hi⟩, fun i hi => .inl hi⟩
      · simp (decide := true) (implicitDefEqProofs := false) (maxDischargeDepth := 20) only [go_sem, ↓reduceIte, true_implies, false_implies]
        exact ⟨_, c26, n26, .inl trivial, A2, hD, C5.keep (nb cb (by unfold bxR; simp)), .inr (by unfold bxR; simp), fun i hi => ⟨.inl hi, fun h => nA2 i h hi⟩⟩
    · rintro m' A' z' o' - ⟨A1, hI, J⟩ c1 c2
      simp (decide := true) (implicitDefEqProofs := false) (maxDischargeDepth := 20) only [go_sem, ↓reduceIte, true_implies, false_implies]
      have o1s := o1.size
      have c1s := c1.size
      refine ⟨A1, ⟨by omega, fun i hi hna => ?_⟩, fun i hi => ?_, .inl ⟨?_, hI⟩⟩
      · rw [c1.get i (by omega) fun h => ?_, o1.get hi]
        rcases h with (h | h) | h
        · exact hna (.inl h)
        · unfold bxR at h
          by_cases hc : i = cb
          · exact hna (.inr hc)
          · omega
        · exact h
      · have h2 := c2 i (J.sub i hi)
        refine ⟨h2.1, ?_⟩
        rcases h2.2 with (h | h) | h
        · exact .inl h
        · exact ((J.own i h).2 hi).elim
        · exact .inr (by omega)
      · have e1 : stR l xs (n + 1) = stR l xs n := by unfold stR; rw [List.take_of_length_le (by omega), List.take_of_length_le (by omega)]
        show CurAt Z cb (stR l xs (n + 1)).left m'
        rw [e1]
        exact J.C
    · rintro k x m' A' hk z' o' - hx ⟨rfl, A1, hD, hC, hA, hsub⟩ c1 c2
      simp (decide := true) (implicitDefEqProofs := false) (maxDischargeDepth := 20) only [go_sem, ↓reduceIte, true_implies, false_implies]
      have o1s := o1.size
      have c1s := c1.size
      refine ⟨A1, ⟨by omega, fun i hi hna => ?_⟩, fun i hi => ?_, .inr ⟨k, hk, hC, hD⟩⟩
      · rw [c1.get i (by omega) fun h => ?_, o1.get hi]
        rcases h with (h | h) | h
        · exact hna (.inl h)
        · unfold bxR at h
          by_cases hc : i = cb
          · exact hna (.inr hc)
          · omega
        · exact h
      · have h2 := c2 i (hsub i hi).1
        refine ⟨h2.1, ?_⟩
        rcases h2.2 with (h | h) | h
        · exact .inl h
        · exact ((hsub i hi).2 h).elim
        · exact .inr (by omega)


/-! ### RtF -/

set_option maxRecDepth 100000 in
theorem StRates_at {m : Mem} {sf nf : Fn} {sa sb na nb : Array Value} : CallQ E F_stage_Rates [.func sf sa sb, .func nf na nb].toArray m fun w m' => ∃ bi bn, w = .func (.func F_stage_Rates_1) #[] #[ptr bi, ptr bn] ∧
    cap1 m' bi (.func sf sa sb) ∧ cap1 m' bn (.func nf na nb) ∧ (m.size ≤ bi ∧ m.size ≤ bn) ∧ Old m m' := by
  refine .enter fn_stage_Rates (by simp) ?_
  simp (decide := true) (implicitDefEqProofs := false) (maxDischargeDepth := 20) only [go_sem, ↓reduceIte, true_implies, false_implies]
  refine ⟨m.size, m.size + 1, rfl, ?_, ?_, by omega⟩
  all_goals simp only [cap1, getM_push, size_push]
  · rw [if_neg (by omega), if_pos trivial]
  · rw [if_pos trivial]

/-! ### the plain law -/

/-- The rates, their currency and day rising: a line against them. -/
def notB (r : List Int) (y : HRow) : Bool := !decide (behI y.xs r > 0)
/-- The state when c rates are passed. -/
def stC (l : List HRow) (c : Nat) : RS := ⟨true, decide (c < l.length), l.getD c noRow, l.drop (c + 1), if c = 0 then 0 else (l.getD (c - 1) noRow).xs.getD 0 0, if c = 0 then 0 else (l.getD (c - 1) noRow).xs.getD 2 0, if c = 0 then 0 else (l.getD (c - 1) noRow).xs.getD 3 0⟩
theorem drop_head (l : List HRow) (c : Nat) : (l.drop c).headD noRow = l.getD c noRow := by
  rw [List.getD_eq_getElem?_getD]
  by_cases h : c < l.length
  · rw [List.drop_eq_getElem_cons h, List.getElem?_eq_getElem h]; rfl
  · rw [List.drop_of_length_le (by omega), List.getElem?_eq_none (by omega)]; rfl
theorem ask_init (l : List HRow) : askR (initR l) = stC l 0 := by
  cases l with
  | nil => rfl
  | cons y l => rfl
theorem ask_stC (l : List HRow) {c : Nat} (h : c < l.length) : askR (stC l c) = stC l (c + 1) := by
  unfold askR stC
  simp only [decide_eq_true h, if_true]
  have e1 : (l.drop (c + 1)).headD noRow = l.getD (c + 1) noRow := drop_head l (c + 1)
  have e2 : (!(l.drop (c + 1)).isEmpty) = decide (c + 1 < l.length) := by
    by_cases h : c + 1 < l.length
    · rw [List.drop_eq_getElem_cons h, decide_eq_true h]; rfl
    · rw [List.drop_of_length_le (by omega), decide_eq_false h]; rfl
  rw [e1, e2, List.tail_drop]
  simp
theorem more_stC (l : List HRow) (c : Nat) (r : List Int) : moreR (stC l c) r = (decide (c < l.length) && notB r (l.getD c noRow)) := rfl
/-- How many rates are passed for a line, from c on. -/
def passC (l : List HRow) (r : List Int) (c : Nat) : Nat → Nat
  | 0 => c
  | f + 1 => if c < l.length ∧ notB r (l.getD c noRow) = true then passC l r (c + 1) f else c
theorem adv_stC (l : List HRow) (r : List Int) : ∀ (f c : Nat), advR (stC l c) r f = stC l (passC l r c f)
  | 0, c => rfl
  | f + 1, c => by
    show (if moreR (stC l c) r = true then advR (askR (stC l c)) r f else stC l c) = stC l (if c < l.length ∧ notB r (l.getD c noRow) = true then passC l r (c + 1) f else c)
    rw [more_stC]
    by_cases h : c < l.length ∧ notB r (l.getD c noRow) = true
    · rw [if_pos h, if_pos (by rw [decide_eq_true h.1, h.2]; rfl), ask_stC l h.1]
      exact adv_stC l r f (c + 1)
    · rw [if_neg h, if_neg (by
        intro e
        rw [Bool.and_eq_true, decide_eq_true_eq] at e
        exact h e)]
theorem passC_spec (l : List HRow) (r : List Int) : ∀ (f c : Nat), c ≤ l.length → l.length ≤ c + f → c ≤ passC l r c f ∧ passC l r c f ≤ l.length ∧ (∀ j, c ≤ j → j < passC l r c f → notB r (l.getD j noRow) = true) ∧ (passC l r c f < l.length → notB r (l.getD (passC l r c f) noRow) = false)
  | 0, c, hc, hf => ⟨Nat.le_refl _, hc, fun j h1 h2 => by have h2 : j < c := h2; omega, fun h => by have h : c < l.length := h; omega⟩
  | f + 1, c, hc, hf => by
    by_cases h : c < l.length ∧ notB r (l.getD c noRow) = true
    · have e : passC l r c (f + 1) = passC l r (c + 1) f := if_pos h
      rw [e]
      obtain ⟨h1, h2, h3, h4⟩ := passC_spec l r f (c + 1) (by omega) (by omega)
      refine ⟨by omega, h2, fun j j1 j2 => ?_, h4⟩
      by_cases hj : j = c
      · rw [hj]; exact h.2
      · exact h3 j (by omega) j2
    · have e : passC l r c (f + 1) = c := if_neg h
      rw [e]
      refine ⟨Nat.le_refl _, hc, fun j h1 h2 => by omega, fun hl => ?_⟩
      cases hn : notB r (l.getD c noRow) with
      | true => exact (h ⟨hl, hn⟩).elim
      | false => rfl

/-- Where the rates stand behind a line. -/
theorem stR_is (l xs : List HRow) (hm : ∀ k, k + 1 < xs.length → ∀ j, j < l.length → notB (xs.getD k noRow).xs (l.getD j noRow) = true → notB (xs.getD (k + 1) noRow).xs (l.getD j noRow) = true) : ∀ k, k < xs.length →
    ∃ c, stR l xs (k + 1) = stC l c ∧ c ≤ l.length ∧ (∀ j, j < c → notB (xs.getD k noRow).xs (l.getD j noRow) = true) ∧ (c < l.length → notB (xs.getD k noRow).xs (l.getD c noRow) = false)
  | 0, hk => by
    rw [stR_succ l hk]
    have e0 : stR l xs 0 = initR l := rfl
    have ef : szR (initR l) = 2 * l.length + 1 := by unfold szR initR; simp
    rw [e0, ef]
    show ∃ c, (if moreR (initR l) (xs.getD 0 noRow).xs = true then advR (askR (initR l)) (xs.getD 0 noRow).xs (2 * l.length) else initR l) = stC l c ∧ _
    rw [if_pos (show moreR (initR l) (xs.getD 0 noRow).xs = true from rfl), ask_init, adv_stC]
    obtain ⟨h1, h2, h3, h4⟩ := passC_spec l (xs.getD 0 noRow).xs (2 * l.length) 0 (Nat.zero_le _) (by omega)
    exact ⟨_, rfl, h2, fun j hj => h3 j (Nat.zero_le _) hj, h4⟩
  | k + 1, hk => by
    obtain ⟨c, hc, hcl, hn, hb⟩ := stR_is l xs hm k (by omega)
    rw [stR_succ l hk, hc, adv_stC]
    obtain ⟨h1, h2, h3, h4⟩ := passC_spec l (xs.getD (k + 1) noRow).xs (szR (stC l c)) c hcl (by
      unfold szR stC
      simp only [List.length_drop]
      by_cases h : c < l.length
      · rw [decide_eq_true h]; simp; omega
      · rw [decide_eq_false h]; simp; omega)
    refine ⟨_, rfl, h2, fun j hj => ?_, h4⟩
    by_cases hj' : j < c
    · exact hm k hk j (by omega) (hn j hj')
    · exact h3 j (by omega) hj
/-- The last rate that is not behind. -/
def lastR (r : List Int) (l : List HRow) : Option HRow := (l.filter (notB r)).getLast?

end Go.Proofs.Ytpabllcacdopdaa.W
