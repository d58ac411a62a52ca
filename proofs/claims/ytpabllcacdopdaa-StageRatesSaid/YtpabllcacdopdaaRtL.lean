/-
  StageRates: the rates. StageRates: the lines. StageRates: the rate of a line, looked for anew. StageRates, the plain law. StageRates: the range. StageRates, the law.
-/
import Derived.Test.YtpabllcacdopdaaRtF
import Derived.Test.YtpabllcacdopdaaCodeLawR
import Derived.Test.YtpabllcacdopdaaBook
import Derived.Test.YtpabllcacdopdaaBookI
import Derived.Test.YtpabllcacdopdaaSrtB
namespace Go.Proofs.Ytpabllcacdopdaa.W
open Go.Abs
set_option linter.unusedSimpArgs false
set_option linter.unusedVariables false


/-! ### RtG -/


/-- Rows in blocks of their own, a list of them in a box. -/
structure OwnL (m0 m : Mem) (ob : Nat) (a : Option Addr) (es : List HRow) (xss : List (List Int)) : Prop where
  box : cap1 m ob (.slice a es.length es.length)
  vec : Vec m0.size m 1 a es.length (es.map HRow.v)
  xs : es.map HRow.xs = xss
  row : ∀ e ∈ es, e.At m
  blk : ∀ e ∈ es, ∃ b, e.ad = some ⟨b, 0, none⟩ ∧ m0.size ≤ b ∧ b < m.size ∧ ∀ y, a = some y → b ≠ y.block
  size : m0.size ≤ m.size
  keep : ∀ i, i < m0.size → i ≠ ob → m.get i = m0.get i

/-- A row more. -/
theorem OwnL.more {m0 m mp m5 : Mem} {ob rb b5 : Nat} {s5 : Option Nat} {a : Option Addr} {es : List HRow} {xss : List (List Int)} (H : OwnL m0 m ob a es xss) (hob : ob < m0.size) (op : Old m mp) (hrb : m.size ≤ rb) {xs : List Int} (gr : mp.get rb = some (.cells false true (xs.map (.int .i64)))) (hfit : ∀ x ∈ xs, -9223372036854775808 ≤ x ∧ x < 9223372036854775808)
    (v5 : Vec m0.size m5 1 (some ⟨b5, 0, s5⟩) (es.length + 1) (es.map HRow.v ++ [.slice (some ⟨rb, 0, none⟩) xs.length xs.length])) (k5 : KeepA a mp m5) (hb5 : mp.size ≤ b5) :
    m5.get ob = some (.cells false true [.slice a es.length es.length]) ∧ OwnL m0 (m5.put ob (some (.cells false true [.slice (some ⟨b5, 0, s5⟩) (es.length + 1) (es.length + 1)]))) ob (some ⟨b5, 0, s5⟩) (es ++ [⟨some ⟨rb, 0, none⟩, xs.length, xs.length, xs⟩]) (xss ++ [xs]) := by
  have szp := op.size
  have s5' := k5.1
  have hsz := H.size
  have lr := getM_lt gr
  have l5 : b5 < m5.size := v5.lt rfl
  have hnea : ∀ i, i < m0.size → ∀ y, a = some y → i ≠ y.block := fun i hi y hy e => by have := (H.vec.blk y hy).1; omega
  have hbx : ∀ x, a = some x → x.block < m.size := fun x hx => H.vec.lt hx
  have g5 : m5.get ob = some (.cells false true [.slice a es.length es.length]) := by
    rw [k5.2 ob (by omega) (hnea ob hob), op.get (getM_lt H.box)]
    exact H.box
  have g6 : ∀ i, i ≠ ob → (m5.put ob (some (.cells false true [.slice (some ⟨b5, 0, s5⟩) (es.length + 1) (es.length + 1)]))).get i = m5.get i := fun i h => by rw [getM_put, if_neg (fun e => h e.1)]
  have g6' : ∀ i, i < m.size → i ≠ ob → (∀ x, a = some x → i ≠ x.block) → (m5.put ob (some (.cells false true [.slice (some ⟨b5, 0, s5⟩) (es.length + 1) (es.length + 1)]))).get i = m.get i := fun i h1 h2 h4 => by rw [g6 i h2, k5.2 i (by omega) h4, op.get h1]
  refine ⟨g5, ?_, ?_, ?_, ?_, ?_, ?_, ?_⟩
  · unfold cap1
    rw [getM_put, if_pos ⟨rfl, by omega⟩, List.length_append]
    rfl
  · rw [List.length_append, List.map_append]
    exact v5.keep fun x hx => by cases hx; exact g6 _ (by show b5 ≠ ob; omega)
  · rw [List.map_append, H.xs]
    rfl
  · intro e he
    rcases List.mem_append.1 he with he | he
    · obtain ⟨b, hb1, hb2, hb3, hb4'⟩ := H.blk e he
      exact (H.row e he).keep fun x hx hne' => by
        rw [hb1] at hx; cases hx
        exact g6' b hb3 (by omega) hb4'
    · rw [List.mem_singleton.1 he]
      refine ⟨.new (ro := false) (tg := true) ?_ (by simp) rfl, rfl, hfit⟩
      rw [g6 rb (by omega), k5.2 rb lr fun y hy e => by have := hbx y hy; omega]
      exact gr
  · intro e he
    rcases List.mem_append.1 he with he | he
    · obtain ⟨b, hb1, hb2, hb3, hb4'⟩ := H.blk e he
      exact ⟨b, hb1, hb2, by rw [size_put]; omega, fun y hy => by cases hy; show b ≠ b5; omega⟩
    · rw [List.mem_singleton.1 he]
      exact ⟨rb, rfl, by omega, by rw [size_put]; omega, fun y hy => by cases hy; show rb ≠ b5; omega⟩
  · rw [size_put]; omega
  · intro i hi h1
    rw [g6' i (by omega) h1 (hnea i hi), H.keep i hi h1]

/-! ### The rates -/
def rAt (ys : List Int) : Nat → Int
  | 0 => 0
  | k + 1 => rAt ys k + (1 + ys.getD k 0 % (5 - 1 + 1))
theorem rAt_bd (ys : List Int) : ∀ k : Nat, 0 ≤ rAt ys k ∧ rAt ys k ≤ 5 * k
  | 0 => by simp [rAt]
  | k + 1 => by
    have := rAt_bd ys k
    unfold rAt
    omega
theorem rAt_lt (ys : List Int) {a b : Nat} (h : a < b) : rAt ys a < rAt ys b := by
  induction b with
  | zero => omega
  | succ b ih =>
    have e : rAt ys (b + 1) = rAt ys b + (1 + ys.getD b 0 % (5 - 1 + 1)) := rfl
    by_cases hab : a = b
    · subst hab; omega
    · have := ih (by omega); omega
def rateR (ys : List Int) (i : Nat) : List Int := [1 + ((i / 6 : Nat) : Int), rAt ys (i + 1), 2 + (i : Int), 1]
def ratesL (ys : List Int) (n : Nat) : List (List Int) := (List.range n).map (rateR ys)
theorem ratesL_succ (ys : List Int) (n : Nat) : ratesL ys (n + 1) = ratesL ys n ++ [rateR ys n] := by unfold ratesL; rw [List.range_succ, List.map_append]; rfl

set_option maxRecDepth 100000 in
set_option maxHeartbeats 8000000 in
theorem Rt_rates {m0 : Mem} {t : Fr} {a1 : Option Addr} {l c0 fb : Nat} {ys : List Int} (hs : SlA m0 1 a1 l c0 (ys.map (.int .i64))) (hyb : ∀ x ∈ ys, -9223372036854775808 ≤ x ∧ x < 9223372036854775808) (hfb : cap1 m0 fb (.slice none 0 0)) (hob3 : ∀ b, a1 = some b → ys ≠ [] → b.block ≠ fb)
    (t2 : t 2 = .slice a1 l c0) (t7 : t 7 = ptr fb) (t9 : t 9 = vI 0) (t10 : t 10 = .int .i64 0) {K : Post3}
    (hK : ∀ t' m' a es, Agree (writes c_sheaflaw17_StageRates_7) t t' → OwnL m0 m' fb a es (ratesL ys (min l 12)) → K .normal t' m') :
    wpM E F_sheaflaw17_StageRates 174 none c_sheaflaw17_StageRates_7 K t m0 := by
  refine wpM_cut (fun t' m' => ∃ a es, OwnL m0 m' fb a es (ratesL ys (min l 12))) ?_ fun t' m' ha ⟨a, es, h1⟩ => hK t' m' a es ha h1
  have hl : ys.length = l := by have := hs.len; simpa using this
  simp only [c_sheaflaw17_StageRates_7_at, wpM_block, c_sheaflaw17_StageRates_6_at]
  refine wpM_loopA (fun j t' m' => ∃ k a es, k ≤ min l 12 ∧ j = min l 12 - k ∧ t' 10 = .int .i64 (k : Nat) ∧ t' 9 = vI (rAt ys k) ∧ OwnL m0 m' fb a es (ratesL ys k)) (min l 12)
    ⟨0, none, [], by omega, rfl, t10, t9, ⟨hfb, .nil _ _ _, rfl, fun e h => by simp at h, fun e h => by simp at h, Nat.le_refl _, fun _ _ _ => rfl⟩⟩ ?_
  rintro j t' m' ha ⟨k, a, es, hk, rfl, e11, e10, H⟩
  have e1 := (ha 2 (by decide +kernel)).trans t2
  have e8 := (ha 7 (by decide +kernel)).trans t7
  have lfb := getM_lt hfb
  have hsz := H.size
  by_cases hlt : k < min l 12
  · have d1 : decide ((k : Int) < (l : Int)) = true := by simp; omega
    have d2 : decide ((k : Int) < 12) = true := by simp; omega
    have w1 : IntKind.wrap .i64 ((k : Int) + 1) = ((k + 1 : Nat) : Int) := by rw [wrap_i64_id _ (by omega) (by omega)]; omega
    have z0 : (0 : Int) ≤ (k : Int) := by omega
    have z1 : (k : Int) < (l : Int) := by omega
    have hS : SlA m' 1 a1 l c0 (ys.map (.int .i64)) := hs.keep fun b hb hne' => H.keep _ ((hs.rows b hb hne').lt) (hob3 b hb (by simpa using hne'))
    obtain ⟨ab, ao, asp, rfl⟩ := hS.addr (by omega)
    have r0 : m'.at ab (ao + k) = some (.int .i64 (ys.getD k 0)) := by
      have := hS.at_map (show k < l by omega)
      rw [this]
      simp [List.getD_eq_getElem?_getD, List.getElem?_eq_getElem (show k < ys.length by omega)]
    have hxk : -9223372036854775808 ≤ ys.getD k 0 ∧ ys.getD k 0 < 9223372036854775808 := by
      rw [List.getD_eq_getElem?_getD, List.getElem?_eq_getElem (show k < ys.length by omega)]
      exact hyb _ (List.getElem_mem _)
    have hel : es.length = k := by
      have := congrArg List.length H.xs
      simpa [ratesL] using this
    have hat := rAt_bd ys k
    have hat1 := rAt_bd ys (k + 1)
    have eat : rAt ys (k + 1) = rAt ys k + (1 + ys.getD k 0 % (5 - 1 + 1)) := rfl
    simp (decide := true) (implicitDefEqProofs := false) (maxDischargeDepth := 20) only [go_sem, ↓reduceIte, e1, e8, e10, e11, d1, d2, r0, z0, z1, Int.toNat_natCast, true_implies, false_implies]
    refine ((Within_ans (ys.getD k 0) 1 5 hxk.1 hxk.2 (by omega) (by omega) (by omega) (by omega)) m').mono ?_
    rintro w m2 ⟨rfl, o2⟩
    have w2 : IntKind.wrap .i64 (rAt ys k + (1 + ys.getD k 0 % (5 - 1 + 1))) = rAt ys (k + 1) := by rw [← eat]; exact wrap_i64_id _ (by omega) (by omega)
    have w3 : IntKind.wrap .i64 (1 + IntKind.wrap .i64 ((k : Int).tdiv 6)) = 1 + ((k / 6 : Nat) : Int) := by
      have e : (k : Int).tdiv 6 = ((k / 6 : Nat) : Int) := rfl
      rw [e, wrap_i64_id ((k / 6 : Nat) : Int) (by omega) (by omega), wrap_i64_id _ (by omega) (by omega)]
    have w4 : IntKind.wrap .i64 (2 + (k : Int)) = 2 + (k : Int) := wrap_i64_id _ (by omega) (by omega)
    have gl2 : m2.get fb = _ := (o2.get (getM_lt H.box)).trans H.box
    have rl2 := get_at0 gl2
    have z2 := o2.size
    have nl : ¬ fb = m2.size := by have := getM_lt gl2; omega
    simp (decide := true) (implicitDefEqProofs := false) (maxDischargeDepth := 20) only [go_sem, ↓reduceIte, e1, e8, e10, e11, w2, w3, w4, rl2, gl2, nl, true_implies, false_implies]
    obtain ⟨rb, hrb⟩ : ∃ b, b = m2.size := ⟨_, rfl⟩
    obtain ⟨mp, hmp⟩ : ∃ mp, mp = m2.push (.cells false true [.int .i64 (1 + ((k / 6 : Nat) : Int)), .int .i64 (rAt ys (k + 1)), .int .i64 (2 + (k : Int)), .int .i64 1]) := ⟨_, rfl⟩
    have sp : mp.size = m2.size + 1 := by rw [hmp, size_push]
    have op : Old m' mp := by rw [hmp]; exact o2.push _
    have gr : mp.get rb = some (.cells false true ((rateR ys k).map (.int .i64))) := by rw [hmp, hrb, getM_push, if_pos rfl]; rfl
    rw [← hrb, ← hmp]
    refine (H.vec.old op).appendQ (by omega) (by omega) rfl (by decide) (by decide +kernel) (by decide +kernel) rfl (by omega) fun m5 b5 s5 v5 k5 hb5 => ?_
    have hfit : ∀ x ∈ rateR ys k, -9223372036854775808 ≤ x ∧ x < 9223372036854775808 := fun x hx => by
      simp only [rateR, List.mem_cons, List.not_mem_nil, or_false] at hx
      rcases hx with rfl | rfl | rfl | rfl <;> omega
    obtain ⟨gl5, H'⟩ := H.more lfb op (by omega) gr hfit v5 k5 hb5
    simp (decide := true) (implicitDefEqProofs := false) (maxDischargeDepth := 20) only [go_sem, ↓reduceIte, e1, e8, e10, e11, w1, gl5, true_implies, false_implies]
    exact ⟨min l 12 - (k + 1), by omega, k + 1, _, _, by omega, rfl, rfl, rfl, by rw [ratesL_succ]; exact H'⟩
  · have hkk : k = min l 12 := by omega
    subst hkk
    by_cases h12 : min l 12 < l
    · have d1 : decide (((min l 12 : Nat) : Int) < (l : Int)) = true := by simp; omega
      have d2 : decide (((min l 12 : Nat) : Int) < 12) = false := by simp; omega
      simp (decide := true) (implicitDefEqProofs := false) (maxDischargeDepth := 20) only [go_sem, ↓reduceIte, e1, e8, e10, e11, d1, d2, true_implies, false_implies]
      exact ⟨a, es, H⟩
    · have d1 : decide (((min l 12 : Nat) : Int) < (l : Int)) = false := by simp; omega
      simp (decide := true) (implicitDefEqProofs := false) (maxDischargeDepth := 20) only [go_sem, ↓reduceIte, e1, e8, e10, e11, d1, true_implies, false_implies]
      exact ⟨a, es, H⟩


/-! ### RtH -/

def amtA (ws : List Int) (i : Nat) : Int := if i < ws.length then -1000 + ws.getD i 0 % (1000 - -1000 + 1) else (i : Int)
def lineQ (xs ws : List Int) (i : Nat) : List Int := [(i : Int) + 1, 1, 1, 0 + xs.getD i 0 % (40 - 0 + 1), amtA ws i, 0, 1 + ((i % 3 : Nat) : Int), 10000, 5]
def linesQ (xs ws : List Int) (n : Nat) : List (List Int) := (List.range n).map (lineQ xs ws)
theorem linesQ_succ (xs ws : List Int) (n : Nat) : linesQ xs ws (n + 1) = linesQ xs ws n ++ [lineQ xs ws n] := by unfold linesQ; rw [List.range_succ, List.map_append]; rfl
theorem amtA_bd (ws : List Int) {i : Nat} (h : i ≤ 15) : -1000 ≤ amtA ws i ∧ amtA ws i ≤ 1000 := by
  unfold amtA
  rw [show (1000 - -1000 + 1 : Int) = 2001 from rfl]
  split <;> omega

set_option maxRecDepth 100000 in
set_option maxHeartbeats 8000000 in
theorem Rt_lines {m0 : Mem} {t : Fr} {a0 a1 : Option Addr} {l c0 l1 c1 lb : Nat} {xs ws : List Int} (hs : SlA m0 1 a0 l c0 (xs.map (.int .i64))) (hx : ∀ x ∈ xs, -9223372036854775808 ≤ x ∧ x < 9223372036854775808) (hw : SlA m0 1 a1 l1 c1 (ws.map (.int .i64))) (hwx : ∀ x ∈ ws, -9223372036854775808 ≤ x ∧ x < 9223372036854775808) (hlb : cap1 m0 lb (.slice none 0 0)) (h0 : ∀ b, a0 = some b → xs ≠ [] → b.block ≠ lb) (h1 : ∀ b, a1 = some b → ws ≠ [] → b.block ≠ lb)
    (t0 : t 0 = .slice a0 l c0) (t1 : t 1 = .slice a1 l1 c1) (t8 : t 8 = ptr lb) (t11 : t 11 = .int .i64 0) {K : Post3}
    (hK : ∀ t' m' a es, Agree (writes c_sheaflaw17_StageRates_19) t t' → OwnL m0 m' lb a es (linesQ xs ws (min l 15)) → K .normal t' m') :
    wpM E F_sheaflaw17_StageRates 174 none c_sheaflaw17_StageRates_19 K t m0 := by
  refine wpM_cut (fun t' m' => ∃ a es, OwnL m0 m' lb a es (linesQ xs ws (min l 15))) ?_ fun t' m' ha ⟨a, es, h1⟩ => hK t' m' a es ha h1
  have hl : xs.length = l := by have := hs.len; simpa using this
  have hl1 : ws.length = l1 := by have := hw.len; simpa using this
  simp only [c_sheaflaw17_StageRates_19_at, wpM_block, c_sheaflaw17_StageRates_18_at]
  refine wpM_loopA (fun j t' m' => ∃ k a es, k ≤ min l 15 ∧ j = min l 15 - k ∧ t' 11 = .int .i64 (k : Nat) ∧ OwnL m0 m' lb a es (linesQ xs ws k)) (min l 15)
    ⟨0, none, [], by omega, rfl, t11, ⟨hlb, .nil _ _ _, rfl, fun e h => by simp at h, fun e h => by simp at h, Nat.le_refl _, fun _ _ _ => rfl⟩⟩ ?_
  rintro j t' m' ha ⟨k, a, es, hk, rfl, e11, H⟩
  have e0 := (ha 0 (by decide +kernel)).trans t0
  have e1 := (ha 1 (by decide +kernel)).trans t1
  have e8 := (ha 8 (by decide +kernel)).trans t8
  have lfb := getM_lt hlb
  have hsz := H.size
  by_cases hlt : k < min l 15
  · have d1 : decide ((k : Int) < (l : Int)) = true := by simp; omega
    have d2 : decide ((k : Int) < 15) = true := by simp; omega
    have w1 : IntKind.wrap .i64 ((k : Int) + 1) = ((k + 1 : Nat) : Int) := by rw [wrap_i64_id _ (by omega) (by omega)]; omega
    have z0 : (0 : Int) ≤ (k : Int) := by omega
    have z1 : (k : Int) < (l : Int) := by omega
    have w3 : IntKind.wrap .i64 (1 + (k : Int).tmod 3) = 1 + ((k % 3 : Nat) : Int) := by
      have e : (k : Int).tmod 3 = ((k % 3 : Nat) : Int) := rfl
      rw [e, wrap_i64_id _ (by omega) (by omega)]
    have hel : es.length = k := by
      have := congrArg List.length H.xs
      simpa [linesQ] using this
    have hbd := amtA_bd ws (i := k) (by omega)
    have hS : SlA m' 1 a0 l c0 (xs.map (.int .i64)) := hs.keep fun b hb hne' => H.keep _ ((hs.rows b hb hne').lt) (h0 b hb (by simpa using hne'))
    have hW : SlA m' 1 a1 l1 c1 (ws.map (.int .i64)) := hw.keep fun b hb hne' => H.keep _ ((hw.rows b hb hne').lt) (h1 b hb (by simpa using hne'))
    obtain ⟨ab, ao, asp, rfl⟩ := hS.addr (by omega)
    have r0 : m'.at ab (ao + k) = some (.int .i64 (xs.getD k 0)) := by
      have := hS.at_map (show k < l by omega)
      rw [this]
      simp [List.getD_eq_getElem?_getD, List.getElem?_eq_getElem (show k < xs.length by omega)]
    have hxk : -9223372036854775808 ≤ xs.getD k 0 ∧ xs.getD k 0 < 9223372036854775808 := by
      rw [List.getD_eq_getElem?_getD, List.getElem?_eq_getElem (show k < xs.length by omega)]
      exact hx _ (List.getElem_mem _)
    have q0 := Within_ans (xs.getD k 0) 0 40 hxk.1 hxk.2 (by decide) (by decide) (by decide) (by decide)
    have gl := H.box
    have rl := get_at0 gl
    by_cases hkw : k < l1
    · have d3 : decide ((k : Int) < (l1 : Int)) = true := by simp; omega
      have y1 : (k : Int) < (l1 : Int) := by omega
      obtain ⟨wb, wo, wsp, rfl⟩ := hW.addr (by omega)
      have r1 : m'.at wb (wo + k) = some (.int .i64 (ws.getD k 0)) := by
        have := hW.at_map hkw
        rw [this]
        simp [List.getD_eq_getElem?_getD, List.getElem?_eq_getElem (show k < ws.length by omega)]
      have hwk : -9223372036854775808 ≤ ws.getD k 0 ∧ ws.getD k 0 < 9223372036854775808 := by
        rw [List.getD_eq_getElem?_getD, List.getElem?_eq_getElem (show k < ws.length by omega)]
        exact hwx _ (List.getElem_mem _)
      have q1 := Within_ans (ws.getD k 0) (-1000) 1000 hwk.1 hwk.2 (by decide) (by decide) (by decide) (by decide)
      simp (decide := true) (implicitDefEqProofs := false) (maxDischargeDepth := 20) only [go_sem, ↓reduceIte, e0, e1, e8, e11, d1, d2, d3, r1, z0, y1, Int.toNat_natCast, true_implies, false_implies]
      refine (q1 m').mono ?_
      rintro w m2 ⟨rfl, o2⟩
      have eam : amtA ws k = -1000 + ws.getD k 0 % (1000 - -1000 + 1) := by unfold amtA; exact if_pos (by omega)
      have gl2 := (o2.get (getM_lt gl)).trans gl
      have rl2 := get_at0 gl2
      have ll2 := getM_lt gl2
      have r02 : m2.at ab (ao + k) = some (.int .i64 (xs.getD k 0)) := by
        unfold Mem.at at r0 ⊢
        cases hg : m'.get ab with
        | none => rw [hg] at r0; cases r0
        | some c => rw [hg] at r0; rw [o2.get (getM_lt hg), hg]; exact r0
      simp (decide := true) (implicitDefEqProofs := false) (maxDischargeDepth := 20) only [go_sem, ↓reduceIte, e0, e1, e8, e11, r02, z0, z1, w1, w3, q0.eq, gl2, rl2, Int.toNat_natCast, true_implies, false_implies]
      obtain ⟨m3, hm3⟩ : ∃ m3, m3 = ansM E F_sheafbook_Within #[Value.int IntKind.i64 (xs.getD k 0), Value.int IntKind.i64 0, Value.int IntKind.i64 40] [lb] m2 := ⟨_, rfl⟩
      have o3 : Old m2 m3 := by rw [hm3]; exact .ansM (.refl m2)
      have o23 := o2.trans o3
      rw [← hm3]
      clear hm3
      have s3 := o23.size
      obtain ⟨rb, hrb⟩ : ∃ b, b = m3.size := ⟨_, rfl⟩
      obtain ⟨mp, hmp⟩ : ∃ mp, mp = m3.push (.cells false true ((((((((((zeroRow [Value.int IntKind.i64 0] 9).set 0 (Value.int IntKind.i64 ((k + 1 : Nat) : Int))).set 1 (Value.int IntKind.i64 1)).set 2 (Value.int IntKind.i64 1)).set 3 (Value.int IntKind.i64 (0 + xs.getD k 0 % (40 - 0 + 1)))).set 4 (Value.int IntKind.i64 (-1000 + ws.getD k 0 % (1000 - -1000 + 1)))).set 5 (Value.int IntKind.i64 0)).set 6 (Value.int IntKind.i64 (1 + ((k % 3 : Nat) : Int)))).set 7 (Value.int IntKind.i64 10000)).set 8 (Value.int IntKind.i64 5))) := ⟨_, rfl⟩
      have sp : mp.size = m3.size + 1 := by rw [hmp, size_push]
      have op : Old m' mp := by rw [hmp]; exact o23.push _
      have gr : mp.get rb = some (.cells false true ((lineQ xs ws k).map (.int .i64))) := by
        rw [hmp, hrb, getM_push, if_pos rfl]
        unfold lineQ
        rw [eam]
        rfl
      rw [← hrb, ← hmp]
      refine (H.vec.old op).appendQ (by omega) (by omega) rfl (by decide) (by decide +kernel) (by decide +kernel) rfl (by omega) fun m5 b5 s5 v5 k5 hb5 => ?_
      have hfit : ∀ x ∈ lineQ xs ws k, -9223372036854775808 ≤ x ∧ x < 9223372036854775808 := fun x hx => by
        simp only [lineQ, List.mem_cons, List.not_mem_nil, or_false] at hx
        rw [show (40 - 0 + 1 : Int) = 41 from rfl] at hx
        omega
      obtain ⟨gl5, H'⟩ := H.more lfb op (by omega) gr hfit v5 k5 hb5
      simp (decide := true) (implicitDefEqProofs := false) (maxDischargeDepth := 20) only [go_sem, ↓reduceIte, e0, e1, e8, e11, w1, gl5, true_implies, false_implies]
      exact ⟨min l 15 - (k + 1), by omega, k + 1, _, _, by omega, rfl, rfl, by rw [linesQ_succ]; exact H'⟩
    · have d3 : decide ((k : Int) < (l1 : Int)) = false := by simp; omega
      obtain ⟨m2, hm2⟩ : ∃ m2, m2 = m' := ⟨_, rfl⟩
      have o2 : Old m' m2 := by rw [hm2]; exact .refl m'
      have eam : amtA ws k = (k : Int) := by unfold amtA; exact if_neg (by omega)
      simp (decide := true) (implicitDefEqProofs := false) (maxDischargeDepth := 20) only [go_sem, ↓reduceIte, e0, e1, e8, e11, d1, d2, d3, r0, z0, z1, w1, w3, q0.eq, gl, rl, Int.toNat_natCast, true_implies, false_implies]
      rw [← hm2]
      obtain ⟨m3, hm3⟩ : ∃ m3, m3 = ansM E F_sheafbook_Within #[Value.int IntKind.i64 (xs.getD k 0), Value.int IntKind.i64 0, Value.int IntKind.i64 40] [lb] m2 := ⟨_, rfl⟩
      have o3 : Old m2 m3 := by rw [hm3]; exact .ansM (.refl m2)
      have o23 := o2.trans o3
      rw [← hm3]
      clear hm3
      have s3 := o23.size
      obtain ⟨rb, hrb⟩ : ∃ b, b = m3.size := ⟨_, rfl⟩
      obtain ⟨mp, hmp⟩ : ∃ mp, mp = m3.push (.cells false true ((((((((((zeroRow [Value.int IntKind.i64 0] 9).set 0 (Value.int IntKind.i64 ((k + 1 : Nat) : Int))).set 1 (Value.int IntKind.i64 1)).set 2 (Value.int IntKind.i64 1)).set 3 (Value.int IntKind.i64 (0 + xs.getD k 0 % (40 - 0 + 1)))).set 4 (Value.int IntKind.i64 (k : Int))).set 5 (Value.int IntKind.i64 0)).set 6 (Value.int IntKind.i64 (1 + ((k % 3 : Nat) : Int)))).set 7 (Value.int IntKind.i64 10000)).set 8 (Value.int IntKind.i64 5))) := ⟨_, rfl⟩
      have sp : mp.size = m3.size + 1 := by rw [hmp, size_push]
      have op : Old m' mp := by rw [hmp]; exact o23.push _
      have gr : mp.get rb = some (.cells false true ((lineQ xs ws k).map (.int .i64))) := by
        rw [hmp, hrb, getM_push, if_pos rfl]
        unfold lineQ
        rw [eam]
        rfl
      rw [← hrb, ← hmp]
      refine (H.vec.old op).appendQ (by omega) (by omega) rfl (by decide) (by decide +kernel) (by decide +kernel) rfl (by omega) fun m5 b5 s5 v5 k5 hb5 => ?_
      have hfit : ∀ x ∈ lineQ xs ws k, -9223372036854775808 ≤ x ∧ x < 9223372036854775808 := fun x hx => by
        simp only [lineQ, List.mem_cons, List.not_mem_nil, or_false] at hx
        rw [show (40 - 0 + 1 : Int) = 41 from rfl] at hx
        omega
      obtain ⟨gl5, H'⟩ := H.more lfb op (by omega) gr hfit v5 k5 hb5
      simp (decide := true) (implicitDefEqProofs := false) (maxDischargeDepth := 20) only [go_sem, ↓reduceIte, e0, e1, e8, e11, w1, gl5, true_implies, false_implies]
      exact ⟨min l 15 - (k + 1), by omega, k + 1, _, _, by omega, rfl, rfl, by rw [linesQ_succ]; exact H'⟩
  · have hkk : k = min l 15 := by omega
    subst hkk
    by_cases h12 : min l 15 < l
    · have d1 : decide (((min l 15 : Nat) : Int) < (l : Int)) = true := by simp; omega
      have d2 : decide (((min l 15 : Nat) : Int) < 15) = false := by simp; omega
      simp (decide := true) (implicitDefEqProofs := false) (maxDischargeDepth := 20) only [go_sem, ↓reduceIte, e0, e1, e8, e11, d1, d2, Int.toNat_natCast, true_implies, false_implies]
      exact ⟨a, es, H⟩
    · have d1 : decide (((min l 15 : Nat) : Int) < (l : Int)) = false := by simp; omega
      simp (decide := true) (implicitDefEqProofs := false) (maxDischargeDepth := 20) only [go_sem, ↓reduceIte, e0, e1, e8, e11, d1, Int.toNat_natCast, true_implies, false_implies]
      exact ⟨a, es, H⟩


/-! ### RtI -/

def byS (r : List Int) (b : Int) (x : List Int) : Int := if x.getD 0 0 = r.getD 6 0 ∧ x.getD 1 0 ≤ r.getD 3 0 then x.getD 2 0 else b
def byR (r : List Int) (ls : List (List Int)) : Int := ls.foldl (byS r) 0

set_option maxRecDepth 100000 in
set_option maxHeartbeats 8000000 in
theorem Rt_by {m : Mem} {t : Fr} {rd : Option Nat} {aF rad : Option Addr} {nF cF rn rc : Nat} {ls : List HRow} {r : List Int} (hs : SlA m 1 aF nF cF (ls.map HRow.v)) (hr : ∀ x ∈ ls, x.At m) (h4 : ∀ x ∈ ls, x.n = 4) (hn : nF ≤ 100) (hR : SlA m 1 rad rn rc (r.map (.int .i64))) (h9 : 9 ≤ rn)
    (t114 : t 114 = .slice aF nF cF) (t115 : t 115 = vI (nF : Nat)) (t116 : t 116 = vI 0) (t15 : t 15 = .slice rad rn rc) (t17 : t 17 = vI 0) {K : Post3}
    (hK : ∀ t', Agree (writes c_sheaflaw17_StageRates_37) t t' → t' 17 = vI (byR r (ls.map HRow.xs)) → K .normal t' m) :
    wpM E F_sheaflaw17_StageRates 174 rd c_sheaflaw17_StageRates_37 K t m := by
  refine wpM_cut (fun t' m' => m' = m ∧ t' 17 = vI (byR r (ls.map HRow.xs))) ?_ fun t' m' ha ⟨h1, h2⟩ => by rw [h1]; exact hK t' ha h2
  have hl : ls.length = nF := by have := hs.len; simpa using this
  have hrl : r.length = rn := by have := hR.len; simpa using this
  simp only [c_sheaflaw17_StageRates_37_at, wpM_block, c_sheaflaw17_StageRates_36_at]
  refine wpM_loopA (fun j t' m' => ∃ i : Nat, i ≤ nF ∧ j = nF - i ∧ m' = m ∧ t' 116 = vI (i : Nat) ∧ t' 17 = vI (byR r ((ls.take i).map HRow.xs))) nF ⟨0, by omega, rfl, rfl, t116, t17⟩ ?_
  rintro j t' m' ha ⟨i, hi, rfl, rfl, e116, e17⟩
  have e114 := (ha 114 (by decide +kernel)).trans t114
  have e115 := (ha 115 (by decide +kernel)).trans t115
  have e15 := (ha 15 (by decide +kernel)).trans t15
  obtain ⟨rb, ro, rsp, rfl⟩ := hR.addr (by omega)
  have qr : ∀ j, j < rn → m'.at rb (ro + j) = some (.int .i64 (r.getD j 0)) := fun j hj => by
    have := hR.at_map hj
    rw [show r.getD j 0 = r[j]'(by omega) by simp [List.getD_eq_getElem?_getD, List.getElem?_eq_getElem (show j < r.length by omega)]]
    exact this
  have p6 : m'.at rb (ro + Int.toNat 6) = _ := qr 6 (by omega)
  have p3 : m'.at rb (ro + Int.toNat 3) = _ := qr 3 (by omega)
  have b6 : (6 : Int) < (rn : Int) := by omega
  have b3 : (3 : Int) < (rn : Int) := by omega
  by_cases hlt : i < nF
  · have d1 : decide ((i : Int) < (nF : Int)) = true := by simp; omega
    have w1 : IntKind.wrap .i64 ((i : Int) + 1) = ((i + 1 : Nat) : Int) := by rw [wrap_i64_id _ (by omega) (by omega)]; omega
    have z0 : (0 : Int) ≤ (i : Int) := by omega
    have z1 : (i : Int) < (nF : Int) := by omega
    obtain ⟨ab, ao, asp, rfl⟩ := hs.addr (by omega)
    have r0 : m'.at ab (ao + i) = some (HRow.v (ls[i]'(by omega))) := hs.at_map hlt
    have hmem : ls[i]'(by omega) ∈ ls := List.getElem_mem _
    have hA := hr _ hmem
    have hn4 := h4 _ hmem
    have et : (ls.take (i + 1)).map HRow.xs = (ls.take i).map HRow.xs ++ [(ls[i]'(by omega)).xs] := by rw [List.take_succ_eq_append_getElem (by omega), List.map_append]; rfl
    have eb : byR r ((ls.take (i + 1)).map HRow.xs) = byS r (byR r ((ls.take i).map HRow.xs)) (ls[i]'(by omega)).xs := by rw [et]; unfold byR; rw [List.foldl_append]; rfl
    generalize ls[i]'(by omega) = x at *
    obtain ⟨xad, xn, xc, xs⟩ := x
    simp only at hn4 eb
    subst hn4
    have hsl : SlA m' 1 xad 4 xc (xs.map (.int .i64)) := hA.sl
    have hlen : xs.length = 4 := by have := hsl.len; simpa using this
    obtain ⟨xb, xo, xsp, rfl⟩ := hsl.addr (by omega)
    have r1 : m'.at ab (ao + i) = some (.slice (some ⟨xb, xo, xsp⟩) 4 xc) := r0
    have q : ∀ j, j < 4 → m'.at xb (xo + j) = some (.int .i64 (xs.getD j 0)) := fun j hj => by
      have := hsl.at_map hj
      rw [show xs.getD j 0 = xs[j]'(by omega) by simp [List.getD_eq_getElem?_getD, List.getElem?_eq_getElem (show j < xs.length by omega)]]
      exact this
    have q0 : m'.at xb (xo + Int.toNat 0) = _ := q 0 (by omega)
    have q0' : m'.at xb xo = _ := q 0 (by omega)
    have q1 : m'.at xb (xo + Int.toNat 1) = _ := q 1 (by omega)
    have q2 : m'.at xb (xo + Int.toNat 2) = _ := q 2 (by omega)
    cases hc : (xs.getD 0 0 == r.getD 6 0) with
    | false =>
      have es : byS r (byR r ((ls.take i).map HRow.xs)) xs = byR r ((ls.take i).map HRow.xs) := by unfold byS; exact if_neg fun h => by rw [h.1] at hc; simp at hc
      simp (decide := true) (implicitDefEqProofs := false) (maxDischargeDepth := 20) only [go_sem, e114, e115, e116, e15, e17, d1, z0, z1, r1, q0, q0', q1, q2, p6, p3, b6, b3, hc, w1, ↓reduceIte, Int.toNat_natCast, true_implies, false_implies]
      exact ⟨nF - (i + 1), by omega, i + 1, by omega, rfl, rfl, by rw [eb, es]⟩
    | true =>
      cases hd : decide (xs.getD 1 0 ≤ r.getD 3 0) with
      | false =>
        have es : byS r (byR r ((ls.take i).map HRow.xs)) xs = byR r ((ls.take i).map HRow.xs) := by unfold byS; exact if_neg fun h => by rw [decide_eq_true h.2] at hd; cases hd
        simp (decide := true) (implicitDefEqProofs := false) (maxDischargeDepth := 20) only [go_sem, e114, e115, e116, e15, e17, d1, z0, z1, r1, q0, q0', q1, q2, p6, p3, b6, b3, hc, hd, w1, ↓reduceIte, Int.toNat_natCast, true_implies, false_implies]
        exact ⟨nF - (i + 1), by omega, i + 1, by omega, rfl, rfl, by rw [eb, es]⟩
      | true =>
        have es : byS r (byR r ((ls.take i).map HRow.xs)) xs = xs.getD 2 0 := by unfold byS; exact if_pos ⟨by simpa using hc, of_decide_eq_true hd⟩
        simp (decide := true) (implicitDefEqProofs := false) (maxDischargeDepth := 20) only [go_sem, e114, e115, e116, e15, e17, d1, z0, z1, r1, q0, q0', q1, q2, p6, p3, b6, b3, hc, hd, w1, ↓reduceIte, Int.toNat_natCast, true_implies, false_implies]
        exact ⟨nF - (i + 1), by omega, i + 1, by omega, rfl, rfl, by rw [eb, es]⟩
  · have d1 : decide ((i : Int) < (nF : Int)) = false := by simp; omega
    have hik : ls.take i = ls := List.take_of_length_le (by omega)
    rw [hik] at e17
    simp (decide := true) (implicitDefEqProofs := false) (maxDischargeDepth := 20) only [go_sem, e115, e116, d1, ↓reduceIte, true_implies, false_implies]
    exact e17


/-! ### RtJ -/

theorem cmpI_3 (x y : Int) : cmpI x y = -1 ∧ x < y ∨ cmpI x y = 0 ∧ x = y ∨ cmpI x y = 1 ∧ y < x := by
  unfold cmpI
  split
  · exact .inl ⟨rfl, by assumption⟩
  · split
    · exact .inr (.inr ⟨rfl, by assumption⟩)
    · exact .inr (.inl ⟨rfl, by omega⟩)
theorem notB_iff (r : List Int) (y : HRow) : notB r y = true ↔ y.xs.getD 0 0 < r.getD 6 0 ∨ y.xs.getD 0 0 = r.getD 6 0 ∧ y.xs.getD 1 0 ≤ r.getD 3 0 := by
  unfold notB behI
  generalize y.xs.getD 0 0 = a
  generalize r.getD 6 0 = b
  generalize y.xs.getD 1 0 = c
  generalize r.getD 3 0 = d
  rcases cmpI_3 a b with ⟨h, k⟩ | ⟨h, k⟩ | ⟨h, k⟩
  · rw [h]; simp; omega
  · rw [h, if_pos rfl]
    rcases cmpI_3 c d with ⟨h', k'⟩ | ⟨h', k'⟩ | ⟨h', k'⟩ <;> rw [h'] <;> simp <;> omega
  · rw [h]; simp; omega
theorem cell_at (x : List Int) (c : Nat) (h : c < x.length) : cell x (c : Int) = some (x.getD c 0) := by
  unfold cell
  rw [if_pos (by omega), Int.toNat_natCast, List.getElem?_eq_getElem h]
  simp [List.getD_eq_getElem?_getD, h]
/-- Sorted by the currency and the day. -/
theorem cols_of_cmp (x y : List Int) (c d : Nat) (hx : c < x.length) (hy : c < y.length) (hx' : d < x.length) (hy' : d < y.length) (h : cmpL x y [(c : Int), (d : Int)] ≤ 0) : x.getD c 0 < y.getD c 0 ∨ x.getD c 0 = y.getD c 0 ∧ x.getD d 0 ≤ y.getD d 0 := by
  unfold cmpL at h
  rw [List.cons_append, List.map_cons, List.cons_append, List.map_cons] at h
  have e : colL x y (c : Int) = cmpI (x.getD c 0) (y.getD c 0) := by unfold colL; rw [cell_at x c hx, cell_at y c hy]; rfl
  have e' : colL x y (d : Int) = cmpI (x.getD d 0) (y.getD d 0) := by unfold colL; rw [cell_at x d hx', cell_at y d hy']; rfl
  rw [e, e'] at h
  unfold firstN at h
  rcases cmpI_3 (x.getD c 0) (y.getD c 0) with ⟨h1, k⟩ | ⟨h1, k⟩ | ⟨h1, k⟩
  · exact .inl k
  · rw [if_pos h1] at h
    unfold firstN at h
    rcases cmpI_3 (x.getD d 0) (y.getD d 0) with ⟨h2, k2⟩ | ⟨h2, k2⟩ | ⟨h2, k2⟩
    · exact .inr ⟨k, by omega⟩
    · exact .inr ⟨k, by omega⟩
    · rw [h2] at h; simp at h
  · rw [h1] at h; simp at h
theorem byS_no {r : List Int} : ∀ (L : List (List Int)) (b : Int), (∀ x ∈ L, ¬ (x.getD 0 0 = r.getD 6 0 ∧ x.getD 1 0 ≤ r.getD 3 0)) → L.foldl (byS r) b = b
  | [], b, _ => rfl
  | x :: L, b, h => by
    rw [List.foldl_cons, show byS r b x = b from if_neg (h x List.mem_cons_self)]
    exact byS_no L b fun y hy => h y (List.mem_cons_of_mem _ hy)
theorem rateR_0 (ys : List Int) (i : Nat) : (rateR ys i).getD 0 0 = 1 + ((i / 6 : Nat) : Int) := rfl
theorem rateR_1 (ys : List Int) (i : Nat) : (rateR ys i).getD 1 0 = rAt ys (i + 1) := rfl
theorem rateR_2 (ys : List Int) (i : Nat) : (rateR ys i).getD 2 0 = 2 + (i : Int) := rfl
theorem rateR_3 (ys : List Int) (i : Nat) : (rateR ys i).getD 3 0 = 1 := rfl
theorem rates_mono (ys : List Int) {i j : Nat} (h : i < j) : (1 + ((i / 6 : Nat) : Int) < 1 + ((j / 6 : Nat) : Int) ∨ 1 + ((i / 6 : Nat) : Int) = 1 + ((j / 6 : Nat) : Int)) ∧ rAt ys (i + 1) < rAt ys (j + 1) := by
  refine ⟨?_, rAt_lt ys (by omega)⟩
  have : i / 6 ≤ j / 6 := Nat.div_le_div_right (by omega)
  omega

/-- The rate of a line: the state behind it tells what the loop finds. -/
theorem rate_law (ys : List Int) (n : Nat) (fs : List HRow) (hfx : fs.map HRow.xs = ratesL ys n) (r : List Int) (c : Nat) (hc : c ≤ fs.length) (h1 : ∀ j, j < c → notB r (fs.getD j noRow) = true) (h2 : c < fs.length → notB r (fs.getD c noRow) = false) :
    (hasR (stC fs c) r = true → byR r (fs.map HRow.xs) = (stC fs c).mul ∧ 2 ≤ (stC fs c).mul ∧ (stC fs c).mul ≤ 2 + (n : Int)) ∧ (hasR (stC fs c) r = false → byR r (fs.map HRow.xs) = 0) := by
  have hn : fs.length = n := by have := congrArg List.length hfx; simpa [ratesL] using this
  have hx : ∀ j, j < n → (fs.getD j noRow).xs = rateR ys j := fun j hj => by
    have e1 : (fs.map HRow.xs)[j]? = some (rateR ys j) := by rw [hfx]; simp [ratesL, hj]
    rw [List.getElem?_map] at e1
    rw [List.getD_eq_getElem?_getD]
    cases hg : fs[j]? with
    | none => rw [hg] at e1; cases e1
    | some f => rw [hg] at e1; exact Option.some.inj e1
  have hb : ∀ j, j < n → (notB r (fs.getD j noRow) = true ↔ (1 + ((j / 6 : Nat) : Int) < r.getD 6 0 ∨ 1 + ((j / 6 : Nat) : Int) = r.getD 6 0 ∧ rAt ys (j + 1) ≤ r.getD 3 0)) := fun j hj => by
    rw [notB_iff, hx j hj, rateR_0, rateR_1]
  have hlate : ∀ j, c ≤ j → j < n → ¬ (1 + ((j / 6 : Nat) : Int) = r.getD 6 0 ∧ rAt ys (j + 1) ≤ r.getD 3 0) := fun j h1' h2' hh => by
    have h3 := h2 (by omega)
    have h4 : ¬ (1 + ((c / 6 : Nat) : Int) < r.getD 6 0 ∨ 1 + ((c / 6 : Nat) : Int) = r.getD 6 0 ∧ rAt ys (c + 1) ≤ r.getD 3 0) := fun hh' => by rw [(hb c (by omega)).2 hh'] at h3; cases h3
    by_cases hcj : c = j
    · subst hcj; exact h4 (.inr hh)
    · have := rates_mono ys (show c < j by omega)
      omega
  have hsplit : ratesL ys n = ratesL ys c ++ (ratesL ys n).drop c := by
    have e : ratesL ys c = (ratesL ys n).take c := by unfold ratesL; rw [← List.map_take, List.take_range, Nat.min_eq_left (by omega)]
    rw [e, List.take_append_drop]
  have hby : byR r (fs.map HRow.xs) = byR r (ratesL ys c) := by
    rw [hfx, hsplit]
    unfold byR
    rw [List.foldl_append]
    refine byS_no _ _ fun x hx => ?_
    obtain ⟨i, hi, rfl⟩ := List.getElem_of_mem hx
    have hi' : c + i < n := by simp [ratesL] at hi; omega
    have : ((ratesL ys n).drop c)[i] = rateR ys (c + i) := by simp [ratesL]
    rw [this, rateR_0, rateR_1]
    exact hlate _ (by omega) hi'
  rw [hby]
  cases c with
  | zero =>
    refine ⟨fun h => ?_, fun _ => rfl⟩
    exact Bool.noConfusion (h.symm.trans (show hasR (stC fs 0) r = false from rfl))
  | succ c =>
    have ex := hx c (by omega)
    have ed : (stC fs (c + 1)).div = 1 := by unfold stC; simp only; rw [if_neg (by omega), show c + 1 - 1 = c from rfl, ex, rateR_3]
    have ec : (stC fs (c + 1)).cur = 1 + ((c / 6 : Nat) : Int) := by unfold stC; simp only; rw [if_neg (by omega), show c + 1 - 1 = c from rfl, ex, rateR_0]
    have em : (stC fs (c + 1)).mul = 2 + (c : Int) := by unfold stC; simp only; rw [if_neg (by omega), show c + 1 - 1 = c from rfl, ex, rateR_2]
    have eh : hasR (stC fs (c + 1)) r = (1 + ((c / 6 : Nat) : Int) == r.getD 6 0) := by unfold hasR; rw [ed, ec]; rfl
    have h1c := (hb c (by omega)).1 (h1 c (by omega))
    rw [eh, em, ratesL_succ]
    have eb : byR r (ratesL ys c ++ [rateR ys c]) = byS r (byR r (ratesL ys c)) (rateR ys c) := by unfold byR; rw [List.foldl_append]; rfl
    rw [eb]
    constructor
    · intro h
      have h : 1 + ((c / 6 : Nat) : Int) = r.getD 6 0 := by simpa using h
      refine ⟨?_, by omega, by omega⟩
      unfold byS
      rw [rateR_0, rateR_1, rateR_2]
      exact if_pos ⟨h, by omega⟩
    · intro h
      have h : ¬ 1 + ((c / 6 : Nat) : Int) = r.getD 6 0 := by simpa using h
      unfold byS
      rw [rateR_0, rateR_1, rateR_2, if_neg (fun hh => h hh.1)]
      refine byS_no _ _ fun x hx => ?_
      obtain ⟨i, hi, rfl⟩ := List.getElem_of_mem hx
      have hi' : i < c := by simp [ratesL] at hi; omega
      have : (ratesL ys c)[i] = rateR ys i := by simp [ratesL]
      rw [this, rateR_0, rateR_1]
      have := rates_mono ys hi'
      omega


/-! ### RtK -/

theorem sla_but {m m' : Mem} {sz : Nat} {l : List Nat} {a : Option Addr} {n c : Nat} {xs : List Value} (h : SlA m sz a n c xs) (z : Frozen (butL m l) m') (hn : ∀ b, a = some b → xs ≠ [] → b.block ∉ l) : SlA m' sz a n c xs := h.keep fun b hb hx => by
  obtain ⟨ro, tg, cs, g, _⟩ := (h.rows b hb hx).blk
  rw [g]
  exact z _ _ (butL_at g (hn b hb hx))
theorem row_but {m m' : Mem} {l : List Nat} {r : HRow} (h : r.At m) (z : Frozen (butL m l) m') (hn : ∀ b, r.ad = some b → r.xs ≠ [] → b.block ∉ l) : r.At m' := ⟨sla_but h.sl z fun b hb hx => hn b hb (by simpa using hx), h.len, h.bd⟩
theorem byR_congr {r r' : List Int} (h6 : r.getD 6 0 = r'.getD 6 0) (h3 : r.getD 3 0 = r'.getD 3 0) (L : List (List Int)) : byR r L = byR r' L := by
  unfold byR
  have : byS r = byS r' := by funext b x; unfold byS; rw [h6, h3]
  rw [this]

set_option maxRecDepth 100000 in
set_option maxHeartbeats 16000000 in
theorem Rt_range {m : Mem} {t : Fr} {lb fb nb cb N nF : Nat} {aL aF : Option Addr} {ls fs : List HRow} {s : Value} {ys : List Int}
    (hbL : cap1 m lb (.slice aL N N)) (hL : SlA m 1 aL N N (ls.map HRow.v)) (hls : ∀ r ∈ ls, r.At m) (h9 : ∀ r ∈ ls, r.n = 9) (hN : N ≤ 15) (hbF : cap1 m fb (.slice aF nF nF)) (hF : SlA m 1 aF nF nF (fs.map HRow.v)) (hfs : ∀ f ∈ fs, f.At m) (h4 : ∀ f ∈ fs, f.n = 4) (hnF : nF ≤ 12) (hnb : cap1 m nb (vI 0))
    (hfx : fs.map HRow.xs = ratesL ys nF) (hm : ∀ k, k + 1 < ls.length → ∀ j, j < fs.length → notB (ls.getD k noRow).xs (fs.getD j noRow) = true → notB (ls.getD (k + 1) noRow).xs (fs.getD j noRow) = true)
    (ham : ∀ r ∈ ls, -1000 ≤ r.xs.getD 4 0 ∧ r.xs.getD 4 0 ≤ 1000)
    (nL : ∀ x, aL = some x → x.block ≠ nb ∧ x.block ≠ cb) (nlr : ∀ r ∈ ls, ∀ x, r.ad = some x → x.block ≠ nb ∧ x.block ≠ cb) (nF' : ∀ x, aF = some x → x.block ≠ nb ∧ x.block ≠ cb) (nfr : ∀ r ∈ fs, ∀ x, r.ad = some x → x.block ≠ nb ∧ x.block ≠ cb)
    (hne : lb ≠ nb ∧ lb ≠ cb ∧ fb ≠ nb ∧ fb ≠ cb ∧ nb ≠ cb) (lcb : cb < m.size)
    (it : Iter E (butL m [nb, cb]) (fun i => i = cb) s N (RO (butL m [nb, cb]) cb fs ls) (rateEl fs ls)) (own0 : RO (butL m [nb, cb]) cb fs ls 0 m)
    (t92 : t 92 = s) (t7 : t 7 = ptr fb) (t8 : t 8 = ptr lb) (t13 : t 13 = ptr nb) {K : Post3}
    (hK : ∀ m', cap1 m' nb (vI (N : Nat)) → m.size ≤ m'.size → (∀ i, i < m.size → i ≠ nb → i ≠ cb → m'.get i = m.get i) → K .normal t m') :
    wpM E F_sheaflaw17_StageRates 174 none c_sheaflaw17_StageRates_48 K t m := by
  have hll : ls.length = N := by have := hL.len; simpa using this
  have hfl : fs.length = nF := by have := hF.len; simpa using this
  simp only [c_sheaflaw17_StageRates_48_at, wpM_block, c_sheaflaw17_StageRates_47_at]
  have lnb := getM_lt hnb
  refine wpM_rangeP (A := fun i => i = nb) it (fun t => upd (upd t 15 (t 93)) 16 (t 94)) (by simp (decide := true) only [go_sem, t92, ↓reduceIte]) rfl asg_sheaflaw17_StageRates_0 body_sheaflaw17_StageRates_0 (by decide) (fun K l t m h => by simp (decide := true) only [go_sem, ↓reduceIte]; exact h)
    (fun k m A => cap1 m nb (vI (k : Nat)) ∧ A nb) noD (fun k m1 m2 A ⟨h2, h3⟩ hk _ => ⟨(hk _ h3).trans h2, h3⟩) noD_loc
    (butL_frozen _ _) (fun i hi => ⟨by rw [hi]; exact lnb, butL_no (by simp [hi]), fun h => hne.2.2.2.2 (hi.symm.trans h)⟩) (fun i hi => ⟨by rw [hi]; exact lcb, butL_no (by simp [hi])⟩) own0
    ⟨hnb, rfl⟩ ?_ ?_ ?_
  · rintro k vs m1 A B l hk z1 o1 o2 dis ow ⟨hn1, hA⟩ ⟨ac, rfl, V, hB⟩ hin hms
    refine ⟨rfl, ?_⟩
    have gL := z1 lb _ (butL_at hbL (by simp; exact ⟨hne.1, hne.2.1⟩))
    have gF := z1 fb _ (butL_at hbF (by simp; exact ⟨hne.2.2.1, hne.2.2.2.1⟩))
    have rL := get_at0 gL
    have SL := sla_but hL z1 (fun b hb hx => by have := nL b hb; simp; exact this)
    have SF := sla_but hF z1 (fun b hb hx => by have := nF' b hb; simp; exact this)
    have AF : ∀ f ∈ fs, f.At m1 := fun f hf => row_but (hfs f hf) z1 fun b hb hx => by have := nfr f hf b hb; simp; exact this
    have hem : ls[k]'(by omega) ∈ ls := List.getElem_mem _
    have eR : ls.getD k noRow = ls[k]'(by omega) := by simp [List.getD_eq_getElem?_getD, show k < ls.length by omega]
    obtain ⟨ab, ao, asp, rfl⟩ := SL.addr (by omega)
    have rE : m1.at ab (ao + k) = some (HRow.v (ls[k]'(by omega))) := SL.at_map (by omega)
    have hAt : (ls[k]'(by omega)).At m1 := row_but (hls _ hem) z1 fun b hb hx => by have := nlr _ hem b hb; simp; exact this
    have h9k := h9 _ hem
    have hamk := ham _ hem
    obtain ⟨c, hst, hcl, hc1, hc2⟩ := stR_is fs ls hm k (by omega)
    rw [hst] at V ⊢
    rw [eR] at V hc1 hc2 ⊢
    generalize ls[k]'(by omega) = r at *
    obtain ⟨rad, rn, rc, rxs⟩ := r
    simp only at h9k hamk V hc1 hc2 ⊢
    subst h9k
    have hrl := hAt.len
    simp only at hrl
    have hlaw := rate_law ys nF fs hfx rxs c hcl hc1 hc2
    obtain ⟨S, hS⟩ : ∃ S, S = stC fs c := ⟨_, rfl⟩
    rw [← hS] at hlaw V ⊢
    clear hst hS hc1 hc2
    obtain ⟨X, hX⟩ : ∃ X, X = outR S rxs := ⟨_, rfl⟩
    rw [← hX] at V ⊢
    obtain ⟨ext, hext⟩ : ∃ ext, X = rxs ++ ext := by
      rw [hX]
      unfold outR
      split
      · exact ⟨_, rfl⟩
      · exact ⟨[], by simp⟩
    have hX9 : X.take 9 = rxs := by rw [hext, List.take_append_of_le_length (by omega), List.take_of_length_le (by omega)]
    have hXl : X.length = 9 + ext.length := by rw [hext, List.length_append, hrl]
    have hXc : ∀ j, j < 9 → X.getD j 0 = rxs.getD j 0 := fun j hj => by
      rw [hext, List.getD_eq_getElem?_getD, List.getElem?_append_left (by omega), List.getD_eq_getElem?_getD]
    have rE' : m1.at ab (ao + k) = some (.slice rad 9 rc) := rE
    have rn1 := get_at0 hn1
    have d1 : decide ((k : Int) ≥ (N : Int)) = false := by simp; omega
    have d2 : decide (((X.length : Nat) : Int) < 9) = false := by simp; omega
    have z0 : (0 : Int) ≤ (k : Int) := by omega
    have z1' : (k : Int) < (N : Int) := by omega
    have w1 : IntKind.wrap .i64 ((k : Int) + 1) = ((k + 1 : Nat) : Int) := by rw [wrap_i64_id _ (by omega) (by omega)]; omega
    obtain ⟨s6, P6⟩ := V.sl.sliceTo (E := E) (k := .i64) (show 9 ≤ X.length by omega)
    have s6' := s6 22 (by decide +kernel)
    rw [Nat.mul_one, ← List.map_take, hX9] at P6
    rw [show ((9 : Nat) : Int) = 9 from rfl] at s6'
    simp (decide := true) (implicitDefEqProofs := false) (maxDischargeDepth := 20) only [go_sem, t7, t8, t13, rn1, rL, rE', d1, d2, z0, z1', s6', ↓reduceIte, Int.toNat_natCast, true_implies, false_implies]
    refine (SameI P6 hAt.sl (by omega) (by simp only; omega)).mono ?_
    rintro w' m2 ⟨rfl, oa⟩
    have dd : decide (rxs = rxs) = true := by simp
    rw [dd]
    have rF2 := get_at0 ((oa.get (getM_lt gF)).trans gF)
    simp (decide := true) (implicitDefEqProofs := false) (maxDischargeDepth := 20) only [go_sem, t7, t8, t13, rF2, ↓reduceIte, true_implies, false_implies]
    refine Rt_by (SF.old oa) (fun f hf => (AF f hf).old oa) h4 (by omega) (V.sl.old oa) (show 9 ≤ X.length by omega) (by simp (decide := true) only [go_sem, ↓reduceIte]) (by simp (decide := true) only [go_sem, ↓reduceIte]) (by simp (decide := true) only [go_sem, ↓reduceIte]) (by simp (decide := true) only [go_sem, ↓reduceIte]) (by simp (decide := true) only [go_sem, ↓reduceIte]) fun t3 hag e17 => ?_
    have e7 := hag 7 (by decide +kernel)
    have e13 := hag 13 (by decide +kernel)
    have e15 := hag 15 (by decide +kernel)
    have e16 := hag 16 (by decide +kernel)
    simp (decide := true) only [go_sem, t7, t8, t13, ↓reduceIte] at e7 e13 e15 e16
    clear hag
    rw [byR_congr (hXc 6 (by omega)) (hXc 3 (by omega))] at e17
    have z2s := oa.size
    have gn2 : m2.get nb = some (.cells false true [vI (k : Nat)]) := (oa.get (getM_lt hn1)).trans hn1
    have rn2 := get_at0 gn2
    have ln2 := getM_lt gn2
    have lA : ∀ i, A i → i < m1.size := fun i hi => (o1 i hi).1
    have lB : ∀ i, B i → i < m1.size := fun i hi => (o2 i hi).1
    have c13 : ChgS (fun i => A i ∨ B i) m1 (m2.put nb (some (.cells false true [vI ((k + 1 : Nat) : Int)]))) := ⟨by rw [size_put]; exact z2s, fun i hi hna => by rw [getM_put, if_neg (show ¬ (i = nb ∧ nb < m2.size) from fun e => hna (.inl (by rw [e.1]; exact hA))), oa.get hi]⟩
    have n13 : NewS (fun i => A i ∨ B i) m1 (m2.put nb (some (.cells false true [vI ((k + 1 : Nat) : Int)]))) (fun i => A i ∨ B i) := fun i hi => ⟨by rw [size_put]; exact Nat.lt_of_lt_of_le (hi.elim (lA i) (lB i)) z2s, .inl hi⟩
    have done_ : cap1 (m2.put nb (some (.cells false true [vI ((k + 1 : Nat) : Int)]))) nb (vI ((k + 1 : Nat) : Int)) := by unfold cap1; rw [getM_put, if_pos ⟨rfl, ln2⟩]
    cases hh : hasR S rxs with
    | false =>
      have ew : whyR S rxs = 7 := by unfold whyR; rw [hh]; rfl
      rw [hlaw.2 hh] at e17
      rw [ew] at e16
      simp (decide := true) (implicitDefEqProofs := false) (maxDischargeDepth := 20) only [go_sem, e7, e13, e15, e16, e17, rn2, gn2, ln2, w1, ↓reduceIte, Int.toNat_natCast, true_implies, false_implies]
      exact ⟨_, c13, n13, done_, .inl hA⟩
    | true =>
      obtain ⟨h1, h2, h3⟩ := hlaw.1 hh
      have ew : whyR S rxs = 0 := by unfold whyR; rw [hh]; rfl
      rw [h1] at e17
      rw [ew] at e16
      have hX4 := hXc 4 (by omega)
      obtain ⟨mu, hmu⟩ : ∃ x, x = S.mul := ⟨_, rfl⟩
      obtain ⟨am, hamt⟩ : ∃ x, x = rxs.getD 4 0 := ⟨_, rfl⟩
      rw [← hmu] at e17 h1 h2 h3
      rw [← hamt] at hamk hX4
      have hp1 : am * mu ≤ 1000 * mu := Int.mul_le_mul_of_nonneg_right hamk.2 (by omega)
      have hp2 : -1000 * mu ≤ am * mu := Int.mul_le_mul_of_nonneg_right hamk.1 (by omega)
      have eX : X = rxs ++ [am * mu] := by
        rw [hX]
        unfold outR
        rw [← hmu, ← hamt]
        exact if_pos ⟨hh, by unfold fit64; omega⟩
      have hXl10 : X.length = 10 := by rw [eX, List.length_append, hrl]; rfl
      obtain ⟨xb, xo, xsp, hxa⟩ := V.sl.addr (show 0 < X.length by omega)
      subst hxa
      have V2 := V.sl.old oa
      have rX : ∀ i (h : i < X.length), m2.at xb (xo + i) = some (.int .i64 (X.getD i 0)) := fun i h => by
        have := V2.at_map h
        rw [this]
        simp [List.getD_eq_getElem?_getD, List.getElem?_eq_getElem h]
      have x9 : m2.at xb (xo + Int.toNat 9) = some (.int .i64 (am * mu)) := by
        have := rX 9 (by omega)
        rw [show X.getD 9 0 = am * mu by rw [eX, List.getD_eq_getElem?_getD, List.getElem?_append_right (by omega), hrl]; rfl] at this
        exact this
      have x4 : m2.at xb (xo + Int.toNat 4) = some (.int .i64 am) := by
        have := rX 4 (by omega)
        rw [hX4] at this
        exact this
      have q4 : (4 : Int) < ((X.length : Nat) : Int) := by omega
      have q9 : (9 : Int) < ((X.length : Nat) : Int) := by omega
      have g1 : (mu == 0) = false := by simp; omega
      have g2 : decide (mu > 0) = true := by simp; omega
      have g3 : (((X.length : Nat) : Int) != 10) = false := by rw [hXl10]; rfl
      have g4 : IntKind.wrap .i64 (mu * am) = am * mu := by rw [Int.mul_comm mu am]; exact wrap_i64_id _ (by omega) (by omega)
      have g5 : (am * mu != am * mu) = false := by simp
      generalize am * mu = amu at *
      simp (decide := true) (implicitDefEqProofs := false) (maxDischargeDepth := 20) only [go_sem, e7, e13, e15, e16, e17, rn2, gn2, ln2, x9, x4, q4, q9, g1, g2, g3, g4, g5, w1, ↓reduceIte, Int.toNat_natCast, true_implies, false_implies]
      exact ⟨_, c13, n13, done_, .inl hA⟩
  · rintro m' A' z' o' ow ⟨hn, hA⟩ c1 c2
    simp (decide := true) (implicitDefEqProofs := false) (maxDischargeDepth := 20) only [go_sem, ↓reduceIte, true_implies, false_implies]
    exact hK m' hn c1.size fun i hi h1 h2 => c1.get i hi fun e => e.elim h1 h2
  · rintro k x m' A' _ _ _ _ _ h
    exact h.elim


/-! ### RtL -/

set_option maxRecDepth 100000 in
set_option maxHeartbeats 16000000 in
theorem Rt_main {m : Mem} {t : Fr} {a0 a1 a2 : Option Addr} {l0 c0 l1 c1 l2 c2 B : Nat} {xs ws ys : List Int} (hs0 : SlA m 1 a0 l0 c0 (xs.map (.int .i64))) (hx0 : ∀ x ∈ xs, -9223372036854775808 ≤ x ∧ x < 9223372036854775808) (hs1 : SlA m 1 a1 l1 c1 (ws.map (.int .i64))) (hx1 : ∀ x ∈ ws, -9223372036854775808 ≤ x ∧ x < 9223372036854775808) (hs2 : SlA m 1 a2 l2 c2 (ys.map (.int .i64))) (hx2 : ∀ x ∈ ys, -9223372036854775808 ≤ x ∧ x < 9223372036854775808)
    (b0 : ∀ b, a0 = some b → xs ≠ [] → b.block < B) (b1 : ∀ b, a1 = some b → ws ≠ [] → b.block < B) (b2 : ∀ b, a2 = some b → ys ≠ [] → b.block < B) (gR : cap1 m B (.bool false)) (gF : cap1 m (B + 1) (.slice none 0 0)) (gL : cap1 m (B + 2) (.slice none 0 0)) (hms : m.size = B + 3)
    (t0 : t 0 = .slice a0 l0 c0) (t1 : t 1 = .slice a1 l1 c1) (t2 : t 2 = .slice a2 l2 c2) (t6 : t 6 = ptr B) (t7 : t 7 = ptr (B + 1)) (t8 : t 8 = ptr (B + 2)) :
    wpM E F_sheaflaw17_StageRates 174 none c_sheaflaw17_StageRates_58 (retK (ResK E [.cell 6 4] fun v _ => v = .bool true)) t m := by
  simp (decide := true) (implicitDefEqProofs := false) (maxDischargeDepth := 20) only [go_sem, ↓reduceIte, true_implies, false_implies]
  refine Rt_rates (fb := B + 1) hs2 hx2 gF (fun b hb hne => by have := b2 b hb hne; omega) (by simp (decide := true) only [go_sem, t2, ↓reduceIte]) (by simp (decide := true) only [go_sem, t7, ↓reduceIte]) (by simp (decide := true) only [go_sem, ↓reduceIte]) (by simp (decide := true) only [go_sem, ↓reduceIte]) fun t2 m2 aF fs hag HF => ?_
  have e0 := hag 0 (by decide +kernel)
  have e1 := hag 1 (by decide +kernel)
  have e6 := hag 6 (by decide +kernel)
  have e7 := hag 7 (by decide +kernel)
  have e8 := hag 8 (by decide +kernel)
  simp (decide := true) only [go_sem, t0, t1, t6, t7, t8, ↓reduceIte] at e0 e1 e6 e7 e8
  clear hag
  have s2 := HF.size
  have k2 : ∀ b v, cap1 m b v → b ≠ B + 1 → cap1 m2 b v := fun b v h hne => (HF.keep b (getM_lt h) hne).trans h
  have gR2 := k2 _ _ gR (by omega)
  have gL2 := k2 _ _ gL (by omega)
  have hs02 : SlA m2 1 a0 l0 c0 (xs.map (.int .i64)) := hs0.keep fun b hb hne => HF.keep _ ((hs0.rows b hb hne).lt) (by have := b0 b hb (by simpa using hne); omega)
  have hs12 : SlA m2 1 a1 l1 c1 (ws.map (.int .i64)) := hs1.keep fun b hb hne => HF.keep _ ((hs1.rows b hb hne).lt) (by have := b1 b hb (by simpa using hne); omega)
  simp (decide := true) (implicitDefEqProofs := false) (maxDischargeDepth := 20) only [go_sem, ↓reduceIte, true_implies, false_implies]
  refine Rt_lines (lb := B + 2) hs02 hx0 hs12 hx1 gL2 (fun b hb hne => by have := b0 b hb hne; omega) (fun b hb hne => by have := b1 b hb hne; omega) (by simp (decide := true) only [go_sem, e0, ↓reduceIte]) (by simp (decide := true) only [go_sem, e1, ↓reduceIte]) (by simp (decide := true) only [go_sem, e8, ↓reduceIte]) (by simp (decide := true) only [go_sem, ↓reduceIte]) fun t3 m3 aL es hag HL => ?_
  have f6 := hag 6 (by decide +kernel)
  have f7 := hag 7 (by decide +kernel)
  have f8 := hag 8 (by decide +kernel)
  simp (decide := true) only [go_sem, e6, e7, e8, ↓reduceIte] at f6 f7 f8
  clear hag e0 e1 e6 e7 e8
  have s3 := HL.size
  have k3 : ∀ b v, cap1 m2 b v → b ≠ B + 2 → cap1 m3 b v := fun b v h hne => (HL.keep b (getM_lt h) hne).trans h
  have gR3 := k3 _ _ gR2 (by omega)
  have gF3 := k3 _ _ HF.box (by omega)
  have rL3 := get_at0 HL.box
  obtain ⟨N, hN⟩ : ∃ N, N = min l0 15 := ⟨_, rfl⟩
  rw [← hN] at HL
  have hel : es.length = N := by have := congrArg List.length HL.xs; simpa [linesQ] using this
  have hei : ∀ r ∈ es, ∃ i, i < 15 ∧ r.xs = lineQ xs ws i := fun r hr => by
    have h1 : r.xs ∈ es.map HRow.xs := List.mem_map.2 ⟨r, hr, rfl⟩
    rw [HL.xs] at h1
    obtain ⟨i, hi, h2⟩ := List.mem_map.1 h1
    exact ⟨i, by have := List.mem_range.1 hi; omega, h2.symm⟩
  have he9 : ∀ r ∈ es, r.n = 9 := fun r hr => by
    obtain ⟨i, _, h2⟩ := hei r hr
    rw [← (HL.row r hr).len, h2]
    rfl
  have hea : ∀ r ∈ es, -1000 ≤ r.xs.getD 4 0 ∧ r.xs.getD 4 0 ≤ 1000 := fun r hr => by
    obtain ⟨i, hi, h2⟩ := hei r hr
    rw [h2]
    exact amtA_bd ws (by omega)
  have nlv : ¬ B + 2 = m3.size := by have := getM_lt HL.box; omega
  simp (decide := true) (implicitDefEqProofs := false) (maxDischargeDepth := 20) only [go_sem, f6, f7, f8, rL3, nlv, ↓reduceIte, true_implies, false_implies]
  have hC : SlA (m3.push (.cells false true [.int .i64 6, .int .i64 3])) 1 (some ⟨m3.size, 0, none⟩) 2 2 (([((6 : Nat) : Int), ((3 : Nat) : Int)] : List Int).map (.int .i64)) := .new (by rw [getM_push, if_pos rfl]; rfl) rfl rfl
  have o3p : Old m3 (m3.push (.cells false true [.int .i64 6, .int .i64 3])) := .push (.refl m3) _
  refine (Sorted_at (HL.vec.sl.old o3p) (fun r hr => (HL.row r hr).old o3p) (fun r hr => by rw [he9 r hr]; omega) hC (by omega) (by omega)).mono ?_
  rintro w m4 ⟨bS, sS, rfl, VS, o4⟩
  have o34 := o3p.trans o4
  obtain ⟨ls, hls⟩ : ∃ x, x = sortL [((6 : Nat) : Int), ((3 : Nat) : Int)] es := ⟨_, rfl⟩
  have hperm : ls.Perm es := by rw [hls]; exact sortL_perm _ _
  rw [← hls] at VS
  have gL4 : m4.get (B + 2) = _ := (o34.get (getM_lt HL.box)).trans HL.box
  have lL4 := getM_lt gL4
  have s34 := o34.size
  obtain ⟨m5, hm5⟩ : ∃ m5, m5 = m4.put (B + 2) (some (.cells false true [.slice (some ⟨bS, 0, sS⟩) es.length es.length])) := ⟨_, rfl⟩
  have g5 : ∀ i, i ≠ B + 2 → m5.get i = m4.get i := fun i h => by rw [hm5, getM_put, if_neg (fun e => h e.1)]
  have s5 : m5.size = m4.size := by rw [hm5, size_put]
  have gL5 : cap1 m5 (B + 2) (.slice (some ⟨bS, 0, sS⟩) es.length es.length) := by unfold cap1; rw [hm5, getM_put, if_pos ⟨rfl, lL4⟩]
  have k5 : ∀ b v, cap1 m3 b v → b ≠ B + 2 → cap1 m5 b v := fun b v h hne => (g5 b hne).trans ((o34.get (getM_lt h)).trans h)
  have gF5 := k5 _ _ gF3 (by omega)
  have gR5 := k5 _ _ gR3 (by omega)
  have lF5 := getM_lt gF5
  simp (decide := true) (implicitDefEqProofs := false) (maxDischargeDepth := 20) only [go_sem, f6, f7, f8, gL4, lL4, ← hm5, ↓reduceIte, true_implies, false_implies]
  obtain ⟨nb, hnb⟩ : ∃ b, b = m5.size := ⟨_, rfl⟩
  obtain ⟨mN, hmN⟩ : ∃ mN, mN = (m5.push (.cells false true [.int .i64 0])).put nb (some (.cells false true [.int .i64 0])) := ⟨_, rfl⟩
  have gN : cap1 mN nb (vI 0) := by unfold cap1; rw [hmN, hnb, getM_put, if_pos ⟨rfl, by simp⟩]
  have o5N : Old m5 mN := by rw [hmN, hnb]; exact .put (.push (.refl m5) _) _ _ (Nat.le_refl _)
  rw [← hnb, ← hmN]
  have sN : mN.size = m5.size + 1 := by rw [hmN, size_put, size_push]
  clear hmN
  have gFN := gF5.old o5N
  have gLN := gL5.old o5N
  have rFN := get_at0 gFN
  have rLN := get_at0 gLN
  have rL5 := get_at0 gL5
  have lL5 := getM_lt gL5
  have nlb : ¬ B + 2 = nb := by omega
  have nfb : ¬ B + 1 = nb := by omega
  simp (decide := true) (implicitDefEqProofs := false) (maxDischargeDepth := 20) only [go_sem, f6, f7, f8, rFN, rLN, rL5, nlb, nfb, ↓reduceIte, true_implies, false_implies]
  refine (From_at).mono ?_
  rintro w m6 ⟨bv, rfl, cv, hbv, o6⟩
  obtain ⟨el, rfl, -⟩ := o6.ugm
  have oN6 : Old mN (mN.ext el) := ⟨el, rfl⟩
  have cv : cap1 (mN.ext el) bv (.slice (some ⟨bS, 0, sS⟩) es.length es.length) := get_ugm cv
  rw [size_gm] at hbv
  simp (decide := true) (implicitDefEqProofs := false) (maxDischargeDepth := 20) only [go_sem, f6, f7, f8, ↓reduceIte, true_implies, false_implies]
  generalize mN.ext el = m6 at *
  refine (Cursor_at).mono ?_
  rintro w m7 ⟨rfl, cc, o67⟩
  simp (decide := true) (implicitDefEqProofs := false) (maxDischargeDepth := 20) only [go_sem, f6, f7, f8, ↓reduceIte, true_implies, false_implies]
  obtain ⟨cb, hcb⟩ : ∃ b, b = m6.size := ⟨_, rfl⟩
  rw [← hcb] at cc ⊢
  refine (StRates_at).mono ?_
  rintro w m8 ⟨bi, bn, rfl, di, dn, hb, o78⟩
  have sN6 := oN6.size
  have s67 := o67.size
  have s78 := o78.size
  have oN8 := oN6.trans (o67.trans o78)
  have o58 := o5N.trans oN8
  have lcc := getM_lt cc
  have lcv := getM_lt cv
  -- what is known of the rows
  have hlsl : ls.length = es.length := hperm.length_eq
  have hff : ∀ f ∈ fs, ∃ i, i < 12 ∧ f.xs = rateR ys i := fun f hf => by
    have h1 : f.xs ∈ fs.map HRow.xs := List.mem_map.2 ⟨f, hf, rfl⟩
    rw [HF.xs] at h1
    obtain ⟨i, hi, h2⟩ := List.mem_map.1 h1
    exact ⟨i, by have := List.mem_range.1 hi; omega, h2.symm⟩
  have hfl : fs.length = min l2 12 := by have := congrArg List.length HF.xs; simpa [ratesL] using this
  have hf4 : ∀ f ∈ fs, f.n = 4 := fun f hf => by
    obtain ⟨i, _, h2⟩ := hff f hf
    rw [← (HF.row f hf).len, h2]
    rfl
  have hmn : ∀ k, k + 1 < ls.length → ∀ j, j < fs.length → notB (ls.getD k noRow).xs (fs.getD j noRow) = true → notB (ls.getD (k + 1) noRow).xs (fs.getD j noRow) = true := fun k hk j hj h => by
    have hp : ls.Pairwise (fun a b => cmpL a.xs b.xs [((6 : Nat) : Int), ((3 : Nat) : Int)] ≤ 0) := by rw [hls]; exact sortL_sorted _ _
    have hc := List.pairwise_iff_getElem.1 hp k (k + 1) (by omega) hk (by omega)
    have len : ∀ r ∈ ls, r.xs.length = 9 := fun r hr => by
      have hr' := hperm.mem_iff.1 hr
      rw [(HL.row r hr').len, he9 r hr']
    have l1' := len _ (List.getElem_mem (show k < ls.length by omega))
    have l2' := len _ (List.getElem_mem hk)
    have q1 : ls.getD k noRow = ls[k]'(by omega) := by simp [List.getD_eq_getElem?_getD, show k < ls.length by omega]
    have q2 : ls.getD (k + 1) noRow = ls[k + 1]'hk := by simp [List.getD_eq_getElem?_getD, hk]
    rw [q1, notB_iff] at h
    rw [q2, notB_iff]
    have := cols_of_cmp _ _ 6 3 (by omega) (by omega) (by omega) (by omega) hc
    omega
  have o38 : ∀ i, i < m3.size → i ≠ B + 2 → m8.get i = m3.get i := fun i hi h => by rw [o58.get (by omega), g5 i h, o34.get hi]
  have row8 : ∀ r ∈ ls, r.At m8 := fun r hr => (HL.row r (hperm.mem_iff.1 hr)).keep fun b hb hx => by
    obtain ⟨b', h1, h2, h3, _⟩ := HL.blk r (hperm.mem_iff.1 hr)
    rw [h1] at hb; cases hb
    exact o38 b' h3 (by omega)
  have file8 : ∀ f ∈ fs, f.At m8 := fun f hf => (HF.row f hf).keep fun b hb hx => by
    obtain ⟨b', h1, h2, h3, _⟩ := HF.blk f hf
    rw [h1] at hb; cases hb
    show m8.get b' = m2.get b'
    rw [o38 b' (by omega) (by omega), HL.keep b' h3 (by omega)]
  have hSz := (VS.blk _ rfl).1
  have hSl : bS < m4.size := VS.lt rfl
  simp only [size_push] at hSz
  replace hSz : m3.size + 1 ≤ bS := hSz
  have S8 : SlA m8 1 (some ⟨bS, 0, sS⟩) es.length es.length (ls.map HRow.v) := VS.sl.keep fun b hb hx => by
    cases hb
    show m8.get bS = m4.get bS
    rw [o58.get (by omega), g5 bS (by omega)]
  have F8 : SlA m8 1 aF fs.length fs.length (fs.map HRow.v) := HF.vec.sl.keep fun b hb hx => by
    have h1 := (HF.vec.blk b hb).1
    have h2 := HF.vec.lt hb
    rw [o38 b.block (by omega) (by omega), HL.keep b.block h2 (by omega)]
  have nS : ∀ x, (some ⟨bS, 0, sS⟩ : Option Addr) = some x → x.block ≠ nb ∧ x.block ≠ cb := fun x hx => by cases hx; exact ⟨by show bS ≠ nb; omega, by show bS ≠ cb; omega⟩
  have nls : ∀ r ∈ ls, ∀ x, r.ad = some x → x.block ≠ nb ∧ x.block ≠ cb := fun r hr x hx => by
    obtain ⟨b', h1, h2, h3, _⟩ := HL.blk r (hperm.mem_iff.1 hr)
    rw [h1] at hx; cases hx
    exact ⟨by show b' ≠ nb; omega, by show b' ≠ cb; omega⟩
  have nF : ∀ x, aF = some x → x.block ≠ nb ∧ x.block ≠ cb := fun x hx => by have := HF.vec.lt hx; exact ⟨by omega, by omega⟩
  have nfs : ∀ r ∈ fs, ∀ x, r.ad = some x → x.block ≠ nb ∧ x.block ≠ cb := fun r hr x hx => by
    obtain ⟨b', h1, h2, h3, _⟩ := HF.blk r hr
    rw [h1] at hx; cases hx
    exact ⟨by show b' ≠ nb; omega, by show b' ≠ cb; omega⟩
  have zat : ∀ b v, cap1 m8 b v → b ≠ nb → b ≠ cb → butL m8 [nb, cb] b = some (.cells false true [v]) := fun b v h h1 h2 => butL_at h (by simp; exact ⟨h1, h2⟩)
  have hR : ∀ k, RowZ (butL m8 [nb, cb]) (ls.getD k noRow) := fun k m' z => by
    rw [List.getD_eq_getElem?_getD]
    cases hg : ls[k]? with
    | none => exact noRow_at m'
    | some r =>
      have hm := List.mem_of_getElem? hg
      exact row_but (row8 r hm) z fun b hb hx => by have := nls r hm b hb; simp; exact this
  have hRn : ∀ k, (ls.getD k noRow).n ≤ 900 := fun k => by
    rw [List.getD_eq_getElem?_getD]
    cases hg : ls[k]? with
    | none => exact Nat.zero_le _
    | some r => have := he9 r (hperm.mem_iff.1 (List.mem_of_getElem? hg)); simp; omega
  have hFz : ∀ y ∈ fs, (RowZ (butL m8 [nb, cb]) y ∧ y.n ≤ 1000000) ∧ y.xs.getD 3 0 = 1 ∧ fit64 (y.xs.getD 2 0) := fun f hf => by
    refine ⟨⟨fun m' z => row_but (file8 f hf) z fun b hb hx => by have := nfs f hf b hb; simp; exact this, by rw [hf4 f hf]; omega⟩, ?_⟩
    obtain ⟨i, hi, h2⟩ := hff f hf
    rw [h2, rateR_3, rateR_2]
    exact ⟨rfl, by unfold fit64; omega⟩
  have cc8 : cap1 m8 cb (.slice aF fs.length fs.length) := cc.old o78
  have own0 : RO (butL m8 [nb, cb]) cb fs ls 0 m8 := ⟨aF, fs.length, cc8, fun m' z => sla_but F8 z fun b hb hx => by have := nF b hb; simp; exact this⟩
  have cv8 : cap1 m8 bv (.slice (some ⟨bS, 0, sS⟩) es.length es.length) := cv.old (o67.trans o78)
  have it := RatesI (Z := butL m8 [nb, cb]) (n := es.length) (xs := ls) (l := fs) hlsl (by omega) (fun Z' sub => ValuesR (sub _ _ (zat bv _ cv8 (by omega) (by omega))) (fun m' z => sla_but S8 (sub.frozen z) fun b hb hx => by have := nS b hb; simp; exact this) (by omega)) hR hRn hFz
    (zat bi _ di (by omega) (by omega)) (zat bn _ dn (by omega) (by omega))
  have gF8 := gFN.old oN8
  have gL8 := gLN.old oN8
  have gN8 := gN.old oN8
  have gR8 : cap1 m8 B (.bool false) := gR5.old o58
  simp (decide := true) (implicitDefEqProofs := false) (maxDischargeDepth := 20) only [go_sem, f6, f7, f8, ↓reduceIte, true_implies, false_implies]
  refine Rt_range (N := es.length) (nF := fs.length) (ys := ys) gL8 S8 row8 (fun r hr => he9 r (hperm.mem_iff.1 hr)) (by omega) gF8 F8 file8 hf4 (by omega) gN8 (by rw [hfl]; exact HF.xs) hmn (fun r hr => hea r (hperm.mem_iff.1 hr)) nS nls nF nfs (by omega) (by omega) it own0 (by simp (decide := true) only [go_sem, ↓reduceIte]) (by simp (decide := true) only [go_sem, f7, ↓reduceIte]) (by simp (decide := true) only [go_sem, f8, ↓reduceIte]) (by simp (decide := true) only [go_sem, ↓reduceIte]) fun m9 hn s9 k9 => ?_
  have rN9 := get_at0 hn
  have rL9 := get_at0 ((k9 (B + 2) (by omega) (by omega) (by omega)).trans gL8)
  have gR9 : m9.get B = some (.cells false true [.bool false]) := (k9 B (by omega) (by omega) (by omega)).trans gR8
  have lR9 := getM_lt gR9
  have dn9 : (((es.length : Nat) : Int) == ((es.length : Nat) : Int)) = true := by simp
  simp (decide := true) (implicitDefEqProofs := false) (maxDischargeDepth := 20) only [go_sem, f6, f8, rN9, rL9, gR9, lR9, dn9, ↓reduceIte, true_implies, false_implies]

attribute [-go_sem] c_sheaflaw17_StageRates_58_at in
set_option maxRecDepth 100000 in
set_option maxHeartbeats 16000000 in
theorem StageRates_law (m : Mem) (hro : ∀ i c, m.get i = some c → c.writable = false)
    (a0 : Option Addr) (l0 c0 : Nat) (xs0 : List Int) (hs0 : SlA m 1 a0 l0 c0 (xs0.map (.int .i64))) (hl0 : xs0.length = l0) (hx0 : ∀ x ∈ xs0, -9223372036854775808 ≤ x ∧ x < 9223372036854775808)
    (a1 : Option Addr) (l1 c1 : Nat) (xs1 : List Int) (hs1 : SlA m 1 a1 l1 c1 (xs1.map (.int .i64))) (hl1 : xs1.length = l1) (hx1 : ∀ x ∈ xs1, -9223372036854775808 ≤ x ∧ x < 9223372036854775808)
    (a2 : Option Addr) (l2 c2 : Nat) (xs2 : List Int) (hs2 : SlA m 1 a2 l2 c2 (xs2.map (.int .i64))) (hl2 : xs2.length = l2) (hx2 : ∀ x ∈ xs2, -9223372036854775808 ≤ x ∧ x < 9223372036854775808) :
    CallQ E F_sheaflaw17_StageRates [.slice a0 l0 c0, .slice a1 l1 c1, .slice a2 l2 c2].toArray m fun v _ => v = .bool true := by
  refine .enter fn_sheaflaw17_StageRates (by simp) ?_
  have lt0 : ∀ b, a0 = some b → xs0 ≠ [] → b.block < m.size := fun b hb hne => (hs0.rows b hb (by simpa using hne)).lt
  have lt1 : ∀ b, a1 = some b → xs1 ≠ [] → b.block < m.size := fun b hb hne => (hs1.rows b hb (by simpa using hne)).lt
  have lt2 : ∀ b, a2 = some b → xs2 ≠ [] → b.block < m.size := fun b hb hne => (hs2.rows b hb (by simpa using hne)).lt
  have oA : Old m (((m.push (.cells false true [.bool false])).push (.cells false true [.slice none 0 0])).push (.cells false true [.slice none 0 0])) := .push (.push (.push (.refl m) _) _) _
  simp (decide := true) (implicitDefEqProofs := false) (maxDischargeDepth := 20) only [go_sem, ↓reduceIte, true_implies, false_implies]
  refine Rt_main (B := m.size) (hs0.old oA) hx0 (hs1.old oA) hx1 (hs2.old oA) hx2 lt0 lt1 lt2 ?_ ?_ ?_ (by simp only [size_push]) ?_ ?_ ?_ ?_ ?_ ?_
  · unfold cap1; rw [getM_push, if_neg (by simp only [size_push]; omega), getM_push, if_neg (by simp only [size_push]; omega), getM_push, if_pos rfl]
  · unfold cap1; rw [getM_push, if_neg (by simp only [size_push]; omega), getM_push, if_pos (by simp only [size_push])]
  · unfold cap1; rw [getM_push, if_pos (by simp only [size_push])]
  all_goals simp (decide := true) only [go_sem, ↓reduceIte]

end Go.Proofs.Ytpabllcacdopdaa.W
