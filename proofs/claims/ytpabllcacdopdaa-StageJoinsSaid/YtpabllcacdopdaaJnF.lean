/-
  StageJoins: the files and the lines.
-/
import Derived.Test.YtpabllcacdopdaaJnE
import Derived.Test.YtpabllcacdopdaaCodeLawJ
import Derived.Test.YtpabllcacdopdaaBook
import Derived.Test.YtpabllcacdopdaaBookI
namespace Go.Proofs.Ytpabllcacdopdaa.W
open Go.Abs
set_option linter.unusedSimpArgs false
set_option linter.unusedVariables false

/-- Rows in blocks of their own, a list of them in a box. -/
structure OwnL (m0 m : Mem) (ob : Nat) (a : Option Addr) (es : List HRow) (xss : List (List Int)) : Prop where
  box : cap1 m ob (.slice a es.length es.length)
  vec : Vec m0.size m 1 a es.length (es.map HRow.v)
  xs : es.map HRow.xs = xss
  row : ∀ e ∈ es, e.At m
  blk : ∀ e ∈ es, ∃ b, e.ad = some ⟨b, 0, none⟩ ∧ m0.size ≤ b ∧ b < m.size ∧ ∀ y, a = some y → b ≠ y.block
  size : m0.size ≤ m.size
  keep : ∀ i, i < m0.size → i ≠ ob → m.get i = m0.get i

/-- A row more. -/
theorem OwnL.more {m0 m mp m5 : Mem} {ob rb b5 : Nat} {s5 : Option Nat} {a : Option Addr} {es : List HRow} {xss : List (List Int)} (H : OwnL m0 m ob a es xss) (hob : ob < m0.size) (op : Old m mp) (hrb : m.size ≤ rb) {xs : List Int} (gr : mp.get rb = some (.cells false true (xs.map (.int .i64)))) (hfit : ∀ x ∈ xs, -9223372036854775808 ≤ x ∧ x < 9223372036854775808)
    (v5 : Vec m0.size m5 1 (some ⟨b5, 0, s5⟩) (es.length + 1) (es.map HRow.v ++ [.slice (some ⟨rb, 0, none⟩) xs.length xs.length])) (k5 : KeepA a mp m5) (hb5 : mp.size ≤ b5) :
    m5.get ob = some (.cells false true [.slice a es.length es.length]) ∧ OwnL m0 (m5.put ob (some (.cells false true [.slice (some ⟨b5, 0, s5⟩) (es.length + 1) (es.length + 1)]))) ob (some ⟨b5, 0, s5⟩) (es ++ [⟨some ⟨rb, 0, none⟩, xs.length, xs.length, xs⟩]) (xss ++ [xs]) := by
  have szp := op.size
  have s5' := k5.1
  have hsz := H.size
  have lr := getM_lt gr
  have l5 : b5 < m5.size := v5.lt rfl
  have hnea : ∀ i, i < m0.size → ∀ y, a = some y → i ≠ y.block := fun i hi y hy e => by have := (H.vec.blk y hy).1; omega
  have hbx : ∀ x, a = some x → x.block < m.size := fun x hx => H.vec.lt hx
  have g5 : m5.get ob = some (.cells false true [.slice a es.length es.length]) := by
    rw [k5.2 ob (by omega) (hnea ob hob), op.get (getM_lt H.box)]
    exact H.box
  have g6 : ∀ i, i ≠ ob → (m5.put ob (some (.cells false true [.slice (some ⟨b5, 0, s5⟩) (es.length + 1) (es.length + 1)]))).get i = m5.get i := fun i h => by rw [getM_put, if_neg (fun e => h e.1)]
  have g6' : ∀ i, i < m.size → i ≠ ob → (∀ x, a = some x → i ≠ x.block) → (m5.put ob (some (.cells false true [.slice (some ⟨b5, 0, s5⟩) (es.length + 1) (es.length + 1)]))).get i = m.get i := fun i h1 h2 h4 => by rw [g6 i h2, k5.2 i (by omega) h4, op.get h1]
  refine ⟨g5, ?_, ?_, ?_, ?_, ?_, ?_, ?_⟩
  · unfold cap1
    rw [getM_put, if_pos ⟨rfl, by omega⟩, List.length_append]
    rfl
  · rw [List.length_append, List.map_append]
    exact v5.keep fun x hx => by cases hx; exact g6 _ (by show b5 ≠ ob; omega)
  · rw [List.map_append, H.xs]
    rfl
  · intro e he
    rcases List.mem_append.1 he with he | he
    · obtain ⟨b, hb1, hb2, hb3, hb4'⟩ := H.blk e he
      exact (H.row e he).keep fun x hx hne' => by
        rw [hb1] at hx; cases hx
        exact g6' b hb3 (by omega) hb4'
    · rw [List.mem_singleton.1 he]
      refine ⟨.new (ro := false) (tg := true) ?_ (by simp) rfl, rfl, hfit⟩
      rw [g6 rb (by omega), k5.2 rb lr fun y hy e => by have := hbx y hy; omega]
      exact gr
  · intro e he
    rcases List.mem_append.1 he with he | he
    · obtain ⟨b, hb1, hb2, hb3, hb4'⟩ := H.blk e he
      exact ⟨b, hb1, hb2, by rw [size_put]; omega, fun y hy => by cases hy; show b ≠ b5; omega⟩
    · rw [List.mem_singleton.1 he]
      exact ⟨rb, rfl, by omega, by rw [size_put]; omega, fun y hy => by cases hy; show rb ≠ b5; omega⟩
  · rw [size_put]; omega
  · intro i hi h1
    rw [g6' i (by omega) h1 (hnea i hi), H.keep i hi h1]

/-! ### The files -/
def fAt (ys : List Int) : Nat → Int
  | 0 => 0
  | k + 1 => fAt ys k + (1 + ys.getD k 0 % (2 - 1 + 1))
theorem fAt_bd (ys : List Int) : ∀ k : Nat, 0 ≤ fAt ys k ∧ fAt ys k ≤ 2 * k
  | 0 => by simp [fAt]
  | k + 1 => by
    have := fAt_bd ys k
    unfold fAt
    omega
theorem fAt_lt (ys : List Int) {a b : Nat} (h : a < b) : fAt ys a < fAt ys b := by
  induction b with
  | zero => omega
  | succ b ih =>
    have e : fAt ys (b + 1) = fAt ys b + (1 + ys.getD b 0 % (2 - 1 + 1)) := rfl
    by_cases hab : a = b
    · subst hab; omega
    · have := ih (by omega); omega
def fileR (ys : List Int) (i : Nat) : List Int := [fAt ys (i + 1), 50 + fAt ys (i + 1), 100 * fAt ys (i + 1)]
def filesL (ys : List Int) (n : Nat) : List (List Int) := (List.range n).map (fileR ys)
theorem filesL_succ (ys : List Int) (n : Nat) : filesL ys (n + 1) = filesL ys n ++ [fileR ys n] := by unfold filesL; rw [List.range_succ, List.map_append]; rfl

set_option maxRecDepth 100000 in
set_option maxHeartbeats 8000000 in
theorem Jn_files {m0 : Mem} {t : Fr} {a1 : Option Addr} {l c0 fb : Nat} {ys : List Int} (hs : SlA m0 1 a1 l c0 (ys.map (.int .i64))) (hyb : ∀ x ∈ ys, -9223372036854775808 ≤ x ∧ x < 9223372036854775808) (hfb : cap1 m0 fb (.slice none 0 0)) (hob3 : ∀ b, a1 = some b → ys ≠ [] → b.block ≠ fb)
    (t1 : t 1 = .slice a1 l c0) (t8 : t 8 = ptr fb) (t10 : t 10 = vI 0) (t11 : t 11 = .int .i64 0) {K : Post3}
    (hK : ∀ t' m' a es, Agree (writes c_sheaflaw17_StageJoins_9) t t' → OwnL m0 m' fb a es (filesL ys (min l 8)) → K .normal t' m') :
    wpM E F_sheaflaw17_StageJoins 221 none c_sheaflaw17_StageJoins_9 K t m0 := by
  refine wpM_cut (fun t' m' => ∃ a es, OwnL m0 m' fb a es (filesL ys (min l 8))) ?_ fun t' m' ha ⟨a, es, h1⟩ => hK t' m' a es ha h1
  have hl : ys.length = l := by have := hs.len; simpa using this
  simp only [c_sheaflaw17_StageJoins_9_at, wpM_block, c_sheaflaw17_StageJoins_8_at]
  refine wpM_loopA (fun j t' m' => ∃ k a es, k ≤ min l 8 ∧ j = min l 8 - k ∧ t' 11 = .int .i64 (k : Nat) ∧ t' 10 = vI (fAt ys k) ∧ OwnL m0 m' fb a es (filesL ys k)) (min l 8)
    ⟨0, none, [], by omega, rfl, t11, t10, ⟨hfb, .nil _ _ _, rfl, fun e h => by simp at h, fun e h => by simp at h, Nat.le_refl _, fun _ _ _ => rfl⟩⟩ ?_
  rintro j t' m' ha ⟨k, a, es, hk, rfl, e11, e10, H⟩
  have e1 := (ha 1 (by decide +kernel)).trans t1
  have e8 := (ha 8 (by decide +kernel)).trans t8
  have lfb := getM_lt hfb
  have hsz := H.size
  by_cases hlt : k < min l 8
  · have d1 : decide ((k : Int) < (l : Int)) = true := by simp; omega
    have d2 : decide ((k : Int) < 8) = true := by simp; omega
    have w1 : IntKind.wrap .i64 ((k : Int) + 1) = ((k + 1 : Nat) : Int) := by rw [wrap_i64_id _ (by omega) (by omega)]; omega
    have z0 : (0 : Int) ≤ (k : Int) := by omega
    have z1 : (k : Int) < (l : Int) := by omega
    have hS : SlA m' 1 a1 l c0 (ys.map (.int .i64)) := hs.keep fun b hb hne' => H.keep _ ((hs.rows b hb hne').lt) (hob3 b hb (by simpa using hne'))
    obtain ⟨ab, ao, asp, rfl⟩ := hS.addr (by omega)
    have r0 : m'.at ab (ao + k) = some (.int .i64 (ys.getD k 0)) := by
      have := hS.at_map (show k < l by omega)
      rw [this]
      simp [List.getD_eq_getElem?_getD, List.getElem?_eq_getElem (show k < ys.length by omega)]
    have hxk : -9223372036854775808 ≤ ys.getD k 0 ∧ ys.getD k 0 < 9223372036854775808 := by
      rw [List.getD_eq_getElem?_getD, List.getElem?_eq_getElem (show k < ys.length by omega)]
      exact hyb _ (List.getElem_mem _)
    have hel : es.length = k := by
      have := congrArg List.length H.xs
      simpa [filesL] using this
    have hat := fAt_bd ys k
    have hat1 := fAt_bd ys (k + 1)
    have eat : fAt ys (k + 1) = fAt ys k + (1 + ys.getD k 0 % (2 - 1 + 1)) := rfl
    simp (decide := true) (implicitDefEqProofs := false) (maxDischargeDepth := 20) only [go_sem, ↓reduceIte, e1, e8, e10, e11, d1, d2, r0, z0, z1, Int.toNat_natCast, true_implies, false_implies]
    refine ((Within_ans (ys.getD k 0) 1 2 hxk.1 hxk.2 (by omega) (by omega) (by omega) (by omega)) m').mono ?_
    rintro w m2 ⟨rfl, o2⟩
    have w2 : IntKind.wrap .i64 (fAt ys k + (1 + ys.getD k 0 % (2 - 1 + 1))) = fAt ys (k + 1) := by rw [← eat]; exact wrap_i64_id _ (by omega) (by omega)
    have w3 : IntKind.wrap .i64 (50 + fAt ys (k + 1)) = 50 + fAt ys (k + 1) := wrap_i64_id _ (by omega) (by omega)
    have w4 : IntKind.wrap .i64 (100 * fAt ys (k + 1)) = 100 * fAt ys (k + 1) := wrap_i64_id _ (by omega) (by omega)
    have gl2 : m2.get fb = _ := (o2.get (getM_lt H.box)).trans H.box
    have rl2 := get_at0 gl2
    have z2 := o2.size
    have nl : ¬ fb = m2.size := by have := getM_lt gl2; omega
    simp (decide := true) (implicitDefEqProofs := false) (maxDischargeDepth := 20) only [go_sem, ↓reduceIte, e1, e8, e10, e11, w2, w3, w4, rl2, gl2, nl, true_implies, false_implies]
    obtain ⟨rb, hrb⟩ : ∃ b, b = m2.size := ⟨_, rfl⟩
    obtain ⟨mp, hmp⟩ : ∃ mp, mp = m2.push (.cells false true [.int .i64 (fAt ys (k + 1)), .int .i64 (50 + fAt ys (k + 1)), .int .i64 (100 * fAt ys (k + 1))]) := ⟨_, rfl⟩
    have sp : mp.size = m2.size + 1 := by rw [hmp, size_push]
    have op : Old m' mp := by rw [hmp]; exact o2.push _
    have gr : mp.get rb = some (.cells false true ((fileR ys k).map (.int .i64))) := by rw [hmp, hrb, getM_push, if_pos rfl]; rfl
    rw [← hrb, ← hmp]
    refine (H.vec.old op).appendQ (by omega) (by omega) rfl (by decide) (by decide +kernel) (by decide +kernel) rfl (by omega) fun m5 b5 s5 v5 k5 hb5 => ?_
    have hfit : ∀ x ∈ fileR ys k, -9223372036854775808 ≤ x ∧ x < 9223372036854775808 := fun x hx => by
      simp only [fileR, List.mem_cons, List.not_mem_nil, or_false] at hx
      rcases hx with rfl | rfl | rfl <;> omega
    obtain ⟨gl5, H'⟩ := H.more lfb op (by omega) gr hfit v5 k5 hb5
    simp (decide := true) (implicitDefEqProofs := false) (maxDischargeDepth := 20) only [go_sem, ↓reduceIte, e1, e8, e10, e11, w1, gl5, true_implies, false_implies]
    exact ⟨min l 8 - (k + 1), by omega, k + 1, _, _, by omega, rfl, rfl, rfl, by rw [filesL_succ]; exact H'⟩
  · have hkk : k = min l 8 := by omega
    subst hkk
    by_cases h12 : min l 8 < l
    · have d1 : decide (((min l 8 : Nat) : Int) < (l : Int)) = true := by simp; omega
      have d2 : decide (((min l 8 : Nat) : Int) < 8) = false := by simp; omega
      simp (decide := true) (implicitDefEqProofs := false) (maxDischargeDepth := 20) only [go_sem, ↓reduceIte, e1, e8, e10, e11, d1, d2, true_implies, false_implies]
      exact ⟨a, es, H⟩
    · have d1 : decide (((min l 8 : Nat) : Int) < (l : Int)) = false := by simp; omega
      simp (decide := true) (implicitDefEqProofs := false) (maxDischargeDepth := 20) only [go_sem, ↓reduceIte, e1, e8, e10, e11, d1, true_implies, false_implies]
      exact ⟨a, es, H⟩

/-! ### The lines -/
def lineRw (xs : List Int) (col : Nat) (i : Nat) : List Int := ([((i + 1 : Nat) : Int), 99, 1, 10, 5, 0] : List Int).set col (0 + xs.getD i 0 % (12 - 0 + 1))
def linesL (xs : List Int) (col : Nat) (n : Nat) : List (List Int) := (List.range n).map (lineRw xs col)
theorem linesL_succ (xs : List Int) (col : Nat) (n : Nat) : linesL xs col (n + 1) = linesL xs col n ++ [lineRw xs col n] := by unfold linesL; rw [List.range_succ, List.map_append]; rfl

set_option maxRecDepth 100000 in
set_option maxHeartbeats 8000000 in
theorem Jn_lines {m0 : Mem} {t : Fr} {a0 : Option Addr} {l c0 lb vb col : Nat} {xs : List Int} (hs : SlA m0 1 a0 l c0 (xs.map (.int .i64))) (hxb : ∀ x ∈ xs, -9223372036854775808 ≤ x ∧ x < 9223372036854775808) (hlb : cap1 m0 lb (.slice none 0 0)) (hob3 : ∀ b, a0 = some b → xs ≠ [] → b.block ≠ lb) (hvb : cap1 m0 vb (vI (col : Nat))) (hcol : col = 1 ∨ col = 5) (hne : vb ≠ lb)
    (t0 : t 0 = .slice a0 l c0) (t7 : t 7 = ptr vb) (t9 : t 9 = ptr lb) (t12 : t 12 = .int .i64 0) {K : Post3}
    (hK : ∀ t' m' a es, Agree (writes c_sheaflaw17_StageJoins_19) t t' → OwnL m0 m' lb a es (linesL xs col (min l 15)) → K .normal t' m') :
    wpM E F_sheaflaw17_StageJoins 221 none c_sheaflaw17_StageJoins_19 K t m0 := by
  refine wpM_cut (fun t' m' => ∃ a es, OwnL m0 m' lb a es (linesL xs col (min l 15))) ?_ fun t' m' ha ⟨a, es, h1⟩ => hK t' m' a es ha h1
  have hl : xs.length = l := by have := hs.len; simpa using this
  simp only [c_sheaflaw17_StageJoins_19_at, wpM_block, c_sheaflaw17_StageJoins_18_at]
  refine wpM_loopA (fun j t' m' => ∃ k a es, k ≤ min l 15 ∧ j = min l 15 - k ∧ t' 12 = .int .i64 (k : Nat) ∧ OwnL m0 m' lb a es (linesL xs col k)) (min l 15)
    ⟨0, none, [], by omega, rfl, t12, ⟨hlb, .nil _ _ _, rfl, fun e h => by simp at h, fun e h => by simp at h, Nat.le_refl _, fun _ _ _ => rfl⟩⟩ ?_
  rintro j t' m' ha ⟨k, a, es, hk, rfl, e12, H⟩
  have e0 := (ha 0 (by decide +kernel)).trans t0
  have e7 := (ha 7 (by decide +kernel)).trans t7
  have e9 := (ha 9 (by decide +kernel)).trans t9
  have llb := getM_lt hlb
  have lvb := getM_lt hvb
  have hsz := H.size
  by_cases hlt : k < min l 15
  · have d1 : decide ((k : Int) < (l : Int)) = true := by simp; omega
    have d2 : decide ((k : Int) < 15) = true := by simp; omega
    have w1 : IntKind.wrap .i64 ((k : Int) + 1) = ((k + 1 : Nat) : Int) := by rw [wrap_i64_id _ (by omega) (by omega)]; omega
    have z0 : (0 : Int) ≤ (k : Int) := by omega
    have z1 : (k : Int) < (l : Int) := by omega
    have hS : SlA m' 1 a0 l c0 (xs.map (.int .i64)) := hs.keep fun b hb hne' => H.keep _ ((hs.rows b hb hne').lt) (hob3 b hb (by simpa using hne'))
    have nab : ∀ b, a0 = some b → b.block < m'.size := fun b hb => by
      have := (hS.rows b hb (by intro e; have := hS.len; rw [e] at this; simp at this; omega)).lt
      exact this
    obtain ⟨ab, ao, asp, rfl⟩ := hS.addr (by omega)
    have nab' := nab _ rfl
    simp only at nab'
    have nabm : ¬ ab = m'.size := by omega
    have r0 : m'.at ab (ao + k) = some (.int .i64 (xs.getD k 0)) := by
      have := hS.at_map (show k < l by omega)
      rw [this]
      simp [List.getD_eq_getElem?_getD, List.getElem?_eq_getElem (show k < xs.length by omega)]
    have hxk : -9223372036854775808 ≤ xs.getD k 0 ∧ xs.getD k 0 < 9223372036854775808 := by
      rw [List.getD_eq_getElem?_getD, List.getElem?_eq_getElem (show k < xs.length by omega)]
      exact hxb _ (List.getElem_mem _)
    have hel : es.length = k := by
      have := congrArg List.length H.xs
      simpa [linesL] using this
    have gv : m'.get vb = some (.cells false true [vI (col : Nat)]) := (H.keep vb lvb hne).trans hvb
    have rv := get_at0 gv
    have nvm : ¬ vb = m'.size := by have := getM_lt gv; omega
    simp (decide := true) (implicitDefEqProofs := false) (maxDischargeDepth := 20) only [go_sem, ↓reduceIte, e0, e7, e9, e12, d1, d2, w1, r0, rv, nvm, nabm, z0, z1, Int.toNat_natCast, true_implies, false_implies]
    obtain ⟨rb, hrb⟩ : ∃ b, b = m'.size := ⟨_, rfl⟩
    obtain ⟨mp, hmp⟩ : ∃ mp, mp = m'.push (.cells false true [.int .i64 ((k + 1 : Nat) : Int), .int .i64 99, .int .i64 1, .int .i64 10, .int .i64 5, .int .i64 0]) := ⟨_, rfl⟩
    have op : Old m' mp := by rw [hmp]; exact .push (.refl m') _
    have sp : mp.size = m'.size + 1 := by rw [hmp, size_push]
    have grp : mp.get rb = some (.cells false true [.int .i64 ((k + 1 : Nat) : Int), .int .i64 99, .int .i64 1, .int .i64 10, .int .i64 5, .int .i64 0]) := by rw [hmp, hrb, getM_push, if_pos rfl]
    rw [← hrb, ← hmp]
    refine ((Within_ans (xs.getD k 0) 0 12 hxk.1 hxk.2 (by omega) (by omega) (by omega) (by omega)) (mp.gm [vb])).mono ?_
    rintro w m3 ⟨rfl, o3⟩
    obtain ⟨el, rfl, -⟩ := o3.ugm
    have o3 : Old mp (mp.ext el) := ⟨el, rfl⟩
    have hvr := Int.emod_nonneg (xs.getD k 0) (show (12 - 0 + 1 : Int) ≠ 0 by decide)
    have hvr2 := Int.emod_lt_of_pos (xs.getD k 0) (show (0 : Int) < 12 - 0 + 1 by decide)
    obtain ⟨V, hV⟩ : ∃ V, V = 0 + xs.getD k 0 % (12 - 0 + 1) := ⟨_, rfl⟩
    have eln : lineRw xs col k = ([((k + 1 : Nat) : Int), 99, 1, 10, 5, 0] : List Int).set col V := by unfold lineRw; rw [hV]
    rw [← hV]
    have gr3 := (o3.get (getM_lt grp)).trans grp
    have lr3 := getM_lt gr3
    have gl3 : (mp.ext el).get lb = some (.cells false true [.slice a es.length es.length]) := ((op.trans o3).get (getM_lt H.box)).trans H.box
    have nlr : ¬ lb = rb := by omega
    have o3' := op.trans o3
    have hfit : ∀ x ∈ lineRw xs col k, -9223372036854775808 ≤ x ∧ x < 9223372036854775808 := fun x hx => by
      rw [eln] at hx
      rcases hcol with rfl | rfl
      · simp only [List.set_cons_succ, List.set_cons_zero, List.mem_cons, List.not_mem_nil, or_false] at hx
        omega
      · simp only [List.set_cons_succ, List.set_cons_zero, List.mem_cons, List.not_mem_nil, or_false] at hx
        omega
    have fin : ∀ (m4 : Mem), m4 = (mp.ext el).put rb (some (.cells false true ((lineRw xs col k).map (.int .i64)))) → Old m' m4 ∧ m4.get rb = some (.cells false true ((lineRw xs col k).map (.int .i64))) ∧ m4.get lb = some (.cells false true [.slice a es.length es.length]) ∧ m4.size = (mp.ext el).size := fun m4 e => by
      have u : ∀ i, i ≠ rb → m4.get i = (mp.ext el).get i := fun i h => by rw [e, getM_put, if_neg (fun e => h e.1)]
      refine ⟨.of_get (by rw [e, size_put]; exact o3'.size) fun i hi => by rw [u i (by omega), o3'.get hi], by rw [e, getM_put, if_pos ⟨rfl, lr3⟩], (u lb nlr).trans gl3, by rw [e, size_put]⟩
    obtain ⟨m3, hm3⟩ : ∃ m3, m3 = mp.ext el := ⟨_, rfl⟩
    rw [← hm3] at gr3 lr3 gl3 o3 o3' fin
    obtain ⟨m4, hm4⟩ : ∃ m4, m4 = m3.put rb (some (.cells false true ((lineRw xs col k).map (.int .i64)))) := ⟨_, rfl⟩
    obtain ⟨o4, gr4, gl4, s4⟩ := fin m4 hm4
    have rl4 := get_at0 gl4
    have zz3 := o3'.size
    rw [eln] at hm4
    have el6 : (lineRw xs col k).length = 6 := by rw [eln, List.length_set]; rfl
    rcases hcol with rfl | rfl
    · skip
      simp only [List.set_cons_succ, List.set_cons_zero, List.map_cons, List.map_nil] at hm4
      simp (decide := true) (implicitDefEqProofs := false) (maxDischargeDepth := 20) only [go_sem, ↓reduceIte, e9, e12, ← hm3, gr3, lr3, Int.toNat_natCast, List.set_cons_succ, List.set_cons_zero, ← hm4, rl4, true_implies, false_implies]
      refine (H.vec.old o4).appendQ rfl (by omega) rfl (by decide) (by decide +kernel) (by decide +kernel) rfl (by omega) fun m5 b5 s5 v5 k5 hb5 => ?_
      obtain ⟨gl5, H'⟩ := H.more (mp := m4) (rb := rb) llb o4 (by omega) gr4 hfit (by rw [el6]; exact v5) k5 hb5
      simp (decide := true) (implicitDefEqProofs := false) (maxDischargeDepth := 20) only [go_sem, e9, e12, w1, gl5, ↓reduceIte, true_implies, false_implies]
      exact ⟨min l 15 - (k + 1), by omega, k + 1, _, _, by omega, rfl, rfl, by rw [linesL_succ]; exact H'⟩
    · skip
      simp only [List.set_cons_succ, List.set_cons_zero, List.map_cons, List.map_nil] at hm4
      simp (decide := true) (implicitDefEqProofs := false) (maxDischargeDepth := 20) only [go_sem, ↓reduceIte, e9, e12, ← hm3, gr3, lr3, Int.toNat_natCast, List.set_cons_succ, List.set_cons_zero, ← hm4, rl4, true_implies, false_implies]
      refine (H.vec.old o4).appendQ rfl (by omega) rfl (by decide) (by decide +kernel) (by decide +kernel) rfl (by omega) fun m5 b5 s5 v5 k5 hb5 => ?_
      obtain ⟨gl5, H'⟩ := H.more (mp := m4) (rb := rb) llb o4 (by omega) gr4 hfit (by rw [el6]; exact v5) k5 hb5
      simp (decide := true) (implicitDefEqProofs := false) (maxDischargeDepth := 20) only [go_sem, e9, e12, w1, gl5, ↓reduceIte, true_implies, false_implies]
      exact ⟨min l 15 - (k + 1), by omega, k + 1, _, _, by omega, rfl, rfl, by rw [linesL_succ]; exact H'⟩
  · have hkk : k = min l 15 := by omega
    subst hkk
    by_cases h12 : min l 15 < l
    · have d1 : decide (((min l 15 : Nat) : Int) < (l : Int)) = true := by simp; omega
      have d2 : decide (((min l 15 : Nat) : Int) < 15) = false := by simp; omega
      simp (decide := true) (implicitDefEqProofs := false) (maxDischargeDepth := 20) only [go_sem, ↓reduceIte, e0, e7, e9, e12, d1, d2, true_implies, false_implies]
      exact ⟨a, es, H⟩
    · have d1 : decide (((min l 15 : Nat) : Int) < (l : Int)) = false := by simp; omega
      simp (decide := true) (implicitDefEqProofs := false) (maxDischargeDepth := 20) only [go_sem, ↓reduceIte, e0, e7, e9, e12, d1, true_implies, false_implies]
      exact ⟨a, es, H⟩
end Go.Proofs.Ytpabllcacdopdaa.W
