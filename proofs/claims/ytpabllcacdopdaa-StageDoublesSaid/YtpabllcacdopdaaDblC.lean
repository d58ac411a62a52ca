/-
  StageDoubles: the rows, and how often each number is there.
-/
import Derived.Test.YtpabllcacdopdaaDblB
import Derived.Test.YtpabllcacdopdaaBook
import Derived.Test.YtpabllcacdopdaaBookI
namespace Go.Proofs.Ytpabllcacdopdaa.W
open Go.Abs
set_option linter.unusedSimpArgs false
set_option linter.unusedVariables false

def atD (xs : List Int) : Nat → Int
  | 0 => 0
  | k + 1 => atD xs k + (0 + xs.getD k 0 % (2 - 0 + 1))
theorem atD_bd (xs : List Int) : ∀ k : Nat, 0 ≤ atD xs k ∧ atD xs k ≤ 2 * k
  | 0 => by simp [atD]
  | k + 1 => by
    have := atD_bd xs k
    unfold atD
    omega
def rowD (xs : List Int) (i : Nat) : List Int := [atD xs (i + 1) + 1, (i : Int)]
def rowsD (xs : List Int) (n : Nat) : List (List Int) := (List.range n).map (rowD xs)
theorem rowsD_succ (xs : List Int) (n : Nat) : rowsD xs (n + 1) = rowsD xs n ++ [rowD xs n] := by unfold rowsD; rw [List.range_succ, List.map_append]; rfl
def cntD (xs : List Int) : Nat → Int → Nat
  | 0, _ => 0
  | k + 1, x => cntD xs k x + if x = atD xs (k + 1) + 1 then 1 else 0
theorem cntD_le (xs : List Int) : ∀ (k : Nat) (x : Int), cntD xs k x ≤ k
  | 0, _ => Nat.le_refl _
  | k + 1, x => by
    have := cntD_le xs k x
    unfold cntD
    split <;> omega
def fD (xs : List Int) (k : Nat) (x : Int) : Option Value := if cntD xs k x = 0 then none else some (vI (cntD xs k x : Nat))
theorem fD_getD (xs : List Int) (k : Nat) (x : Int) : (fD xs k x).getD (vI 0) = vI (cntD xs k x : Nat) := by
  unfold fD
  split
  · rename_i h; rw [h]; rfl
  · rfl
theorem fD_upd (xs : List Int) (k : Nat) (x : Int) : updM (fD xs k) (atD xs (k + 1) + 1) (vI ((cntD xs k (atD xs (k + 1) + 1) + 1 : Nat) : Int)) x = fD xs (k + 1) x := by
  unfold updM fD
  rw [show cntD xs (k + 1) x = cntD xs k x + if x = atD xs (k + 1) + 1 then 1 else 0 from rfl]
  by_cases h : x = atD xs (k + 1) + 1
  · subst h
    rw [if_pos rfl, if_pos rfl, if_neg (by omega)]
  · rw [if_neg h, if_neg h, Nat.add_zero]

theorem imap37 : IsIMap E 37 (vI 0) := ⟨_, _, map37, rfl⟩

/-- The rows so far, and the map. -/
structure DblL (m0 m : Mem) (lb qb : Nat) (a : Option Addr) (es : List HRow) (xss : List (List Int)) (f : Int → Option Value) : Prop where
  box : cap1 m lb (.slice a es.length es.length)
  vec : Vec m0.size m 1 a es.length (es.map HRow.v)
  xs : es.map HRow.xs = xss
  row : ∀ e ∈ es, e.At m
  blk : ∀ e ∈ es, ∃ b, e.ad = some ⟨b, 0, none⟩ ∧ m0.size ≤ b ∧ b < m.size ∧ ∀ y, a = some y → b ≠ y.block
  map_ : IMap m qb f
  size : m0.size ≤ m.size
  keep : ∀ i, i < m0.size → i ≠ lb → i ≠ qb → m.get i = m0.get i

set_option maxRecDepth 100000 in
set_option maxHeartbeats 8000000 in
theorem Dbl_own {m0 : Mem} {t : Fr} {a0 : Option Addr} {l c0 lb mb qb : Nat} {xs : List Int} (hs : SlA m0 1 a0 l c0 (xs.map (.int .i64))) (hxb : ∀ x ∈ xs, -9223372036854775808 ≤ x ∧ x < 9223372036854775808) (hlb : cap1 m0 lb (.slice none 0 0)) (hmb : cap1 m0 mb (.map (some qb))) (hqb : IMap m0 qb fun _ => none) (hne : lb ≠ mb ∧ qb ≠ mb ∧ lb ≠ qb)
    (hob3 : ∀ b, a0 = some b → xs ≠ [] → b.block ≠ lb ∧ b.block ≠ qb)
    (t0 : t 0 = .slice a0 l c0) (t5 : t 5 = ptr lb) (t6 : t 6 = ptr mb) (t7 : t 7 = vI 0) (t8 : t 8 = .int .i64 0) {K : Post3}
    (hK : ∀ t' m' a es, Agree (writes c_sheaflaw17_StageDoubles_8) t t' → DblL m0 m' lb qb a es (rowsD xs (min l 25)) (fD xs (min l 25)) → K .normal t' m') :
    wpM E F_sheaflaw17_StageDoubles 109 none c_sheaflaw17_StageDoubles_8 K t m0 := by
  refine wpM_cut (fun t' m' => ∃ a es, DblL m0 m' lb qb a es (rowsD xs (min l 25)) (fD xs (min l 25))) ?_ fun t' m' ha ⟨a, es, h1⟩ => hK t' m' a es ha h1
  have hl : xs.length = l := by have := hs.len; simpa using this
  simp only [c_sheaflaw17_StageDoubles_8_at, wpM_block, c_sheaflaw17_StageDoubles_7_at]
  refine wpM_loopA (fun j t' m' => ∃ k a es, k ≤ min l 25 ∧ j = min l 25 - k ∧ t' 8 = .int .i64 (k : Nat) ∧ t' 7 = vI (atD xs k) ∧ DblL m0 m' lb qb a es (rowsD xs k) (fD xs k)) (min l 25)
    ⟨0, none, [], by omega, rfl, t8, t7, ⟨hlb, .nil _ _ _, rfl, fun e h => by simp at h, fun e h => by simp at h, hqb, Nat.le_refl _, fun _ _ _ _ => rfl⟩⟩ ?_
  rintro j t' m' ha ⟨k, a, es, hk, rfl, e8, e7, H⟩
  have e0 := (ha 0 (by decide +kernel)).trans t0
  have e5 := (ha 5 (by decide +kernel)).trans t5
  have e6 := (ha 6 (by decide +kernel)).trans t6
  have llb := getM_lt hlb
  have lmb := getM_lt hmb
  have lqb := hqb.blk
  have hsz := H.size
  by_cases hlt : k < min l 25
  · have d1 : decide ((k : Int) < (l : Int)) = true := by simp; omega
    have d2 : decide ((k : Int) < 25) = true := by simp; omega
    have w1 : IntKind.wrap .i64 ((k : Int) + 1) = ((k + 1 : Nat) : Int) := by rw [wrap_i64_id _ (by omega) (by omega)]; omega
    have z0 : (0 : Int) ≤ (k : Int) := by omega
    have z1 : (k : Int) < (l : Int) := by omega
    have hS : SlA m' 1 a0 l c0 (xs.map (.int .i64)) := hs.keep fun b hb hne' => H.keep _ ((hs.rows b hb hne').lt) (hob3 b hb (by simpa using hne')).1 (hob3 b hb (by simpa using hne')).2
    obtain ⟨ab, ao, asp, rfl⟩ := hS.addr (by omega)
    have r0 : m'.at ab (ao + k) = some (.int .i64 (xs.getD k 0)) := by
      have := hS.at_map (show k < l by omega)
      rw [this]
      simp [List.getD_eq_getElem?_getD, List.getElem?_eq_getElem (show k < xs.length by omega)]
    have hxk : -9223372036854775808 ≤ xs.getD k 0 ∧ xs.getD k 0 < 9223372036854775808 := by
      rw [List.getD_eq_getElem?_getD, List.getElem?_eq_getElem (show k < xs.length by omega)]
      exact hxb _ (List.getElem_mem _)
    have hel : es.length = k := by
      have := congrArg List.length H.xs
      simp [rowsD] at this
      omega
    have hat := atD_bd xs k
    have hat1 := atD_bd xs (k + 1)
    have eat : atD xs (k + 1) = atD xs k + (0 + xs.getD k 0 % (2 - 0 + 1)) := rfl
    simp (decide := true) (implicitDefEqProofs := false) (maxDischargeDepth := 20) only [go_sem, ↓reduceIte, e0, e5, e6, e7, e8, d1, d2, r0, z0, z1, Int.toNat_natCast, true_implies, false_implies]
    refine ((Within_ans (xs.getD k 0) 0 2 hxk.1 hxk.2 (by omega) (by omega) (by omega) (by omega)) m').mono ?_
    rintro w m2 ⟨rfl, o2⟩
    have w2 : IntKind.wrap .i64 (atD xs k + (0 + xs.getD k 0 % (2 - 0 + 1))) = atD xs (k + 1) := by rw [← eat]; exact wrap_i64_id _ (by omega) (by omega)
    have w3 : IntKind.wrap .i64 (atD xs (k + 1) + 1) = atD xs (k + 1) + 1 := wrap_i64_id _ (by omega) (by omega)
    have gl2 : m2.get lb = _ := (o2.get (getM_lt H.box)).trans H.box
    have rl2 := get_at0 gl2
    have z2 := o2.size
    have nl : ¬ lb = m2.size := by have := getM_lt gl2; omega
    simp (decide := true) (implicitDefEqProofs := false) (maxDischargeDepth := 20) only [go_sem, ↓reduceIte, e0, e5, e6, e7, e8, w2, w3, rl2, gl2, nl, true_implies, false_implies]
    obtain ⟨rb, hrb⟩ : ∃ b, b = m2.size := ⟨_, rfl⟩
    obtain ⟨mp, hmp⟩ : ∃ mp, mp = m2.push (.cells false true [.int .i64 (atD xs (k + 1) + 1), .int .i64 (k : Nat)]) := ⟨_, rfl⟩
    have sp : mp.size = m2.size + 1 := by rw [hmp, size_push]
    have op : Old m' mp := by rw [hmp]; exact o2.push _
    have gr : mp.get rb = some (.cells false true ((rowD xs k).map (.int .i64))) := by rw [hmp, hrb, getM_push, if_pos rfl]; rfl
    rw [← hrb, ← hmp]
    have Vp := H.vec.old op
    have szp := op.size
    refine Vp.appendQ (by omega) (by omega) rfl (by decide) (by decide +kernel) (by decide +kernel) rfl (by omega) fun m5 b5 s5 v5 k5 hb5 => ?_
    have s5' := k5.1
    have hnea : ∀ i, i < m0.size → ∀ y, a = some y → i ≠ y.block := fun i hi y hy e => by have := (H.vec.blk y hy).1; omega
    have gl5 : m5.get lb = some (.cells false true [.slice a es.length es.length]) := by
      rw [k5.2 lb (by omega) (hnea lb llb), op.get (getM_lt H.box)]
      exact H.box
    have gm0 : m'.get mb = some (.cells false true [.map (some qb)]) := (H.keep mb lmb hne.1.symm hne.2.1.symm).trans hmb
    have gm5 : m5.get mb = some (.cells false true [.map (some qb)]) := by
      rw [k5.2 mb (by omega) (hnea mb lmb), op.get (getM_lt gm0)]
      exact gm0
    have Q5 : IMap m5 qb (fD xs k) := H.map_.keep (by rw [k5.2 qb (by omega) (hnea qb lqb), op.get H.map_.blk])
    obtain ⟨m6, hm6⟩ : ∃ m6, m6 = m5.put lb (some (.cells false true [.slice (some ⟨b5, 0, s5⟩) (es.length + 1) (es.length + 1)])) := ⟨_, rfl⟩
    have g6 : ∀ i, i ≠ lb → m6.get i = m5.get i := fun i h => by rw [hm6, getM_put, if_neg (fun e => h e.1)]
    have s6 : m6.size = m5.size := by rw [hm6, size_put]
    have gm6 := (g6 mb hne.1.symm).trans gm5
    have rm6 := get_at0 gm6
    have Q6 : IMap m6 qb (fD xs k) := Q5.keep (g6 qb hne.2.2.symm)
    have look := Q6.look imap37 (atD xs (k + 1) + 1)
    rw [fD_getD] at look
    have hcl := cntD_le xs k (atD xs (k + 1) + 1)
    have w4 : IntKind.wrap .i64 (((cntD xs k (atD xs (k + 1) + 1) : Nat) : Int) + 1) = ((cntD xs k (atD xs (k + 1) + 1) + 1 : Nat) : Int) := by rw [wrap_i64_id _ (by omega) (by omega)]; omega
    obtain ⟨m7, hu, Q7, s7, g7⟩ := Q6.upd imap37 (atD xs (k + 1) + 1) (vI ((cntD xs k (atD xs (k + 1) + 1) + 1 : Nat) : Int))
    simp (decide := true) (implicitDefEqProofs := false) (maxDischargeDepth := 20) only [go_sem, ↓reduceIte, e0, e5, e6, e7, e8, w1, w2, w3, gl5, ← hm6, rm6, gm6, look, w4, hu, Option.map_some, true_implies, false_implies]
    have hbx : ∀ x, a = some x → x.block < m'.size := fun x hx => H.vec.lt hx
    have l5 : b5 < m5.size := v5.lt rfl
    have g75 : ∀ i, i ≠ lb → i ≠ qb → m7.get i = m5.get i := fun i h1 h2 => (g7 i h2).trans (g6 i h1)
    have g7' : ∀ i, i < m'.size → i ≠ lb → i ≠ qb → (∀ x, a = some x → i ≠ x.block) → m7.get i = m'.get i := fun i h1 h2 h3 h4 => by rw [g75 i h2 h3, k5.2 i (by omega) h4, op.get h1]
    refine ⟨min l 25 - (k + 1), by omega, k + 1, some ⟨b5, 0, s5⟩, es ++ [⟨some ⟨rb, 0, none⟩, 2, 2, rowD xs k⟩], by omega, rfl, rfl, rfl, ?_, ?_, ?_, ?_, ?_, Q7.ext (fD_upd xs k), ?_, ?_⟩
    · unfold cap1
      rw [g7 lb hne.2.2, hm6, getM_put, if_pos ⟨rfl, by omega⟩, List.length_append]
      rfl
    · rw [List.length_append, List.map_append]
      exact v5.keep fun x hx => by cases hx; exact g75 _ (by show b5 ≠ lb; omega) (by show b5 ≠ qb; omega)
    · rw [List.map_append, H.xs, rowsD_succ]
      rfl
    · intro e he
      rcases List.mem_append.1 he with he | he
      · obtain ⟨b, hb1, hb2, hb3, hb4'⟩ := H.blk e he
        exact (H.row e he).keep fun x hx hne' => by
          rw [hb1] at hx; cases hx
          exact g7' b hb3 (by omega) (by omega) hb4'
      · rw [List.mem_singleton.1 he]
        refine ⟨.new (ro := false) (tg := true) ?_ (by simp [rowD]) rfl, rfl, fun x hx => ?_⟩
        · rw [g75 rb (by omega) (by omega), k5.2 rb (getM_lt gr) fun y hy e => by have := hbx y hy; omega]
          exact gr
        · simp only [rowD, List.mem_cons, List.not_mem_nil, or_false] at hx
          rcases hx with rfl | rfl <;> omega
    · intro e he
      rcases List.mem_append.1 he with he | he
      · obtain ⟨b, hb1, hb2, hb3, hb4'⟩ := H.blk e he
        exact ⟨b, hb1, hb2, by omega, fun y hy => by cases hy; show b ≠ b5; omega⟩
      · rw [List.mem_singleton.1 he]
        exact ⟨rb, rfl, by omega, by have := getM_lt gr; omega, fun y hy => by cases hy; show rb ≠ b5; omega⟩
    · omega
    · intro i hi h1 h2
      rw [g7' i (by omega) h1 h2 (hnea i hi), H.keep i hi h1 h2]
  · have hkk : k = min l 25 := by omega
    subst hkk
    by_cases h12 : min l 25 < l
    · have d1 : decide (((min l 25 : Nat) : Int) < (l : Int)) = true := by simp; omega
      have d2 : decide (((min l 25 : Nat) : Int) < 25) = false := by simp; omega
      simp (decide := true) (implicitDefEqProofs := false) (maxDischargeDepth := 20) only [go_sem, ↓reduceIte, e0, e5, e6, e7, e8, d1, d2, true_implies, false_implies]
      exact ⟨a, es, H⟩
    · have d1 : decide (((min l 25 : Nat) : Int) < (l : Int)) = false := by simp; omega
      simp (decide := true) (implicitDefEqProofs := false) (maxDischargeDepth := 20) only [go_sem, ↓reduceIte, e0, e5, e6, e7, e8, d1, true_implies, false_implies]
      exact ⟨a, es, H⟩
end Go.Proofs.Ytpabllcacdopdaa.W
