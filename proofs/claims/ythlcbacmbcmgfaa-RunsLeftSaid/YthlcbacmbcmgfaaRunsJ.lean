/-
  RunsLeft.
-/
import Derived.Test.YthlcbacmbcmgfaaRunsI
namespace Go.Proofs.Ythlcbacmbcmgfaa.W
open Go.Abs
set_option linter.unusedSimpArgs false
set_option linter.unusedVariables false

theorem push2_boxes (P : Mem → Prop) (m : Mem) (z1 z2 c2 : List Value) (h : ∀ m', m'.get m.size = some (.cells false true z1) → m'.get (m.size + 1) = some (.cells false true c2) → Old m m' → m'.size = m.size + 2 → P m') : P (((m.push (.cells false true z1)).push (.cells false true z2)).put (m.size + 1) (some (.cells false true c2))) :=
  h _ (by rw [getM_put, if_neg (by omega), getM_push, if_neg (by simp), getM_push, if_pos rfl]) (by rw [getM_put, if_pos ⟨rfl, by simp⟩]) (.of_get (by simp; omega) fun i hi => by rw [getM_put, if_neg (by omega), getM_push, if_neg (by simp; omega), getM_push, if_neg (by omega)]) (by simp)
theorem put2_boxes (P : Mem → Prop) (m : Mem) (z1 c1 z2 c2 : List Value) (h : ∀ m', m'.get m.size = some (.cells false true c1) → m'.get (m.size + 1) = some (.cells false true c2) → Old m m' → m'.size = m.size + 2 → P m') : P ((((m.push (.cells false true z1)).put m.size (some (.cells false true c1))).push (.cells false true z2)).put (m.size + 1) (some (.cells false true c2))) :=
  h _ (by rw [getM_put, if_neg (by omega), getM_push, if_neg (by simp), getM_put, if_pos ⟨rfl, by simp⟩]) (by rw [getM_put, if_pos ⟨rfl, by simp⟩]) (.of_get (by simp; omega) fun i hi => by rw [getM_put, if_neg (by omega), getM_push, if_neg (by simp; omega), getM_put, if_neg (by omega), getM_push, if_neg (by omega)]) (by simp)

set_option maxRecDepth 100000 in
set_option maxHeartbeats 8000000 in
theorem RunsLeft_law (m : Mem) (hro : ∀ i c, m.get i = some c → c.writable = false)
    (a0 : Option Addr) (l0 c0 : Nat) (xs0 : List Int) (hs0 : SlA m 1 a0 l0 c0 (xs0.map (.int .i64))) (hl0 : xs0.length = l0) (hx0 : ∀ x ∈ xs0, -9223372036854775808 ≤ x ∧ x < 9223372036854775808)
    (budget : Int) (hbm : -9223372036854775808 ≤ budget) (hbm' : budget < 9223372036854775808) (stop : Int) (hm : -9223372036854775808 ≤ stop) (hm' : stop < 9223372036854775808) :
    CallQ E F_sheaflaw11_RunsLeft [.slice a0 l0 c0, .int .i64 budget, .int .i64 stop].toArray m fun v _ => v = .bool true := by
  obtain ⟨n, g0⟩ : ∃ n, n = min l0 40 := ⟨_, rfl⟩
  have m0 : min (l0 : Int) 40 = (n : Int) := by omega
  obtain ⟨s0, A⟩ := hs0.sliceTo (E := E) (k := .i64) (show n ≤ l0 by omega)
  rw [Nat.mul_one, ← List.map_take] at A
  generalize xs0.take n = xs at *
  have lx : xs.length = n := by have := A.len; simpa using this
  have s0' := s0 25 (by decide +kernel)
  have hn : n ≤ 40 := by omega
  have wb := Within_ans budget 1 8 hbm hbm' (by decide) (by decide) (by decide) (by decide)
  have wk := Within_ans stop 1 12 hm hm' (by decide) (by decide) (by decide) (by decide)
  obtain ⟨b, hb⟩ : ∃ b : Nat, (b : Int) = 1 + budget % (8 - 1 + 1) := ⟨(1 + budget % (8 - 1 + 1)).toNat, by omega⟩
  obtain ⟨k, hk⟩ : ∃ k : Nat, (k : Int) = 1 + stop % (12 - 1 + 1) := ⟨(1 + stop % (12 - 1 + 1)).toNat, by omega⟩
  rw [← hb] at wb
  rw [← hk] at wk
  have hb1 : 1 ≤ b ∧ b ≤ 8 := by omega
  have hk1 : 1 ≤ k ∧ k ≤ 12 := by omega
  clear hb hk
  refine .enter fn_sheaflaw11_RunsLeft (by simp) ?_
  simp (decide := true) (implicitDefEqProofs := false) (maxDischargeDepth := 20) only [go_sem, ↓reduceIte, m0, s0', true_implies, false_implies]
  refine two_boxes (fun mm => CallQ E _ _ mm _) m _ _ fun m1 gO o1 s1 => ?_
  refine (wb m1).mono ?_
  rintro w m2 ⟨rfl, o2⟩
  simp (decide := true) (implicitDefEqProofs := false) (maxDischargeDepth := 20) only [go_sem, ↓reduceIte, true_implies, false_implies]
  refine push2_boxes (fun mm => CallQ E _ _ mm _) m2 _ _ _ fun m3 gM gN o3 s3 => ?_
  refine (Cut_at).mono ?_
  rintro w m4 ⟨rfl, cL, cM, cS, cB, o4⟩
  simp (decide := true) (implicitDefEqProofs := false) (maxDischargeDepth := 20) only [go_sem, ↓reduceIte, true_implies, false_implies]
  refine (wk m4).mono ?_
  rintro w m5 ⟨rfl, o5⟩
  simp (decide := true) (implicitDefEqProofs := false) (maxDischargeDepth := 20) only [go_sem, ↓reduceIte, true_implies, false_implies]
  refine put2_boxes (fun mm => wpM E _ _ _ _ _ _ mm) m5 _ _ _ _ fun m6 gK gC o6 s6 => ?_
  refine wpM_name fun t0 ht0 => ?_
  obtain ⟨ob, hob⟩ : ∃ q, q = m.size := ⟨_, rfl⟩
  obtain ⟨mb, hmb⟩ : ∃ q, q = m2.size := ⟨_, rfl⟩
  obtain ⟨nb, hnb⟩ : ∃ q, q = m2.size + 1 := ⟨_, rfl⟩
  obtain ⟨kb, hkb⟩ : ∃ q, q = m5.size := ⟨_, rfl⟩
  obtain ⟨gb, hgb⟩ : ∃ q, q = m5.size + 1 := ⟨_, rfl⟩
  rw [← hob] at gO
  rw [← hmb] at gM cM
  rw [← hnb] at gN
  rw [← hkb] at gK
  rw [← hgb] at gC
  rw [← hob, ← hnb] at cS
  have f7 : t0 7 = ptr ob := by rw [ht0, hob]; simp (decide := true) only [go_sem, ↓reduceIte]
  have f8 : t0 8 = vI b := by rw [ht0]; simp (decide := true) only [go_sem, ↓reduceIte]
  have f9 : t0 9 = ptr mb := by rw [ht0, hmb]; simp (decide := true) only [go_sem, ↓reduceIte]
  have f10 : t0 10 = ptr nb := by rw [ht0, hnb]; simp (decide := true) only [go_sem, ↓reduceIte]
  have f11 : t0 11 = .func (.func F_runs_Cut_int_1) #[] #[ptr (m3.size + 2), ptr (m3.size + 3), ptr m3.size, ptr (m3.size + 1)] := by rw [ht0]; simp (decide := true) only [go_sem, ↓reduceIte]
  have f12 : t0 12 = ptr kb := by rw [ht0, hkb]; simp (decide := true) only [go_sem, ↓reduceIte]
  have f13 : t0 13 = ptr gb := by rw [ht0, hgb]; simp (decide := true) only [go_sem, ↓reduceIte]
  have f31 : t0 31 = .func (.func F_runs_Cut_int_1) #[] #[ptr (m3.size + 2), ptr (m3.size + 3), ptr m3.size, ptr (m3.size + 1)] := by rw [ht0]; simp (decide := true) only [go_sem, ↓reduceIte]
  clear ht0
  have z1 := o1.size
  have z2 := o2.size
  have z3 := o3.size
  have z4 := o4.size
  have z5 := o5.size
  have z6 := o6.size
  have o56 := o5.trans o6
  have o46 := o4.trans o56
  have qO : m6.get ob = some (.cells false true [.slice a0 n c0]) := by rw [(o2.trans (o3.trans o46)).get (by omega)]; exact gO
  have qM : MeterAt m6 mb 0 0 := by unfold MeterAt; rw [o46.get (by omega)]; exact gM
  have qN : m6.get nb = some (.cells false true [vI 0]) := by rw [o46.get (by omega)]; exact gN
  have lL := getM_lt cL
  have lM := getM_lt cM
  have lS := getM_lt cS
  have lB := getM_lt cB
  have qL := (o56.get lL).trans cL
  have qMM := (o56.get lM).trans cM
  have qS := (o56.get lS).trans cS
  have qB := (o56.get lB).trans cB
  have o06 : Old m m6 := o1.trans (o2.trans (o3.trans o46))
  have hnbmb : ¬ mb = nb := by omega
  -- the cut, wherever its boxes are as they were
  have mk : ∀ (mX : Mem) (l : List Nat) (ro : Bool) (y0 : Int) (q : Nat), q ≤ 1000 → 0 ≤ y0 → Old m mX → (∀ q ∈ l, m.size ≤ q ∧ q ≠ ob ∧ (q < m3.size ∨ m3.size + 3 < q)) → mX.get (m3.size + 2) = some (.cells false true [lessRV]) → mX.get (m3.size + 3) = some (.cells false true [ptr mb]) → mX.get m3.size = some (.cells false true [.func (.func F_sheaflaw11_RunsLeft_1) #[] #[ptr ob, ptr nb]]) → mX.get (m3.size + 1) = some (.cells false true [vI (max b 1)]) → mX.get ob = some (.cells ro true [.slice a0 n c0]) →
      IterD E (butL mX l) (fun i => i = mb ∨ i = nb) (.func (.func F_runs_Cut_int_1) #[] #[ptr (m3.size + 2), ptr (m3.size + 3), ptr m3.size, ptr (m3.size + 1)]) n (CutO mb y0 (budN b) n (CntO nb n q)) (CutD mb (budN b) n (CntO nb n q)) (pureEl fun q => [pV (yieldR xs (budN b) q)]) := by
    intro mX l ro y0 q hq hy0 oX hl h1 h2 h3 h4 h5
    have h := CutI' (Z := butL mX l) (Fs := fun i => i = nb) (bd := b) (xs := xs) (Own := CntO nb n q) (butL_at h1 fun e => by have := (hl _ e).2.2; omega) (butL_at h2 fun e => by have := (hl _ e).2.2; omega) (butL_at h3 fun e => by have := (hl _ e).2.2; omega) (butL_at h4 fun e => by have := (hl _ e).2.2; omega) (by omega) hnbmb lessR_ok (by omega) hy0 fun Z' sub => by
      rw [lx]
      exact CountI (sub _ _ (butL_at h5 fun e => (hl _ e).2.1 rfl)) (fun mm zz => A.butS oX (SubZ.frozen sub zz) fun q hq => (hl q hq).1) (by omega) (by omega)
    rw [lx] at h
    exact h
  have it := mk m6 [mb, nb, gb] false 0 0 (by decide) (by decide) o06 (by simp; omega) qL qMM qS qB qO
  have fin : ∀ m7 (N Aa : Nat) (y : Int), 0 ≤ y → MeterAt m7 mb 0 y → m7.get nb = some (.cells false true [vI Aa]) → m7.get gb = some (.cells false true [vI N]) → N = min k n → Aa ≤ min n (b + k) → (∀ i, i < m6.size → i ≠ mb → i ≠ nb → i ≠ gb → m7.get i = m6.get i) → m6.size ≤ m7.size →
      wpM E 11 79 none c_sheaflaw11_RunsLeft_14 (retK (ResK E [ResultVar.tmp 6] fun v x => v = Value.bool true)) t0 m7 := by
    intro m7 N Aa y hy met gA gN' hN hA hk7 hs7
    have e1 : min (k : Int) (n : Int) = (N : Int) := by omega
    have w1 : IntKind.wrap .i64 ((b : Int) + (k : Int)) = (b : Int) + (k : Int) := wrap_i64_id _ (by omega) (by omega)
    have d1 : decide ((Aa : Int) > min (n : Int) ((b : Int) + (k : Int))) = false := by simp; omega
    have pO : m7.get ob = some (.cells false true [.slice a0 n c0]) := (hk7 ob (by omega) (by omega) (by omega) (by omega)).trans qO
    have pK : m7.get kb = some (.cells false true [vI k]) := (hk7 kb (by omega) (by omega) (by omega) (by omega)).trans gK
    have rM : m7.at mb 0 = some (vI 0) := get_at0 met
    have rN := get_at0 gN'
    have rK := get_at0 pK
    have rO := get_at0 pO
    have rA := get_at0 gA
    simp (decide := true) (implicitDefEqProofs := false) (maxDischargeDepth := 20) only [go_sem, nilOk, f7, f8, f9, f10, f11, f12, f13, rM, rN, rK, rO, rA, e1, w1, d1, bne_self_eq_false, ↓reduceIte, true_implies, false_implies]
    have gg : ∀ i, i ≠ ob → (m7.gm [ob]).get i = m7.get i := fun i hi => get_gmG m7 ob i hi
    have gob : (m7.gm [ob]).get ob = some (.cells true true [.slice a0 n c0]) := by rw [get_gm, if_pos (by simp), pO]
    have zg : (m7.gm [ob]).size = m7.size := gm_size _ _
    have g7 : ∀ i, i < m6.size → i ≠ mb → i ≠ nb → i ≠ gb → i ≠ ob → (m7.gm [ob]).get i = m6.get i := fun i h1 h2 h3 h4 h5 => (gg i h5).trans (hk7 i h1 h2 h3 h4)
    have oX : Old m (m7.gm [ob]) := .of_get (by rw [zg]; omega) fun i hi => (g7 i (by omega) (by omega) (by omega) (by omega) (by omega)).trans (o06.get hi)
    have it2 := mk (m7.gm [ob]) [mb, nb] true y Aa (by omega) hy oX (by simp; omega) ((g7 _ (by omega) (by omega) (by omega) (by omega) (by omega)).trans qL) ((g7 _ (by omega) (by omega) (by omega) (by omega) (by omega)).trans qMM) ((g7 _ (by omega) (by omega) (by omega) (by omega) (by omega)).trans qS) ((g7 _ (by omega) (by omega) (by omega) (by omega) (by omega)).trans qB) gob
    have met' : MeterAt (m7.gm [ob]) mb 0 y := (gg mb (by omega)).trans met
    have gA' : (m7.gm [ob]).get nb = some (.cells false true [vI Aa]) := (gg nb (by omega)).trans gA
    refine (ListR it2 (by omega) (butL_frozen _ _) (fun i hi => ?_) (.inl ⟨rfl, met', by unfold CntO; rw [Nat.zero_min, Nat.add_zero]; exact gA'⟩)).mono ?_
    · rcases hi with rfl | rfl
      · exact ⟨getM_lt met', butL_no (by simp)⟩
      · exact ⟨getM_lt gA', butL_no (by simp)⟩
    rintro w m8 ⟨a1, rfl, v8, c8, ow⟩
    have z8 := c8.size
    rw [zg] at z8
    have met8 : ∃ y', MeterAt m8 mb 0 y' := by
      rcases ow with ⟨h, _⟩ | ⟨_, h, _⟩ | ⟨_, h, _⟩
      · omega
      · exact ⟨_, h⟩
      · omega
    obtain ⟨y', met8⟩ := met8
    have gu : ∀ i, i ≠ ob → (m7.ugm m8 [ob]).get i = m8.get i := fun i hi => by rw [get_ugmG pO (by omega), if_neg hi]
    have zu : (m7.ugm m8 [ob]).size = m8.size := size_ugm _ _ _
    have met9 : MeterAt (m7.ugm m8 [ob]) mb 0 y' := (gu mb (by omega)).trans met8
    have v9 : Vec m7.size (m7.ugm m8 [ob]) 2 a1 n (pC (takeR (yieldR xs (budN b)) n)) := by
      rw [zg] at v8
      exact v8.keep fun x hx => gu _ (by have := (v8.blk x hx).1; omega)
    have o9 : Old m (m7.ugm m8 [ob]) := .of_get (by rw [zu]; omega) fun i hi => by
      rw [gu i (by omega), c8.get i (by rw [zg]; omega) (by rintro (e | e) <;> omega)]
      exact oX.get hi
    simp (decide := true) (implicitDefEqProofs := false) (maxDischargeDepth := 20) only [go_sem, f7, f8, f9, f10, f11, f12, f13, ↓reduceIte, true_implies, false_implies]
    generalize m7.ugm m8 [ob] = m9 at *
    have oP : Old m9 (m9.push (.cells false true [.int .i64 0, .int .i64 0])) := .push (.refl _) _
    have gP : (m9.push (.cells false true [.int .i64 0, .int .i64 0])).get m9.size = some (.cells false true [.int .i64 0, .int .i64 0]) := by rw [getM_push, if_pos rfl]
    have zP : (m9.push (.cells false true [.int .i64 0, .int .i64 0])).size = m9.size + 1 := by simp
    generalize m9.push (.cells false true [.int .i64 0, .int .i64 0]) = mP at *
    have z9 := o9.size
    refine (items_at A (o9.trans oP) z9 (y0 := 0) gP (by decide) b (by omega) (by omega)).mono ?_
    rintro w m10 ⟨a2, rfl, v10, met10, c10⟩
    have z10 := c10.size
    have v9' : Vec m7.size m10 2 a1 n (pC (takeR (yieldR xs (budN b)) n)) := v9.keep fun x hx => by
      have := v9.lt hx
      rw [c10.get _ (by omega) (by show ¬ x.block = m9.size; omega), oP.get this]
    have lmb := getM_lt met9
    have rM10 : m10.at mb 0 = some (vI 0) := get_at0 (by rw [c10.get mb (by omega) (by show ¬ mb = m9.size; omega), oP.get lmb]; exact met9)
    simp (decide := true) (implicitDefEqProofs := false) (maxDischargeDepth := 20) only [go_sem, f7, f8, f9, f10, f11, f12, f13, ↓reduceIte, true_implies, false_implies]
    refine (SameR v9'.sl v10.sl (by omega)).mono ?_
    rintro w m11 ⟨rfl, o11⟩
    have rM11 : m11.at mb 0 = some (vI 0) := (o11.at (by omega)).trans rM10
    simp (decide := true) (implicitDefEqProofs := false) (maxDischargeDepth := 20) only [go_sem, nilOk, f7, f8, f9, f10, f11, f12, f13, rM11, ↓reduceIte, true_implies, false_implies]
  generalize c_sheaflaw11_RunsLeft_14 = c14 at *
  rw [c_sheaflaw11_RunsLeft_7_at]
  let J : Nat → Mem → Set' → Prop := fun q m' A' => (∀ i, A' i ↔ i = gb) ∧ m'.get gb = some (.cells false true [vI q]) ∧ q < k
  let JD : Nat → Exit → Mem → Set' → Prop := fun q x m' A' => x = .exit 0 ∧ q + 1 = k ∧ (∀ i, A' i ↔ i = gb) ∧ m'.get gb = some (.cells false true [vI (q + 1 : Nat)])
  have lgb := getM_lt gC
  refine wpM_rangePD (A := fun i => i = gb) it (fun t => t) (by simp (decide := true) only [go_sem, f31, ↓reduceIte]) rfl asg_sheaflaw11_RunsLeft_0 body_sheaflaw11_RunsLeft_0 (by decide) (fun K l t m h => by simp (decide := true) only [go_sem, ↓reduceIte]; exact h)
    J JD (fun q ma mb' A' h hk hs => ⟨h.1, (hk gb ((h.1 gb).2 rfl)).trans h.2.1, h.2.2⟩) (fun q x ma mb' A' h hk hs => ⟨h.1, h.2.1, h.2.2.1, (hk gb ((h.2.2.1 gb).2 rfl)).trans h.2.2.2⟩) (butL_frozen _ _) (fun i hi => ⟨by rw [hi]; exact lgb, butL_no (by rw [hi]; simp), by rw [hi]; rintro (e | e) <;> omega⟩) (fun i hi => ?_) (.inl ⟨rfl, qM, by unfold CntO; rw [Nat.zero_min]; exact qN⟩) ⟨fun _ => Iff.rfl, gC, by omega⟩ ?_ ?_ ?_
  · rcases hi with rfl | rfl
    · exact ⟨getM_lt qM, butL_no (by simp)⟩
    · exact ⟨getM_lt qN, butL_no (by simp)⟩
  · rintro q vs mR AR BR l hq zR oR1 oR2 dis ow ⟨hA, gR, hqk⟩ hel hin hms
    have hel : vs = [pV (yieldR xs (budN b) q)] := hel
    subst hel
    refine ⟨rfl, ?_⟩
    have rG := get_at0 gR
    have lG := getM_lt gR
    have rK : mR.at kb 0 = some (vI k) := frozen_at zR (butL_at gK (by simp; omega))
    have w1 : IntKind.wrap .i64 ((q : Int) + 1) = ((q + 1 : Nat) : Int) := by rw [wrap_i64_id _ (by omega) (by omega)]; omega
    have nk : ¬ kb = gb := by omega
    have nk' : ¬ gb = kb := by omega
    have cc : ∀ mm, mm = mR.put gb (some (.cells false true [vI ((q + 1 : Nat) : Int)])) → ChgS (fun i => AR i ∨ BR i) mR mm ∧ NewS (fun i => AR i ∨ BR i) mR mm (fun i => i = gb) ∧ mm.get gb = some (.cells false true [vI ((q + 1 : Nat) : Int)]) := by
      rintro mm rfl
      refine ⟨⟨by simp, fun i hi hna => by rw [getM_put, if_neg (fun e => hna (.inl ((hA i).2 e.1)))]⟩, fun i hi => ⟨by rw [hi]; simpa using lG, .inl (.inl ((hA i).2 hi))⟩, by rw [getM_put, if_pos ⟨rfl, lG⟩]⟩
    by_cases hk1 : q + 1 = k
    · have d1 : (((q + 1 : Nat) : Int) == (k : Int)) = true := by simp; omega
      simp (decide := true) (implicitDefEqProofs := false) (maxDischargeDepth := 20) only [go_sem, cutF_at, f12, f13, rG, gR, lG, rK, nk, nk', w1, d1, ↓reduceIte, true_implies, false_implies]
      obtain ⟨c1, c2, c3⟩ := cc _ rfl
      exact ⟨fun i => i = gb, c1, c2, .inr ⟨0, rfl⟩, rfl, hk1, fun _ => Iff.rfl, c3⟩
    · have d1 : (((q + 1 : Nat) : Int) == (k : Int)) = false := by simp; omega
      simp (decide := true) (implicitDefEqProofs := false) (maxDischargeDepth := 20) only [go_sem, cutF_at, f12, f13, rG, gR, lG, rK, nk, nk', w1, d1, ↓reduceIte, true_implies, false_implies]
      obtain ⟨c1, c2, c3⟩ := cc _ rfl
      exact ⟨fun i => i = gb, c1, c2, fun _ => Iff.rfl, c3, by omega⟩
  · rintro m7 A7 z7 o7 ow ⟨hA, gR, hqk⟩ c7 n7
    have met7 : ∃ y, 0 ≤ y ∧ MeterAt m7 mb 0 y ∧ CntO nb n 0 (n + 1) m7 := by
      rcases ow with ⟨h, _⟩ | ⟨_, h, h2⟩ | ⟨_, h, _⟩
      · omega
      · exact ⟨_, by omega, h, h2⟩
      · omega
    obtain ⟨y, hy, met7, cn7⟩ := met7
    unfold CntO at cn7
    rw [show 0 + min (n + 1) n = n by omega] at cn7
    simp (decide := true) (implicitDefEqProofs := false) (maxDischargeDepth := 20) only [go_sem, ↓reduceIte, true_implies, false_implies]
    exact fin m7 n n y hy met7 cn7 gR (by omega) (by omega) (fun i hi h1 h2 h3 => c7.get i hi (by rintro (e | e | e) <;> omega)) c7.size
  · rintro q x m7 A7 hq z7 o7 ⟨⟨y, hy, met7⟩, cn7⟩ hx ⟨rfl, hqk, hA, gR⟩ c7 n7
    unfold CntO at cn7
    simp (decide := true) (implicitDefEqProofs := false) (maxDischargeDepth := 20) only [go_sem, ↓reduceIte, true_implies, false_implies]
    have hpos : posC (budN b) n (q + 1) = min (b + k) (n + 1) := by
      have : budN b = b := by unfold budN; omega
      rw [this]
      unfold posC
      split <;> omega
    rw [hpos] at cn7
    exact fin m7 (q + 1) (0 + min (min (b + k) (n + 1)) n) y hy met7 cn7 gR (by omega) (by omega) (fun i hi h1 h2 h3 => c7.get i hi (by rintro (e | e | e) <;> omega)) c7.size
end Go.Proofs.Ythlcbacmbcmgfaa.W
