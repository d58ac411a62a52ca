/-
  RunsTexts: the law.
-/
import Derived.Test.YthlcbacmbcmgfaaRSI
namespace Go.Proofs.Ythlcbacmbcmgfaa.W
open Go.Abs
set_option linter.unusedSimpArgs false
set_option linter.unusedVariables false

def budN (bd : Int) : Nat := (max bd 1).toNat

theorem vecRowR {B n : Nat} {m : Mem} {b : Nat} {s : Option Nat} {l : List (Int × Int)} (h : Vec B m 2 (some ⟨b, 0, s⟩) n (pC l)) {i : Nat} (hi : i < l.length) : m.rows b (i * 2) 2 = some [vI (gt l i).1, sv (gt l i).2] ∧ m.at b (i * 2) = some (vI (gt l i).1) ∧ m.at b (i * 2 + 1) = some (sv (gt l i).2) := by
  have hne : pC l ≠ [] := by intro e; have h0 : l.length * 2 = 0 := (by rw [← pC_len l, e]; rfl); omega
  have r := (h.sl.rows _ rfl hne).sub (i := i * 2) (n := 2) (by rw [pC_len]; omega)
  rw [pC_row l i hi] at r
  have r : Rw m b (0 + i * 2) [vI (gt l i).1, sv (gt l i).2] := r
  rw [Nat.zero_add] at r
  exact ⟨r, r.at (i := 0) (by simp), r.at (i := 1) (by simp)⟩
theorem gt_takeR (f : Nat → Int × Int) {k i : Nat} (h : i < k) : gt (takeR f k) i = f i := by
  unfold gt takeR
  rw [List.getD_eq_getElem?_getD, List.getElem?_map, List.getElem?_range h]
  rfl

set_option maxRecDepth 100000 in
set_option maxHeartbeats 8000000 in
theorem RunsTexts_told {B : Nat} {m : Mem} {t : Fr} {a : Option Addr} {k b : Nat} {down : Bool} (hk : k ≤ 40) (hb : 0 < b) (hb' : b ≤ 9) (V : Vec B m 2 a k (pC (takeR (yieldR (txts k down) b) k))) (t2 : t 2 = .bool down) (t8 : t 8 = .int .i64 b) (t13 : t 13 = .slice a k k) (t68 : t 68 = .slice a k k) (t69 : t 69 = .int .i64 k) (t70 : t 70 = .int .i64 0) {K : Post3}
    (hK : ∀ t' m', Agree (writes c_sheaflaw11_RunsTexts_29) t t' → Old m m' → K .normal t' m') :
    wpM E F_sheaflaw11_RunsTexts 133 none c_sheaflaw11_RunsTexts_29 K t m := by
  refine wpM_cut (fun t' m' => Old m m') ?_ fun t' m' ha h => hK t' m' ha h
  simp only [c_sheaflaw11_RunsTexts_29_at, wpM_block, c_sheaflaw11_RunsTexts_28_at]
  refine wpM_loopA (fun j t' m' => ∃ i, j = k - i ∧ i ≤ k ∧ t' 70 = .int .i64 (i : Nat) ∧ Old m m') k ⟨0, by omega, by omega, t70, .refl m⟩ ?_
  rintro j t' m1 ha ⟨i, rfl, hi, e70, o⟩
  have a2 := (ha 2 (by decide +kernel)).trans t2
  have a8 := (ha 8 (by decide +kernel)).trans t8
  have a13 := (ha 13 (by decide +kernel)).trans t13
  have a68 := (ha 68 (by decide +kernel)).trans t68
  have a69 := (ha 69 (by decide +kernel)).trans t69
  by_cases hlt : i < k
  · have d1 : decide ((i : Int) < (k : Int)) = true := by simp; omega
    have w1 : IntKind.wrap .i64 ((i : Int) + 1) = ((i + 1 : Nat) : Int) := by rw [wrap_i64_id _ (by omega) (by omega)]; omega
    have V1 := V.old o
    obtain ⟨bI, oI, sI, rfl⟩ := V1.sl.addr (by omega)
    obtain ⟨_, hoff, _⟩ := V1.blk _ rfl
    have hoff : oI = 0 := hoff
    subst hoff
    obtain ⟨r1, r2, r3⟩ := vecRowR V1 (i := i) (by rw [takeR_len]; exact hlt)
    rw [gt_takeR _ hlt] at r1 r2 r3
    obtain ⟨p1, p2⟩ := play_told hk hb down hlt
    have lbI : bI < m1.size := V1.lt rfl
    have nbI : ¬ bI = m1.size := by omega
    have z0 : (0 : Int) ≤ (i : Int) := by omega
    have z1 : (i : Int) < (k : Int) := by omega
    have hdiv : i / b ≤ i := Nat.div_le_self i b
    have wq : IntKind.wrap .i64 ((i : Int).tdiv (b : Int)) = ((i / b : Nat) : Int) := by
      rw [show (i : Int).tdiv (b : Int) = ((i / b : Nat) : Int) from rfl]
      generalize i / b = d at hdiv ⊢
      exact wrap_i64_id _ (by omega) (by omega)
    have nb0 : ¬ (b : Int) = 0 := by omega
    have nb1 : ((b : Int) == 0) = false := by simp; omega
    obtain ⟨y, hy⟩ : ∃ y, y = yieldR (txts k down) b i := ⟨_, rfl⟩
    rw [← hy] at r1 r2 r3 p1 p2
    have oX : ∀ c, Old m ((m1.push (.cells false true [.int .i64 0, .string ⟨#[]⟩])).put m1.size c) := fun c => (o.push _).put _ _ o.size
    have q1 : (y.1 != (if down = true then ((i / b : Nat) : Int) else 0)) = false := by rw [p1]; simp
    by_cases h0 : i = 0
    · have d2 : decide ((i : Int) > 0) = false := by simp; omega
      cases down with
      | true =>
        have q2 : (y.1 != ((i / b : Nat) : Int)) = false := q1
        simp (decide := true) (implicitDefEqProofs := false) (maxDischargeDepth := 20) only [go_sem, ↓reduceIte, a2, a8, a13, a68, a69, e70, d1, d2, w1, wq, nb0, nb1, r1, r2, r3, nbI, z0, z1, q2, Int.toNat_natCast, true_implies, false_implies]
        exact ⟨k - (i + 1), by omega, i + 1, rfl, by omega, rfl, oX _⟩
      | false =>
        have q2 : (y.1 != 0) = false := q1
        simp (decide := true) (implicitDefEqProofs := false) (maxDischargeDepth := 20) only [go_sem, ↓reduceIte, a2, a8, a13, a68, a69, e70, d1, d2, w1, wq, nb0, nb1, r1, r2, r3, nbI, z0, z1, q2, Int.toNat_natCast, true_implies, false_implies]
        exact ⟨k - (i + 1), by omega, i + 1, rfl, by omega, rfl, oX _⟩
    · have d2 : decide ((i : Int) > 0) = true := by simp; omega
      obtain ⟨u1, u2, u3⟩ := vecRowR V1 (i := i - 1) (by rw [takeR_len]; omega)
      rw [gt_takeR _ (by omega)] at u1 u2 u3
      have p2 := p2 (by omega)
      obtain ⟨v, hv⟩ : ∃ v, v = yieldR (txts k down) b (i - 1) := ⟨_, rfl⟩
      rw [← hv] at u1 u2 u3 p2
      have w2 : IntKind.wrap .i64 ((i : Int) - 1) = ((i - 1 : Nat) : Int) := by rw [wrap_i64_id _ (by omega) (by omega)]; omega
      have y0 : (0 : Int) ≤ ((i - 1 : Nat) : Int) := by omega
      have y1 : ((i - 1 : Nat) : Int) < (k : Int) := by omega
      by_cases he : v.1 = y.1
      · have d3 : (v.1 == y.1) = true := by simpa using he
        have d4 : decide (v.2 % 256 < y.2 % 256) = true := by simpa using p2 he
        cases down with
        | true =>
          have q2 : (y.1 != ((i / b : Nat) : Int)) = false := q1
          simp (decide := true) (implicitDefEqProofs := false) (maxDischargeDepth := 20) only [go_sem, ↓reduceIte, bs_less, a2, a8, a13, a68, a69, e70, d1, d2, d3, d4, w1, w2, wq, nb0, nb1, r1, r2, r3, u1, u2, u3, nbI, z0, z1, y0, y1, q2, Bool.not_true, Int.toNat_natCast, true_implies, false_implies]
          exact ⟨k - (i + 1), by omega, i + 1, rfl, by omega, rfl, oX _⟩
        | false =>
          have q2 : (y.1 != 0) = false := q1
          simp (decide := true) (implicitDefEqProofs := false) (maxDischargeDepth := 20) only [go_sem, ↓reduceIte, bs_less, a2, a8, a13, a68, a69, e70, d1, d2, d3, d4, w1, w2, wq, nb0, nb1, r1, r2, r3, u1, u2, u3, nbI, z0, z1, y0, y1, q2, Bool.not_true, Int.toNat_natCast, true_implies, false_implies]
          exact ⟨k - (i + 1), by omega, i + 1, rfl, by omega, rfl, oX _⟩
      · have d3 : (v.1 == y.1) = false := by simpa using he
        cases down with
        | true =>
          have q2 : (y.1 != ((i / b : Nat) : Int)) = false := q1
          simp (decide := true) (implicitDefEqProofs := false) (maxDischargeDepth := 20) only [go_sem, ↓reduceIte, bs_less, a2, a8, a13, a68, a69, e70, d1, d2, d3, w1, w2, wq, nb0, nb1, r1, r2, r3, u1, u2, u3, nbI, z0, z1, y0, y1, q2, Int.toNat_natCast, true_implies, false_implies]
          exact ⟨k - (i + 1), by omega, i + 1, rfl, by omega, rfl, oX _⟩
        | false =>
          have q2 : (y.1 != 0) = false := q1
          simp (decide := true) (implicitDefEqProofs := false) (maxDischargeDepth := 20) only [go_sem, ↓reduceIte, bs_less, a2, a8, a13, a68, a69, e70, d1, d2, d3, w1, w2, wq, nb0, nb1, r1, r2, r3, u1, u2, u3, nbI, z0, z1, y0, y1, q2, Int.toNat_natCast, true_implies, false_implies]
          exact ⟨k - (i + 1), by omega, i + 1, rfl, by omega, rfl, oX _⟩
  · have d1 : decide ((i : Int) < (k : Int)) = false := by simp; omega
    simp (decide := true) (implicitDefEqProofs := false) (maxDischargeDepth := 20) only [go_sem, ↓reduceIte, a69, e70, d1, true_implies, false_implies]
    exact o

set_option maxRecDepth 100000 in
set_option maxHeartbeats 8000000 in
theorem RunsTexts_law (m : Mem) (hro : ∀ i c, m.get i = some c → c.writable = false)
    (nn : Int) (hn : -9223372036854775808 ≤ nn) (hn' : nn < 9223372036854775808) (budget : Int) (hbm : -9223372036854775808 ≤ budget) (hbm' : budget < 9223372036854775808) (down : Bool) :
    CallQ E F_sheaflaw11_RunsTexts [.int .i64 nn, .int .i64 budget, .bool down].toArray m fun v _ => v = .bool true := by
  have wk := Within_ans nn 0 40 hn hn' (by decide) (by decide) (by decide) (by decide)
  have wb := Within_ans budget 1 9 hbm hbm' (by decide) (by decide) (by decide) (by decide)
  obtain ⟨k, hk⟩ : ∃ k : Nat, (k : Int) = 0 + nn % (40 - 0 + 1) := ⟨(0 + nn % (40 - 0 + 1)).toNat, by omega⟩
  obtain ⟨b, hb⟩ : ∃ b : Nat, (b : Int) = 1 + budget % (9 - 1 + 1) := ⟨(1 + budget % (9 - 1 + 1)).toNat, by omega⟩
  rw [← hk] at wk
  rw [← hb] at wb
  have hk40 : k ≤ 40 := by omega
  have hb1 : 1 ≤ b ∧ b ≤ 9 := by omega
  clear hk hb
  refine .enter fn_sheaflaw11_RunsTexts (by simp) ?_
  simp (decide := true) (implicitDefEqProofs := false) (maxDischargeDepth := 20) only [go_sem, ↓reduceIte, true_implies, false_implies]
  refine (wk m).mono ?_
  rintro w m1 ⟨rfl, o1⟩
  simp (decide := true) (implicitDefEqProofs := false) (maxDischargeDepth := 20) only [go_sem, ↓reduceIte, true_implies, false_implies]
  refine (wb m1).mono ?_
  rintro w m2 ⟨rfl, o2⟩
  simp (decide := true) (implicitDefEqProofs := false) (maxDischargeDepth := 20) only [go_sem, ↓reduceIte, true_implies, false_implies]
  refine RunsTexts_list hk40 (down := down) (by simp (decide := true) only [go_sem, ↓reduceIte]) (by simp (decide := true) only [go_sem, ↓reduceIte]) (by simp (decide := true) only [go_sem, ↓reduceIte]) (by simp (decide := true) only [go_sem, ↓reduceIte]) fun t' m3 aL ag e9 V3 o3 => ?_
  have e2 := ag 2 (by decide +kernel)
  have e7 := ag 7 (by decide +kernel)
  have e8 := ag 8 (by decide +kernel)
  simp (decide := true) only [go_sem, ↓reduceIte] at e2 e7 e8
  clear ag
  simp (decide := true) (implicitDefEqProofs := false) (maxDischargeDepth := 20) only [go_sem, ↓reduceIte, e2, e7, e8, e9, true_implies, false_implies]
  have oP : Old m3 (m3.push (.cells false true [.int .i64 0, .int .i64 0])) := .push (.refl _) _
  have gP : (m3.push (.cells false true [.int .i64 0, .int .i64 0])).get m3.size = some (.cells false true [.int .i64 0, .int .i64 0]) := by rw [getM_push, if_pos rfl]
  have zP : (m3.push (.cells false true [.int .i64 0, .int .i64 0])).size = m3.size + 1 := by simp
  generalize m3.push (.cells false true [.int .i64 0, .int .i64 0]) = m4 at *
  obtain ⟨mb, hmb⟩ : ∃ q, q = m3.size := ⟨_, rfl⟩
  rw [← hmb] at gP ⊢
  refine (From_at).mono ?_
  rintro w m5 ⟨b1, rfl, g1, o5, hb5⟩
  simp (decide := true) (implicitDefEqProofs := false) (maxDischargeDepth := 20) only [go_sem, ↓reduceIte, e2, e7, e8, e9, true_implies, false_implies]
  refine (Cut_at).mono ?_
  rintro w m6 ⟨rfl, gL, gM, gS, gB, o6⟩
  have z5 := o5.size
  have z6 := o6.size
  have l1 := getM_lt g1
  have o46 : Old m4 m6 := o5.trans o6
  have met6 : MeterAt m6 mb 0 0 := (o46.get (getM_lt gP)).trans gP
  have eb : max (b : Int) 1 = (b : Int) := by omega
  rw [eb] at gB
  have it : IterD E (butL m6 [mb]) (fun i => i = mb ∨ none' i) (.func (.func F_runs_Cut_string_1) #[] #[ptr (m5.size + 2), ptr (m5.size + 3), ptr m5.size, ptr (m5.size + 1)]) (txts k down).length (CutO mb 0 b (txts k down).length anyO) (CutD mb b (txts k down).length anyO) (pureEl fun q => [pV (yieldR (txts k down) b q)]) := by
    refine CutI (butL_at gL (by simp; omega)) (butL_at gM (by simp; omega)) (butL_at gS (by simp; omega)) (butL_at gB (by simp; omega)) (by omega) (by omega) (fun h => h) lessR_ok (by rw [txts_len]; omega) (by decide) fun Z' sub => ?_
    rw [txts_len]
    refine ValuesS (sub _ _ (butL_at ((o6.get l1).trans g1) (by simp; omega))) (fun mm zz => (V3.sl.keep fun x hx _ => ?_)) (by omega)
    have h1 := V3.lt hx
    have h2 : (butL m6 [mb]) x.block = m3.get x.block := by
      unfold butL
      rw [if_neg (by simp; omega), o46.get (by omega), oP.get h1]
    obtain ⟨_, _, tg, h3⟩ := V3.blk x hx
    rw [h3] at h2 ⊢
    exact (SubZ.frozen sub zz) _ _ h2
  rw [txts_len] at it
  simp (decide := true) (implicitDefEqProofs := false) (maxDischargeDepth := 20) only [go_sem, ↓reduceIte, e2, e7, e8, e9, true_implies, false_implies]
  refine (ListR it (by omega) (butL_frozen _ _) (fun i hi => ?_) (.inl ⟨rfl, met6, trivial⟩)).mono ?_
  · rcases hi with rfl | hi
    · exact ⟨getM_lt met6, butL_no (by simp)⟩
    · exact hi.elim
  rintro w m7 ⟨a', rfl, v7, c7, ow⟩
  have met7 : MeterAt m7 mb 0 (max 0 (min b k : Nat)) := by
    rcases ow with ⟨h, _⟩ | ⟨_, h, _⟩ | ⟨_, h, _⟩
    · omega
    · exact h
    · omega
  have r0 : m7.at mb 0 = some (vI 0) := get_at0 met7
  have r1 : m7.at mb 1 = some (vI (max 0 ((min b k : Nat) : Int))) := by unfold Mem.at; rw [met7]; rfl
  have em : (max 0 ((min b k : Nat) : Int) != min (k : Int) (b : Int)) = false := by simp; omega
  simp (decide := true) (implicitDefEqProofs := false) (maxDischargeDepth := 20) only [go_sem, nilOk, ↓reduceIte, e2, e7, e8, e9, r0, r1, em, bne_self_eq_false, true_implies, false_implies]
  refine RunsTexts_told hk40 (by omega) (by omega) v7 (by simp (decide := true) only [go_sem, e2, ↓reduceIte]) (by simp (decide := true) only [go_sem, e8, ↓reduceIte]) (by simp (decide := true) only [go_sem, ↓reduceIte]) (by simp (decide := true) only [go_sem, ↓reduceIte]) (by simp (decide := true) only [go_sem, ↓reduceIte]) (by simp (decide := true) only [go_sem, ↓reduceIte]) fun t8 m8 ag o8 => ?_
  have f7 := ag 7 (by decide +kernel)
  have f8 := ag 8 (by decide +kernel)
  have f12 := ag 12 (by decide +kernel)
  simp (decide := true) only [go_sem, e7, e8, ↓reduceIte] at f7 f8 f12
  clear ag
  have met8 : MeterAt m8 mb 0 (max 0 (min b k : Nat)) := (o8.get (getM_lt met7)).trans met7
  simp (decide := true) (implicitDefEqProofs := false) (maxDischargeDepth := 20) only [go_sem, ↓reduceIte, f7, f8, f12, true_implies, false_implies]
  refine (Meter_at met8 (n := 5) (by decide)).mono ?_
  rintro w m9 ⟨met9, _⟩
  simp (decide := true) (implicitDefEqProofs := false) (maxDischargeDepth := 20) only [go_sem, ↓reduceIte, f7, f8, f12, true_implies, false_implies]
  refine (Meter_at met9 (n := -3) (by decide)).mono ?_
  rintro w m10 ⟨met10, _⟩
  have q0 : m10.at mb 0 = some (vI 2) := get_at0 met10
  have q1 : m10.at mb 1 = some (vI (max (max (max 0 ((min b k : Nat) : Int)) (0 + 5)) (0 + 5 + -3))) := by unfold Mem.at; rw [met10]; rfl
  have eq : (max (max (max 0 ((min b k : Nat) : Int)) (0 + 5)) (0 + 5 + -3) == max 5 (min (k : Int) (b : Int))) = true := by simp; omega
  simp (decide := true) (implicitDefEqProofs := false) (maxDischargeDepth := 20) only [go_sem, nilOk, ↓reduceIte, f7, f8, f12, q0, q1, eq, true_implies, false_implies]
end Go.Proofs.Ythlcbacmbcmgfaa.W
