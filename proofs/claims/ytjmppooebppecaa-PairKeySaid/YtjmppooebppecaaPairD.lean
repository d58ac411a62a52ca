/-
  PairKey, the law.
-/
import Derived.Test.YtjmppooebppecaaPairC
namespace Go.Proofs.Ytjmppooebppecaa.W
open Go.Abs
set_option linter.unusedSimpArgs false
set_option linter.unusedVariables false

theorem seven (z : List Int) (h : z.length = 7) : ∃ e p a b d n w, z = [e, p, a, b, d, n, w] := by
  match z, h with
  | [e, p, a, b, d, n, w], _ => exact ⟨e, p, a, b, d, n, w, rfl⟩

theorem two_puts (P : Mem → Prop) (m : Mem) (b : Nat) (tg : Bool) (xs ys : List Value) (hb : b < m.size) (h : ∀ m', m'.get b = some (.cells false tg ys) → (∀ i, i ≠ b → m'.get i = m.get i) → m'.size = m.size → P m') :
    P ((m.put b (some (.cells false tg xs))).put b (some (.cells false tg ys))) :=
  h _ (by rw [getM_put, if_pos ⟨rfl, by simpa using hb⟩]) (fun i hi => by rw [getM_put, if_neg (fun e => hi e.1), getM_put, if_neg (fun e => hi e.1)]) (by simp)

theorem key_two (E0 P0 A0 n0 : Int) (h : P0 ≠ 0) : keyL (lineL E0 P0 A0 n0) = [min E0 P0, max E0 P0, A0] := by unfold keyL lineL; rw [if_neg (by simpa using h)]; rfl
theorem key_one (E0 A0 n0 : Int) : keyL (lineL E0 0 A0 n0) = [E0, 0, A0] := by unfold keyL lineL; rw [if_pos (by simp)]; rfl
theorem key_eq (E0 P0 A0 n0 E1 P1 A1 n1 : Int) (f0 : 1 ≤ E0 ∧ E0 ≤ 4 ∧ 0 ≤ P0 ∧ P0 ≤ 4 ∧ P0 ≠ E0) (f1 : 1 ≤ E1 ∧ E1 ≤ 4 ∧ 0 ≤ P1 ∧ P1 ≤ 4 ∧ P1 ≠ E1) (h : P0 ≠ 0) :
    keyL (lineL E0 P0 A0 n0) = keyL (lineL E1 P1 A1 n1) ↔ A1 = A0 ∧ (E1 = E0 ∧ P1 = P0 ∨ E1 = P0 ∧ P1 = E0) := by
  rw [key_two _ _ _ _ h]
  by_cases h1 : P1 = 0
  · subst h1
    rw [key_one]
    simp only [List.cons.injEq, and_true]
    omega
  · rw [key_two _ _ _ _ h1]
    simp only [List.cons.injEq, and_true]
    omega

set_option maxRecDepth 100000 in
set_option maxHeartbeats 8000000 in
theorem PairKey_law (m : Mem) (hro : ∀ i c, m.get i = some c → c.writable = false)
    (z0 : List Int) (hz0 : z0.length = 7) (hx0 : ∀ x ∈ z0, -9223372036854775808 ≤ x ∧ x < 9223372036854775808)
    (z1 : List Int) (hz1 : z1.length = 7) (hx1 : ∀ x ∈ z1, -9223372036854775808 ≤ x ∧ x < 9223372036854775808) :
    CallQ E F_sheaflaw18_PairKey [.agg (z0.map (.int .i64)).toArray, .agg (z1.map (.int .i64)).toArray].toArray m fun v _ => v = .bool true := by
  obtain ⟨e0, p0, a0, b0, d0, n0, w0, rfl⟩ := seven z0 hz0
  obtain ⟨e1, p1, a1, b1, d1, n1, w1, rfl⟩ := seven z1 hz1
  refine .enter fn_sheaflaw18_PairKey (by simp) ?_
  simp (decide := true) (implicitDefEqProofs := false) (maxDischargeDepth := 20) only [go_sem, List.map_cons, List.map_nil, ↓reduceIte, true_implies, false_implies]
  refine (line_at e0 p0 a0 b0 d0 n0 w0 (hx0 _ (by simp)) (hx0 _ (by simp)) (hx0 _ (by simp))).mono ?_
  rintro w m2' ⟨bl, E0, P0, A0, rfl, hb0, g0', f0, o2'⟩
  obtain ⟨el, rfl, -⟩ := o2'.ugm
  have g0 := get_ugm g0'
  simp (decide := true) (implicitDefEqProofs := false) (maxDischargeDepth := 20) only [go_sem, ↓reduceIte, true_implies, false_implies]
  refine (line_at e1 p1 a1 b1 d1 n1 w1 (hx1 _ (by simp)) (hx1 _ (by simp)) (hx1 _ (by simp))).mono ?_
  rintro w mB ⟨bx, E1, P1, A1, rfl, hb1, g1, f1, oB⟩
  have g0 := (oB.get (getM_lt g0)).trans g0
  have L0 : SlA mB 1 (some ⟨bl, 0, none⟩) 10 10 ((lineL E0 P0 A0 n0).map (.int .i64)) := (Vec.new (B := 0) (s := none) g0 (Nat.zero_le _) rfl rfl).sl
  have L1 : SlA mB 1 (some ⟨bx, 0, none⟩) 10 10 ((lineL E1 P1 A1 n1).map (.int .i64)) := (Vec.new (B := 0) (s := none) g1 (Nat.zero_le _) rfl rfl).sl
  simp (decide := true) (implicitDefEqProofs := false) (maxDischargeDepth := 20) only [go_sem, ↓reduceIte, true_implies, false_implies]
  refine (Key_at L0).mono ?_
  rintro w mC ⟨q0, rfl, V0, oC⟩
  simp (decide := true) (implicitDefEqProofs := false) (maxDischargeDepth := 20) only [go_sem, ↓reduceIte, true_implies, false_implies]
  refine (Key_at (L1.old oC)).mono ?_
  rintro w mD ⟨q1, rfl, V1, oD⟩
  have L0 := L0.old (oC.trans oD)
  have L1 := L1.old (oC.trans oD)
  have V0 := V0.old oD
  obtain ⟨kb, ko, ks, rfl⟩ := V0.sl.addr (by decide)
  obtain ⟨yb, yo, ys, rfl⟩ := V1.sl.addr (by decide)
  obtain rfl : ko = 0 := (V0.blk _ rfl).2.1
  obtain rfl : yo = 0 := (V1.blk _ rfl).2.1
  by_cases h5 : P0 = 0
  · have hk : keyL (lineL E0 P0 A0 n0) = [E0, 0, A0] := by unfold keyL lineL; rw [if_pos (by simpa using h5)]; rfl
    rw [hk] at V0
    have k0 : mD.at kb (Int.toNat 0) = some (.int .i64 E0) := V0.sl.at_map (show 0 < 3 by decide)
    have k1 : mD.at kb (Int.toNat 1) = some (.int .i64 0) := V0.sl.at_map (show 1 < 3 by decide)
    have k2 : mD.at kb (Int.toNat 2) = some (.int .i64 A0) := V0.sl.at_map (show 2 < 3 by decide)
    have r1 : mD.at bl (Int.toNat 1) = some (.int .i64 E0) := L0.at_map (show 1 < 10 by decide)
    have r5 : mD.at bl (Int.toNat 5) = some (.int .i64 P0) := L0.at_map (show 5 < 10 by decide)
    have r8 : mD.at bl (Int.toNat 8) = some (.int .i64 A0) := L0.at_map (show 8 < 10 by decide)
    subst h5
    simp (decide := true) (implicitDefEqProofs := false) (maxDischargeDepth := 20) only [go_sem, k0, k1, k2, r1, r5, r8, bne_self_eq_false, beq_self_eq_true, ↓reduceIte, true_implies, false_implies]
  · have hk : keyL (lineL E0 P0 A0 n0) = [min E0 P0, max E0 P0, A0] := by unfold keyL lineL; rw [if_neg (by simpa using h5)]; rfl
    have V0' := V0
    rw [hk] at V0'
    have k0 : mD.at kb (Int.toNat 0) = some (.int .i64 (min E0 P0)) := V0'.sl.at_map (show 0 < 3 by decide)
    have k1 : mD.at kb (Int.toNat 1) = some (.int .i64 (max E0 P0)) := V0'.sl.at_map (show 1 < 3 by decide)
    have k2 : mD.at kb (Int.toNat 2) = some (.int .i64 A0) := V0'.sl.at_map (show 2 < 3 by decide)
    have r1 : mD.at bl (Int.toNat 1) = some (.int .i64 E0) := L0.at_map (show 1 < 10 by decide)
    have r5 : mD.at bl (Int.toNat 5) = some (.int .i64 P0) := L0.at_map (show 5 < 10 by decide)
    have r8 : mD.at bl (Int.toNat 8) = some (.int .i64 A0) := L0.at_map (show 8 < 10 by decide)
    have d5 : (P0 == 0) = false := by simpa using h5
    simp (decide := true) (implicitDefEqProofs := false) (maxDischargeDepth := 20) only [go_sem, k0, k1, k2, r1, r5, r8, d5, bne_self_eq_false, beq_self_eq_true, ↓reduceIte, true_implies, false_implies]
    refine append_copy (sz := 1) ((L0.push _).appended' (by simp (decide := true) only [go_sem]) (by decide)) (by simp [lineL]) (by simp (decide := true) only [go_sem]) rfl (by decide) fun mE tb ts oE ltb xE sE => ?_
    have rE := Box.rows xE
    obtain ⟨tg, gE⟩ := xE
    have ltE := getM_lt gE
    have lbl : bl < mD.size := at_lt r1
    have ne : ¬ bl = tb := by omega
    have oE1 : mE.at bl (Int.toNat 1) = some (.int .i64 E0) := by rw [oE.at lbl]; exact r1
    have oE5 : mE.at bl (Int.toNat 5) = some (.int .i64 P0) := by rw [oE.at lbl]; exact r5
    have L1E := L1.old oE
    have x1 : mE.at bx (Int.toNat 1) = some (.int .i64 E1) := L1E.at_map (show 1 < 10 by decide)
    have x5 : mE.at bx (Int.toNat 5) = some (.int .i64 P1) := L1E.at_map (show 5 < 10 by decide)
    have x8 : mE.at bx (Int.toNat 8) = some (.int .i64 A1) := L1E.at_map (show 8 < 10 by decide)
    have rE8 : mE.at bl (Int.toNat 8) = some (.int .i64 A0) := by rw [oE.at lbl]; exact r8
    have lbx : bx < mD.size := by have := (L1.rows _ rfl (by simp [lineL])).blk; obtain ⟨_, _, _, g, _⟩ := this; exact getM_lt g
    have nx : ¬ bx = tb := by omega
    clear rE
    simp (decide := true) only [lineL, List.map_cons, List.map_nil] at gE
    have lkb : kb < mD.size := at_lt k0
    have nk : ¬ kb = tb := by omega
    have kE0 : mE.at kb (Int.toNat 0) = some (.int .i64 (min E0 P0)) := by rw [oE.at lkb]; exact k0
    have kE1 : mE.at kb (Int.toNat 1) = some (.int .i64 (max E0 P0)) := by rw [oE.at lkb]; exact k1
    have dlt : decide (min E0 P0 < max E0 P0) = true := by simp; omega
    have lyb : yb < mD.size := V1.lt rfl
    obtain ⟨S, v8, v1, v5, v15, v51, b8, b1', b5, b15, b51, hS, hv⟩ : ∃ S v8 v1 v5 v15 v51 : Bool, (A1 == A0) = v8 ∧ (E1 == E0) = v1 ∧ (P1 == P0) = v5 ∧ (E1 == P0) = v15 ∧ (P1 == E0) = v51 ∧ decide (keyL (lineL E0 P0 A0 n0) = keyL (lineL E1 P1 A1 n1)) = S ∧
        (v8 = false ∧ S = false ∨ v8 = true ∧ v1 = true ∧ v5 = true ∧ v15 = false ∧ S = true ∨ v8 = true ∧ v1 = true ∧ v5 = false ∧ v15 = false ∧ S = false ∨ v8 = true ∧ v1 = false ∧ v15 = true ∧ v51 = true ∧ S = true ∨ v8 = true ∧ v1 = false ∧ v15 = true ∧ v51 = false ∧ S = false ∨ v8 = true ∧ v1 = false ∧ v15 = false ∧ S = false) := by
      refine ⟨_, _, _, _, _, _, rfl, rfl, rfl, rfl, rfl, rfl, ?_⟩
      have e := key_eq E0 P0 A0 n0 E1 P1 A1 n1 f0 f1 h5
      simp only [beq_eq_false_iff_ne, beq_iff_eq, decide_eq_true_eq, decide_eq_false_iff_not, e]
      omega
    rcases hv with ⟨rfl, rfl⟩ | ⟨rfl, rfl, rfl, rfl, rfl⟩ | ⟨rfl, rfl, rfl, rfl, rfl⟩ | ⟨rfl, rfl, rfl, rfl, rfl⟩ | ⟨rfl, rfl, rfl, rfl, rfl⟩ | ⟨rfl, rfl, rfl, rfl⟩
    all_goals
      simp (decide := true) (implicitDefEqProofs := false) (maxDischargeDepth := 20) only [go_sem, oE1, oE5, rE8, x1, x5, x8, kE0, kE1, nk, b8, b1', b5, b15, b51, dlt, gE, ltE, ne, nx, ↓reduceIte, true_implies, false_implies]
      refine two_puts (fun mm => CallQ E _ _ mm _) mE tb tg _ _ ltE fun mG hG hk2 hs2 => ?_
      have hG2 : mG.get tb = some (.cells false tg (([1, P0, 1, 10, n0, E0, 1, 1000 * E0, A0, n0] : List Int).map (.int .i64))) := hG
      have LT : SlA mG 1 (some ⟨tb, 0, ts⟩) 10 10 (([1, P0, 1, 10, n0, E0, 1, 1000 * E0, A0, n0] : List Int).map (.int .i64)) := SlA.new hG2 (by simp) (sE.loose _ rfl)
      have V0G : SlA mG 1 (some ⟨kb, 0, ks⟩) 3 3 ((keyL (lineL E0 P0 A0 n0)).map (.int .i64)) := (V0.sl.old oE).keep fun b hb hx => by cases hb; exact hk2 _ nk
      have V1G : SlA mG 1 (some ⟨yb, 0, ys⟩) 3 3 ((keyL (lineL E1 P1 A1 n1)).map (.int .i64)) := (V1.sl.old oE).keep fun b hb hx => by cases hb; exact hk2 yb (show yb ≠ tb by omega)
      refine (Key_at LT).mono ?_
      rintro w mH ⟨q3, rfl, V3, oH⟩
      simp (decide := true) (implicitDefEqProofs := false) (maxDischargeDepth := 20) only [go_sem, ↓reduceIte, true_implies, false_implies]
      refine (SameI V3.sl (V0G.old oH) (by decide) (by decide)).mono ?_
      rintro w mI ⟨rfl, oI⟩
      have dk : decide (keyL [1, P0, 1, 10, n0, E0, 1, 1000 * E0, A0, n0] = keyL (lineL E0 P0 A0 n0)) = true := by
        rw [key_two _ _ _ _ h5]
        unfold keyL
        rw [if_neg (by simp; omega)]
        simp
        omega
      simp (decide := true) (implicitDefEqProofs := false) (maxDischargeDepth := 20) only [go_sem, dk, ↓reduceIte, true_implies, false_implies]
      refine (SameI (V0G.old (oH.trans oI)) (V1G.old (oH.trans oI)) (by decide) (by decide)).mono ?_
      rintro w mJ ⟨rfl, oJ⟩
      simp (decide := true) (implicitDefEqProofs := false) (maxDischargeDepth := 20) only [go_sem, hS, ↓reduceIte, true_implies, false_implies]
end Go.Proofs.Ytjmppooebppecaa.W
