/-
  FlowCursor: its row (printed by wip/dev/genjoins.py).
-/
import Derived.Test.YtgbpgkfmmhlkoaaFlowT
namespace Go.Proofs.Ytgbpgkfmmhlkoaa.W
open Go.Abs
set_option linter.unusedSimpArgs false
set_option linter.unusedVariables false

set_option maxRecDepth 100000 in
set_option maxHeartbeats 4000000 in
theorem Cursor_a {m0 m : Mem} {t : Fr} {a : Option Addr} {n c : Nat} {gs : List Int} (h : SlA m0 1 a n c (gs.map vI)) (hb : ∀ x ∈ gs, -9223372036854775808 ≤ x ∧ x < 9223372036854775808) (o : Old m0 m) (ta : t 0 = .slice a n c) (e5 : t 5 = .slice none 0 0) (e7 : t 6 = .int .i64 0) (e9 : t 7 = .int .i64 0) {K : Post3}
    (hK : ∀ t' m' p, Agree (writes c_sheaflaw10_FlowCursor_7) t t' → t' 5 = .slice p (min n 20) (min n 20) → Vec m0.size m' 1 p (min n 20) ((rises ((gs.take 20).map fun x => withinI x 1 3) (min n 20)).map vI) → Old m0 m' → K .normal t' m') :
    wpM E F_sheaflaw10_FlowCursor 138 none c_sheaflaw10_FlowCursor_7 K t m := by
  have hl : gs.length = n := by have := h.len; simpa using this
  obtain ⟨ds, hds⟩ : ∃ ds, ds = (gs.take 20).map fun x => withinI x 1 3 := ⟨_, rfl⟩
  have ld : ds.length = min n 20 := by rw [hds, List.length_map, List.length_take, hl]; omega
  have bd : ∀ d ∈ ds, 0 ≤ d ∧ d ≤ 3 := by
    intro d hd
    rw [hds] at hd
    obtain ⟨x, _, rfl⟩ := List.mem_map.1 hd
    have := withinI_bd x 1 3 (by omega)
    omega
  rw [← hds] at hK
  refine wpM_cut (fun t' m' => ∃ p, t' 5 = .slice p (min n 20) (min n 20) ∧ Vec m0.size m' 1 p (min n 20) ((rises ds (min n 20)).map vI) ∧ Old m0 m') ?_ fun t' m' hag ⟨p, h1, h2, h3⟩ => hK t' m' p hag h1 h2 h3
  simp only [c_sheaflaw10_FlowCursor_7_at, wpM_block, c_sheaflaw10_FlowCursor_6_at]
  refine wpM_loopA (fun j t' m' => ∃ i p, i ≤ min n 20 ∧ j = min n 20 - i ∧ t' 7 = .int .i64 (i : Nat) ∧ t' 6 = .int .i64 (sumT ds i) ∧ t' 5 = .slice p i i ∧ Vec m0.size m' 1 p i ((rises ds i).map vI) ∧ Old m0 m') (min n 20) ⟨0, none, by omega, rfl, e9, e7, e5, .nil _ _ _, o⟩ ?_
  rintro j t' m' hag ⟨i, p, hi, rfl, f9, f7, f5, v, o'⟩
  have fa := (hag 0 (by decide +kernel)).trans ta
  by_cases hlt : i < min n 20
  · have d1 : decide ((i : Int) < (n : Int)) = true := by simp; omega
    have d2 : decide ((i : Int) < 20) = true := by simp; omega
    have w1 : IntKind.wrap .i64 ((i : Int) + 1) = ((i + 1 : Nat) : Int) := by rw [wrap_i64_id _ (by omega) (by omega)]; omega
    have z0 : (0 : Int) ≤ (i : Int) := by omega
    have z1 : (i : Int) < (n : Int) := by omega
    have S := h.old o'
    obtain ⟨ab, ao, asp, rfl⟩ := S.addr (by omega)
    have r := S.at_map (show i < n by omega)
    have hx := hb (gs[i]'(by omega)) (List.getElem_mem _)
    have hs := sumT_succ ds i (by omega)
    have hdi : ds[i]'(by omega) = withinI (gs[i]'(by omega)) 1 3 := by simp [hds]
    have sb := sumT_bd ds bd (i + 1) (by omega)
    rw [hdi] at hs
    generalize gs[i]'(by omega) = x at *
    have w2 : IntKind.wrap .i64 (sumT ds i + withinI x 1 3) = sumT ds (i + 1) := by rw [← hs, wrap_i64_id _ (by omega) (by omega)]
    simp (decide := true) (implicitDefEqProofs := false) (maxDischargeDepth := 20) only [go_sem, fa, f5, f7, f9, d1, d2, z0, z1, r, Int.toNat_natCast, ↓reduceIte, true_implies, false_implies]
    refine ((Within_ans x 1 3 hx.1 hx.2 (by omega) (by omega) (by omega) (by omega)) m').mono ?_
    rintro w m2 ⟨rfl, o2⟩
    have w2' : IntKind.wrap .i64 (sumT ds i + (1 + x % (3 - 1 + 1))) = sumT ds (i + 1) := w2
    simp (decide := true) (implicitDefEqProofs := false) (maxDischargeDepth := 20) only [go_sem, fa, f5, f7, f9, w2', ↓reduceIte, true_implies, false_implies]
    refine (v.old o2).appendQ rfl (by have := (o'.trans o2).size; omega) rfl (by decide) (by decide +kernel) (by decide +kernel) rfl (by omega) fun m3 b3 s3 v3 k3 hb3 => ?_
    simp (decide := true) (implicitDefEqProofs := false) (maxDischargeDepth := 20) only [go_sem, fa, f5, f7, f9, w1, ↓reduceIte, true_implies, false_implies]
    refine ⟨min n 20 - (i + 1), by omega, i + 1, _, by omega, rfl, rfl, rfl, rfl, ?_, (v.old o2).keepOld k3 (o'.trans o2)⟩
    rw [rises_succ, List.map_append]
    exact v3
  · have hin : i = min n 20 := by omega
    by_cases hn20 : n ≤ 20
    · have d1 : decide ((i : Int) < (n : Int)) = false := by simp; omega
      simp (decide := true) (implicitDefEqProofs := false) (maxDischargeDepth := 20) only [go_sem, fa, f5, f7, f9, d1, ↓reduceIte, true_implies, false_implies]
      rw [hin] at v
      exact ⟨p, by rw [hin], v, o'⟩
    · have d1 : decide ((i : Int) < (n : Int)) = true := by simp; omega
      have d2 : decide ((i : Int) < 20) = false := by simp; omega
      simp (decide := true) (implicitDefEqProofs := false) (maxDischargeDepth := 20) only [go_sem, fa, f5, f7, f9, d1, d2, ↓reduceIte, true_implies, false_implies]
      rw [hin] at v
      exact ⟨p, by rw [hin], v, o'⟩
end Go.Proofs.Ytgbpgkfmmhlkoaa.W
