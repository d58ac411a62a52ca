/-
  RunsTexts.
-/
import Derived.Test.YthlcbacmbcmgfaaRSH
import Derived.Test.YthlcbacmbcmgfaaRSV
namespace Go.Proofs.Ythlcbacmbcmgfaa.W
open Go.Abs
set_option linter.unusedSimpArgs false
set_option linter.unusedVariables false

set_option maxRecDepth 100000 in
set_option maxHeartbeats 4000000 in
theorem RunsTexts_list {m : Mem} {t : Fr} {k : Nat} {down : Bool} (hk : k ≤ 40) (t2 : t 2 = .bool down) (t7 : t 7 = .int .i64 k) (t9 : t 9 = .slice none 0 0) (t10 : t 10 = .int .i64 0) {K : Post3}
    (hK : ∀ t' m' a, Agree (writes c_sheaflaw11_RunsTexts_10) t t' → t' 9 = .slice a k k → Vec m.size m' 1 a k ((txts k down).map sv) → Old m m' → K .normal t' m') :
    wpM E F_sheaflaw11_RunsTexts 133 none c_sheaflaw11_RunsTexts_10 K t m := by
  refine wpM_cut (fun t' m' => ∃ a, t' 9 = .slice a k k ∧ Vec m.size m' 1 a k ((txts k down).map sv) ∧ Old m m') ?_ fun t' m' ha ⟨a, h1, h2, h3⟩ => hK t' m' a ha h1 h2 h3
  simp only [c_sheaflaw11_RunsTexts_10_at, wpM_block, c_sheaflaw11_RunsTexts_9_at]
  refine wpM_loopA (fun j t' m' => ∃ i a, j = k - i ∧ i ≤ k ∧ t' 10 = .int .i64 (i : Nat) ∧ t' 9 = .slice a i i ∧ Vec m.size m' 1 a i (((txts k down).take i).map sv) ∧ Old m m') k ⟨0, none, by omega, by omega, t10, t9, .nil _ _ _, .refl m⟩ ?_
  rintro j t' m1 ha ⟨i, a, rfl, hi, e10, e9, V, o⟩
  have a2 := (ha 2 (by decide +kernel)).trans t2
  have a7 := (ha 7 (by decide +kernel)).trans t7
  by_cases hlt : i < k
  · have d1 : decide ((i : Int) < (k : Int)) = true := by simp; omega
    have w1 : IntKind.wrap .i64 ((i : Int) + 1) = ((i + 1 : Nat) : Int) := by rw [wrap_i64_id _ (by omega) (by omega)]; omega
    have w2 : IntKind.wrap .i64 ((k : Int) - (i : Int)) = (k : Int) - (i : Int) := wrap_i64_id _ (by omega) (by omega)
    obtain ⟨v, hv⟩ : ∃ v, v = txt k down i := ⟨_, rfl⟩
    have hv2 : 65 ≤ v ∧ v ≤ 105 := by rw [hv]; unfold txt; split <;> omega
    have w4 : IntKind.wrap .i64 v = v := wrap_i64_id _ (by omega) (by omega)
    have w5 : IntKind.wrap .u8 v = v := by rw [wrap_u8]; omega
    have eb : (some [Value.int IntKind.u8 v]).bind bytesOf = some [UInt8.ofNat v.toNat] := by
      have := bytesOf_map [v]
      exact this
    have es : Value.string ⟨[UInt8.ofNat v.toNat].toArray⟩ = sv v := by
      unfold sv bs
      rw [if_neg (by omega), show v % 256 = v by omega]
    have take := txts_take down hlt
    rw [← hv] at take
    have el : ((txts k down).take (i + 1)).map sv = ((txts k down).take i).map sv ++ [sv v] := by rw [take, List.map_append]; rfl
    cases down with
    | true =>
      have hv3 : (65 : Int) + ((k : Int) - (i : Int)) = v := by rw [hv]; rfl
      simp (decide := true) (implicitDefEqProofs := false) (maxDischargeDepth := 20) only [go_sem, ↓reduceIte, a2, a7, e9, e10, d1, w1, w2, hv3, w4, w5, eb, es, Option.map_some, true_implies, false_implies]
      have oX : Old m1 (m1.push (.cells false true [.int .u8 v])) := .push (.refl _) _
      have V1 := V.old oX
      refine V1.appendQ (ys := [sv v]) (by simp) (by have := o.size; have := oX.size; omega) rfl (by decide) (by decide +kernel) (by decide +kernel) rfl (by omega) fun m2 b2 s2 v2 k2 hb2 => ?_
      rw [← el] at v2
      simp (decide := true) (implicitDefEqProofs := false) (maxDischargeDepth := 20) only [go_sem, ↓reduceIte, a2, a7, e9, e10, w1, true_implies, false_implies]
      exact ⟨k - (i + 1), by omega, i + 1, some ⟨b2, 0, s2⟩, rfl, by omega, rfl, rfl, v2, V1.keepOld k2 (o.trans oX)⟩
    | false =>
      have hv3 : (65 : Int) + (i : Int) = v := by rw [hv]; rfl
      simp (decide := true) (implicitDefEqProofs := false) (maxDischargeDepth := 20) only [go_sem, ↓reduceIte, a2, a7, e9, e10, d1, w1, w2, hv3, w4, w5, eb, es, Option.map_some, true_implies, false_implies]
      have oX : Old m1 (m1.push (.cells false true [.int .u8 v])) := .push (.refl _) _
      have V1 := V.old oX
      refine V1.appendQ (ys := [sv v]) (by simp) (by have := o.size; have := oX.size; omega) rfl (by decide) (by decide +kernel) (by decide +kernel) rfl (by omega) fun m2 b2 s2 v2 k2 hb2 => ?_
      rw [← el] at v2
      simp (decide := true) (implicitDefEqProofs := false) (maxDischargeDepth := 20) only [go_sem, ↓reduceIte, a2, a7, e9, e10, w1, true_implies, false_implies]
      exact ⟨k - (i + 1), by omega, i + 1, some ⟨b2, 0, s2⟩, rfl, by omega, rfl, rfl, v2, V1.keepOld k2 (o.trans oX)⟩
  · have d1 : decide ((i : Int) < (k : Int)) = false := by simp; omega
    have : i = k := by omega
    subst this
    simp (decide := true) (implicitDefEqProofs := false) (maxDischargeDepth := 20) only [go_sem, ↓reduceIte, a7, e10, d1, true_implies, false_implies]
    refine ⟨a, e9, ?_, o⟩
    rw [List.take_of_length_le (by rw [txts_len]; omega)] at V
    exact V
end Go.Proofs.Ythlcbacmbcmgfaa.W
