/-
  Put.
-/
import Derived.Test.YtkbjkmhmkefckaaRowE
import Derived.Test.YtkbjkmhmkefckaaAbs22
namespace Go.Proofs.Ytkbjkmhmkefckaa.W
open Go.Abs
set_option linter.unusedSimpArgs false
set_option linter.unusedVariables false

set_option maxRecDepth 100000 in
/-- The groups of a number behind what is there. -/
theorem Put_groups {m0 m : Mem} {t : Fr} (bs : List Int) (u : Nat) (L : Nat) {a : Option Addr} {k : Nat} (e3 : t 3 = .slice a k k) (e6 : t 6 = .int .u64 u) (v : Vec m0.size m 1 a k (bs.map (.int .u8))) (o : Old m0 m) (hu : u < 18446744073709551616)
    (hL : (bs ++ vint u).length ≤ 1000000) {K : Post3} (hK : ∀ t' m' a' k', Agree (writes c_row_Put_13) t t' → t' 3 = .slice a' k' k' → Vec m0.size m' 1 a' k' ((bs ++ vint u).map (.int .u8)) → Old m0 m' → K .normal t' m') :
    wpM E F_row_Put 48 none c_row_Put_13 K t m := by
  refine wpM_cut (fun t' m' => ∃ a' k', t' 3 = .slice a' k' k' ∧ Vec m0.size m' 1 a' k' ((bs ++ vint u).map (.int .u8)) ∧ Old m0 m') ?_ fun t' m' ha ⟨a', k', h1, h2, h3⟩ => hK t' m' a' k' ha h1 h2 h3
  simp only [c_row_Put_13_at, c_row_Put_12_at, wpM_seq, wpM_block, c_row_Put_11_at]
  refine wpM_loopA (fun j t' m' => ∃ a' k' bs' u', j = u' ∧ t' 3 = .slice a' k' k' ∧ t' 6 = .int .u64 (u' : Nat) ∧ Vec m0.size m' 1 a' k' (bs'.map (.int .u8)) ∧ Old m0 m' ∧ bs' ++ vint u' = bs ++ vint u ∧ u' < 18446744073709551616) u ⟨a, k, bs, u, rfl, e3, e6, v, o, rfl, hu⟩ ?_
  rintro u' t' m' ha ⟨a', k', bs', _, rfl, e3, e6, v, o, hb, hu'⟩
  have hk : k' = bs'.length := by have := v.len; simpa using this.symm
  have hk2 : k' + 1 ≤ 1000000 := by
    have := congrArg List.length hb
    rw [List.length_append] at this
    have := vint_pos u'
    omega
  by_cases hs : u' < 128
  · have d1 : decide ((u' : Int) ≥ 128) = false := by simp; omega
    have w1 : IntKind.wrap .u8 (u' : Int) = u' := by rw [wrap_u8]; omega
    simp (decide := true) (implicitDefEqProofs := false) (maxDischargeDepth := 20) only [go_sem, ↓reduceIte, e3, e6, d1, w1, true_implies, false_implies]
    refine v.append1 (o.size) rfl (by omega) (by decide +kernel) (by decide +kernel) rfl (by omega) fun m2 a2 v2 k2 => ?_
    simp (decide := true) (implicitDefEqProofs := false) (maxDischargeDepth := 20) only [go_sem, ↓reduceIte, e3, e6, d1, w1, true_implies, false_implies]
    refine ⟨a2, k' + 1, rfl, ?_, v.keepOld k2 o⟩
    rw [vint_small u' hs] at hb
    rw [← hb, List.map_append]
    exact v2
  · have d1 : decide ((u' : Int) ≥ 128) = true := by simp; omega
    have w0 : IntKind.wrap .u64 (Int.tmod (u' : Int) 128 + 128) = ((u' % 128 + 128 : Nat) : Int) := by rw [Int.tmod_eq_emod_of_nonneg (by omega), wrap_u64_id _ (by omega) (by omega)]; omega
    have w1 : IntKind.wrap .u8 ((u' % 128 + 128 : Nat) : Int) = ((u' % 128 + 128 : Nat) : Int) := by rw [wrap_u8]; omega
    have w2 : shrI .u64 (u' : Int) 7 = ((u' / 128 : Nat) : Int) := by
      rw [show (7 : Int) = ((7 : Nat) : Int) from rfl, shrI_eq _ _ _ (by decide)]; rfl
    simp (decide := true) (implicitDefEqProofs := false) (maxDischargeDepth := 20) only [go_sem, ↓reduceIte, e3, e6, d1, w0, w1, w2, true_implies, false_implies]
    refine v.append1 (o.size) rfl (by omega) (by decide +kernel) (by decide +kernel) rfl (by omega) fun m2 a2 v2 k2 => ?_
    simp (decide := true) (implicitDefEqProofs := false) (maxDischargeDepth := 20) only [go_sem, ↓reduceIte, e3, e6, d1, w2, true_implies, false_implies]
    refine ⟨u' / 128, by omega, a2, k' + 1, bs' ++ [((u' % 128 + 128 : Nat) : Int)], u' / 128, rfl, rfl, rfl, ?_, v.keepOld k2 o, ?_, by omega⟩
    · rw [List.map_append]
      exact v2
    · rw [vint_more u' hs] at hb
      rw [← hb, List.append_assoc]
      rfl

set_option maxRecDepth 100000 in
theorem Put_at {m : Mem} {a : Option Addr} {n c : Nat} {xs : List Int} (h : SlA m 1 a n c (xs.map (.int .i64))) (hx : Ok64 xs) :
    CallQ E F_row_Put [.slice a n c].toArray m fun w m' => ∃ a' k, w = .slice a' k k ∧ Vec m.size m' 1 a' k ((put xs).map (.int .u8)) ∧ Old m m' ∧ (a' = none ∨ put xs ≠ []) := by
  refine .enter fn_row_Put (by simp) ?_
  have hl : xs.length = n := by have := h.len; simpa using this
  by_cases hn : n ≤ 10
  · have d0 : decide ((n : Int) > 10) = false := by simp; omega
    simp (decide := true) (implicitDefEqProofs := false) (maxDischargeDepth := 20) only [go_sem, ↓reduceIte, d0, true_implies, false_implies]
    simp only [c_row_Put_22_at, wpM_block, c_row_Put_21_at]
    have v0 : Vec m.size (m.push (.cells false true [.int .u8 0])) 1 (some ⟨m.size, 0, none⟩) 1 [.int .u8 0] := .built (Nat.le_refl _) rfl
    refine wpM_loopA (fun j t' m' => ∃ i a' k', i ≤ n ∧ j = n - i ∧ t' 13 = .int .i64 (i : Nat) ∧ t' 3 = .slice a' k' k' ∧ Vec m.size m' 1 a' k' ((0 :: putB (xs.take i)).map (.int .u8)) ∧ Old m m') n ⟨0, _, 1, by omega, rfl, by simp (decide := true) only [go_sem, ↓reduceIte]; try rfl, by simp (decide := true) only [go_sem, ↓reduceIte]; try rfl, v0, .push (.refl m) _⟩ ?_
    rintro j t' m' ha ⟨i, a', k', hi, rfl, e13, e3, v, o⟩
    have a11 := ha 11 (by decide +kernel)
    have a12 := ha 12 (by decide +kernel)
    simp (decide := true) only [go_sem, ↓reduceIte] at a11 a12
    have hk : k' = 1 + (putB (xs.take i)).length := by have := v.len; simp at this; omega
    have ot : Ok64 (xs.take i) := fun x hx' => hx x (List.mem_of_mem_take hx')
    have hpl := putB_len (xs.take i) ot
    rw [List.length_take] at hpl
    by_cases hlt : i < n
    · have d1 : decide ((i : Int) < (n : Int)) = true := by simp; omega
      have w1 : IntKind.wrap .i64 ((i : Int) + 1) = ((i + 1 : Nat) : Int) := by rw [wrap_i64_id _ (by omega) (by omega)]; omega
      have z0 : (0 : Int) ≤ (i : Int) := by omega
      have z1 : (i : Int) < (n : Int) := by omega
      obtain ⟨ab, ao, asp, rfl⟩ := h.addr (by omega)
      have r := (h.old o).at_map hlt
      have hxi := hx (xs[i]'(by omega)) (List.getElem_mem _)
      have ht : xs.take (i + 1) = xs.take i ++ [xs[i]'(by omega)] := List.take_succ_eq_append_getElem (by omega)
      generalize xs[i]'(by omega) = x at *
      have hzl := zig_lt x hxi.1 hxi.2
      have vl := vint_len10 (zig x) hzl
      have fin : ∀ (tt : Fr) (m2 : Mem) (a2 : Option Addr) (k2 : Nat), tt 13 = .int .i64 (i : Nat) → tt 3 = .slice a2 k2 k2 → Vec m.size m2 1 a2 k2 ((0 :: putB (xs.take i) ++ vint (zig x)).map (.int .u8)) → Old m m2 →
          ∃ j, j < n - i ∧ ∃ i' a' k', i' ≤ n ∧ j = n - i' ∧ (upd (upd tt 40 (.int .i64 ((i + 1 : Nat) : Int))) 13 (.int .i64 ((i + 1 : Nat) : Int))) 13 = .int .i64 (i' : Nat) ∧ (upd (upd tt 40 (.int .i64 ((i + 1 : Nat) : Int))) 13 (.int .i64 ((i + 1 : Nat) : Int))) 3 = .slice a' k' k' ∧ Vec m.size m2 1 a' k' ((0 :: putB (xs.take i')).map (.int .u8)) ∧ Old m m2 := by
        intro tt m2 a2 k2 q1 q2 q3 q4
        refine ⟨n - (i + 1), by omega, i + 1, a2, k2, by omega, rfl, rfl, ?_, ?_, q4⟩
        · simp (decide := true) only [go_sem, ↓reduceIte, q2]
        · rw [ht, putB_append]
          simpa [putB] using q3
      by_cases hneg : x < 0
      · have d2 : decide (x < 0) = true := by simpa using hneg
        have w2 : shlI .u64 (IntKind.wrap .u64 x) 1 = ((18446744073709551616 + 2 * x).toNat : Int) := by
          unfold shlI
          rw [show min (Int.toNat 1) (IntKind.bits .u64) = 1 by decide, wrap_u64, wrap_u64]; omega
        have w3 := not_u64 (18446744073709551616 + 2 * x).toNat (by omega)
        have hz : zig x = (-2 * x - 1).toNat := by unfold zig; rw [if_pos hneg]
        have w4 : 18446744073709551615 - (((18446744073709551616 + 2 * x).toNat : Nat) : Int) = ((zig x : Nat) : Int) := by rw [hz]; omega
        rw [w4] at w3
        simp (decide := true) (implicitDefEqProofs := false) (maxDischargeDepth := 20) only [go_sem, ↓reduceIte, a11, a12, e13, e3, d1, d2, w2, w3, r, z0, z1, Int.toNat_natCast, true_implies, false_implies]
        refine Put_groups (m0 := m) (0 :: putB (xs.take i)) (zig x) 0 (a := a') (k := k') (by simp (decide := true) only [go_sem, ↓reduceIte, e3]) (by simp (decide := true) only [go_sem, ↓reduceIte, w3]) v o hzl (by simp; omega) fun t2 m2 a2 k2 hag q1 q2 q3 => ?_
        have b13 := hag 13 (by decide +kernel)
        simp (decide := true) only [go_sem, ↓reduceIte, e13] at b13
        simp (decide := true) (implicitDefEqProofs := false) (maxDischargeDepth := 20) only [go_sem, ↓reduceIte, b13, w1, true_implies, false_implies]
        exact fin t2 m2 a2 k2 b13 q1 q2 q3
      · have d2 : decide (x < 0) = false := by simpa using hneg
        have w2 : shlI .u64 (IntKind.wrap .u64 x) 1 = ((zig x : Nat) : Int) := by
          unfold shlI zig
          rw [if_neg hneg, show min (Int.toNat 1) (IntKind.bits .u64) = 1 by decide, wrap_u64, wrap_u64]; omega
        simp (decide := true) (implicitDefEqProofs := false) (maxDischargeDepth := 20) only [go_sem, ↓reduceIte, a11, a12, e13, e3, d1, d2, w2, r, z0, z1, Int.toNat_natCast, true_implies, false_implies]
        refine Put_groups (m0 := m) (0 :: putB (xs.take i)) (zig x) 0 (a := a') (k := k') (by simp (decide := true) only [go_sem, ↓reduceIte, e3]) (by simp (decide := true) only [go_sem, ↓reduceIte]) v o hzl (by simp; omega) fun t2 m2 a2 k2 hag q1 q2 q3 => ?_
        have b13 := hag 13 (by decide +kernel)
        simp (decide := true) only [go_sem, ↓reduceIte, e13] at b13
        simp (decide := true) (implicitDefEqProofs := false) (maxDischargeDepth := 20) only [go_sem, ↓reduceIte, b13, w1, true_implies, false_implies]
        exact fin t2 m2 a2 k2 b13 q1 q2 q3
    · have d1 : decide ((i : Int) < (n : Int)) = false := by simp; omega
      have hin : i = n := by omega
      rw [hin, ← hl, List.take_length] at v hpl hk
      have e : put xs = ((putB xs).length : Int) :: putB xs := put_head xs (by omega)
      obtain ⟨ab, ao, asp, rfl⟩ := v.sl.addr (by omega)
      obtain ⟨_, rfl, tg, hg⟩ := v.blk _ rfl
      simp only at hg
      have w1 : IntKind.wrap .u8 (IntKind.wrap .i64 ((k' : Int) - 1)) = ((putB xs).length : Int) := by
        rw [wrap_i64_id _ (by omega) (by omega), wrap_u8]; omega
      have z1 : (0 : Int) < (k' : Int) := by omega
      have lx : Int.toNat 0 + 1 ≤ (putB xs).length + 1 := by simp
      simp (decide := true) (implicitDefEqProofs := false) (maxDischargeDepth := 20) only [go_sem, ↓reduceIte, a11, a12, e13, e3, d1, w1, z1, hg, lx, List.length_map, List.length_cons, true_implies, false_implies]
      refine ⟨_, _, rfl, ?_, o.put _ _ ?_, .inr (by rw [e]; simp)⟩
      · have := v.set (tg := tg) 0 (.int .u8 ((putB xs).length : Int))
        rw [e]
        exact this
      · exact (v.blk _ rfl).1
  · have d0 : decide ((n : Int) > 10) = true := by simp; omega
    have e : put xs = [] := by unfold put; rw [if_neg (by omega)]
    simp (decide := true) (implicitDefEqProofs := false) (maxDischargeDepth := 20) only [go_sem, ↓reduceIte, d0, e, true_implies, false_implies]
    exact ⟨none, 0, rfl, Vec.nil _ _ _, .inl rfl⟩
end Go.Proofs.Ytkbjkmhmkefckaa.W
