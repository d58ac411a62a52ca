/-
  CheckEdges, the law.
-/
import Derived.Test.YtgbpgkfmmhlkoaaCheckF
namespace Go.Proofs.Ytgbpgkfmmhlkoaa.W
open Go.Abs
set_option linter.unusedSimpArgs false
set_option linter.unusedVariables false

@[go_sem] theorem zeroRow_8 (v : Value) : zeroRow [v] 8 = [v, v, v, v, v, v, v, v] := rfl
@[go_sem] theorem zeroRow_6 (v : Value) : zeroRow [v] 6 = [v, v, v, v, v, v] := rfl

theorem goodL_five (v : Int) (h : 0 ≤ v) (xs : List Int) : goodL (5 + v) xs = false := by
  refine goodL_none _ _ ?_
  unfold spansL
  rw [if_neg (by omega), if_neg (by omega), if_neg (by omega), if_neg (by omega)]

set_option maxRecDepth 100000 in
set_option maxHeartbeats 4000000 in
theorem Edges_tail (t : Fr) (m : Mem) (name : Int) (B B' : Nat) (p : Nat × List Int) (rs rs' : List (Nat × List Int)) (hr : Rws m B (p :: rs)) (hr' : Rws m B' rs') (hn : (p :: rs).length ≤ 100) (hn' : rs'.length ≤ 100) (hg : ∀ q ∈ p :: rs, goodL name q.2 = true) (hg' : ∀ q ∈ rs', goodL name q.2 = false)
    (by_ v : Int) (i3 : Ans E F_sheafbook_Within [.int .i64 by_, .int .i64 0, .int .i64 99] (.int .i64 v)) (v0 : 0 ≤ v ∧ v ≤ 99)
    (t8 : t 8 = .int .i64 name) (t6 : t 6 = .slice (some ⟨B, 0, none⟩) (p :: rs).length (p :: rs).length) (t7 : t 7 = .slice (some ⟨B', 0, none⟩) rs'.length rs'.length) (t1 : t 1 = .int .i64 by_)
    (t108 : t 108 = .slice (some ⟨B, 0, none⟩) (p :: rs).length (p :: rs).length) (t109 : t 109 = .int .i64 ((p :: rs).length : Nat)) (t110 : t 110 = .int .i64 0) :
    wpM E 6 140 none c_sheaflaw16_CheckEdges_24 (seqK (wpM E 6 140 none c_sheaflaw16_CheckEdges_39 (retK (ResK E [ResultVar.tmp 4] fun v x => v = Value.bool true))) (retK (ResK E [ResultVar.tmp 4] fun v x => v = Value.bool true))) t m := by
  refine Edges_loop1 t m name B (p :: rs) hr hn hg t8 t108 t109 t110 _ ?_
  intro t' m' ag o1
  have a1 := (ag 1 (by decide +kernel)).trans t1
  have a6 := (ag 6 (by decide +kernel)).trans t6
  have a7 := (ag 7 (by decide +kernel)).trans t7
  have a8 := (ag 8 (by decide +kernel)).trans t8
  simp (decide := true) (implicitDefEqProofs := false) (maxDischargeDepth := 20) only [go_sem, ↓reduceIte, a1, a6, a7, a8, true_implies, false_implies]
  refine Edges_loop2 _ m' name B' rs' (hr'.old o1) hn' hg' (by simp (decide := true) only [go_sem, ↓reduceIte, a8]) (by simp (decide := true) only [go_sem, ↓reduceIte, a8]) (by simp (decide := true) only [go_sem, ↓reduceIte, a8]) (by simp (decide := true) only [go_sem, ↓reduceIte, a8]) _ ?_
  intro t2 m2 ag2 o2
  have b1 := ag2 1 (by decide +kernel)
  have b6 := ag2 6 (by decide +kernel)
  simp (decide := true) only [go_sem, ↓reduceIte, a1, a6] at b1 b6
  have h2 := (hr.old o1).old o2
  have r0 : m2.at B 0 = some (rowCell p) := by
    have := h2.sl.at_map (show 0 < (p :: rs).length by simp)
    simpa using this
  unfold rowCell at r0
  have r1 : m2.at B (Int.toNat 0) = some (.slice (some ⟨p.1, 0, none⟩) p.2.length p.2.length) := r0
  have g := h2.get 0 (by simp)
  have lB := h2.out.lt
  have z1 : (0 : Int) < ((rs.length + 1 : Nat) : Int) := by omega
  have e8 : IntKind.wrap .i64 (5 + v) = 5 + v := wrap_i64_id _ (by omega) (by omega)
  have g' : SlA m2 1 (some ⟨p.1, 0, none⟩) p.2.length p.2.length (p.2.map (.int .i64)) := g
  have aM := fun (g : FuncId) (args : Array Value) (ids : List Nat) (mm : Mem) (x : Option Addr) (n c : Nat) (l : List Int) (h : SlA mm 1 x n c (l.map (Value.int .i64))) => h.ansM (E := E) (g := g) (args := args) (ids := ids)
  have R := fun (mm : Mem) (h : SlA mm 1 (some ⟨p.1, 0, none⟩) p.2.length p.2.length (p.2.map (.int .i64))) (K : Value → Mem → Prop) => callQ_eq (CGood_at (5 + v) h) K
  rw [goodL_five v v0.1] at R
  simp (decide := true) (implicitDefEqProofs := false) (maxDischargeDepth := 20) only [go_sem, ↓reduceIte, b1, b6, i3.eq, r0, r1, lB, z1, e8, g', aM, SlA.gm, R, Bool.not_false, true_implies, false_implies]

set_option maxRecDepth 100000 in
set_option maxHeartbeats 4000000 in
theorem CheckEdges_law (m : Mem) (hro : ∀ i c, m.get i = some c → c.writable = false) (what : Int) (h0 : -9223372036854775808 ≤ what) (h0' : what < 9223372036854775808) (by_ : Int) (h1 : -9223372036854775808 ≤ by_) (h1' : by_ < 9223372036854775808) :
    CallQ E F_sheaflaw16_CheckEdges [.int .i64 what, .int .i64 by_].toArray m fun v _ => v = .bool true := by
  have i1 := Within_ans by_ 0 1099511627776 h1 h1' (by omega) (by omega) (by omega) (by omega)
  have i2 := Within_ans what 0 3 h0 h0' (by omega) (by omega) (by omega) (by omega)
  have i3 := Within_ans by_ 0 99 h1 h1' (by omega) (by omega) (by omega) (by omega)
  obtain ⟨d, hd⟩ : ∃ d, d = 0 + by_ % (1099511627776 - 0 + 1) := ⟨_, rfl⟩
  obtain ⟨w, hw⟩ : ∃ w, w = 0 + what % (3 - 0 + 1) := ⟨_, rfl⟩
  obtain ⟨v, hv⟩ : ∃ v, v = 0 + by_ % (99 - 0 + 1) := ⟨_, rfl⟩
  rw [← hd] at i1
  rw [← hw] at i2
  rw [← hv] at i3
  have d0 : 0 ≤ d ∧ d ≤ 1099511627776 := by omega
  have w0 : w = 0 ∨ w = 1 ∨ w = 2 ∨ w = 3 := by omega
  have v0 : 0 ≤ v ∧ v ≤ 99 := by omega
  clear hd hw hv
  obtain ⟨N, hN⟩ : ∃ N, N = 1 + d := ⟨_, rfl⟩
  have e1 : IntKind.wrap .i64 (1 + d) = N := by rw [hN]; exact wrap_i64_id _ (by omega) (by omega)
  have e2 : IntKind.wrap .i64 (1 - N) = 1 - N := wrap_i64_id _ (by omega) (by omega)
  have e3 : IntKind.wrap .i64 (0 - N) = 0 - N := wrap_i64_id _ (by omega) (by omega)
  have e4 : IntKind.wrap .i64 (10000 + N) = 10000 + N := wrap_i64_id _ (by omega) (by omega)
  have e5 : IntKind.wrap .i64 (8999 + N) = 8999 + N := wrap_i64_id _ (by omega) (by omega)
  have e6 : IntKind.wrap .i64 (1073741824 + N) = 1073741824 + N := wrap_i64_id _ (by omega) (by omega)
  have e7 : IntKind.wrap .i64 (1099511627776 + N) = 1099511627776 + N := wrap_i64_id _ (by omega) (by omega)
  have e8 : IntKind.wrap .i64 (5 + v) = 5 + v := wrap_i64_id _ (by omega) (by omega)
  refine .enter fn_sheaflaw16_CheckEdges (by simp) ?_
  have N0 : 1 ≤ N ∧ N ≤ 1099511627777 := by omega
  rcases w0 with rfl | rfl | rfl | rfl
  · simp (decide := true) (implicitDefEqProofs := false) (maxDischargeDepth := 20) only [go_sem, ↓reduceIte, i1.eq, i2.eq, e1, e2, e3, e4, e5, e6, e7, true_implies, false_implies]
    generalize ansM E F_sheafbook_Within _ [] m = M0
    refine Edges_tail _ _ 2 (M0.size + 2) (M0.size + 9) (M0.size, [1, 1, 0]) [(M0.size + 1, [1152921504606846976, 1152921504606846976, 10000])] [(M0.size + 3, [1 - N, 1, 0]), (M0.size + 4, [1, 1 - N, 0]), (M0.size + 5, [1, 1, 0 - N]), (M0.size + 6, [1, 1, 10000 + N]), (M0.size + 7, [1, 1]), (M0.size + 8, [1, 1, 0, 0])] (Rws.old ⟨⟨true, ?_⟩, ?_⟩ (.ansM (.refl _))) (Rws.old ⟨⟨true, ?_⟩, ?_⟩ (.ansM (.refl _))) (by simp) (by simp) ?_ ?_ by_ v i3 v0 (by simp (decide := true) only [go_sem, ↓reduceIte]; try rfl) (by simp (decide := true) only [go_sem, ↓reduceIte]; try rfl) (by simp (decide := true) only [go_sem, ↓reduceIte]; try rfl) (by simp (decide := true) only [go_sem, ↓reduceIte]; try rfl) (by simp (decide := true) only [go_sem, ↓reduceIte]; try rfl) (by simp (decide := true) only [go_sem, ↓reduceIte]; try rfl) (by simp (decide := true) only [go_sem, ↓reduceIte]; try rfl)
    · simp [getM_push, size_push, rowCell, Nat.add_assoc, zeroRow_8, zeroRow_6]
    · intro q hq
      simp only [List.mem_cons, List.not_mem_nil, or_false] at hq
      rcases hq with rfl | rfl <;> exact ⟨true, by simp [getM_push, size_push, Nat.add_assoc, zeroRow_8, zeroRow_6]⟩
    · simp [getM_push, size_push, rowCell, Nat.add_assoc, zeroRow_8, zeroRow_6]
    · intro q hq
      simp only [List.mem_cons, List.not_mem_nil, or_false] at hq
      rcases hq with rfl | rfl | rfl | rfl | rfl | rfl <;> exact ⟨true, by simp [getM_push, size_push, Nat.add_assoc, zeroRow_8, zeroRow_6]⟩
    · intro q hq
      simp only [List.mem_cons, List.not_mem_nil, or_false] at hq
      rcases hq with rfl | rfl <;> first | decide | (simp [goodL, spansL, inside]; done) | (simp [goodL, spansL, inside]; omega)
    · intro q hq
      simp only [List.mem_cons, List.not_mem_nil, or_false] at hq
      rcases hq with rfl | rfl | rfl | rfl | rfl | rfl <;> first | decide | (simp [goodL, spansL, inside]; done) | (simp [goodL, spansL, inside]; omega)
  · simp (decide := true) (implicitDefEqProofs := false) (maxDischargeDepth := 20) only [go_sem, ↓reduceIte, i1.eq, i2.eq, e1, e2, e3, e4, e5, e6, e7, true_implies, false_implies]
    generalize ansM E F_sheafbook_Within _ [] m = M0
    generalize ansM E F_sheafbook_Within _ [] _ = M2
    refine Edges_tail _ _ 3 (M2.size + 2) (M2.size + 8) (M2.size, [1, 1]) [(M2.size + 1, [1152921504606846976, 8999])] [(M2.size + 3, [1 - N, 1]), (M2.size + 4, [1, 1 - N]), (M2.size + 5, [1, 8999 + N]), (M2.size + 6, [1]), (M2.size + 7, [1, 1, 1])] (⟨⟨true, ?_⟩, ?_⟩) (⟨⟨true, ?_⟩, ?_⟩) (by simp) (by simp) ?_ ?_ by_ v i3 v0 (by simp (decide := true) only [go_sem, ↓reduceIte]; try rfl) (by simp (decide := true) only [go_sem, ↓reduceIte]; try rfl) (by simp (decide := true) only [go_sem, ↓reduceIte]; try rfl) (by simp (decide := true) only [go_sem, ↓reduceIte]; try rfl) (by simp (decide := true) only [go_sem, ↓reduceIte]; try rfl) (by simp (decide := true) only [go_sem, ↓reduceIte]; try rfl) (by simp (decide := true) only [go_sem, ↓reduceIte]; try rfl)
    · simp [getM_push, size_push, rowCell, Nat.add_assoc, zeroRow_8, zeroRow_6]
    · intro q hq
      simp only [List.mem_cons, List.not_mem_nil, or_false] at hq
      rcases hq with rfl | rfl <;> exact ⟨true, by simp [getM_push, size_push, Nat.add_assoc, zeroRow_8, zeroRow_6]⟩
    · simp [getM_push, size_push, rowCell, Nat.add_assoc, zeroRow_8, zeroRow_6]
    · intro q hq
      simp only [List.mem_cons, List.not_mem_nil, or_false] at hq
      rcases hq with rfl | rfl | rfl | rfl | rfl <;> exact ⟨true, by simp [getM_push, size_push, Nat.add_assoc, zeroRow_8, zeroRow_6]⟩
    · intro q hq
      simp only [List.mem_cons, List.not_mem_nil, or_false] at hq
      rcases hq with rfl | rfl <;> first | decide | (simp [goodL, spansL, inside]; done) | (simp [goodL, spansL, inside]; omega)
    · intro q hq
      simp only [List.mem_cons, List.not_mem_nil, or_false] at hq
      rcases hq with rfl | rfl | rfl | rfl | rfl <;> first | decide | (simp [goodL, spansL, inside]; done) | (simp [goodL, spansL, inside]; omega)
  · simp (decide := true) (implicitDefEqProofs := false) (maxDischargeDepth := 20) only [go_sem, ↓reduceIte, i1.eq, i2.eq, e1, e2, e3, e4, e5, e6, e7, true_implies, false_implies]
    generalize ansM E F_sheafbook_Within _ [] m = M0
    generalize ansM E F_sheafbook_Within _ [] _ = M2
    refine Edges_tail _ _ 4 (M2.size + 2) (M2.size + 11) (M2.size, [1, 0, 1, 1]) [(M2.size + 1, [1152921504606846976, 1073741824, 1099511627776, 1099511627776])] [(M2.size + 3, [1 - N, 0, 1, 1]), (M2.size + 4, [1, 0 - N, 1, 1]), (M2.size + 5, [1, 1073741824 + N, 1, 1]), (M2.size + 6, [1, 0, 1 - N, 1]), (M2.size + 7, [1, 0, 1, 1 - N]), (M2.size + 8, [1, 0, 1099511627776 + N, 1]), (M2.size + 9, [1, 0, 1, 1099511627776 + N]), (M2.size + 10, [1, 0, 1])] (⟨⟨true, ?_⟩, ?_⟩) (⟨⟨true, ?_⟩, ?_⟩) (by simp) (by simp) ?_ ?_ by_ v i3 v0 (by simp (decide := true) only [go_sem, ↓reduceIte]; try rfl) (by simp (decide := true) only [go_sem, ↓reduceIte]; try rfl) (by simp (decide := true) only [go_sem, ↓reduceIte]; try rfl) (by simp (decide := true) only [go_sem, ↓reduceIte]; try rfl) (by simp (decide := true) only [go_sem, ↓reduceIte]; try rfl) (by simp (decide := true) only [go_sem, ↓reduceIte]; try rfl) (by simp (decide := true) only [go_sem, ↓reduceIte]; try rfl)
    · simp [getM_push, size_push, rowCell, Nat.add_assoc, zeroRow_8, zeroRow_6]
    · intro q hq
      simp only [List.mem_cons, List.not_mem_nil, or_false] at hq
      rcases hq with rfl | rfl <;> exact ⟨true, by simp [getM_push, size_push, Nat.add_assoc, zeroRow_8, zeroRow_6]⟩
    · simp [getM_push, size_push, rowCell, Nat.add_assoc, zeroRow_8, zeroRow_6]
    · intro q hq
      simp only [List.mem_cons, List.not_mem_nil, or_false] at hq
      rcases hq with rfl | rfl | rfl | rfl | rfl | rfl | rfl | rfl <;> exact ⟨true, by simp [getM_push, size_push, Nat.add_assoc, zeroRow_8, zeroRow_6]⟩
    · intro q hq
      simp only [List.mem_cons, List.not_mem_nil, or_false] at hq
      rcases hq with rfl | rfl <;> first | decide | (simp [goodL, spansL, inside]; done) | (simp [goodL, spansL, inside]; omega)
    · intro q hq
      simp only [List.mem_cons, List.not_mem_nil, or_false] at hq
      rcases hq with rfl | rfl | rfl | rfl | rfl | rfl | rfl | rfl <;> first | decide | (simp [goodL, spansL, inside]; done) | (simp [goodL, spansL, inside]; omega)
  · simp (decide := true) (implicitDefEqProofs := false) (maxDischargeDepth := 20) only [go_sem, ↓reduceIte, i1.eq, i2.eq, e1, e2, e3, e4, e5, e6, e7, true_implies, false_implies]
    generalize ansM E F_sheafbook_Within _ [] m = M0
    generalize ansM E F_sheafbook_Within _ [] _ = M2
    refine Edges_tail _ _ 1 (M2.size + 3) (M2.size + 12) (M2.size, [1, 1, 1, 0, -9223372036854775807, 0]) [(M2.size + 1, [1152921504606846976, 1152921504606846976, 1152921504606846976, 1152921504606846976, 9223372036854775807, 1]), (M2.size + 2, [1, 1, 1, 0, 0, 2])] [(M2.size + 4, [1 - N, 1, 1, 0, 0, 0]), (M2.size + 5, [1, 1 - N, 1, 0, 0, 0]), (M2.size + 6, [1, 1, 1 - N, 0, 0, 0]), (M2.size + 7, [1, 1, 1, 0 - N, 0, 0]), (M2.size + 8, [1, 1, 1, 0, -9223372036854775808, 0]), (M2.size + 9, [1, 1, 1, 0, 0, 0 - N]), (M2.size + 10, [1, N, 1, 0, 0, N]), (M2.size + 11, [1, 1, 1, 0, 0])] (⟨⟨true, ?_⟩, ?_⟩) (⟨⟨true, ?_⟩, ?_⟩) (by simp) (by simp) ?_ ?_ by_ v i3 v0 (by simp (decide := true) only [go_sem, ↓reduceIte]; try rfl) (by simp (decide := true) only [go_sem, ↓reduceIte]; try rfl) (by simp (decide := true) only [go_sem, ↓reduceIte]; try rfl) (by simp (decide := true) only [go_sem, ↓reduceIte]; try rfl) (by simp (decide := true) only [go_sem, ↓reduceIte]; try rfl) (by simp (decide := true) only [go_sem, ↓reduceIte]; try rfl) (by simp (decide := true) only [go_sem, ↓reduceIte]; try rfl)
    · simp [getM_push, size_push, rowCell, Nat.add_assoc, zeroRow_8, zeroRow_6]
    · intro q hq
      simp only [List.mem_cons, List.not_mem_nil, or_false] at hq
      rcases hq with rfl | rfl | rfl <;> exact ⟨true, by simp [getM_push, size_push, Nat.add_assoc, zeroRow_8, zeroRow_6]⟩
    · simp [getM_push, size_push, rowCell, Nat.add_assoc, zeroRow_8, zeroRow_6]
    · intro q hq
      simp only [List.mem_cons, List.not_mem_nil, or_false] at hq
      rcases hq with rfl | rfl | rfl | rfl | rfl | rfl | rfl | rfl <;> exact ⟨true, by simp [getM_push, size_push, Nat.add_assoc, zeroRow_8, zeroRow_6]⟩
    · intro q hq
      simp only [List.mem_cons, List.not_mem_nil, or_false] at hq
      rcases hq with rfl | rfl | rfl <;> first | decide | (simp [goodL, spansL, inside]; done) | (simp [goodL, spansL, inside]; omega)
    · intro q hq
      simp only [List.mem_cons, List.not_mem_nil, or_false] at hq
      rcases hq with rfl | rfl | rfl | rfl | rfl | rfl | rfl | rfl <;> first | decide | (simp [goodL, spansL, inside]; done) | (simp [goodL, spansL, inside]; omega)
end Go.Proofs.Ytgbpgkfmmhlkoaa.W
