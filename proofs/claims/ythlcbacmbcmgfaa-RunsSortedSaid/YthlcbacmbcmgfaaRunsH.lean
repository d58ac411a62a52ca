/-
  The items of a cut; lists of items that are the same; a source that counts.
-/
import Derived.Test.YthlcbacmbcmgfaaRunsG
import Derived.Test.YthlcbacmbcmgfaaBook
namespace Go.Proofs.Ythlcbacmbcmgfaa.W
open Go.Abs
set_option linter.unusedSimpArgs false
set_option linter.unusedVariables false

/-- A budget. -/
def budN (bd : Int) : Nat := (max bd 1).toNat
theorem budN_pos (bd : Int) : 0 < budN bd := by unfold budN; omega
theorem budN_int (bd : Int) : ((budN bd : Nat) : Int) = max bd 1 := by unfold budN; omega

/-- A cut in memory. -/
theorem CutI' {Z : Nat → Option Blk} {Fs : Set'} {L M S B mb : Nat} {bd : Int} {lf : Fn} {la lb : Array Value} {src : Value} {xs : List Int} {Own : Nat → Mem → Prop} (hL : Z L = some (.cells false true [.func lf la lb])) (hM : Z M = some (.cells false true [ptr mb])) (hS : Z S = some (.cells false true [src])) (hB : Z B = some (.cells false true [vI (max bd 1)]))
    (hbd : bd < 9223372036854775808) (hFm : ¬ Fs mb) (less : LessN (.func lf la lb)) (hn : xs.length ≤ 1000) {y0 : Int} (hy0 : 0 ≤ y0) (hs : ∀ Z', SubZ Z Z' → Iter E Z' Fs src xs.length Own (pureEl (intsEl xs))) :
    IterD E Z (fun i => i = mb ∨ Fs i) (.func (.func F_runs_Cut_int_1) #[] #[ptr L, ptr M, ptr S, ptr B]) xs.length (CutO mb y0 (budN bd) xs.length Own) (CutD mb (budN bd) xs.length Own) (pureEl fun k => [pV (yieldR xs (budN bd) k)]) :=
  CutI hL hM hS (by rw [budN_int]; exact hB) (budN_pos bd) (by rw [budN_int]; omega) hFm less hn hy0 hs

set_option maxRecDepth 100000 in
theorem items_at {m0 m : Mem} {a : Option Addr} {n c mb : Nat} {xs : List Int} (hs : SlA m0 1 a n c (xs.map (.int .i64))) (o : Old m0 m) (hmb : m0.size ≤ mb) {y0 : Int} (met : MeterAt m mb 0 y0) (hy0 : 0 ≤ y0) (bd : Int) (hbd : bd < 9223372036854775808) (hn : n ≤ 1000) :
    CallQ E F_sheaflaw11_items [.slice a n c, vI bd, ptr mb].toArray m fun w m' => ∃ a', w = .slice a' n n ∧ Vec m.size m' 2 a' n (pC (takeR (yieldR xs (budN bd)) n)) ∧ MeterAt m' mb 0 (max y0 (min (budN bd) n : Nat)) ∧ ChgS (fun i => i = mb) m m' := by
  have hl : xs.length = n := by have := hs.len; simpa using this
  refine .enter fn_sheaflaw11_items (by simp) ?_
  simp (decide := true) (implicitDefEqProofs := false) (maxDischargeDepth := 20) only [go_sem, ↓reduceIte, true_implies, false_implies]
  refine (From_at).mono ?_
  rintro w m1 ⟨b1, rfl, g1, o1, hb1⟩
  simp (decide := true) (implicitDefEqProofs := false) (maxDischargeDepth := 20) only [go_sem, ↓reduceIte, true_implies, false_implies]
  refine (Cut_at).mono ?_
  rintro w m2 ⟨rfl, gL, gM, gS, gB, o2⟩
  have hmbl := getM_lt met
  have l1 := getM_lt g1
  have s1 := o1.size
  have omm : Old m m2 := o1.trans o2
  have met2 : MeterAt m2 mb 0 y0 := (omm.get hmbl).trans met
  have z : Frozen (butL m2 [mb]) m2 := butL_frozen _ _
  have it : IterD E (butL m2 [mb]) (fun i => i = mb ∨ none' i) (.func (.func F_runs_Cut_int_1) #[] #[ptr (m1.size + 2), ptr (m1.size + 3), ptr m1.size, ptr (m1.size + 1)]) xs.length (CutO mb y0 (budN bd) xs.length anyO) (CutD mb (budN bd) xs.length anyO) (pureEl fun k => [pV (yieldR xs (budN bd) k)]) := by
    refine CutI' (butL_at gL (by simp; omega)) (butL_at gM (by simp; omega)) (butL_at gS (by simp; omega)) (butL_at gB (by simp; omega)) hbd (fun h => h) lessR_ok (by omega) hy0 fun Z' sub => ?_
    rw [hl]
    exact ValuesI (sub _ _ (butL_at ((o2.get l1).trans g1) (by simp; omega))) (fun mm zz => hs.butS (o.trans omm) (SubZ.frozen sub zz) (by simpa using hmb)) (by omega)
  simp (decide := true) (implicitDefEqProofs := false) (maxDischargeDepth := 20) only [go_sem, ↓reduceIte, true_implies, false_implies]
  refine (ListR it (by omega) z (fun i hi => ?_) (.inl ⟨rfl, met2, trivial⟩)).mono ?_
  · rcases hi with rfl | hi
    · exact ⟨getM_lt met2, butL_no (by simp)⟩
    · exact hi.elim
  rintro w m3 ⟨a', rfl, v3, c3, ow⟩
  rw [hl] at v3 ow
  simp (decide := true) (implicitDefEqProofs := false) (maxDischargeDepth := 20) only [go_sem, ↓reduceIte, true_implies, false_implies]
  have met3 : MeterAt m3 mb 0 (max y0 (min (budN bd) n : Nat)) := by
    rcases ow with ⟨h, _⟩ | ⟨_, h, _⟩ | ⟨_, h, _⟩
    · omega
    · exact h
    · omega
  have s2 := omm.size
  rw [hl]
  refine ⟨a', rfl, v3.mono s2, met3, ⟨by have := c3.size; omega, fun i hi hna => ?_⟩⟩
  rw [c3.get i (by omega) (fun e => e.elim hna fun e => e), omm.get hi]

set_option maxRecDepth 100000 in
theorem SameR {m : Mem} {a b : Option Addr} {n c c' : Nat} {l : List (Int × Int)} (h : SlA m 2 a n c (pC l)) (k : SlA m 2 b n c' (pC l)) (hn : n ≤ 1073741824) :
    CallQ E F_sheafbook_Same_runs_Item_int [.slice a n c, .slice b n c'].toArray m fun w m' => w = .bool true ∧ Old m m' := by
  refine .enter fn_sheafbook_Same_runs_Item_int (by simp) ?_
  have hl : l.length = n := by have := h.len; rw [pC_len] at this; omega
  simp (decide := true) (implicitDefEqProofs := false) (maxDischargeDepth := 20) only [go_sem, ↓reduceIte, bne_self_eq_false, true_implies, false_implies]
  simp only [c_sheafbook_Same_runs_Item_int_12_at, wpM_block, c_sheafbook_Same_runs_Item_int_11_at]
  refine wpM_loopA (fun j t' m' => m' = m ∧ ∃ i : Nat, i ≤ n ∧ j = n - i ∧ t' 5 = .int .i64 i) n ⟨rfl, 0, by omega, rfl, by simp (decide := true) only [go_sem, ↓reduceIte]; rfl⟩ ?_
  rintro j t' m' ha ⟨rfl, i, hi, rfl, e5⟩
  have a0 := ha 0 (by decide +kernel)
  have a1 := ha 1 (by decide +kernel)
  simp (decide := true) only [go_sem, ↓reduceIte] at a0 a1
  by_cases hlt : i < n
  · have d1 : decide ((i : Int) < (n : Int)) = true := by simp; omega
    have w1 : IntKind.wrap .i64 ((i : Int) + 1) = ((i + 1 : Nat) : Int) := by rw [wrap_i64_id _ (by omega) (by omega)]; omega
    obtain ⟨b1, o1, s1, rfl⟩ := h.addr (by omega)
    obtain ⟨b2, o2, s2, rfl⟩ := k.addr (by omega)
    have row : ∀ b o s c, SlA m' 2 (some ⟨b, o, s⟩) n c (pC l) → m'.rows b (o + i * 2) 2 = some [vI (gt l i).1, vI (gt l i).2] := fun b o s c H => by
      have hne : pC l ≠ [] := by intro e; have := pC_len l; rw [e] at this; simp at this; omega
      have r := (H.rows _ rfl hne).sub (i := i * 2) (n := 2) (by rw [pC_len]; omega)
      rw [pC_row l i (by omega)] at r
      exact r
    have r1 := row _ _ _ _ h
    have r2 := row _ _ _ _ k
    have z0 : (0 : Int) ≤ (i : Int) := by omega
    have z1 : (i : Int) < (n : Int) := by omega
    simp (decide := true) (implicitDefEqProofs := false) (maxDischargeDepth := 20) only [go_sem, ↓reduceIte, a0, a1, e5, d1, r1, r2, z0, z1, w1, Int.toNat_natCast, beq_self_eq_true, Bool.and_self, Bool.not_true, true_implies, false_implies]
    exact ⟨n - (i + 1), by omega, i + 1, by omega, rfl, rfl⟩
  · have d1 : decide ((i : Int) < (n : Int)) = false := by simp; omega
    simp (decide := true) (implicitDefEqProofs := false) (maxDischargeDepth := 20) only [go_sem, ↓reduceIte, a0, a1, e5, d1, true_implies, false_implies]
end Go.Proofs.Ythlcbacmbcmgfaa.W
