/-
  PairTwice.
-/
import Derived.Test.YtjmppooebppecaaPairK
import Derived.Test.YtjmppooebppecaaBook
namespace Go.Proofs.Ytjmppooebppecaa.W
open Go.Abs
set_option linter.unusedSimpArgs false
set_option linter.unusedVariables false

theorem can_twice (x y : Int) : canP (canP x y) (canQ x y) = canP x y ∧ canQ (canP x y) (canQ x y) = canQ x y := by
  have z : ∀ p : Int, 0 ≤ sg p 0 * sg 0 0 ∧ 0 ≤ sg 0 0 * sg p 0 := fun p => by
    have e : sg 0 0 = 0 := by decide
    rw [e]; simp
  by_cases h : 0 ≤ sg x 0 * sg y 0
  · have e1 : canP x y = x := by unfold canP; exact if_pos h
    have e2 : canQ x y = y := by unfold canQ; exact if_pos h
    rw [e1, e2]
    exact ⟨e1, e2⟩
  · by_cases k : sg (x + y) 0 = sg x 0
    · have e1 : canP x y = x + y := by unfold canP; rw [if_neg h, if_pos k]
      have e2 : canQ x y = 0 := by unfold canQ; rw [if_neg h, if_pos k]
      rw [e1, e2]
      exact ⟨by unfold canP; exact if_pos (z _).1, by unfold canQ; exact if_pos (z _).1⟩
    · have e1 : canP x y = 0 := by unfold canP; rw [if_neg h, if_neg k]
      have e2 : canQ x y = x + y := by unfold canQ; rw [if_neg h, if_neg k]
      rw [e1, e2]
      exact ⟨by unfold canP; exact if_pos (z _).2, by unfold canQ; exact if_pos (z _).2⟩
theorem can_abs (x y : Int) {b : Int} (hx : -b ≤ x ∧ x ≤ b) (hy : -b ≤ y ∧ y ≤ b) : (-(2 * b) ≤ canP x y ∧ canP x y ≤ 2 * b) ∧ (-(2 * b) ≤ canQ x y ∧ canQ x y ≤ 2 * b) := by
  constructor
  · unfold canP; split
    · omega
    · split <;> omega
  · unfold canQ; split
    · omega
    · split <;> omega
theorem can_even (n : Int) : canP (0 + n) (0 + -n) = 0 ∧ canQ (0 + n) (0 + -n) = 0 ∧ canP (0 + -n) (0 + n) = 0 ∧ canQ (0 + -n) (0 + n) = 0 := by
  rw [Int.zero_add, Int.zero_add]
  have e1 : n + -n = 0 := by omega
  have e2 : -n + n = 0 := by omega
  have s0 : sg 0 0 = 0 := by decide
  unfold canP canQ
  rw [e1, e2, s0]
  rcases sg0 n with h | h | h
  · have h2 : sg (-n) 0 = 1 := by unfold sg; rw [if_neg (by omega), if_pos (by omega)]
    rw [h.1, h2]; simp
  · obtain ⟨h1, rfl⟩ := h
    simp [s0]
  · have h2 : sg (-n) 0 = -1 := by unfold sg; rw [if_pos (by omega)]
    rw [h.1, h2]; simp

def lnA (n : Int) : List Int := [1, 1, 1, 10, n, 2, 1, 1000, 2, n]
def lnB (n : Int) : List Int := [2, 2, 1, 10, -n, 1, 1, 2000, 2, -n]
theorem twice_out (n : Int) : partsO [lnA n, lnB n] = [some [1, 1000, 2, 0], some [2, 2000, 2, 0]] ∧ partsO [lnB n, lnA n] = [some [1, 1000, 2, 0], some [2, 2000, 2, 0]] := by
  have e := can_even n
  have s1 : stP [lnA n, lnB n] = ⟨[], some ⟨[1, 2, 2], ⟨1, 1000, 0 + n, 0 + 1⟩, ⟨2, 2000, 0 + -n, 0 + 1⟩⟩, false⟩ := rfl
  have s2 : stP [lnB n, lnA n] = ⟨[], some ⟨[1, 2, 2], ⟨1, 1000, 0 + n, 0 + 1⟩, ⟨2, 2000, 0 + -n, 0 + 1⟩⟩, false⟩ := rfl
  have t : tellO (some ⟨[1, 2, 2], ⟨1, 1000, 0 + n, 0 + 1⟩, ⟨2, 2000, 0 + -n, 0 + 1⟩⟩) = [some [1, 1000, 2, 0], some [2, 2000, 2, 0]] := by
    have ok : boOk ⟨[1, 2, 2], ⟨1, 1000, 0 + n, 0 + 1⟩, ⟨2, 2000, 0 + -n, 0 + 1⟩⟩ := by
      unfold boOk
      simp only [e.1, e.2.1]
      exact ⟨by unfold fitsI; decide, by unfold fitsI; decide⟩
    unfold tellO
    simp only
    rw [if_pos ok]
    unfold boRows
    simp only [e.1, e.2.1]
    rfl
  unfold partsO finP
  rw [s1, s2]
  exact ⟨t, t⟩

theorem three_push (P : Mem → Prop) (m : Mem) (b0 b1 b2 : Blk) (h : ∀ m', m'.get m.size = some b0 → m'.get (m.size + 1) = some b1 → m'.get (m.size + (1 + 1)) = some b2 → Old m m' → P m') : P (((m.push b0).push b1).push b2) := by
  refine h _ ?_ ?_ ?_ (.push (.push (.push (.refl m) _) _) _)
  all_goals simp only [getM_push, size_push]
  · rw [if_neg (by omega), if_neg (by omega), if_pos trivial]
  · rw [if_neg (by omega), if_pos trivial]
  · rw [if_pos trivial]

set_option maxRecDepth 100000 in
set_option maxHeartbeats 8000000 in
theorem PairTwice_law (m : Mem) (hro : ∀ i c, m.get i = some c → c.writable = false)
    (a : Int) (ha : -9223372036854775808 ≤ a) (ha' : a < 9223372036854775808) (b : Int) (hb : -9223372036854775808 ≤ b) (hb' : b < 9223372036854775808)
    (c : Int) (hc : -9223372036854775808 ≤ c) (hc' : c < 9223372036854775808) :
    CallQ E F_sheaflaw18_PairTwice [.int .i64 a, .int .i64 b, .int .i64 c].toArray m fun v _ => v = .bool true := by
  refine .enter fn_sheaflaw18_PairTwice (by simp) ?_
  simp (decide := true) (implicitDefEqProofs := false) (maxDischargeDepth := 20) only [go_sem, ↓reduceIte, true_implies, false_implies]
  refine ((Of_W a ha ha') m).mono ?_
  rintro w m1 ⟨rfl, o1⟩
  simp (decide := true) (implicitDefEqProofs := false) (maxDischargeDepth := 20) only [go_sem, ↓reduceIte, true_implies, false_implies]
  refine ((Of_W b hb hb') m1).mono ?_
  rintro w m2 ⟨rfl, o2⟩
  have bd := can_abs a b (b := 9223372036854775808) ⟨by omega, by omega⟩ ⟨by omega, by omega⟩
  have tw := can_twice a b
  have c1 := Cancel_ans a b (by omega) (by omega) (by omega) (by omega)
  obtain ⟨P, hP⟩ : ∃ P, P = canP a b := ⟨_, rfl⟩
  obtain ⟨Q, hQ⟩ : ∃ Q, Q = canQ a b := ⟨_, rfl⟩
  rw [← hP, ← hQ] at bd c1 tw
  have c2 := Cancel_ans P Q (by omega) (by omega) (by omega) (by omega)
  rw [tw.1, tw.2] at c2
  have wP := W_eq P P (by omega) (by omega) (by omega) (by omega)
  have wQ := W_eq Q Q (by omega) (by omega) (by omega) (by omega)
  simp only [W] at c1 c2
  simp (decide := true) (implicitDefEqProofs := false) (maxDischargeDepth := 20) only [go_sem, W, ↓reduceIte, true_implies, false_implies]
  refine two_boxes (fun mm => CallQ E _ _ mm _) m2 _ _ _ _ fun m3 g7 g8 o23 s3 => ?_
  refine (c1 m3).mono ?_
  rintro w m4 ⟨rfl, o34⟩
  simp (decide := true) (implicitDefEqProofs := false) (maxDischargeDepth := 20) only [go_sem, ↓reduceIte, true_implies, false_implies]
  refine two_boxes (fun mm => CallQ E _ _ mm _) m4 _ _ _ _ fun m5 g9 g10 o45 s5 => ?_
  obtain ⟨b9, hb9⟩ : ∃ b, b = m4.size := ⟨_, rfl⟩
  obtain ⟨b10, hb10⟩ : ∃ b, b = m4.size + 1 := ⟨_, rfl⟩
  rw [← hb10] at g10 ⊢
  rw [← hb9] at g9 ⊢
  refine (c2 m5).mono ?_
  rintro w m6 ⟨rfl, o56⟩
  simp (decide := true) (implicitDefEqProofs := false) (maxDischargeDepth := 20) only [go_sem, ↓reduceIte, true_implies, false_implies]
  refine two_boxes (fun mm => CallQ E _ _ mm _) m6 _ _ _ _ fun m7 g11 g12 o67 s7 => ?_
  obtain ⟨b11, hb11⟩ : ∃ b, b = m6.size := ⟨_, rfl⟩
  obtain ⟨b12, hb12⟩ : ∃ b, b = m6.size + 1 := ⟨_, rfl⟩
  rw [← hb12] at g12 ⊢
  rw [← hb11] at g11 ⊢
  refine ((Within_ans c (-1099511627776) 1099511627776 hc hc' (by decide) (by decide) (by decide) (by decide)) m7).mono ?_
  rintro w m8 ⟨rfl, o78⟩
  obtain ⟨n, hn⟩ : ∃ n, n = -1099511627776 + c % (1099511627776 - -1099511627776 + 1) := ⟨_, rfl⟩
  have hnb : -1099511627776 ≤ n ∧ n ≤ 1099511627776 := by
    rw [show (1099511627776 - -1099511627776 + 1 : Int) = 2199023255553 from rfl] at hn
    omega
  rw [← hn]
  clear hn
  have wn : IntKind.wrap .i64 (0 - n) = -n := by rw [wrap_i64_id _ (by omega) (by omega)]; omega
  simp (decide := true) (implicitDefEqProofs := false) (maxDischargeDepth := 20) only [go_sem, wn, ↓reduceIte, true_implies, false_implies]
  refine three_push (fun mm => CallQ E _ _ mm _) m8 _ _ _ fun m9 gA gB gL o89 => ?_
  have gA : m9.get m8.size = some (.cells false true ((lnA n).map (.int .i64))) := gA
  have gB : m9.get (m8.size + 1) = some (.cells false true ((lnB n).map (.int .i64))) := gB
  have hfA : ∀ x ∈ lnA n, -9223372036854775808 ≤ x ∧ x < 9223372036854775808 := fun x hx => by
    simp only [lnA, List.mem_cons, List.not_mem_nil, or_false] at hx
    omega
  have hfB : ∀ x ∈ lnB n, -9223372036854775808 ≤ x ∧ x < 9223372036854775808 := fun x hx => by
    simp only [lnB, List.mem_cons, List.not_mem_nil, or_false] at hx
    omega
  have rA : (⟨some ⟨m8.size, 0, none⟩, 10, 10, lnA n⟩ : HRow).At m9 := ⟨.new gA rfl rfl, rfl, hfA⟩
  have rB : (⟨some ⟨m8.size + 1, 0, none⟩, 10, 10, lnB n⟩ : HRow).At m9 := ⟨.new gB rfl rfl, rfl, hfB⟩
  obtain ⟨ls, hls⟩ : ∃ ls : List HRow, ls = [⟨some ⟨m8.size, 0, none⟩, 10, 10, lnA n⟩, ⟨some ⟨m8.size + 1, 0, none⟩, 10, 10, lnB n⟩] := ⟨_, rfl⟩
  have SL : SlA m9 1 (some ⟨m8.size + (1 + 1), 0, none⟩) 2 2 (ls.map HRow.v) := by rw [hls]; exact .new gL rfl rfl
  refine PartsF_at SL (fun r hr => ?_) (fun r hr => ?_) (by omega) fun idxs w m10 hp hs hres o910 => ?_
  · rw [hls] at hr
    simp only [List.mem_cons, List.not_mem_nil, or_false] at hr
    rcases hr with rfl | rfl
    · exact rA
    · exact rB
  · rw [hls] at hr
    simp only [List.mem_cons, List.not_mem_nil, or_false] at hr
    rcases hr with rfl | rfl <;> rfl
  have hidx : idxs = [0, 1] ∨ idxs = [1, 0] := by
    have h2 := hp.length_eq
    simp only [List.length_range] at h2
    match idxs, h2 with
    | [x, y], _ =>
      have hx := hp.mem_iff.1 (show x ∈ [x, y] by simp)
      have hy := hp.mem_iff.1 (show y ∈ [x, y] by simp)
      have hnd : x ≠ y := by
        have := hp.nodup_iff.2 List.nodup_range
        simpa using this
      simp only [List.mem_range] at hx hy
      have : x = 0 ∧ y = 1 ∨ x = 1 ∧ y = 0 := by omega
      rcases this with ⟨rfl, rfl⟩ | ⟨rfl, rfl⟩
      · exact .inl rfl
      · exact .inr rfl
  have hout : partsO ((inL (idxs.map fun i => ls.getD i noRow)).map HRow.xs) = [some [1, 1000, 2, 0], some [2, 2000, 2, 0]] := by
    subst hls
    rcases hidx with rfl | rfl
    · exact (twice_out n).1
    · exact (twice_out n).2
  rw [hout] at hres
  rcases hres with ⟨ao, os, hos, rfl, SO, hro⟩ | ⟨hno, _⟩
  · have hxs : os.map HRow.xs = [[1, 1000, 2, 0], [2, 2000, 2, 0]] := by
      have e1 : os.map (fun r => some r.xs) = (os.map HRow.xs).map some := by rw [List.map_map]; rfl
      rw [e1] at hos
      have e2 : ([some [1, 1000, 2, 0], some [2, 2000, 2, 0]] : List ORow) = ([[1, 1000, 2, 0], [2, 2000, 2, 0]] : List (List Int)).map some := rfl
      rw [e2] at hos
      exact ((List.map_inj_right (fun x y h => Option.some.inj h)).1 hos).symm
    have hol : os.length = 2 := by have := congrArg List.length hxs; simpa using this
    have o5 : Old m5 m10 := o56.trans (o67.trans (o78.trans (o89.trans o910)))
    have o7 : Old m7 m10 := o78.trans (o89.trans o910)
    have r9 := rows_of ((o5.get (getM_lt g9)).trans g9)
    have r10 := rows_of ((o5.get (getM_lt g10)).trans g10)
    have r11 := rows_of ((o7.get (getM_lt g11)).trans g11)
    have r12 := rows_of ((o7.get (getM_lt g12)).trans g12)
    simp only [List.length_cons, List.length_nil, Nat.zero_add] at r9 r10 r11 r12
    have vP : (IntKind.wrap .i64 (P / 18446744073709551616) == IntKind.wrap .i64 (P / 18446744073709551616) && P % 18446744073709551616 == P % 18446744073709551616) = true := by rw [wP]; simp
    have vQ : (IntKind.wrap .i64 (Q / 18446744073709551616) == IntKind.wrap .i64 (Q / 18446744073709551616) && Q % 18446744073709551616 == Q % 18446744073709551616) = true := by rw [wQ]; simp
    simp (decide := true) (implicitDefEqProofs := false) (maxDischargeDepth := 20) only [go_sem, r9, r10, r11, r12, vP, vQ, ↓reduceIte, true_implies, false_implies]
    refine three_push (fun mm => CallQ E _ _ mm _) m10 _ _ _ fun m11 k0 k1 kL o11 => ?_
    have k0 : m11.get m10.size = some (.cells false true (([1, 1000, 2, 0] : List Int).map (.int .i64))) := k0
    have k1 : m11.get (m10.size + 1) = some (.cells false true (([2, 2000, 2, 0] : List Int).map (.int .i64))) := k1
    have q0 : (⟨some ⟨m10.size, 0, none⟩, 4, 4, [1, 1000, 2, 0]⟩ : HRow).At m11 := ⟨.new k0 rfl rfl, rfl, fun x hx => by simp only [List.mem_cons, List.not_mem_nil, or_false] at hx; omega⟩
    have q1 : (⟨some ⟨m10.size + 1, 0, none⟩, 4, 4, [2, 2000, 2, 0]⟩ : HRow).At m11 := ⟨.new k1 rfl rfl, rfl, fun x hx => by simp only [List.mem_cons, List.not_mem_nil, or_false] at hx; omega⟩
    have SR : SlA m11 1 (some ⟨m10.size + (1 + 1), 0, none⟩) 2 2 (([⟨some ⟨m10.size, 0, none⟩, 4, 4, [1, 1000, 2, 0]⟩, ⟨some ⟨m10.size + 1, 0, none⟩, 4, 4, [2, 2000, 2, 0]⟩] : List HRow).map HRow.v) := .new kL rfl rfl
    have hon : ∀ r ∈ os, r.At m11 ∧ r.n ≤ 1000000 := fun r hr => by
      refine ⟨(hro r hr).old o11, ?_⟩
      have h1 : r.xs ∈ os.map HRow.xs := List.mem_map.2 ⟨r, hr, rfl⟩
      rw [hxs] at h1
      rw [← (hro r hr).len]
      simp only [List.mem_cons, List.not_mem_nil, or_false] at h1
      rcases h1 with h1 | h1 <;> rw [h1] <;> simp
    refine (Rows_at (SO.old o11) SR hon (fun r hr => ?_) (by omega) (by omega)).mono ?_
    · simp only [List.mem_cons, List.not_mem_nil, or_false] at hr
      rcases hr with rfl | rfl
      · exact ⟨q0, by simp⟩
      · exact ⟨q1, by simp⟩
    rintro w m12 ⟨rfl, o12⟩
    have dd : decide (os.map HRow.xs = ([⟨some ⟨m10.size, 0, none⟩, 4, 4, [1, 1000, 2, 0]⟩, ⟨some ⟨m10.size + 1, 0, none⟩, 4, 4, [2, 2000, 2, 0]⟩] : List HRow).map HRow.xs) = true := by rw [hxs]; rfl
    rw [dd]
    simp (decide := true) (implicitDefEqProofs := false) (maxDischargeDepth := 20) only [go_sem, ↓reduceIte, true_implies, false_implies]
  · simp at hno
end Go.Proofs.Ytjmppooebppecaa.W
