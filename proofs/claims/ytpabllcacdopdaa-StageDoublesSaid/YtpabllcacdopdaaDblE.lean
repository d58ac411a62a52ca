/-
  StageDoubles, the law.
-/
import Derived.Test.YtpabllcacdopdaaDblD
namespace Go.Proofs.Ytpabllcacdopdaa.W
open Go.Abs
set_option linter.unusedSimpArgs false
set_option linter.unusedVariables false

theorem dbl_head (P : Mem → Prop) (m : Mem) (v0 v1 v3 w3 : Value) (h : ∀ m', m'.get m.size = some (.cells false true [v0]) → m'.get (m.size + 1) = some (.cells false true [v1]) → m'.get (m.size + (1 + 1)) = some (.map [] 0) → m'.get (m.size + (1 + (1 + 1))) = some (.cells false true [w3]) → Old m m' → m'.size = m.size + 4 → P m') :
    P (((((m.push (.cells false true [v0])).push (.cells false true [v1])).push (.map [] 0)).push (.cells false true [v3])).put (m.size + (1 + (1 + 1))) (some (.cells false true [w3]))) := by
  refine h _ ?_ ?_ ?_ ?_ (.of_get (by simp [size_put, size_push]; omega) fun i hi => ?_) (by simp)
  all_goals simp only [getM_put, getM_push, size_put, size_push]
  · rw [if_neg (by omega), if_neg (by omega), if_neg (by omega), if_neg (by omega), if_pos trivial]
  · rw [if_neg (by omega), if_neg (by omega), if_neg (by omega), if_pos trivial]
  · rw [if_neg (by omega), if_neg (by omega), if_pos trivial]
  · rw [if_pos (by simp <;> omega)]
  · rw [if_neg (by omega), if_neg (by omega), if_neg (by omega), if_neg (by omega), if_neg (by omega)]
theorem dbl_two (P : Mem → Prop) (m : Mem) (v0 v1 w0 w1 : Value) (h : ∀ m', cap1 m' m.size w0 → cap1 m' (m.size + 1) w1 → Old m m' → m'.size = m.size + 2 → P m') :
    P ((((m.push (.cells false true [v0])).push (.cells false true [v1])).put m.size (some (.cells false true [w0]))).put (m.size + 1) (some (.cells false true [w1]))) := by
  refine h _ ?_ ?_ (.of_get (by simp [size_put, size_push]; omega) fun i hi => ?_) (by simp)
  all_goals simp only [cap1, getM_put, getM_push, size_put, size_push]
  · rw [if_neg (by omega), if_pos (by simp <;> omega)]
  · rw [if_pos (by simp <;> omega)]
  · rw [if_neg (by omega), if_neg (by omega), if_neg (by omega), if_neg (by omega)]
theorem dbl_one (P : Mem → Prop) (m : Mem) (v0 w0 : Value) (h : ∀ m', cap1 m' m.size w0 → Old m m' → m'.size = m.size + 1 → P m') : P ((m.push (.cells false true [v0])).put m.size (some (.cells false true [w0]))) := by
  refine h _ ?_ (.of_get (by simp [size_put, size_push]) fun i hi => ?_) (by simp)
  all_goals simp only [cap1, getM_put, getM_push, size_put, size_push]
  · rw [if_pos (by simp)]
  · rw [if_neg (by omega), if_neg (by omega)]

set_option maxRecDepth 100000 in
set_option maxHeartbeats 8000000 in
theorem StageDoubles_law (m : Mem) (hro : ∀ i c, m.get i = some c → c.writable = false)
    (a0 : Option Addr) (l0 c0 : Nat) (xs0 : List Int) (hs0 : SlA m 1 a0 l0 c0 (xs0.map (.int .i64))) (hl0 : xs0.length = l0) (hx0 : ∀ x ∈ xs0, -9223372036854775808 ≤ x ∧ x < 9223372036854775808)
    (stop : Int) (hm : -9223372036854775808 ≤ stop) (hm' : stop < 9223372036854775808) :
    CallQ E F_sheaflaw17_StageDoubles [.slice a0 l0 c0, .int .i64 stop].toArray m fun v _ => v = .bool true := by
  refine .enter fn_sheaflaw17_StageDoubles (by simp) ?_
  have mk : ∀ mm : Mem, makeMapV E mm 37 none = some (.map (some mm.size), mm.push (.map [] 0)) := fun mm => makeMapV_int imap37
  simp (decide := true) (implicitDefEqProofs := false) (maxDischargeDepth := 20) only [go_sem, mk, Option.map_none, ↓reduceIte, true_implies, false_implies]
  refine dbl_head (fun mm => wpM E _ _ _ _ _ _ mm) m _ _ _ _ fun m1 gR gL gQ gM o1 s1 => ?_
  obtain ⟨rb, hrb⟩ : ∃ b, b = m.size := ⟨_, rfl⟩
  obtain ⟨lb, hlb⟩ : ∃ b, b = m.size + 1 := ⟨_, rfl⟩
  obtain ⟨qb, hqb⟩ : ∃ b, b = m.size + (1 + 1) := ⟨_, rfl⟩
  obtain ⟨mb, hmb⟩ : ∃ b, b = m.size + (1 + (1 + 1)) := ⟨_, rfl⟩
  rw [← hmb] at gM ⊢
  rw [← hqb] at gQ gM ⊢
  rw [← hlb] at gL ⊢
  rw [← hrb] at gR ⊢
  refine Dbl_own (lb := lb) (mb := mb) (qb := qb) (hs0.old o1) hx0 gL gM (.new gQ) (by omega) (fun b hb hne => by have := (hs0.rows b hb (by simpa using hne)).lt; omega)
    (by simp (decide := true) only [go_sem, ↓reduceIte]) (by simp (decide := true) only [go_sem, ↓reduceIte]) (by simp (decide := true) only [go_sem, ↓reduceIte]) (by simp (decide := true) only [go_sem, ↓reduceIte]) (by simp (decide := true) only [go_sem, ↓reduceIte]) fun t2 m2 a es hag H => ?_
  have e1 := hag 1 (by decide +kernel)
  have e4 := hag 4 (by decide +kernel)
  have e5 := hag 5 (by decide +kernel)
  have e6 := hag 6 (by decide +kernel)
  simp (decide := true) only [go_sem, ↓reduceIte] at e1 e4 e5 e6
  clear hag
  obtain ⟨N, hN⟩ : ∃ N, N = min l0 25 := ⟨_, rfl⟩
  rw [← hN] at H
  have hlen : es.length = N := by
    have := congrArg List.length H.xs
    simpa [rowsD] using this
  simp (decide := true) (implicitDefEqProofs := false) (maxDischargeDepth := 20) only [go_sem, e1, e4, e5, e6, ↓reduceIte, true_implies, false_implies]
  refine dbl_two (fun mm => CallQ E _ _ mm _) m2 _ _ _ _ fun m3 gC gN o23 s3 => ?_
  obtain ⟨cb, hcb⟩ : ∃ b, b = m2.size := ⟨_, rfl⟩
  obtain ⟨nb, hnb⟩ : ∃ b, b = m2.size + 1 := ⟨_, rfl⟩
  rw [← hnb] at gN ⊢
  rw [← hcb] at gC ⊢
  refine ((Within_ans stop 1 30 hm hm' (by omega) (by omega) (by omega) (by omega)) m3).mono ?_
  rintro w m4 ⟨rfl, o34⟩
  obtain ⟨K, hK⟩ : ∃ K : Nat, (K : Int) = 1 + stop % (30 - 1 + 1) := ⟨(1 + stop % (30 - 1 + 1)).toNat, by omega⟩
  rw [← hK]
  simp (decide := true) (implicitDefEqProofs := false) (maxDischargeDepth := 20) only [go_sem, e1, e4, e5, e6, ↓reduceIte, true_implies, false_implies]
  refine dbl_one (fun mm => CallQ E _ _ mm _) m4 _ _ fun m5 gK o45 s5 => ?_
  obtain ⟨kb, hkb⟩ : ∃ b, b = m4.size := ⟨_, rfl⟩
  rw [← hkb] at gK ⊢
  refine (Doubles_at).mono ?_
  rintro w m6 ⟨b1, rfl, c1, hb1, o56⟩
  simp (decide := true) (implicitDefEqProofs := false) (maxDischargeDepth := 20) only [go_sem, e1, e4, e5, e6, ↓reduceIte, true_implies, false_implies]
  have o36 := o34.trans (o45.trans o56)
  have o26 := o23.trans o36
  have z6 := o36.size
  have z26 := o26.size
  have z34 := o34.size
  have zH := H.size
  have gO6 := (o26.get (getM_lt H.box)).trans H.box
  have gC6 := gC.old o36
  have gN6 := gN.old o36
  have gK6 := gK.old o56
  have gM2 : cap1 m2 mb (.map (some qb)) := (H.keep mb (getM_lt gM) (by omega) (by omega)).trans gM
  have gM6 := gM2.old o26
  have gR2 : cap1 m2 rb (.bool false) := (H.keep rb (getM_lt gR) (by omega) (by omega)).trans gR
  have Q6 := H.map_.old o26
  have row6 : ∀ e ∈ es, e.At m6 := fun e he => (H.row e he).old o26
  have blk6 : ∀ e ∈ es, ∀ x, e.ad = some x → x.block ≠ nb ∧ x.block ≠ cb := fun e he x hx => by
    obtain ⟨b, h1, h2, h3, _⟩ := H.blk e he
    rw [h1] at hx
    cases hx
    exact ⟨by show b ≠ nb; omega, by show b ≠ cb; omega⟩
  have oblk : ∀ x, a = some x → x.block ≠ nb ∧ x.block ≠ cb := fun x hx => by
    have h2 := H.vec.lt hx
    exact ⟨by omega, by omega⟩
  have n2 : ∀ e ∈ es, e.n = 2 := fun e he => by
    have h1 : e.xs ∈ es.map HRow.xs := List.mem_map.2 ⟨e, he, rfl⟩
    rw [H.xs] at h1
    obtain ⟨i, _, h2⟩ := List.mem_map.1 h1
    rw [← (H.row e he).len, ← h2]
    rfl
  have hR : ∀ m', Frozen (butL m6 [nb, cb]) m' → ∀ k, (es.getD k noRow).At m' := fun m' z k => by
    rw [List.getD_eq_getElem?_getD]
    cases hg : es[k]? with
    | none => exact noRow_at m'
    | some r =>
      have hm := List.mem_of_getElem? hg
      exact (row6 r hm).keep fun b hb hx => by
        obtain ⟨ro, tg, cs, g, _⟩ := ((row6 r hm).sl.rows b hb (by simpa using hx)).blk
        rw [g]
        exact z _ _ (butL_at g (by have := blk6 _ hm b hb; simp; exact this))
  have hRn : ∀ k, (es.getD k noRow).n ≤ 1000000 := fun k => by
    rw [List.getD_eq_getElem?_getD]
    cases hg : es[k]? with
    | none => exact Nat.zero_le _
    | some r => have := n2 r (List.mem_of_getElem? hg); simp; omega
  have S6 := H.vec.sl.old o26
  subst hlen
  have it := DoublesI (n := es.length) (CountR (nb := cb) (n := es.length) (butL_at (l := [nb, cb]) gO6 (by simp; omega)) (fun m' z => sla_but S6 z fun b hb _ => by have := oblk b hb; simp; exact this) (by omega)) hR hRn (butL_at c1 (by simp; omega))
  refine Dbl_range (N := es.length) (K := K) gO6 S6 row6 rfl (by omega) H.xs gM6 Q6 gN6 gK6 (by omega) (by omega) oblk blk6 (by omega) gC6 it (by simp (decide := true) only [go_sem, ↓reduceIte]) (by simp (decide := true) only [go_sem, e5, ↓reduceIte]) (by simp (decide := true) only [go_sem, e6, ↓reduceIte]) (by simp (decide := true) only [go_sem, ↓reduceIte]) (by simp (decide := true) only [go_sem, ↓reduceIte]) fun m7 j q hj hq ej eq7 s7 k7 => ?_
  have lk7 : ∀ b v, cap1 m6 b v → b ≠ nb → b ≠ cb → cap1 m7 b v := fun b v h h1 h2 => (k7 b (getM_lt h) h1 h2).trans h
  have rN := get_at0 hj
  have rC := get_at0 hq
  have rO := get_at0 (lk7 lb _ gO6 (by omega) (by omega))
  have rK := get_at0 (lk7 kb _ gK6 (by omega) (by omega))
  have gR7 : m7.get rb = some (.cells false true [.bool false]) := lk7 rb _ (gR2.old o26) (by omega) (by omega)
  have lR7 := getM_lt gR7
  have mn1 : min ((K : Nat) : Int) ((es.length : Nat) : Int) = ((j : Nat) : Int) := by omega
  have d1 : (((j : Nat) : Int) == ((j : Nat) : Int)) = true := by simp
  have wk : IntKind.wrap .i64 (((K : Nat) : Int) + 1) = ((K + 1 : Nat) : Int) := by rw [wrap_i64_id _ (by omega) (by omega)]; omega
  have mn2 : min ((K + 1 : Nat) : Int) ((es.length : Nat) : Int) = ((min (K + 1) es.length : Nat) : Int) := by omega
  have d2 : decide (((q : Nat) : Int) ≤ ((min (K + 1) es.length : Nat) : Int)) = true := by simp; omega
  simp (decide := true) (implicitDefEqProofs := false) (maxDischargeDepth := 20) only [go_sem, e4, e5, e6, rN, rC, rO, rK, mn1, d1, wk, mn2, d2, gR7, lR7, ↓reduceIte, true_implies, false_implies]
end Go.Proofs.Ytpabllcacdopdaa.W
