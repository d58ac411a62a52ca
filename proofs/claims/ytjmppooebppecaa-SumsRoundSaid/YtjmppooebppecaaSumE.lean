/-
  The rows of a law's numbers.
-/
import Derived.Test.YtjmppooebppecaaSumD
import Derived.Test.YtjmppooebppecaaSrtB
import Derived.Test.YtjmppooebppecaaBook
namespace Go.Proofs.Ytjmppooebppecaa.W
open Go.Abs
set_option linter.unusedSimpArgs false
set_option linter.unusedVariables false

/-- A row in a block of its own. -/
def rowH (p : Nat × List Int) : HRow := ⟨some ⟨p.1, 0, none⟩, p.2.length, p.2.length, p.2⟩
/-- Rows in blocks of their own, one behind the other. -/
structure Own2 (B : Nat) (m : Mem) (ps : List (Nat × List Int)) : Prop where
  get : ∀ p ∈ ps, m.get p.1 = some (.cells false true (p.2.map (.int .i64)))
  bd : ∀ p ∈ ps, ∀ x ∈ p.2, -9223372036854775808 ≤ x ∧ x < 9223372036854775808
  lo : ∀ p ∈ ps, B ≤ p.1
  dis : (ps.map Prod.fst).Nodup
theorem Own2.at_ {B : Nat} {m : Mem} {ps : List (Nat × List Int)} (h : Own2 B m ps) : ∀ p ∈ ps, (rowH p).At m := fun p hp => ⟨.new (h.get p hp) (by simp [rowH]) rfl, rfl, h.bd p hp⟩
theorem Own2.lt {B : Nat} {m : Mem} {ps : List (Nat × List Int)} (h : Own2 B m ps) : ∀ p ∈ ps, p.1 < m.size := fun p hp => getM_lt (h.get p hp)
theorem Own2.keep {B : Nat} {m m' : Mem} {ps : List (Nat × List Int)} (h : Own2 B m ps) (k : ∀ p ∈ ps, m'.get p.1 = m.get p.1) : Own2 B m' ps := ⟨fun p hp => (k p hp).trans (h.get p hp), h.bd, h.lo, h.dis⟩
theorem Own2.old {B : Nat} {m m' : Mem} {ps : List (Nat × List Int)} (h : Own2 B m ps) (k : Old m m') : Own2 B m' ps := h.keep fun p hp => k.get (h.lt p hp)

theorem Own2.perm {B : Nat} {m : Mem} {ps qs : List (Nat × List Int)} (h : Own2 B m ps) (k : qs.Perm ps) : Own2 B m qs := ⟨fun p hp => h.get p (k.mem_iff.1 hp), fun p hp => h.bd p (k.mem_iff.1 hp), fun p hp => h.lo p (k.mem_iff.1 hp), (k.map _).nodup_iff.2 h.dis⟩
theorem perm_of_map {α β : Type} {f : α → β} {l l' : List β} (h : l.Perm l') : ∀ ps : List α, l = ps.map f → ∃ qs : List α, qs.Perm ps ∧ l' = qs.map f := by
  induction h with
  | nil => exact fun ps hp => ⟨ps, .refl _, hp⟩
  | cons x _ ih =>
    intro ps hp
    cases ps with
    | nil => cases hp
    | cons p ps =>
      rw [List.map_cons] at hp
      injection hp with h1 h2
      obtain ⟨qs, k1, k2⟩ := ih ps h2
      exact ⟨p :: qs, k1.cons p, by rw [h1, k2]; rfl⟩
  | swap x y l =>
    intro ps hp
    match ps, hp with
    | p :: q :: ps, hp =>
      rw [List.map_cons, List.map_cons] at hp
      injection hp with h1 h2
      injection h2 with h2 h3
      exact ⟨q :: p :: ps, List.Perm.swap p q ps, by rw [h1, h2, h3]; rfl⟩
  | trans _ _ ih1 ih2 =>
    intro ps hp
    obtain ⟨qs, k1, k2⟩ := ih1 ps hp
    obtain ⟨rs, k3, k4⟩ := ih2 qs k2
    exact ⟨rs, k3.trans k1, k4⟩

def rowN (e p i n : Int) : List Int := [e, p, i, n]

set_option maxRecDepth 100000 in
set_option maxHeartbeats 8000000 in
theorem RowsF_at {m : Mem} {a : Option Addr} {n c : Nat} {zs : List (List Int)} (h : SlA m 7 a n c ((zs.map fun z => z.map (.int .i64)).flatten)) (hl : zs.length = n) (hz : ∀ z ∈ zs, z.length = 7 ∧ ∀ x ∈ z, -9223372036854775808 ≤ x ∧ x < 9223372036854775808) :
    CallQ E F_sheaflaw19_rows [.slice a n c].toArray m fun w m' => ∃ (b : Nat) (s : Option Nat) (qs : List (Nat × List Int)), w = .slice (some ⟨b, 0, s⟩) qs.length qs.length ∧ qs.length ≤ 30 ∧ Vec m.size m' 1 (some ⟨b, 0, s⟩) qs.length ((qs.map rowH).map HRow.v) ∧ Own2 m.size m' qs ∧ (∀ q ∈ qs, q.1 ≠ b) ∧
      (∀ q ∈ qs, ∃ e p i n : Int, q.2 = rowN e p i n ∧ 1 ≤ e ∧ e ≤ 3 ∧ 0 ≤ p ∧ p ≤ 2 ∧ 0 ≤ i ∧ i < 30) ∧ (qs.map Prod.snd).Pairwise (fun x y => cmpL x y [0, 1] ≤ 0) ∧ Old m m' := by
  refine .enter fn_sheaflaw19_rows (by simp) ?_
  simp (decide := true) (implicitDefEqProofs := false) (maxDischargeDepth := 20) only [go_sem, ↓reduceIte, true_implies, false_implies]
  refine wpM_cut (fun t' m' => ∃ (a3 : Option Addr) (ps : List (Nat × List Int)), ps.length = min n 30 ∧ t' 3 = .slice a3 ps.length ps.length ∧ Vec m.size m' 1 a3 ps.length ((ps.map rowH).map HRow.v) ∧ Own2 m.size m' ps ∧
      (∀ q ∈ ps, ∃ e p i n : Int, q.2 = rowN e p i n ∧ 1 ≤ e ∧ e ≤ 3 ∧ 0 ≤ p ∧ p ≤ 2 ∧ 0 ≤ i ∧ i < 30) ∧ Old m m') ?_ fun t' m' ha ⟨a3, ps, hpl, e3, V, O, hrows, o⟩ => ?_
  · simp only [c_sheaflaw19_rows_6_at, wpM_block, c_sheaflaw19_rows_5_at]
    refine wpM_loopA (fun j t' m' => ∃ (k : Nat) (a3 : Option Addr) (ps : List (Nat × List Int)), k ≤ min n 30 ∧ j = min n 30 - k ∧ ps.length = k ∧ t' 4 = .int .i64 (k : Nat) ∧ t' 3 = .slice a3 ps.length ps.length ∧ Vec m.size m' 1 a3 ps.length ((ps.map rowH).map HRow.v) ∧ Own2 m.size m' ps ∧ (∀ q ∈ ps, ∀ y, a3 = some y → q.1 ≠ y.block) ∧
        (∀ q ∈ ps, ∃ e p i n : Int, q.2 = rowN e p i n ∧ 1 ≤ e ∧ e ≤ 3 ∧ 0 ≤ p ∧ p ≤ 2 ∧ 0 ≤ i ∧ i < 30) ∧ Old m m') (min n 30)
      ⟨0, none, [], by omega, rfl, rfl, by simp (decide := true) only [go_sem, ↓reduceIte]; try rfl, by simp (decide := true) only [go_sem, ↓reduceIte]; try rfl, .nil _ _ _, ⟨fun p h => by simp at h, fun p h => by simp at h, fun p h => by simp at h, by simp⟩, fun q h => by simp at h, fun q h => by simp at h, .refl m⟩ ?_
    rintro j t' m' ha ⟨k, a3, ps, hk, rfl, hpk, e4, e3, V, O, hdis, hrows, o⟩
    have a0 := ha 0 (by decide +kernel)
    simp (decide := true) only [go_sem, ↓reduceIte] at a0
    by_cases hlt : k < min n 30
    · have d1 : decide ((k : Int) < (n : Int)) = true := by simp; omega
      have d2 : decide ((k : Int) < 30) = true := by simp; omega
      have w1 : IntKind.wrap .i64 ((k : Int) + 1) = ((k + 1 : Nat) : Int) := by rw [wrap_i64_id _ (by omega) (by omega)]; omega
      have z0 : (0 : Int) ≤ (k : Int) := by omega
      have z1 : (k : Int) < (n : Int) := by omega
      obtain ⟨ab, ao, asp, rfl⟩ := h.addr (by omega)
      have hkl : k < zs.length := by omega
      have hzk := hz zs[k] (List.getElem_mem _)
      have R : Rw m' ab (ao + k * 7) ((zs[k]).map (.int .i64)) := by
        have := (h.old o).srow (fun z hz' => (hz z hz').1) (by decide) hkl
        unfold Rw
        rw [List.length_map, hzk.1]
        exact this
      generalize zs[k] = z at *
      obtain ⟨hz7, hzb⟩ := hzk
      have r0 : m'.at ab (ao + k * 7) = some (.int .i64 (z.getD 0 0)) := by
        have := R.at (i := 0) (by simp [hz7])
        simpa [List.getD_eq_getElem?_getD, hz7, Nat.add_assoc] using this
      have r1 : m'.at ab (ao + (k * 7 + 1)) = some (.int .i64 (z.getD 1 0)) := by
        have := R.at (i := 1) (by simp [hz7])
        simpa [List.getD_eq_getElem?_getD, hz7, Nat.add_assoc] using this
      have r5 : m'.at ab (ao + (k * 7 + 5)) = some (.int .i64 (z.getD 5 0)) := by
        have := R.at (i := 5) (by simp [hz7])
        simpa [List.getD_eq_getElem?_getD, hz7, Nat.add_assoc] using this
      simp (decide := true) (implicitDefEqProofs := false) (maxDischargeDepth := 20) only [go_sem, ↓reduceIte, a0, e3, e4, d1, d2, r0, r1, r5, z0, z1, Int.toNat_natCast, true_implies, false_implies]
      have b0 : -9223372036854775808 ≤ z.getD 0 0 ∧ z.getD 0 0 < 9223372036854775808 := hzb _ (by simp [List.getD_eq_getElem?_getD, hz7])
      have b1 : -9223372036854775808 ≤ z.getD 1 0 ∧ z.getD 1 0 < 9223372036854775808 := hzb _ (by simp [List.getD_eq_getElem?_getD, hz7])
      have b5' : -9223372036854775808 ≤ z.getD 5 0 ∧ z.getD 5 0 < 9223372036854775808 := hzb _ (by simp [List.getD_eq_getElem?_getD, hz7])
      generalize z.getD 0 0 = x0 at *
      generalize z.getD 1 0 = x1 at *
      generalize z.getD 5 0 = x5 at *
      refine ((Within_ans x0 1 3 b0.1 b0.2 (by omega) (by omega) (by omega) (by omega)) _).mono ?_
      rintro w m2 ⟨rfl, o2⟩
      obtain ⟨el, rfl, -⟩ := o2.ugm
      have o2 : Old m' (m'.ext el) := ⟨el, rfl⟩
      obtain ⟨E1, hE1⟩ : ∃ E1, E1 = 1 + x0 % (3 - 1 + 1) := ⟨_, rfl⟩
      rw [← hE1]
      simp (decide := true) (implicitDefEqProofs := false) (maxDischargeDepth := 20) only [go_sem, ↓reduceIte, true_implies, false_implies]
      generalize m'.ext el = m2 at *
      refine ((Within_ans x1 0 2 b1.1 b1.2 (by omega) (by omega) (by omega) (by omega)) _).mono ?_
      rintro w m3 ⟨rfl, o3⟩
      obtain ⟨el2, rfl, -⟩ := o3.ugm
      have o3 : Old m2 (m2.ext el2) := ⟨el2, rfl⟩
      obtain ⟨P1, hP1⟩ : ∃ P1, P1 = 0 + x1 % (2 - 0 + 1) := ⟨_, rfl⟩
      rw [← hP1]
      simp (decide := true) (implicitDefEqProofs := false) (maxDischargeDepth := 20) only [go_sem, ↓reduceIte, true_implies, false_implies]
      have q1 : m2.size + el2.length = (m2.ext el2).size := (size_ext _ _).symm
      have q2 : m2.size + (el2.length + 1) = (m2.ext el2).size + 1 := by rw [size_ext]; omega
      rw [q1, q2]
      clear q1 q2
      generalize m2.ext el2 = m3 at *
      have o13 := o2.trans o3
      have z13 := o13.size
      obtain ⟨rb, hrb⟩ : ∃ b, b = m3.size := ⟨_, rfl⟩
      obtain ⟨mp, hmp⟩ : ∃ mp, mp = m3.push (.cells false true [.int .i64 E1, .int .i64 P1, .int .i64 (k : Nat), .int .i64 x5]) := ⟨_, rfl⟩
      have sp : mp.size = m3.size + 1 := by rw [hmp, size_push]
      have op : Old m' mp := by rw [hmp]; exact o13.push _
      have gr : mp.get rb = some (.cells false true ((rowN E1 P1 (k : Nat) x5).map (.int .i64))) := by rw [hmp, hrb, getM_push, if_pos rfl]; rfl
      rw [← hrb, ← hmp]
      have Vp := V.old op
      have Op := O.old op
      have oz := o.size
      refine Vp.appendQ (by omega) (by omega) rfl (by decide) (by decide +kernel) (by decide +kernel) rfl (by omega) fun m5 b5 s5 v5 k5 hb5 => ?_
      simp (decide := true) (implicitDefEqProofs := false) (maxDischargeDepth := 20) only [go_sem, ↓reduceIte, e4, w1, true_implies, false_implies]
      have hpl' : (ps ++ [(rb, rowN E1 P1 (k : Nat) x5)]).length = ps.length + 1 := by simp
      refine ⟨min n 30 - (k + 1), by omega, k + 1, some ⟨b5, 0, s5⟩, ps ++ [(rb, rowN E1 P1 (k : Nat) x5)], by omega, rfl, by omega, rfl, by rw [hpl'], ?_, ⟨fun q hq => ?_, fun q hq => ?_, fun q hq => ?_, ?_⟩, fun q hq y hy => ?_, fun q hq => ?_, V.keepOld ⟨Nat.le_trans op.size k5.1, fun i hi hne => ?_⟩ o⟩
      · rw [hpl', List.map_append, List.map_append]
        exact v5
      · rcases List.mem_append.1 hq with hq | hq
        · rw [k5.2 q.1 (Op.lt q hq) fun y hy e => hdis q hq y hy e]
          exact Op.get q hq
        · rw [List.mem_singleton.1 hq]
          show m5.get rb = _
          rw [k5.2 rb (getM_lt gr) fun y hy e => by have := V.lt hy; omega]
          exact gr
      · rcases List.mem_append.1 hq with hq | hq
        · exact O.bd q hq
        · rw [List.mem_singleton.1 hq]
          intro x hx
          simp only [rowN, List.mem_cons, List.not_mem_nil, or_false] at hx
          rcases hx with rfl | rfl | rfl | rfl
          · omega
          · omega
          · omega
          · exact b5'
      · rcases List.mem_append.1 hq with hq | hq
        · exact O.lo q hq
        · rw [List.mem_singleton.1 hq]
          show m.size ≤ rb
          omega
      · rw [List.map_append, List.nodup_append]
        refine ⟨O.dis, by simp, fun x hx y hy => ?_⟩
        obtain ⟨q, hq, rfl⟩ := List.mem_map.1 hx
        simp at hy
        have := O.lt q hq
        omega
      · cases hy
        rcases List.mem_append.1 hq with hq | hq
        · have := O.lt q hq
          show q.1 ≠ b5
          omega
        · rw [List.mem_singleton.1 hq]
          show rb ≠ b5
          omega
      · rcases List.mem_append.1 hq with hq | hq
        · exact hrows q hq
        · rw [List.mem_singleton.1 hq]
          exact ⟨E1, P1, k, x5, rfl, by omega, by omega, by omega, by omega, by omega, by omega⟩
      · rw [k5.2 i (by omega) hne, op.get hi]
    · have hkk : k = min n 30 := by omega
      by_cases h12 : k < n
      · have d1 : decide ((k : Int) < (n : Int)) = true := by simp; omega
        have d2 : decide ((k : Int) < 30) = false := by simp; omega
        simp (decide := true) (implicitDefEqProofs := false) (maxDischargeDepth := 20) only [go_sem, ↓reduceIte, a0, e3, e4, d1, d2, true_implies, false_implies]
        exact ⟨a3, ps, by omega, rfl, V, O, hrows, o⟩
      · have d1 : decide ((k : Int) < (n : Int)) = false := by simp; omega
        simp (decide := true) (implicitDefEqProofs := false) (maxDischargeDepth := 20) only [go_sem, ↓reduceIte, a0, e3, e4, d1, true_implies, false_implies]
        exact ⟨a3, ps, by omega, rfl, V, O, hrows, o⟩
  · simp (decide := true) (implicitDefEqProofs := false) (maxDischargeDepth := 20) only [go_sem, e3, ↓reduceIte, true_implies, false_implies]
    have hC : SlA (m'.push (.cells false true [.int .i64 0, .int .i64 1])) 1 (some ⟨m'.size, 0, none⟩) 2 2 (([0, 1] : List Int).map (.int .i64)) := .new (by rw [getM_push, if_pos rfl]; rfl) rfl rfl
    have Op := O.old (.push (.refl m') (.cells false true [.int .i64 0, .int .i64 1]))
    have hlen4 : ∀ q ∈ ps, q.2.length = 4 := fun q hq => by
      obtain ⟨e, p, i, n, h1, _⟩ := hrows q hq
      rw [h1]; rfl
    refine (Sorted_at (rs := ps.map rowH) (V.sl.push _) (fun r hr => ?_) (fun r hr => ?_) hC (by omega) (by omega)).mono ?_
    · obtain ⟨q, hq, rfl⟩ := List.mem_map.1 hr
      exact Op.at_ q hq
    · obtain ⟨q, hq, rfl⟩ := List.mem_map.1 hr
      show q.2.length ≤ 1000000
      rw [hlen4 q hq]; omega
    · rintro w m2 ⟨b, s, rfl, VS, o2⟩
      simp (decide := true) (implicitDefEqProofs := false) (maxDischargeDepth := 20) only [go_sem, ↓reduceIte, true_implies, false_implies]
      obtain ⟨qs, hp, hq⟩ := perm_of_map (sortL_perm [0, 1] (ps.map rowH)).symm ps rfl
      have hsrt := sortL_sorted [0, 1] (ps.map rowH)
      rw [hq] at VS hsrt
      have hlq : qs.length = ps.length := hp.length_eq
      have z2 := o2.size
      have oz := o.size
      refine ⟨b, s, qs, by rw [hlq], by omega, by rw [hlq]; exact VS.mono (by simp; omega), (Op.perm hp).old o2, fun q hq' e => ?_, fun q hq' => hrows q (hp.mem_iff.1 hq'), ?_, o.trans ((Old.push (.refl _) _).trans o2)⟩
      · have h1 := (Op.perm hp).lt q hq'
        have h2 := (VS.blk _ rfl).1
        simp only at h2
        omega
      · rw [List.pairwise_map] at hsrt ⊢
        exact hsrt
end Go.Proofs.Ytjmppooebppecaa.W
