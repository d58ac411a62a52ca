/-
  CheckEdges: the loops.
-/
import Derived.Test.YtgbpgkfmmhlkoaaCheckE
import Derived.Test.YtgbpgkfmmhlkoaaBook
namespace Go.Proofs.Ytgbpgkfmmhlkoaa.W
open Go.Abs
set_option linter.unusedSimpArgs false
set_option linter.unusedVariables false

def rowCell (p : Nat × List Int) : Value := .slice (some ⟨p.1, 0, none⟩) p.2.length p.2.length
/-- Rows in blocks of their own, and a list of them. -/
structure Rws (m : Mem) (B : Nat) (rs : List (Nat × List Int)) : Prop where
  out : Box m B (rs.map rowCell)
  row : ∀ p ∈ rs, Box m p.1 (p.2.map (.int .i64))

theorem Rws.old {m m' : Mem} {B : Nat} {rs : List (Nat × List Int)} (h : Rws m B rs) (k : Old m m') : Rws m' B rs := ⟨h.out.old k, fun p hp => (h.row p hp).old k⟩
theorem Rws.sl {m : Mem} {B : Nat} {rs : List (Nat × List Int)} (h : Rws m B rs) : SlA m 1 (some ⟨B, 0, none⟩) rs.length rs.length (rs.map rowCell) := by
  obtain ⟨tg, g⟩ := h.out
  exact SlA.new g (by simp) rfl
theorem Rws.get {m : Mem} {B : Nat} {rs : List (Nat × List Int)} (h : Rws m B rs) (i : Nat) (hi : i < rs.length) : SlA m 1 (some ⟨rs[i].1, 0, none⟩) rs[i].2.length rs[i].2.length (rs[i].2.map (.int .i64)) := by
  obtain ⟨tg, g⟩ := h.row rs[i] (List.getElem_mem hi)
  exact SlA.new g (by simp) rfl

set_option maxRecDepth 100000 in
set_option maxHeartbeats 4000000 in
theorem Edges_loop1 (t : Fr) (m : Mem) (name : Int) (B : Nat) (rs : List (Nat × List Int)) (hr : Rws m B rs) (hn : rs.length ≤ 100) (hg : ∀ p ∈ rs, goodL name p.2 = true)
    (t8 : t 8 = .int .i64 name) (t108 : t 108 = .slice (some ⟨B, 0, none⟩) rs.length rs.length) (t109 : t 109 = .int .i64 rs.length) (t110 : t 110 = .int .i64 0) (K : Post3)
    (hK : ∀ t' m', Agree (writes c_sheaflaw16_CheckEdges_24) t t' → Old m m' → K .normal t' m') :
    wpM E F_sheaflaw16_CheckEdges 140 none c_sheaflaw16_CheckEdges_24 K t m := by
  refine wpM_cut (fun t' m' => Old m m') ?_ fun t' m' ha e => hK t' m' ha e
  simp only [c_sheaflaw16_CheckEdges_24_at, wpM_block, c_sheaflaw16_CheckEdges_23_at]
  refine wpM_loopA (fun j t' m' => ∃ i : Nat, i ≤ rs.length ∧ j = rs.length - i ∧ t' 110 = .int .i64 i ∧ Old m m') rs.length ⟨0, by omega, rfl, t110, .refl m⟩ ?_
  rintro j t' m' ha ⟨i, hi, rfl, e110, o⟩
  have a8 := (ha 8 (by decide +kernel)).trans t8
  have a108 := (ha 108 (by decide +kernel)).trans t108
  have a109 := (ha 109 (by decide +kernel)).trans t109
  have hr2 := hr.old o
  by_cases hlt : i < rs.length
  · have d1 : decide ((i : Int) < (rs.length : Int)) = true := by simp; omega
    have w1 : IntKind.wrap .i64 ((i : Int) + 1) = ((i + 1 : Nat) : Int) := by rw [wrap_i64_id _ (by omega) (by omega)]; omega
    have z0 : (0 : Int) ≤ (i : Int) := by omega
    have z1 : (i : Int) < (rs.length : Int) := by omega
    have r1 := hr2.sl.at_map hlt
    unfold rowCell at r1
    rw [Nat.zero_add] at r1
    have R := fun K => callQ_eq (CGood_at name (hr2.get i hlt)) K
    rw [hg _ (List.getElem_mem hlt)] at R
    simp (decide := true) (implicitDefEqProofs := false) (maxDischargeDepth := 20) only [go_sem, ↓reduceIte, a8, a108, a109, e110, d1, w1, z0, z1, r1, R, Int.toNat_natCast, Bool.not_true, true_implies, false_implies]
    exact ⟨rs.length - (i + 1), by omega, i + 1, by omega, rfl, rfl, o.trans (.ansM (.refl _))⟩
  · have d1 : decide ((i : Int) < (rs.length : Int)) = false := by simp; omega
    simp (decide := true) (implicitDefEqProofs := false) (maxDischargeDepth := 20) only [go_sem, ↓reduceIte, a108, a109, e110, d1, true_implies, false_implies]
    exact o

set_option maxRecDepth 100000 in
set_option maxHeartbeats 4000000 in
theorem Edges_loop2 (t : Fr) (m : Mem) (name : Int) (B : Nat) (rs : List (Nat × List Int)) (hr : Rws m B rs) (hn : rs.length ≤ 100) (hg : ∀ p ∈ rs, goodL name p.2 = false)
    (t8 : t 8 = .int .i64 name) (t108 : t 119 = .slice (some ⟨B, 0, none⟩) rs.length rs.length) (t109 : t 120 = .int .i64 rs.length) (t110 : t 121 = .int .i64 0) (K : Post3)
    (hK : ∀ t' m', Agree (writes c_sheaflaw16_CheckEdges_36) t t' → Old m m' → K .normal t' m') :
    wpM E F_sheaflaw16_CheckEdges 140 none c_sheaflaw16_CheckEdges_36 K t m := by
  refine wpM_cut (fun t' m' => Old m m') ?_ fun t' m' ha e => hK t' m' ha e
  simp only [c_sheaflaw16_CheckEdges_36_at, wpM_block, c_sheaflaw16_CheckEdges_35_at]
  refine wpM_loopA (fun j t' m' => ∃ i : Nat, i ≤ rs.length ∧ j = rs.length - i ∧ t' 121 = .int .i64 i ∧ Old m m') rs.length ⟨0, by omega, rfl, t110, .refl m⟩ ?_
  rintro j t' m' ha ⟨i, hi, rfl, e110, o⟩
  have a8 := (ha 8 (by decide +kernel)).trans t8
  have a108 := (ha 119 (by decide +kernel)).trans t108
  have a109 := (ha 120 (by decide +kernel)).trans t109
  have hr2 := hr.old o
  by_cases hlt : i < rs.length
  · have d1 : decide ((i : Int) < (rs.length : Int)) = true := by simp; omega
    have w1 : IntKind.wrap .i64 ((i : Int) + 1) = ((i + 1 : Nat) : Int) := by rw [wrap_i64_id _ (by omega) (by omega)]; omega
    have z0 : (0 : Int) ≤ (i : Int) := by omega
    have z1 : (i : Int) < (rs.length : Int) := by omega
    have r1 := hr2.sl.at_map hlt
    unfold rowCell at r1
    rw [Nat.zero_add] at r1
    have R := fun K => callQ_eq (CGood_at name (hr2.get i hlt)) K
    rw [hg _ (List.getElem_mem hlt)] at R
    simp (decide := true) (implicitDefEqProofs := false) (maxDischargeDepth := 20) only [go_sem, ↓reduceIte, a8, a108, a109, e110, d1, w1, z0, z1, r1, R, Int.toNat_natCast, Bool.not_true, true_implies, false_implies]
    exact ⟨rs.length - (i + 1), by omega, i + 1, by omega, rfl, rfl, o.trans (.ansM (.refl _))⟩
  · have d1 : decide ((i : Int) < (rs.length : Int)) = false := by simp; omega
    simp (decide := true) (implicitDefEqProofs := false) (maxDischargeDepth := 20) only [go_sem, ↓reduceIte, a108, a109, e110, d1, true_implies, false_implies]
    exact o
end Go.Proofs.Ytgbpgkfmmhlkoaa.W
