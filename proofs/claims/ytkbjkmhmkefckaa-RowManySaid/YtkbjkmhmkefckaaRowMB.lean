/-
  RowMany, the law.
-/
import Derived.Test.YtkbjkmhmkefckaaRowMA
namespace Go.Proofs.Ytkbjkmhmkefckaa.W
open Go.Abs
set_option linter.unusedSimpArgs false
set_option linter.unusedVariables false

set_option maxRecDepth 100000 in
set_option maxHeartbeats 4000000 in
theorem RowMany_law (m : Mem) (hro : ∀ i c, m.get i = some c → c.writable = false)
    (a0 : Option Addr) (l0 c0 : Nat) (rs : List HRow) (hs : SlA m 1 a0 l0 c0 (rs.map HRow.v)) (hl : rs.length = l0) (hr : ∀ r ∈ rs, r.At m) :
    CallQ E F_sheaflaw13_RowMany [.slice a0 l0 c0].toArray m fun v _ => v = .bool true := by
  refine .enter fn_sheaflaw13_RowMany (by simp) ?_
  simp (decide := true) (implicitDefEqProofs := false) (maxDischargeDepth := 20) only [go_sem, ↓reduceIte, true_implies, false_implies]
  refine RowMany_fill hs hr hl (by simp (decide := true) only [go_sem, ↓reduceIte]; try rfl) (by simp (decide := true) only [go_sem, ↓reduceIte]; try rfl) (by simp (decide := true) only [go_sem, ↓reduceIte]; try rfl) (by simp (decide := true) only [go_sem, ↓reduceIte]; try rfl) (.refl m) fun t1 m1 a3 a4 nb ha e3 V3 e4 V4 o1 => ?_
  simp (decide := true) (implicitDefEqProofs := false) (maxDischargeDepth := 20) only [go_sem, ↓reduceIte, e3, e4, true_implies, false_implies]
  have hAt : ∀ r ∈ (rs.take 12).map cutR, r.At m1 := fun r h => by
    obtain ⟨r', h1, rfl⟩ := List.mem_map.1 h
    exact cutR_at ((hr r' (List.mem_of_mem_take h1)).old o1)
  have h10 : ∀ r ∈ (rs.take 12).map cutR, r.xs.length ≤ 10 := fun r h => by
    obtain ⟨r', h1, rfl⟩ := List.mem_map.1 h
    show (r'.xs.take 10).length ≤ 10
    rw [List.length_take]; omega
  have hn : ((rs.take 12).map cutR).length = min l0 12 := by rw [List.length_map, List.length_take]; omega
  refine RowMany_read (N := min l0 12) V3.sl hAt hn h10 (by omega) (by simp (decide := true) only [go_sem, ↓reduceIte, e3]) (by simp (decide := true) only [go_sem, ↓reduceIte, e4]) V4.sl (by simp (decide := true) only [go_sem, ↓reduceIte, e3]) (by simp (decide := true) only [go_sem, ↓reduceIte]) fun t2 m2 a c ha2 f4 H o2 => ?_
  simp (decide := true) (implicitDefEqProofs := false) (maxDischargeDepth := 20) only [go_sem, ↓reduceIte, f4, true_implies, false_implies]
  refine (Get_at H (fun x hx => by simp at hx) (by omega)).mono ?_
  rintro w m3 ⟨y, ny, rfl, V, o3⟩
  have e0 : getL ([] : List Int) = ([], 0) := rfl
  rw [e0]
  simp (decide := true) (implicitDefEqProofs := false) (maxDischargeDepth := 20) only [go_sem, ↓reduceIte, f4, true_implies, false_implies]
end Go.Proofs.Ytkbjkmhmkefckaa.W
