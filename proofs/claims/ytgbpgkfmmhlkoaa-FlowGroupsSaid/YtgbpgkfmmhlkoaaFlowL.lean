/-
  Map over slices (printed by wip/dev/genflow.py from FlowC).
-/
import Derived.Test.YtgbpgkfmmhlkoaaFlowK
namespace Go.Proofs.Ytgbpgkfmmhlkoaa.W
open Go.Abs
set_option linter.unusedSimpArgs false
set_option linter.unusedVariables false

set_option maxRecDepth 100000 in
theorem MapSI {Z : Nat → Option Blk} {F : Set'} {s fv : Value} {n : Nat} {Own : Nat → Mem → Prop} {El : Nat → List Value → Mem → Set' → Prop} {g : Nat → Value} (hs : Iter E Z F s n Own El) {b1 b2 : Nat} {r1 t1 r2 t2 : Bool} (h1 : Z b1 = some (.cells r1 t1 [s])) (h2 : Z b2 = some (.cells r2 t2 [fv]))
    (hf : ∀ k vs m B, k < n → Frozen Z m → El k vs m B → ∃ v, vs = [v] ∧ CallF E fv [v] m fun w m' => w = g k ∧ Old m m') : Iter E Z F (.func (.func F_flow_Map_Sint_int_1) #[] #[.pointer (some ⟨b1, 0, none⟩), .pointer (some ⟨b2, 0, none⟩)]) n Own (pureEl fun k => [g k]) where
  fn := ⟨_, _, _, rfl⟩
  locO := hs.locO
  locE := pureEl_loc _
  go := by
    intro y hy I D lI lD step m A z o hF own0 i0
    obtain ⟨yf, ya, yb, rfl⟩ := hy
    rw [CallF_func]
    refine ⟨some67, ?_⟩
    have e : (#[] ++ [Value.func yf ya yb].toArray ++ #[.pointer (some ⟨b1, 0, none⟩), .pointer (some ⟨b2, 0, none⟩)] : Array Value) = [Value.func yf ya yb, .pointer (some ⟨b1, 0, none⟩), .pointer (some ⟨b2, 0, none⟩)].toArray := by simp
    rw [e]
    refine .enter fn_flow_Map_Sint_int_1 (by simp) ?_
    have ho : Old m (m.push (.cells false true [Value.func yf ya yb])) := .push (.refl m) _
    have r0 := frozen_at z h1
    have n1 : ¬ b1 = m.size := by have := z.lt h1; omega
    let P : List (Nat × Blk) := [(m.size, .cells false true [Value.func yf ya yb])]
    have hP : ∀ p ∈ P, m.size ≤ p.1 ∧ (m.push (.cells false true [Value.func yf ya yb])).get p.1 = some p.2 := by
      intro p hp
      rw [List.mem_singleton.1 hp]
      exact ⟨Nat.le_refl _, by rw [getM_push, if_pos rfl]⟩
    simp (decide := true) (implicitDefEqProofs := false) (maxDischargeDepth := 20) only [go_sem, r0, n1, ↓reduceIte, true_implies, false_implies]
    simp only [c_flow_Map_Sint_int_1_4_at, wpM_block, c_flow_Map_Sint_int_1_3_at]
    refine wpM_rangeP (A := fun i => A i ∨ ∃ p ∈ P, i = p.1) hs (fun t => upd t 4 (t 6)) (by simp (decide := true) only [go_sem, ↓reduceIte]) rfl asg_flow_Map_Sint_int_1_0 body_flow_Map_Sint_int_1_0 (by decide) (fun K l t m h => by simp (decide := true) only [go_sem, ↓reduceIte]; exact h)
      (fun k => WithP P (I k)) (fun k x m' A' => x = .ret ∧ WithP P (D k) m' A') (fun k => WithP.loc (lI k)) (fun k x m1 m2 A' h q r => ⟨h.1, WithP.loc (lD k) m1 m2 A' h.2 q r⟩) (z.old ho) (priv_own o ho.size z (fun i hi => (hF i hi).1) fun p hp => ⟨(hP p hp).1, getM_lt (hP p hp).2⟩) (fun i hi => ⟨Nat.lt_of_lt_of_le (hF i hi).1 ho.size, (hF i hi).2⟩)
      (hs.locO 0 m _ own0 fun i hi => ho.get (hF i hi).1) (priv_in (lI 0 m _ A i0 (fun i hi => ho.get (o i hi).1) ho.size) o hP) ?_ ?_ ?_
    · rintro k vs m1 A' B l hk z1 o1 o2 dis ow ⟨A1, hI, hp, hA⟩ hel hin hms
      have hBn : ∀ i, B i → i ≠ m.size := fun i hi e => dis m.size ((hA m.size).2 (.inr ⟨_, List.mem_singleton.2 rfl, rfl⟩)) (e ▸ hi)
      obtain ⟨v, rfl, hc⟩ := hf k vs (m1.gm [m.size]) B hk (z1.gm _ fun i hi => by
        simp only [List.mem_singleton] at hi
        rw [hi]; exact z.free (Nat.le_refl _)) (hs.locE k vs m1 _ B hel (fun i hi => by rw [get_gm, if_neg (by simpa using hBn i hi)]) (by rw [gm_size]; omega))
      refine ⟨rfl, ?_⟩
      have g3 := (hp _ (List.mem_singleton.2 rfl)).1
      have r3 : m1.at m.size 0 = some (Value.func yf ya yb) := get_at0 g3
      have r2 := frozen_at z1 h2
      simp (decide := true) (implicitDefEqProofs := false) (maxDischargeDepth := 20) only [go_sem, r2, r3, ↓reduceIte, true_implies, false_implies]
      refine CallF.step (hc.mono ?_)
      · rintro w m2 ⟨rfl, ho2⟩
        obtain ⟨el, rfl, hu⟩ := ho2.ugm
        have o3 : Old m1 (m1.ext el) := ⟨el, rfl⟩
        simp (decide := true) (implicitDefEqProofs := false) (maxDischargeDepth := 20) only [go_sem, ↓reduceIte, true_implies, false_implies]
        have hms' : m.size ≤ m1.size := Nat.le_trans ho.size hms
        have oA1 : OwnS Z F m1 A1 := fun i hi => o1 i ((hA i).2 (.inl hi))
        refine CallF.step ((step k [g k] (m1.ext el) A1 B hk (z1.old o3) (fun i hi => ⟨Nat.lt_of_lt_of_le (oA1 i hi).1 o3.size, (oA1 i hi).2⟩) (fun i hi => ⟨Nat.lt_of_lt_of_le (o2 i hi).1 o3.size, (o2 i hi).2⟩) (fun i hi => dis i ((hA i).2 (.inl hi)))
          (fun i hi => by have := (hF i hi).1; have := o3.size; omega) (hs.locO _ m1 _ ow fun i hi => o3.get (by have := (hF i hi).1; omega)) (lI k m1 _ A1 hI (fun i hi => o3.get (oA1 i hi).1) o3.size) rfl).mono ?_)
        rintro w m2 ⟨A2, c1, c2, hw⟩
        obtain ⟨p1, p2, p3⟩ := priv_step (fun p hpp => ⟨(o3.get (getM_lt (hp p hpp).1)).trans (hp p hpp).1, (hp p hpp).2⟩) hA dis c1 c2
        have p1' : ChgS (fun i => A' i ∨ B i) m1 m2 := (o3.chg _).trans p1 (fun _ h => h) (fun _ _ h => h)
        have p2' : NewS (fun i => A' i ∨ B i) m1 m2 (fun i => A2 i ∨ ∃ p ∈ P, i = p.1) := fun i hi => ⟨(p2 i hi).1, (p2 i hi).2.imp id fun e => Nat.le_trans o3.size e⟩
        rcases hw with ⟨rfl, hI2⟩ | ⟨rfl, hD⟩
        · simp (decide := true) (implicitDefEqProofs := false) (maxDischargeDepth := 20) only [go_sem, ↓reduceIte, true_implies, false_implies]
          exact ⟨_, p1', p2', A2, hI2, p3, fun _ => Iff.rfl⟩
        · simp (decide := true) (implicitDefEqProofs := false) (maxDischargeDepth := 20) only [go_sem, ↓reduceIte, true_implies, false_implies]
          exact ⟨_, p1', p2', .inl trivial, A2, hD, p3, fun _ => Iff.rfl⟩
    · rintro m' A' z' o' ow ⟨A1, hI, hp, hA⟩ c1 c2
      have := priv_out o ho (fun p hp => (hP p hp).1) c1 c2 hA
      simp (decide := true) (implicitDefEqProofs := false) (maxDischargeDepth := 20) only [go_sem, ↓reduceIte, true_implies, false_implies]
      exact ⟨A1, this.1, this.2, .inl ⟨ow, hI⟩⟩
    · rintro k x m' A' hk z' o' ow hx ⟨rfl, A1, hD, hp, hA⟩ c1 c2
      have := priv_out o ho (fun p hp => (hP p hp).1) c1 c2 hA
      simp (decide := true) (implicitDefEqProofs := false) (maxDischargeDepth := 20) only [go_sem, ↓reduceIte, true_implies, false_implies]
      exact ⟨A1, this.1, this.2, .inr ⟨k, hk, ow, hD⟩⟩
end Go.Proofs.Ytgbpgkfmmhlkoaa.W
