/-
  Keep.
-/
import Derived.Test.YtgbpgkfmmhlkoaaFlowC
namespace Go.Proofs.Ytgbpgkfmmhlkoaa.W
open Go.Abs
set_option linter.unusedSimpArgs false
set_option linter.unusedVariables false

/-- Where the one below stands at each of what is kept. -/
def KeepO (n n' : Nat) (xs : List Int) (pp : Int → Bool) (Own : Nat → Mem → Prop) : Nat → Mem → Prop := fun j m =>
  (j = 0 ∧ Own 0 m) ∨ (j = n' + 1 ∧ Own (n + 1) m) ∨ ∃ k, k < n ∧ pp (xs.getD k 0) = true ∧ ((xs.take k).filter pp).length + 1 = j ∧ Own (k + 1) m

theorem filter_at (xs : List Int) (pp : Int → Bool) (k : Nat) (hk : k < xs.length) :
    ((xs.take (k + 1)).filter pp).length = ((xs.take k).filter pp).length + (if pp (xs.getD k 0) then 1 else 0) ∧ (pp (xs.getD k 0) = true → ((xs.take k).filter pp).length < (xs.filter pp).length ∧ (xs.filter pp).getD ((xs.take k).filter pp).length 0 = xs.getD k 0) := by
  have e1 : xs.getD k 0 = xs[k] := by simp [List.getD_eq_getElem?_getD, List.getElem?_eq_getElem hk]
  have e2 : xs.take (k + 1) = xs.take k ++ [xs[k]] := List.take_succ_eq_append_getElem hk
  have e3 : xs = xs.take k ++ (xs[k] :: xs.drop (k + 1)) := by rw [← List.drop_eq_getElem_cons hk, List.take_append_drop]
  rw [e1]
  refine ⟨?_, fun hp => ?_⟩
  · rw [e2, List.filter_append, List.length_append]
    by_cases hp : pp xs[k] = true
    · simp [hp]
    · simp [hp]
  · have e4 : xs.filter pp = (xs.take k).filter pp ++ (xs[k] :: (xs.drop (k + 1)).filter pp) := by
      conv => lhs; rw [e3]
      rw [List.filter_append, List.filter_cons, if_pos hp]
    rw [e4]
    simp [List.getD_eq_getElem?_getD]

set_option maxRecDepth 100000 in
theorem KeepI {Z : Nat → Option Blk} {F : Set'} {s fv : Value} {n : Nat} {Own : Nat → Mem → Prop} {xs : List Int} (hl : xs.length = n) {pp : Int → Bool} (hs : Iter E Z F s n Own (pureEl (intsEl xs))) {b1 b2 : Nat} {r1 t1 r2 t2 : Bool} (h1 : Z b1 = some (.cells r1 t1 [s])) (h2 : Z b2 = some (.cells r2 t2 [fv]))
    (hf : ∀ k, k < n → PureF E Z fv [.int .i64 (xs.getD k 0)] (.bool (pp (xs.getD k 0)))) : Iter E Z F (.func (.func F_flow_Keep_int_1) #[] #[.pointer (some ⟨b1, 0, none⟩), .pointer (some ⟨b2, 0, none⟩)]) (xs.filter pp).length (KeepO n (xs.filter pp).length xs pp Own) (pureEl (intsEl (xs.filter pp))) where
  fn := ⟨_, _, _, rfl⟩
  locO := by
    rintro k m m' (⟨h, h'⟩ | ⟨h, h'⟩ | ⟨j, h3, h4, h5, h6⟩) hk
    · exact .inl ⟨h, hs.locO _ _ _ h' hk⟩
    · exact .inr (.inl ⟨h, hs.locO _ _ _ h' hk⟩)
    · exact .inr (.inr ⟨j, h3, h4, h5, hs.locO _ _ _ h6 hk⟩)
  locE := pureEl_loc _
  go := by
    intro y hy I D lI lD step m A z o hF own0 i0
    have step : StepOk E Z F _ _ _ y I D := step
    obtain ⟨yf, ya, yb, rfl⟩ := hy
    have own0 : Own 0 m := by
      rcases own0 with ⟨_, h⟩ | ⟨h, _⟩ | ⟨_, _, _, h, _⟩
      · exact h
      · omega
      · omega
    rw [CallF_func]
    refine ⟨some63, ?_⟩
    have e : (#[] ++ [Value.func yf ya yb].toArray ++ #[.pointer (some ⟨b1, 0, none⟩), .pointer (some ⟨b2, 0, none⟩)] : Array Value) = [Value.func yf ya yb, .pointer (some ⟨b1, 0, none⟩), .pointer (some ⟨b2, 0, none⟩)].toArray := by simp
    rw [e]
    refine .enter fn_flow_Keep_int_1 (by simp) ?_
    have ho : Old m (m.push (.cells false true [Value.func yf ya yb])) := .push (.refl m) _
    have r0 := frozen_at z h1
    have n1 : ¬ b1 = m.size := by have := z.lt h1; omega
    let P : List (Nat × Blk) := [(m.size, .cells false true [Value.func yf ya yb])]
    have hP : ∀ p ∈ P, m.size ≤ p.1 ∧ (m.push (.cells false true [Value.func yf ya yb])).get p.1 = some p.2 := by
      intro p hp
      rw [List.mem_singleton.1 hp]
      exact ⟨Nat.le_refl _, by rw [getM_push, if_pos rfl]⟩
    simp (decide := true) (implicitDefEqProofs := false) (maxDischargeDepth := 20) only [go_sem, r0, n1, ↓reduceIte, true_implies, false_implies]
    simp only [c_flow_Keep_int_1_4_at, wpM_block, c_flow_Keep_int_1_3_at]
    refine wpM_rangeP (A := fun i => A i ∨ ∃ p ∈ P, i = p.1) hs (fun t => upd t 4 (t 6)) (by simp (decide := true) only [go_sem, ↓reduceIte]) rfl asg_flow_Keep_int_1_0 body_flow_Keep_int_1_0 (by decide) (fun K l t m h => by simp (decide := true) only [go_sem, ↓reduceIte]; exact h)
      (fun k => WithP P (I ((xs.take k).filter pp).length)) (fun k x m' A' => x = .ret ∧ pp (xs.getD k 0) = true ∧ WithP P (D ((xs.take k).filter pp).length) m' A') (fun k => WithP.loc (lI _)) (fun k x m1 m2 A' h q r => ⟨h.1, h.2.1, WithP.loc (lD _) m1 m2 A' h.2.2 q r⟩) (z.old ho) (priv_own o ho.size z (fun i hi => (hF i hi).1) fun p hp => ⟨(hP p hp).1, getM_lt (hP p hp).2⟩) (fun i hi => ⟨Nat.lt_of_lt_of_le (hF i hi).1 ho.size, (hF i hi).2⟩)
      (hs.locO 0 m _ own0 fun i hi => ho.get (hF i hi).1) (priv_in (lI 0 m _ A i0 (fun i hi => ho.get (o i hi).1) ho.size) o hP) ?_ ?_ ?_
    · rintro k vs m1 A' B l hk z1 o1 o2 dis ow ⟨A1, hI, hp, hA⟩ hel hin hms
      have hel : vs = [.int .i64 (xs.getD k 0)] := hel
      subst hel
      refine ⟨rfl, ?_⟩
      have g3 := (hp _ (List.mem_singleton.2 rfl)).1
      have r3 : m1.at m.size 0 = some (Value.func yf ya yb) := get_at0 g3
      have r2 := frozen_at z1 h2
      have hms' : m.size ≤ m1.size := Nat.le_trans ho.size hms
      obtain ⟨f1, f2⟩ := filter_at xs pp k (by omega)
      simp (decide := true) (implicitDefEqProofs := false) (maxDischargeDepth := 20) only [go_sem, r2, ↓reduceIte, true_implies, false_implies]
      refine CallF.step ((hf k hk _ z1).mono ?_)
      rintro w m2 ⟨rfl, o3⟩
      have lt3 := at_lt r3
      have r3' : m2.at m.size 0 = some (Value.func yf ya yb) := (o3.at lt3).trans r3
      have hp2 : ∀ p ∈ P, m2.get p.1 = some p.2 ∧ ¬ A1 p.1 := fun p hpp => ⟨(o3.get (getM_lt (hp p hpp).1)).trans (hp p hpp).1, (hp p hpp).2⟩
      have oA : OwnS Z F m2 A' := fun i hi => ⟨Nat.lt_of_lt_of_le (o1 i hi).1 o3.size, (o1 i hi).2⟩
      have hI2 : I ((xs.take k).filter pp).length m2 A1 := lI _ m1 _ A1 hI (fun i hi => o3.get (o1 i ((hA i).2 (.inl hi))).1) o3.size
      have ow2 : Own (k + 1) m2 := hs.locO _ m1 _ ow fun i hi => o3.get (by have := (hF i hi).1; omega)
      cases hpk : pp (xs.getD k 0) with
      | false =>
        simp (decide := true) (implicitDefEqProofs := false) (maxDischargeDepth := 20) only [go_sem, ↓reduceIte, true_implies, false_implies]
        have t := (Trs.refl (m := m1) (A := A') (fun i hi => (o1 i hi).1)).old o3
        refine ⟨A', (t.mono fun _ => .inl).c, (t.mono fun _ => .inl).n, A1, ?_, hp2, hA⟩
        rw [f1, hpk]
        exact hI2
      | true =>
        obtain ⟨f3, f4⟩ := f2 hpk
        simp (decide := true) (implicitDefEqProofs := false) (maxDischargeDepth := 20) only [go_sem, r3', ↓reduceIte, true_implies, false_implies]
        refine CallF.step ((step.yield (vs := [.int .i64 (xs.getD k 0)]) f3 (z1.old o3) oA (fun i hi => ⟨Nat.lt_of_lt_of_le (o2 i hi).1 o3.size, (o2 i hi).2⟩) dis (fun i hi => by have := (hF i hi).1; have := o3.size; omega) (.inr (.inr ⟨k, hk, hpk, rfl, ow2⟩)) hI2 hp2 hA (by unfold pureEl intsEl; rw [f4])).mono ?_)
        rintro w m3 ⟨A2, t2, p3, hw⟩
        have t3 := ((Trs.refl (m := m1) (A := fun i => A' i ∨ B i) (fun i hi => hi.elim (fun e => (o1 i e).1) fun e => (o2 i e).1)).old o3).trans t2
        rcases hw with ⟨rfl, hI3⟩ | ⟨rfl, hD⟩
        · simp (decide := true) (implicitDefEqProofs := false) (maxDischargeDepth := 20) only [go_sem, ↓reduceIte, true_implies, false_implies]
          refine ⟨_, t3.c, t3.n, A2, ?_, p3, fun _ => Iff.rfl⟩
          rw [f1, hpk]
          exact hI3
        · simp (decide := true) (implicitDefEqProofs := false) (maxDischargeDepth := 20) only [go_sem, ↓reduceIte, true_implies, false_implies]
          exact ⟨_, t3.c, t3.n, .inl trivial, A2, hD, p3, fun _ => Iff.rfl⟩
    · rintro m' A' z' o' ow ⟨A1, hI, hp, hA⟩ c1 c2
      have := priv_out o ho (fun p hp => (hP p hp).1) c1 c2 hA
      simp (decide := true) (implicitDefEqProofs := false) (maxDischargeDepth := 20) only [go_sem, ↓reduceIte, true_implies, false_implies]
      rw [← hl, List.take_length] at hI
      exact ⟨A1, this.1, this.2, .inl ⟨.inr (.inl ⟨rfl, ow⟩), hI⟩⟩
    · rintro k x m' A' hk z' o' ow hx ⟨rfl, hpk, A1, hD, hp, hA⟩ c1 c2
      have := priv_out o ho (fun p hp => (hP p hp).1) c1 c2 hA
      simp (decide := true) (implicitDefEqProofs := false) (maxDischargeDepth := 20) only [go_sem, ↓reduceIte, true_implies, false_implies]
      exact ⟨A1, this.1, this.2, .inr ⟨_, ((filter_at xs pp k (by omega)).2 hpk).1, .inr (.inr ⟨k, hk, hpk, rfl, ow⟩), hD⟩⟩
end Go.Proofs.Ytgbpgkfmmhlkoaa.W
