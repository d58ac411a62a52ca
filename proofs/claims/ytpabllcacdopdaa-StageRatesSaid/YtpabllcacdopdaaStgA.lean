/-
  stage: each row by itself.
-/
import Derived.Test.YtpabllcacdopdaaCloneR
import Derived.Test.YtpabllcacdopdaaCodeStage
namespace Go.Proofs.Ytpabllcacdopdaa.W
open Go.Abs
set_option linter.unusedSimpArgs false
set_option linter.unusedVariables false

set_option maxRecDepth 100000 in
theorem At_at {m : Mem} {a : Option Addr} {n c : Nat} {xs : List Int} (k : Nat) (h : SlA m 1 a n c (xs.map (.int .i64))) (hk : k ≤ 1000000) :
    CallQ E F_stage_at [.slice a n c, .int .i64 (k : Nat)].toArray m fun w m' => w = .int .i64 (xs.getD k 0) ∧ Old m m' := by
  refine .enter fn_stage_at (by simp) ?_
  have hl : xs.length = n := by have := h.len; simpa using this
  by_cases hlt : n ≤ k
  · have d1 : decide ((k : Int) ≥ (n : Int)) = true := by simp; omega
    have e : xs.getD k 0 = 0 := by simp [List.getD_eq_getElem?_getD, List.getElem?_eq_none (show xs.length ≤ k by omega)]
    simp (decide := true) (implicitDefEqProofs := false) (maxDischargeDepth := 20) only [go_sem, ↓reduceIte, d1, e, true_implies, false_implies]
  · have d1 : decide ((k : Int) ≥ (n : Int)) = false := by simp; omega
    have z0 : (0 : Int) ≤ (k : Int) := by omega
    have z1 : (k : Int) < (n : Int) := by omega
    obtain ⟨ab, ao, asp, rfl⟩ := h.addr (by omega)
    have r := h.at_map (show k < n by omega)
    have e : xs.getD k 0 = xs[k]'(by omega) := by simp [List.getD_eq_getElem?_getD, List.getElem?_eq_getElem (show k < xs.length by omega)]
    rw [e]
    simp (decide := true) (implicitDefEqProofs := false) (maxDischargeDepth := 20) only [go_sem, ↓reduceIte, d1, z0, z1, r, Int.toNat_natCast, true_implies, false_implies]

set_option maxRecDepth 100000 in
set_option maxHeartbeats 4000000 in
theorem EachI {Z : Nat → Option Blk} {F : Set'} {s : Value} {sf : Fn} {sa sb : Array Value} {n : Nat} {Own : Nat → Mem → Prop} {rs : List HRow} {why : Int} {p : Nat → Bool} (hs : Iter E Z F s n Own (pureEl (rowsEl rs))) (hr : ∀ m, Frozen Z m → ∀ k, (rs.getD k noRow).At m) (hrn : ∀ k, (rs.getD k noRow).n ≤ 1000000)
    {b1 b2 b3 : Nat} {r1 t1 r2 t2 r3 t3 : Bool} (h1 : Z b1 = some (.cells r1 t1 [s])) (h2 : Z b2 = some (.cells r2 t2 [vI why])) (h3 : Z b3 = some (.cells r3 t3 [.func sf sa sb]))
    (hf : ∀ k, k < n → ∀ m, Frozen Z m → CallF E (.func sf sa sb) [(rs.getD k noRow).v] m fun w m' => w = .bool (p k) ∧ Old m m') :
    Iter E Z F (.func (.func F_stage_each_1) #[] #[ptr b1, ptr b2, ptr b3]) n Own (cloneEl rs fun k => if p k then 0 else why) where
  fn := ⟨_, _, _, rfl⟩
  locO := hs.locO
  locE := cloneEl_loc _ _
  go := by
    intro y hy I D lI lD step m A z o hF own0 i0
    have step : StepOk E Z F _ _ _ y I D := step
    obtain ⟨yf, ya, yb, rfl⟩ := hy
    rw [CallF_func]
    refine ⟨by simp only [go_sem], ?_⟩
    have e : (#[] ++ [Value.func yf ya yb].toArray ++ #[ptr b1, ptr b2, ptr b3] : Array Value) = [Value.func yf ya yb, ptr b1, ptr b2, ptr b3].toArray := by simp
    rw [e]
    refine .enter fn_stage_each_1 (by simp) ?_
    have ho : Old m (m.push (.cells false true [Value.func yf ya yb])) := .push (.refl m) _
    have r0 := frozen_at z h1
    have n1 : ¬ b1 = m.size := by have := z.lt h1; omega
    let P : List (Nat × Blk) := [(m.size, .cells false true [Value.func yf ya yb])]
    have hP : ∀ p ∈ P, m.size ≤ p.1 ∧ (m.push (.cells false true [Value.func yf ya yb])).get p.1 = some p.2 := by
      intro p hp
      rw [List.mem_singleton.1 hp]
      exact ⟨Nat.le_refl _, by rw [getM_push, if_pos rfl]⟩
    simp (decide := true) (implicitDefEqProofs := false) (maxDischargeDepth := 20) only [go_sem, r0, n1, ↓reduceIte, true_implies, false_implies]
    simp only [c_stage_each_1_8_at, wpM_block, c_stage_each_1_7_at]
    refine wpM_rangeP (A := fun i => A i ∨ ∃ p ∈ P, i = p.1) hs (fun t => upd t 5 (t 8)) (by simp (decide := true) only [go_sem, ↓reduceIte]) rfl asg_stage_each_1_0 body_stage_each_1_0 (by decide) (fun K l t m h => by simp (decide := true) only [go_sem, ↓reduceIte]; exact h)
      (fun k => WithP P (I k)) (fun k x m' A' => x = .ret ∧ WithP P (D k) m' A') (fun k => WithP.loc (lI k)) (fun k x m1 m2 A' h q r => ⟨h.1, WithP.loc (lD k) m1 m2 A' h.2 q r⟩) (z.old ho) (priv_own o ho.size z (fun i hi => (hF i hi).1) fun p hp => ⟨(hP p hp).1, getM_lt (hP p hp).2⟩) (fun i hi => ⟨Nat.lt_of_lt_of_le (hF i hi).1 ho.size, (hF i hi).2⟩)
      (hs.locO 0 m _ own0 fun i hi => ho.get (hF i hi).1) (priv_in (lI 0 m _ A i0 (fun i hi => ho.get (o i hi).1) ho.size) o hP) ?_ ?_ ?_
    · rintro k vs m1 A' B l hk z1 o1 o2 dis ow ⟨A1, hI, hp, hA⟩ hel hin hms
      subst hel
      refine ⟨rfl, ?_⟩
      have hrow := hr m1 z1 k
      have hrn' := hrn k
      have hfk := hf k hk m1 z1
      have hel : rowsEl rs k = [(rs.getD k noRow).v] := rfl
      have hcl : ∀ (a : Option Addr) (mm : Mem), Vec 0 mm 1 a (rs.getD k noRow).n ((rs.getD k noRow).xs.map (.int .i64)) → cloneEl rs (fun k => if p k then 0 else why) k [.slice a (rs.getD k noRow).n (rs.getD k noRow).n, vI (if p k then 0 else why)] mm (fun i => ∃ x, a = some x ∧ i = x.block) := fun a mm v => ⟨a, rfl, v, fun _ => Iff.rfl⟩
      rw [hel]
      generalize rs.getD k noRow = row at *
      obtain ⟨rad, rn, rc, rxs⟩ := row
      simp only [HRow.v] at hfk hcl hrn' ⊢
      have hsl : SlA m1 1 rad rn rc (rxs.map (.int .i64)) := hrow.sl
      have rw2 := frozen_at z1 h2
      have rw3 := frozen_at z1 h3
      simp (decide := true) (implicitDefEqProofs := false) (maxDischargeDepth := 20) only [go_sem, rw2, rw3, ↓reduceIte, true_implies, false_implies]
      refine CallF.step (hfk.mono ?_)
      rintro w m2 ⟨rfl, ho2⟩
      have g3 : m2.get m.size = some (.cells false true [Value.func yf ya yb]) := (ho2.get (getM_lt (hp _ (List.mem_singleton.2 rfl)).1)).trans (hp _ (List.mem_singleton.2 rfl)).1
      have r3 : m2.at m.size 0 = some (Value.func yf ya yb) := get_at0 g3
      have hslg : SlA (m2.gm [m.size]) 1 rad rn rc (rxs.map (.int .i64)) := by rw [SlA.gm]; exact hsl.old ho2
      have fin : ∀ wv : Int, wv = (if p k then 0 else why) → ∀ t : Fr, t 5 = .slice rad rn rc → t 6 = vI wv → t 4 = ptr m.size → wpM E F_stage_each_1 19 (some l) c_stage_each_1_3 (blockK 1 fun x x_1 m2 => ∃ A'_1, ChgS (fun i => A' i ∨ B i) m1 m2 ∧ NewS (fun i => A' i ∨ B i) m1 m2 A'_1 ∧ match x with
          | .normal => WithP P (I (k + 1)) m2 A'_1
          | x => (x = .ret ∨ ∃ i, x = .exit i) ∧ x = .ret ∧ WithP P (D k) m2 A'_1) t m2 := by
        intro wv hwv t e5 e6 e4
        simp (decide := true) (implicitDefEqProofs := false) (maxDischargeDepth := 20) only [go_sem, e4, e5, e6, r3, ↓reduceIte, true_implies, false_implies]
        refine (Clone_at hslg hrn').mono ?_
        rintro w m3 ⟨a', rfl, V, o3'⟩
        obtain ⟨el, rfl, hu⟩ := o3'.ugm
        have V3 : Vec m2.size (m2.ext el) 1 a' rn (rxs.map (.int .i64)) := by
          have := vec_ugm V
          rwa [gm_size] at this
        have o3 : Old m2 (m2.ext el) := ⟨el, rfl⟩
        simp (decide := true) (implicitDefEqProofs := false) (maxDischargeDepth := 20) only [go_sem, e4, e5, e6, ↓reduceIte, true_implies, false_implies]
        generalize m2.ext el = m3 at *
        have o13 := ho2.trans o3
        have hBc : ∀ i, (∃ x, a' = some x ∧ i = x.block) → m1.size ≤ i ∧ i < m3.size := fun i ⟨x, hx, e⟩ => by
          have h5 := (V3.blk x hx).1
          have h6 := V3.lt hx
          have := ho2.size
          omega
        have hms' : m.size < m1.size := getM_lt (hp _ (List.mem_singleton.2 rfl)).1
        have T0 : Trs (fun i => A' i ∨ B i) m1 m3 (fun i => A' i ∨ ∃ x, a' = some x ∧ i = x.block) := ⟨o13.chg _, fun i hi => by
          rcases hi with hi | hi
          · exact ⟨Nat.lt_of_lt_of_le (o1 i hi).1 o13.size, .inl (.inl hi)⟩
          · exact ⟨(hBc i hi).2, .inr (hBc i hi).1⟩⟩
        have key := step.yield (P := P) hk (z1.old o13) (fun i hi => ⟨Nat.lt_of_lt_of_le (o1 i hi).1 o13.size, (o1 i hi).2⟩) (B := fun i => ∃ x, a' = some x ∧ i = x.block)
          (fun i hi => ⟨(hBc i hi).2, z1.free (hBc i hi).1, fun f => by have := (hF i f).1; have := (hBc i hi).1; omega⟩)
          (fun i hi h => by have := (o1 i hi).1; have := (hBc i h).1; omega)
          (fun i hi => by have := (hF i hi).1; have := o13.size; omega) (hs.locO _ m1 _ ow fun i hi => o13.get (by have := (hF i hi).1; omega)) (lI k m1 _ A1 hI (fun i hi => o13.get (o1 i ((hA i).2 (.inl hi))).1) o13.size)
          (fun p hpp => ⟨(o13.get (getM_lt (hp p hpp).1)).trans (hp p hpp).1, (hp p hpp).2⟩) hA (hcl a' m3 (V3.mono (Nat.zero_le _)))
        rw [← hwv] at key
        refine CallF.step (key.mono ?_)
        rintro w m4 ⟨A2, T1, p3, hw⟩
        have T := T0.trans T1
        rcases hw with ⟨rfl, hI2⟩ | ⟨rfl, hD⟩
        · simp (decide := true) (implicitDefEqProofs := false) (maxDischargeDepth := 20) only [go_sem, ↓reduceIte, true_implies, false_implies]
          exact ⟨_, T.c, T.n, A2, hI2, p3, fun _ => Iff.rfl⟩
        · simp (decide := true) (implicitDefEqProofs := false) (maxDischargeDepth := 20) only [go_sem, ↓reduceIte, true_implies, false_implies]
          exact ⟨_, T.c, T.n, .inl trivial, A2, hD, p3, fun _ => Iff.rfl⟩
      generalize hc3 : c_stage_each_1_3 = c3 at *
      cases hpk : p k with
      | true =>
        rw [hpk] at fin
        simp (decide := true) (implicitDefEqProofs := false) (maxDischargeDepth := 20) only [go_sem, ↓reduceIte, true_implies, false_implies]
        exact fin 0 rfl _ (by simp (decide := true) only [go_sem, ↓reduceIte]) (by simp (decide := true) only [go_sem, ↓reduceIte]) (by simp (decide := true) only [go_sem, ↓reduceIte])
      | false =>
        rw [hpk] at fin
        simp (decide := true) (implicitDefEqProofs := false) (maxDischargeDepth := 20) only [go_sem, ↓reduceIte, true_implies, false_implies]
        exact fin why rfl _ (by simp (decide := true) only [go_sem, ↓reduceIte]) (by simp (decide := true) only [go_sem, ↓reduceIte]) (by simp (decide := true) only [go_sem, ↓reduceIte])
    · rintro m' A' z' o' ow ⟨A1, hI, hp, hA⟩ c1 c2
      have := priv_out o ho (fun p hp => (hP p hp).1) c1 c2 hA
      simp (decide := true) (implicitDefEqProofs := false) (maxDischargeDepth := 20) only [go_sem, ↓reduceIte, true_implies, false_implies]
      exact ⟨A1, this.1, this.2, .inl ⟨ow, hI⟩⟩
    · rintro k x m' A' hk z' o' ow hx ⟨rfl, A1, hD, hp, hA⟩ c1 c2
      have := priv_out o ho (fun p hp => (hP p hp).1) c1 c2 hA
      simp (decide := true) (implicitDefEqProofs := false) (maxDischargeDepth := 20) only [go_sem, ↓reduceIte, true_implies, false_implies]
      exact ⟨A1, this.1, this.2, .inr ⟨k, hk, ow, hD⟩⟩
end Go.Proofs.Ytpabllcacdopdaa.W
