/-
  Groups.
-/
import Derived.Test.YtgbpgkfmmhlkoaaFlowJ
namespace Go.Proofs.Ytgbpgkfmmhlkoaa.W
open Go.Abs
set_option linter.unusedSimpArgs false
set_option linter.unusedVariables false

/-- Where the one below stands at each group. -/
def GrO (n : Nat) (same : Int → Int → Bool) (xs : List Int) (Own : Nat → Mem → Prop) : Nat → Mem → Prop := fun j m =>
  (j = 0 ∧ Own 0 m) ∨ (j = (groupsL same xs).length + 1 ∧ Own (n + 1) m) ∨ (0 < j ∧ j = (groupsL same xs).length ∧ (stG same xs).2 ≠ [] ∧ Own (n + 1) m) ∨
  (∃ k, k < n ∧ (stG same (xs.take k)).1.length + 1 = j ∧ (stG same (xs.take (k + 1))).1 = (stG same (xs.take k)).1 ++ [(stG same (xs.take k)).2] ∧ Own (k + 1) m)

theorem groups_at (same : Int → Int → Bool) (xs : List Int) (k : Nat) (h : (stG same (xs.take (k + 1))).1 = (stG same (xs.take k)).1 ++ [(stG same (xs.take k)).2]) :
    (stG same (xs.take k)).1.length < (groupsL same xs).length ∧ (groupsL same xs).getD (stG same (xs.take k)).1.length [] = (stG same (xs.take k)).2 := by
  obtain ⟨r, hr⟩ := groupsL_grow same xs (k + 1)
  rw [h, List.append_assoc] at hr
  rw [hr]
  simp [List.getD_eq_getElem?_getD]

set_option maxRecDepth 100000 in
set_option maxHeartbeats 4000000 in
theorem GroupsI {Z : Nat → Option Blk} {F : Set'} {s : Value} {f : Fn} {fa fb : Array Value} {n : Nat} {Own : Nat → Mem → Prop} {xs : List Int} (hl : xs.length = n) (hn : n ≤ 1000000) {same : Int → Int → Bool} (hs : Iter E Z F s n Own (pureEl (intsEl xs))) {b1 b2 : Nat} {r1 t1 r2 t2 : Bool} (h1 : Z b1 = some (.cells r1 t1 [s])) (h2 : Z b2 = some (.cells r2 t2 [.func f fa fb]))
    (hf : ∀ a b, PureF E Z (.func f fa fb) [vI a, vI b] (.bool (same a b))) : Iter E Z F (.func (.func F_flow_Groups_int_1) #[] #[ptr b1, ptr b2]) (groupsL same xs).length (GrO n same xs Own) (grEl (groupsL same xs)) where
  fn := ⟨_, _, _, rfl⟩
  locO := by
    rintro k m m' (⟨h, h'⟩ | ⟨h, h'⟩ | ⟨h, h3, h4, h5⟩ | ⟨j, h3, h4, h5, h6⟩) hk
    · exact .inl ⟨h, hs.locO _ _ _ h' hk⟩
    · exact .inr (.inl ⟨h, hs.locO _ _ _ h' hk⟩)
    · exact .inr (.inr (.inl ⟨h, h3, h4, hs.locO _ _ _ h5 hk⟩))
    · exact .inr (.inr (.inr ⟨j, h3, h4, h5, hs.locO _ _ _ h6 hk⟩))
  locE := grEl_loc _
  go := by
    intro y hy I D lI lD step m A z o hF own0 i0
    have step : StepOk E Z F _ _ _ y I D := step
    obtain ⟨yf, ya, yc, rfl⟩ := hy
    have own0 : Own 0 m := by
      rcases own0 with ⟨_, h⟩ | ⟨h, _⟩ | ⟨h, _⟩ | ⟨_, _, h, _⟩
      · exact h
      · omega
      · omega
      · omega
    rw [CallF_func]
    refine ⟨some57, ?_⟩
    have e : (#[] ++ [Value.func yf ya yc].toArray ++ #[ptr b1, ptr b2] : Array Value) = [Value.func yf ya yc, ptr b1, ptr b2].toArray := by simp
    rw [e]
    refine .enter fn_flow_Groups_int_1 (by simp) ?_
    have r0 := frozen_at z h1
    have lt1 := z.lt h1
    have n1 : ¬ b1 = m.size := by omega
    have n2 : ¬ b1 = m.size + 1 := by omega
    obtain ⟨yb, hyb⟩ : ∃ yb, yb = m.size := ⟨_, rfl⟩
    obtain ⟨gb, hgb⟩ : ∃ gb, gb = m.size + 1 := ⟨_, rfl⟩
    simp (decide := true) (implicitDefEqProofs := false) (maxDischargeDepth := 20) only [go_sem, r0, n1, n2, ↓reduceIte, true_implies, false_implies]
    generalize hm1 : (m.push (.cells false true [Value.func yf ya yc])).push (.cells false true [.slice none 0 0]) = m1
    have ho : Old m m1 := by rw [← hm1]; exact .push (.push (.refl m) _) _
    have q0 : m1.get yb = some (.cells false true [Value.func yf ya yc]) := by rw [← hm1, hyb, getM_push, if_neg (by simp), getM_push, if_pos rfl]
    have q1 : m1.get gb = some (.cells false true [.slice none 0 0]) := by rw [← hm1, hgb, getM_push, if_pos (by simp)]
    have hyg : yb ≠ gb := by omega
    rw [← hgb, ← hyb]
    let P : List (Nat × Blk) := [(yb, .cells false true [Value.func yf ya yc]), (gb, .cells false true [.slice none 0 0])]
    have hP : ∀ p ∈ P, m.size ≤ p.1 ∧ m1.get p.1 = some p.2 := by
      intro p hp
      simp only [P, List.mem_cons, List.not_mem_nil, or_false] at hp
      rcases hp with rfl | rfl
      · exact ⟨by omega, q0⟩
      · exact ⟨by omega, q1⟩
    simp only [c_flow_Groups_int_1_8_at, wpM_block, c_flow_Groups_int_1_7_at]
    refine wpM_rangeP (A := fun i => A i ∨ ∃ p ∈ P, i = p.1) hs (fun t => upd t 5 (t 7)) (by simp (decide := true) only [go_sem, ↓reduceIte]) rfl asg_flow_Groups_int_1_0 body_flow_Groups_int_1_0 (by decide) (fun K l t m h => by simp (decide := true) only [go_sem, ↓reduceIte]; exact h)
      (fun k m A => ∃ P, GP (.func yf ya yc) yb gb (stG same (xs.take k)).2 P ∧ WithP P (I (stG same (xs.take k)).1.length) m A)
      (fun k x m A => x = .ret ∧ (stG same (xs.take (k + 1))).1 = (stG same (xs.take k)).1 ++ [(stG same (xs.take k)).2] ∧ ∃ P, WithP P (D (stG same (xs.take k)).1.length) m A)
      (fun k m1 m2 A' h q r => by
        obtain ⟨P, hg, hw⟩ := h
        exact ⟨P, hg, WithP.loc (lI _) m1 m2 A' hw q r⟩) (fun k x m1 m2 A' h q r => by
        obtain ⟨h1, h2, P, hw⟩ := h
        exact ⟨h1, h2, P, WithP.loc (lD _) m1 m2 A' hw q r⟩) (z.old ho) (priv_own o ho.size z (fun i hi => (hF i hi).1) fun p hp => ⟨(hP p hp).1, getM_lt (hP p hp).2⟩) (fun i hi => ⟨Nat.lt_of_lt_of_le (hF i hi).1 ho.size, (hF i hi).2⟩)
      (hs.locO 0 m _ own0 fun i hi => ho.get (hF i hi).1) ⟨P, ⟨none, [], rfl, .inl ⟨rfl, rfl, rfl⟩⟩, priv_in (lI 0 m _ A i0 (fun i hi => ho.get (o i hi).1) ho.size) o hP⟩ ?_ ?_ ?_
    · rintro k vs m2 A' B l hk z1 o1 o2 dis ow ⟨P, hg, A1, hI, hp, hA⟩ hel hin hms
      have hel : vs = [vI (xs.getD k 0)] := hel
      subst hel
      refine ⟨rfl, ?_⟩
      obtain ⟨gy, a, gg, hv, hd, hnil⟩ := hg.vec (m := m2) fun p hpp => (hp p hpp).1
      have st1 : stG same (xs.take (k + 1)) = stepG same (stG same (xs.take k)) (xs.getD k 0) := by
        rw [List.take_succ_eq_append_getElem (by omega), stG_snoc]
        simp [List.getD_eq_getElem?_getD, List.getElem?_eq_getElem (show k < xs.length by omega)]
      have rg : m2.at gb 0 = some (.slice a (stG same (xs.take k)).2.length (stG same (xs.take k)).2.length) := get_at0 gg
      have ry : m2.at yb 0 = some (Value.func yf ya yc) := get_at0 gy
      have rs := frozen_at z1 h2
      have lg := getM_lt gg
      have hmm : m.size ≤ m2.size := Nat.le_trans ho.size hms
      have hFm : ∀ i, F i → i < m2.size := fun i hi => by have := (hF i hi).1; omega
      have hglen : (stG same (xs.take k)).2.length ≤ k := by
        have := congrArg List.length (stG_flat same (xs.take k))
        rw [List.length_append, List.length_take] at this
        omega
      generalize xs.getD k 0 = x at *
      have hlt : ∀ i, A' i → i < m2.size := fun i hi => (o1 i hi).1
      have A1lt : ∀ i, A1 i → i < m2.size := fun i hi => hlt i ((hA i).2 (.inl hi))
      have tr0 : Trs (fun i => A' i ∨ B i) m2 m2 A' := (Trs.refl hlt).mono fun _ => .inl
      cases hg2 : (stG same (xs.take k)).2 with
      | nil =>
        rw [hg2] at hg rg gg hv
        have e1 : (stG same (xs.take (k + 1))).1 = (stG same (xs.take k)).1 ∧ (stG same (xs.take (k + 1))).2 = [] ++ [x] := by
          rw [st1]; unfold stepG; rw [hg2]; exact ⟨rfl, rfl⟩
        simp (decide := true) (implicitDefEqProofs := false) (maxDischargeDepth := 20) only [go_sem, rg, List.length_nil, ↓reduceIte, true_implies, false_implies]
        refine hv.appendQ rfl (Nat.zero_le _) rfl (by decide) (by decide +kernel) (by decide +kernel) rfl (by simp) fun m3 b s v k3 hb3 => ?_
        have gg3 : m3.get gb = _ := (k3.2 gb lg fun q hq e => (hd q hq).2.1 e.symm).trans gg
        have v' : Vec 0 m3 1 (some ⟨b, 0, s⟩) (([] : List Int).length + 1) (([] ++ [x] : List Int).map vI) := by rw [List.map_append]; exact v
        obtain ⟨P', g', i', p', t'⟩ := hg.more hyg (lI _) hI hp hA hlt gg v' k3 hb3
        simp (decide := true) (implicitDefEqProofs := false) (maxDischargeDepth := 20) only [go_sem, gg3, List.length_nil, ↓reduceIte, true_implies, false_implies]
        have tt := tr0.trans t'
        refine ⟨_, tt.c, tt.n, P', ?_, A1, ?_, p', fun _ => Iff.rfl⟩
        · rw [e1.2]; exact g'
        · rw [e1.1]; exact i'
      | cons y0 r =>
        rw [hg2] at hg rg gg hv hglen
        obtain ⟨ab, ao, asp, rfl⟩ := hv.sl.addr (by simp)
        obtain ⟨_, hao, tg, hblk⟩ := hv.blk _ rfl
        simp only at hao hblk
        subst hao
        have r00 : m2.at ab (Int.toNat 0) = some (vI y0) := by unfold Mem.at; rw [hblk]; rfl
        simp only [List.length_cons] at rg hglen
        have d1 : decide (((r.length + 1 : Nat) : Int) > 0) = true := by rw [decide_eq_true_eq]; omega
        have z00 : (0 : Int) < ((r.length + 1 : Nat) : Int) := by omega
        have hd0 := hd _ rfl
        simp (decide := true) (implicitDefEqProofs := false) (maxDischargeDepth := 20) only [go_sem, rg, rs, r00, d1, z00, ↓reduceIte, true_implies, false_implies]
        refine CallF.step ((hf y0 x m2 z1).mono ?_)
        rintro w m3 ⟨rfl, o3⟩
        have gg3 := (o3.get lg).trans gg
        have rg3 : m3.at gb 0 = some (.slice (some ⟨ab, 0, asp⟩) (r.length + 1) (r.length + 1)) := get_at0 gg3
        have gy3 := (o3.get (getM_lt gy)).trans gy
        have ry3 : m3.at yb 0 = some (Value.func yf ya yc) := get_at0 gy3
        have hp3 : ∀ p ∈ P, m3.get p.1 = some p.2 ∧ ¬ A1 p.1 := fun p hpp => ⟨(o3.get (getM_lt (hp p hpp).1)).trans (hp p hpp).1, (hp p hpp).2⟩
        have hI3 : I (stG same (xs.take k)).1.length m3 A1 := lI _ m2 m3 A1 hI (fun i hi => o3.get (A1lt i hi)) o3.size
        have hlt3 : ∀ i, A' i → i < m3.size := fun i hi => Nat.lt_of_lt_of_le (hlt i hi) o3.size
        have tr3 := tr0.old o3
        have hv3 := hv.old o3
        have blk3 := (o3.get (getM_lt hblk)).trans hblk
        have lg3 := getM_lt gg3
        cases hsm : same y0 x with
        | true =>
          have e1 : (stG same (xs.take (k + 1))).1 = (stG same (xs.take k)).1 ∧ (stG same (xs.take (k + 1))).2 = (y0 :: r) ++ [x] := by
            rw [st1]; unfold stepG; rw [hg2]; simp only [hsm, if_true]; exact ⟨trivial, trivial⟩
          simp (decide := true) (implicitDefEqProofs := false) (maxDischargeDepth := 20) only [go_sem, rg3, ↓reduceIte, true_implies, false_implies]
          refine Vec.appendQ (n := r.length + 1) hv3 rfl (Nat.zero_le _) rfl (by decide) (by decide +kernel) (by decide +kernel) rfl (by omega) fun m4 b s v k4 hb4 => ?_
          have gg4 : m4.get gb = _ := (k4.2 gb lg3 fun q hq e => (hd q hq).2.1 e.symm).trans gg3
          have v' : Vec 0 m4 1 (some ⟨b, 0, s⟩) ((y0 :: r).length + 1) (((y0 :: r) ++ [x]).map vI) := by rw [List.map_append]; exact v
          obtain ⟨P', g', i', p', t'⟩ := hg.more hyg (lI _) hI3 hp3 hA hlt3 gg3 v' k4 hb4
          simp (decide := true) (implicitDefEqProofs := false) (maxDischargeDepth := 20) only [go_sem, gg4, ↓reduceIte, true_implies, false_implies]
          have tt := tr3.trans t'
          refine ⟨_, tt.c, tt.n, P', ?_, A1, ?_, p', fun _ => Iff.rfl⟩
          · rw [e1.2]; exact g'
          · rw [e1.1]; exact i'
        | false =>
          have e1 : (stG same (xs.take (k + 1))).1 = (stG same (xs.take k)).1 ++ [(stG same (xs.take k)).2] ∧ (stG same (xs.take (k + 1))).2 = [] ++ [x] := by
            rw [st1]; unfold stepG; rw [hg2]; simp [hsm]
          obtain ⟨gl, ge⟩ := groups_at same xs k e1.1
          rw [hg2] at ge
          simp (decide := true) (implicitDefEqProofs := false) (maxDischargeDepth := 20) only [go_sem, rg3, ry3, ↓reduceIte, true_implies, false_implies]
          -- what is the consumer's, what goes with the yield
          let P2 : List (Nat × Blk) := [(yb, .cells false true [.func yf ya yc]), (gb, .cells false true [.slice (some ⟨ab, 0, asp⟩) (r.length + 1) (r.length + 1)])]
          have hPe : ∀ i, (∃ p ∈ P, i = p.1) ↔ (∃ p ∈ P2, i = p.1) ∨ i = ab := by
            obtain ⟨a', rest, rfl, ⟨_, h, _⟩ | ⟨b', s', tg', ha', _, _, _, _, rfl⟩⟩ := hg
            · cases h
            · have e2 := hp (gb, .cells false true [.slice a' (y0 :: r).length (y0 :: r).length]) (List.mem_cons_of_mem _ List.mem_cons_self)
              have e3 := e2.1.symm.trans gg
              simp only [Option.some.injEq, Blk.cells.injEq, List.cons.injEq, Value.slice.injEq, and_true, true_and] at e3
              rw [ha'] at e3
              simp only [Option.some.injEq, Addr.mk.injEq, true_and] at e3
              intro i
              simp only [P2, List.mem_cons, List.not_mem_nil, or_false, exists_eq_or_imp, exists_eq_left]
              constructor
              · rintro (h | h | h)
                · exact .inl (.inl h)
                · exact .inl (.inr h)
                · exact .inr (by rw [h]; exact e3.1)
              · rintro ((h | h) | h)
                · exact .inl h
                · exact .inr (.inl h)
                · exact .inr (.inr (by rw [h]; exact e3.1.symm))
          have hp2 : ∀ p ∈ P2, m3.get p.1 = some p.2 ∧ ¬ A1 p.1 := by
            intro p hpp
            obtain ⟨q, hq, hqe⟩ := (hPe p.1).2 (.inl ⟨p, hpp, rfl⟩)
            refine ⟨?_, by rw [hqe]; exact (hp3 q hq).2⟩
            simp only [P2, List.mem_cons, List.not_mem_nil, or_false] at hpp
            rcases hpp with rfl | rfl
            · exact gy3
            · exact gg3
          have hab : ¬ A1 ab := by
            obtain ⟨q, hq, hqe⟩ := (hPe ab).2 (.inr rfl)
            rw [hqe]; exact (hp3 q hq).2
          have hA' : A' ab := (hA ab).2 (.inr ((hPe ab).2 (.inr rfl)))
          have oA' : OwnS Z F m3 A' := fun i hi => ⟨hlt3 i hi, (o1 i hi).2⟩
          have sub2 : ∀ i, (A1 i ∨ ∃ p ∈ P2, i = p.1) → A' i := fun i hi => (hA i).2 (hi.imp id fun e => (hPe i).2 (.inl e))
          have dis2 : ∀ i, (A1 i ∨ ∃ p ∈ P2, i = p.1) → ¬ i = ab := by
            rintro i (hi | ⟨p, hpp, hpi⟩) he
            · exact hab (he ▸ hi)
            · simp only [P2, List.mem_cons, List.not_mem_nil, or_false] at hpp
              rw [he] at hpi
              rcases hpp with rfl | rfl
              · exact hd0.1 hpi
              · exact hd0.2.1 hpi
          have hF3 : ∀ i, F i → i < m3.size := fun i hi => Nat.lt_of_lt_of_le (hFm i hi) o3.size
          refine CallF.step ((step.yield (vs := [.slice (some ⟨ab, 0, asp⟩) (r.length + 1) (r.length + 1)]) (P := P2) (A := fun i => A1 i ∨ ∃ p ∈ P2, i = p.1) (B := fun i => i = ab) gl (z1.old o3) (fun i hi => oA' i (sub2 i hi)) (fun i hi => oA' i (hi ▸ hA')) dis2 hF3
            (.inr (.inr (.inr ⟨k, hk, rfl, e1.1, hs.locO _ m2 m3 ow fun i hi => o3.get (hFm i hi)⟩))) hI3 hp2 (fun _ => Iff.rfl) ⟨ab, asp, tg, by rw [ge]; rfl, by rw [ge]; exact blk3, hv.sl.loose _ rfl, fun _ => Iff.rfl⟩).mono ?_)
          rintro w m4 ⟨A2, t4, p4, hw⟩
          have tr4 : Trs (fun i => A' i ∨ B i) m2 m4 (fun i => A2 i ∨ ∃ p ∈ P2, i = p.1) := tr3.trans (t4.mono fun i hi => hi.elim (sub2 i) fun e => e ▸ hA')
          rcases hw with ⟨rfl, hI4⟩ | ⟨rfl, hD⟩
          · have g4 := (p4 (gb, .cells false true [.slice (some ⟨ab, 0, asp⟩) (r.length + 1) (r.length + 1)]) (by simp [P2])).1
            have y4 := (p4 (yb, .cells false true [.func yf ya yc]) (by simp [P2])).1
            have lg4 := getM_lt g4
            simp (decide := true) (implicitDefEqProofs := false) (maxDischargeDepth := 20) only [go_sem, g4, lg4, ↓reduceIte, true_implies, false_implies]
            let P3 : List (Nat × Blk) := [(yb, .cells false true [.func yf ya yc]), (gb, .cells false true [.slice none 0 0])]
            obtain ⟨i5, p5, t5⟩ := WithP.change (P := P2) (P' := P3) (m1 := m4.put gb (some (.cells false true [.slice none 0 0]))) (lI _) hI4 (fun p hpp => (p4 p hpp).2) (fun _ => Iff.rfl) (fun i hi => (tr4.n i hi).1) (by rw [size_put]; omega)
              (fun i _ hne => by rw [getM_put, if_neg (fun e => hne (gb, .cells false true [.slice (some ⟨ab, 0, asp⟩) (r.length + 1) (r.length + 1)]) (by simp [P2]) e.1)])
              (by
                intro p hpp
                simp only [P3, List.mem_cons, List.not_mem_nil, or_false] at hpp
                rcases hpp with rfl | rfl
                · exact ⟨by rw [getM_put, if_neg (fun e => hyg e.1)]; exact y4, .inl ⟨_, List.mem_cons_self, rfl⟩⟩
                · exact ⟨by rw [getM_put, if_pos ⟨rfl, lg4⟩], .inl ⟨_, List.mem_cons_of_mem _ List.mem_cons_self, rfl⟩⟩)
            have tr5 := tr4.trans t5
            have hg5 : GP (.func yf ya yc) yb gb [] P3 := ⟨none, [], rfl, .inl ⟨rfl, rfl, rfl⟩⟩
            have g5 : (m4.put gb (some (.cells false true [.slice none 0 0]))).get gb = some (.cells false true [.slice none 0 0]) := by rw [getM_put, if_pos ⟨rfl, lg4⟩]
            refine (Vec.nil 0 _ 1).appendQ (by simp) (Nat.zero_le _) rfl (by decide) (by decide +kernel) (by decide +kernel) rfl (by simp) fun m6 b s v k6 hb6 => ?_
            have g6 : m6.get gb = _ := (k6.2 gb (getM_lt g5) fun q hq => by cases hq).trans g5
            have v' : Vec 0 m6 1 (some ⟨b, 0, s⟩) (([] : List Int).length + 1) (([] ++ [x] : List Int).map vI) := by rw [List.map_append]; exact v
            obtain ⟨P', g', i', p', t'⟩ := hg5.more hyg (lI _) i5 p5 (fun _ => Iff.rfl) (fun i hi => (tr5.n i hi).1) g5 v' k6 hb6
            simp (decide := true) (implicitDefEqProofs := false) (maxDischargeDepth := 20) only [go_sem, g6, List.length_nil, ↓reduceIte, true_implies, false_implies]
            have tt := tr5.trans t'
            refine ⟨_, tt.c, tt.n, P', ?_, A2, ?_, p', fun _ => Iff.rfl⟩
            · rw [e1.2]; exact g'
            · rw [e1.1, List.length_append]; exact i'
          · simp (decide := true) (implicitDefEqProofs := false) (maxDischargeDepth := 20) only [go_sem, ↓reduceIte, true_implies, false_implies]
            have e1' := e1.1
            rw [hg2] at e1'
            exact ⟨_, tr4.c, tr4.n, .inl trivial, e1', P2, A2, hD, p4, fun _ => Iff.rfl⟩
    · rintro m' A' z' o' ow ⟨P2, hg, A1, hI, hp, hA⟩ c1 c2
      rw [← hl, List.take_length] at hg hI
      have pout := fun (m2 : Mem) (A2 A3 : Set') (t2 : Trs A' m' m2 A2) (h3 : ∀ i, A3 i → A2 i) => priv_out (P := P) (P' := []) (A1 := A3) (A2 := A3) o ho (fun p hp => (hP p hp).1) (m2 := m2)
        (⟨Nat.le_trans c1.size t2.c.size, fun i hi hne => by
          rw [t2.c.get i (Nat.lt_of_lt_of_le hi c1.size) (fun e => by
            rcases (c2 i e).2 with e | e
            · exact hne (.inl e)
            · omega)]
          exact c1.get i hi hne⟩) (fun i hi => (t2.n i (h3 i hi)).elim fun q1 q2 => ⟨q1, q2.elim (fun e => (c2 i e).2) fun e => .inr (Nat.le_trans c1.size e)⟩) (fun i => by simp)
      cases hg2 : (stG same xs).2 with
      | nil =>
        rw [hg2] at hg
        obtain ⟨gy, a, gg, hv, hd, hnil⟩ := hg.vec (m := m') fun p hpp => (hp p hpp).1
        have rg := get_at0 gg
        have hgs : groupsL same xs = (stG same xs).1 := by unfold groupsL; rw [if_pos hg2]
        have po := pout m' A' A1 (Trs.refl fun i hi => (o' i hi).1) fun i hi => (hA i).2 (.inl hi)
        simp (decide := true) (implicitDefEqProofs := false) (maxDischargeDepth := 20) only [go_sem, rg, List.length_nil, ↓reduceIte, true_implies, false_implies]
        rw [hgs]
        exact ⟨A1, po.1, po.2, .inl ⟨.inr (.inl ⟨by rw [hgs], ow⟩), hI⟩⟩
      | cons y0 r =>
        rw [hg2] at hg
        have hgs : groupsL same xs = (stG same xs).1 ++ [y0 :: r] := by unfold groupsL; rw [if_neg (by rw [hg2]; simp), hg2]
        have hglen : (groupsL same xs).length = (stG same xs).1.length + 1 := by rw [hgs]; simp
        have hgd : (groupsL same xs).getD (stG same xs).1.length [] = y0 :: r := by rw [hgs]; simp [List.getD_eq_getElem?_getD]
        obtain ⟨ab, asp, tg, hlo, hab1, hab2, rfl⟩ := hg.split (by simp)
        have pm := fun (p : Nat × Blk) hpp => hp p hpp
        have gy := (hp (yb, .cells false true [.func yf ya yc]) List.mem_cons_self).1
        have gg := (hp (gb, .cells false true [.slice (some ⟨ab, 0, asp⟩) (y0 :: r).length (y0 :: r).length]) (List.mem_cons_of_mem _ List.mem_cons_self)).1
        have gab := hp (ab, .cells false tg ((y0 :: r).map vI)) (List.mem_cons_of_mem _ (List.mem_cons_of_mem _ List.mem_cons_self))
        have rg : m'.at gb 0 = some (.slice (some ⟨ab, 0, asp⟩) (r.length + 1) (r.length + 1)) := get_at0 gg
        have ry : m'.at yb 0 = some (Value.func yf ya yc) := get_at0 gy
        have d1 : decide (((r.length + 1 : Nat) : Int) > 0) = true := by rw [decide_eq_true_eq]; omega
        let P2 : List (Nat × Blk) := [(yb, .cells false true [.func yf ya yc]), (gb, .cells false true [.slice (some ⟨ab, 0, asp⟩) (r.length + 1) (r.length + 1)])]
        have hp2 : ∀ p ∈ P2, m'.get p.1 = some p.2 ∧ ¬ A1 p.1 := by
          intro p hpp
          simp only [P2, List.mem_cons, List.not_mem_nil, or_false] at hpp
          rcases hpp with rfl | rfl
          · exact hp _ List.mem_cons_self
          · exact hp _ (List.mem_cons_of_mem _ List.mem_cons_self)
        have sub2 : ∀ i, (A1 i ∨ ∃ p ∈ P2, i = p.1) → A' i := by
          rintro i (hi | ⟨p, hpp, hpi⟩)
          · exact (hA i).2 (.inl hi)
          · simp only [P2, List.mem_cons, List.not_mem_nil, or_false] at hpp
            rcases hpp with rfl | rfl
            · exact (hA i).2 (.inr ⟨_, List.mem_cons_self, hpi⟩)
            · exact (hA i).2 (.inr ⟨_, List.mem_cons_of_mem _ List.mem_cons_self, hpi⟩)
        have hA' : A' ab := (hA ab).2 (.inr ⟨_, List.mem_cons_of_mem _ (List.mem_cons_of_mem _ List.mem_cons_self), rfl⟩)
        have dis2 : ∀ i, (A1 i ∨ ∃ p ∈ P2, i = p.1) → ¬ i = ab := by
          rintro i (hi | ⟨p, hpp, hpi⟩) he
          · exact gab.2 (he ▸ hi)
          · simp only [P2, List.mem_cons, List.not_mem_nil, or_false] at hpp
            rw [he] at hpi
            rcases hpp with rfl | rfl
            · exact hab1 hpi
            · exact hab2 hpi
        have hF' : ∀ i, F i → i < m'.size := fun i hi => Nat.lt_of_lt_of_le (hF i hi).1 (Nat.le_trans ho.size c1.size)
        simp (decide := true) (implicitDefEqProofs := false) (maxDischargeDepth := 20) only [go_sem, rg, ry, d1, ↓reduceIte, true_implies, false_implies]
        refine CallF.step ((step.yield (k := (stG same xs).1.length) (vs := [.slice (some ⟨ab, 0, asp⟩) (r.length + 1) (r.length + 1)]) (P := P2) (A := fun i => A1 i ∨ ∃ p ∈ P2, i = p.1) (B := fun i => i = ab) (by omega) z' (fun i hi => o' i (sub2 i hi)) (fun i hi => o' i (hi ▸ hA')) dis2 hF'
          (.inr (.inr (.inl ⟨by omega, hglen.symm, by rw [hg2]; simp, ow⟩))) hI hp2 (fun _ => Iff.rfl) ⟨ab, asp, tg, by rw [hgd]; rfl, by rw [hgd]; exact gab.1, hlo, fun _ => Iff.rfl⟩).mono ?_)
        rintro w m4 ⟨A2, t4, p4, hw⟩
        have t4' : Trs A' m' m4 (fun i => A2 i ∨ ∃ p ∈ P2, i = p.1) := t4.mono fun i hi => hi.elim (sub2 i) fun e => e ▸ hA'
        have po := pout m4 _ A2 t4' fun i hi => .inl hi
        have ow4 : Own (n + 1) m4 := hs.locO _ m' m4 ow fun i hi => t4'.c.get i (hF' i hi) fun e => (o' i e).2.2 hi
        simp (decide := true) (implicitDefEqProofs := false) (maxDischargeDepth := 20) only [go_sem, ↓reduceIte, true_implies, false_implies]
        rcases hw with ⟨rfl, hI4⟩ | ⟨rfl, hD⟩
        · exact ⟨A2, po.1, po.2, .inl ⟨.inr (.inl ⟨rfl, ow4⟩), by rw [hglen]; exact hI4⟩⟩
        · exact ⟨A2, po.1, po.2, .inr ⟨_, by omega, .inr (.inr (.inl ⟨by omega, hglen.symm, by rw [hg2]; simp, ow4⟩)), hD⟩⟩
    · rintro k x m' A' hk z' o' ow hx ⟨rfl, htr, P2, A1, hD, hp, hA⟩ c1 c2
      have := priv_out o ho (fun p hp => (hP p hp).1) c1 c2 hA
      simp (decide := true) (implicitDefEqProofs := false) (maxDischargeDepth := 20) only [go_sem, ↓reduceIte, true_implies, false_implies]
      exact ⟨A1, this.1, this.2, .inr ⟨_, (groups_at same xs k htr).1, .inr (.inr (.inr ⟨k, hk, rfl, htr, ow⟩)), hD⟩⟩
end Go.Proofs.Ytgbpgkfmmhlkoaa.W
