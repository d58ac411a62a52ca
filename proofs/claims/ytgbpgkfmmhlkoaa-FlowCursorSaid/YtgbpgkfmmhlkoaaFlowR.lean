/-
  found.
-/
import Derived.Test.YtgbpgkfmmhlkoaaFlowQ
namespace Go.Proofs.Ytgbpgkfmmhlkoaa.W
open Go.Abs
set_option linter.unusedSimpArgs false
set_option linter.unusedVariables false

def belowI (a b : Int) : Int := if a < b then -1 else if a > b then 1 else 0
theorem Below_ok (Z : Nat → Option Blk) (a b : Int) : PureF E Z (.func (.func F_sheaflaw10_below) #[] #[]) [vI a, vI b] (vI (belowI a b)) := fun m _ => by
  refine callF_of some32 (l := [vI a, vI b]) (by simp) (.enter fn_sheaflaw10_below (by simp) ?_)
  unfold belowI
  by_cases h1 : a < b
  · have d1 : decide (a < b) = true := by simpa using h1
    rw [if_pos h1]
    simp (decide := true) (implicitDefEqProofs := false) (maxDischargeDepth := 20) only [go_sem, d1, ↓reduceIte, true_implies, false_implies]
  · have d1 : decide (a < b) = false := by simpa using h1
    rw [if_neg h1]
    by_cases h2 : a > b
    · have d2 : decide (a > b) = true := by simpa using h2
      rw [if_pos h2]
      simp (decide := true) (implicitDefEqProofs := false) (maxDischargeDepth := 20) only [go_sem, d1, d2, ↓reduceIte, true_implies, false_implies]
    · have d2 : decide (a > b) = false := by simpa using h2
      rw [if_neg h2]
      simp (decide := true) (implicitDefEqProofs := false) (maxDischargeDepth := 20) only [go_sem, d1, d2, ↓reduceIte, true_implies, false_implies]

/-- What a join finds: each number, and whether it has its like. -/
def foundK (cmp : Int → Int → Int) (l xs : List Int) (k : Nat) : List Int := [xs.getD k 0, if (hitJ cmp (stJ cmp l (xs.take (k + 1))) (xs.getD k 0)).isSome then 1 else 0]
def foundL (cmp : Int → Int → Int) (l xs : List Int) (k : Nat) : List Int := ((List.range k).map (foundK cmp l xs)).flatten
theorem foundL_succ (cmp : Int → Int → Int) (l xs : List Int) (k : Nat) : foundL cmp l xs (k + 1) = foundL cmp l xs k ++ foundK cmp l xs k := by
  unfold foundL
  rw [List.range_succ, List.map_append, List.flatten_append]
  simp
theorem foundL_len (cmp : Int → Int → Int) (l xs : List Int) : ∀ k, (foundL cmp l xs k).length = 2 * k
  | 0 => rfl
  | k + 1 => by rw [foundL_succ, List.length_append, foundL_len cmp l xs k]; simp [foundK]; omega

/-- A slice in a box, in a block of its own. -/
def BoxV (ob : Nat) (xs : List Int) (m : Mem) (A : Set') : Prop := ∃ a, Box m ob [.slice a xs.length xs.length] ∧ Vec (ob + 1) m 1 a xs.length (xs.map vI) ∧ ∀ i, A i ↔ i = ob ∨ ∃ x, a = some x ∧ i = x.block
theorem BoxV.loc (ob : Nat) (xs : List Int) : LocP (BoxV ob xs) := by
  rintro m m' A ⟨a, ⟨tg, h1⟩, h2, h3⟩ hk hs
  exact ⟨a, ⟨tg, by rw [hk ob ((h3 ob).2 (.inl rfl))]; exact h1⟩, h2.keep fun x hx => hk _ ((h3 _).2 (.inr ⟨x, hx, rfl⟩)), h3⟩
theorem BoxV.lt {ob : Nat} {xs : List Int} {m : Mem} {A : Set'} (h : BoxV ob xs m A) : ∀ i, A i → i < m.size := by
  obtain ⟨a, hb, hv, hA⟩ := h
  intro i hi
  rcases (hA i).1 hi with rfl | ⟨x, hx, rfl⟩
  · exact hb.lt
  · exact hv.lt hx

/-- One more: what append leaves, and the store behind it. -/
theorem BoxV.more {ob b : Nat} {xs : List Int} {x : Int} {m m1 : Mem} {A : Set'} {a : Option Addr} {s : Option Nat} {tg : Bool} (hv : Vec (ob + 1) m 1 a xs.length (xs.map vI)) (hA : ∀ i, A i ↔ i = ob ∨ ∃ x, a = some x ∧ i = x.block) (hob : ob < m.size)
    (v : Vec (ob + 1) m1 1 (some ⟨b, 0, s⟩) (xs.length + 1) (xs.map vI ++ [vI x])) (k : KeepA a m m1) (hb : m.size ≤ b) :
    ∃ A', BoxV ob (xs ++ [x]) (m1.put ob (some (.cells false tg [.slice (some ⟨b, 0, s⟩) (xs.length + 1) (xs.length + 1)]))) A' ∧ Trs A m (m1.put ob (some (.cells false tg [.slice (some ⟨b, 0, s⟩) (xs.length + 1) (xs.length + 1)]))) A' := by
  have hb1 := v.lt rfl
  have hl : (xs ++ [x]).length = xs.length + 1 := by simp
  refine ⟨fun i => i = ob ∨ i = b, ⟨some ⟨b, 0, s⟩, ?_, ?_, fun i => by simp⟩, ⟨by rw [size_put]; exact k.1, fun i hi hna => ?_⟩, fun i hi => ?_⟩
  · rw [hl]; exact .put (Nat.lt_of_lt_of_le hob k.1)
  · rw [hl, List.map_append]
    refine v.keep fun z hz => ?_
    cases hz
    rw [getM_put, if_neg (fun e => by have := e.1; simp at this; omega)]
  · rw [getM_put, if_neg (fun e => hna ((hA i).2 (.inl e.1)))]
    exact k.2 i hi fun z hz e => hna ((hA i).2 (.inr ⟨z, hz, e⟩))
  · rw [size_put]
    rcases hi with rfl | rfl
    · exact ⟨Nat.lt_of_lt_of_le hob k.1, .inl ((hA _).2 (.inl rfl))⟩
    · exact ⟨hb1, .inr hb⟩

set_option maxRecDepth 100000 in
set_option maxHeartbeats 4000000 in
theorem Found_at {m : Mem} {a b : Option Addr} {n k c c' : Nat} {xs ys : List Int} (h : SlA m 1 a n c (xs.map vI)) (h' : SlA m 1 b k c' (ys.map vI)) (hn : n ≤ 10000) (hk : k ≤ 10000) :
    CallQ E F_sheaflaw10_found [.slice a n c, .slice b k c'].toArray m fun w m' => ∃ p, w = .slice p (2 * n) (2 * n) ∧ Vec m.size m' 1 p (2 * n) ((foundL belowI ys xs n).map vI) ∧ Old m m' := by
  have lx : xs.length = n := by have := h.len; simpa using this
  have ly : ys.length = k := by have := h'.len; simpa using this
  refine .enter fn_sheaflaw10_found (by simp) ?_
  simp (decide := true) (implicitDefEqProofs := false) (maxDischargeDepth := 20) only [go_sem, ↓reduceIte, true_implies, false_implies]
  have o1 : Old m (m.push (.cells false true [.slice none 0 0])) := .push (.refl m) _
  have hbx : Box (m.push (.cells false true [.slice none 0 0])) m.size [.slice none 0 0] := .new m true _
  have hs1 : m.size < (m.push (.cells false true [.slice none 0 0])).size := by simp
  obtain ⟨ob, hob⟩ : ∃ ob, ob = m.size := ⟨_, rfl⟩
  rw [← hob] at hbx hs1 ⊢
  generalize m.push (.cells false true [.slice none 0 0]) = m1 at *
  refine (From_at).mono ?_
  rintro w m2 ⟨bs, rfl, cs, o2, hbs⟩
  simp (decide := true) (implicitDefEqProofs := false) (maxDischargeDepth := 20) only [go_sem, ↓reduceIte, true_implies, false_implies]
  refine (Cursor_at).mono ?_
  rintro w m3 ⟨rfl, cc, o3⟩
  simp (decide := true) (implicitDefEqProofs := false) (maxDischargeDepth := 20) only [go_sem, ↓reduceIte, true_implies, false_implies]
  refine (Join_at).mono ?_
  rintro w m4 ⟨b1, b2, b3, rfl, j1, j2, j3, o4⟩
  have o14 := o2.trans (o3.trans o4)
  have ncb : m.size < m2.size := by have := o2.size; omega
  obtain ⟨cb, hcb⟩ : ∃ cb, cb = m2.size := ⟨_, rfl⟩
  rw [← hcb] at cc j2
  have lcb4 : cb < m4.size := getM_lt (cc.old o4)
  have cs4 := cs.old (o3.trans o4)
  have ne1 : bs ≠ cb := by have := getM_lt cs; omega
  have box4 := hbx.old o14
  have bx4 := Box.at0 box4
  have nob : bs ≠ ob ∧ b1 ≠ ob ∧ b2 ≠ ob ∧ b3 ≠ ob := by
    have cs4' := get_at0 cs4
    have q1 := get_at0 j1
    have q2 := get_at0 j2
    have q3 := get_at0 j3
    refine ⟨?_, ?_, ?_, ?_⟩
    · have := hbx.lt; omega
    · rintro rfl; rw [bx4] at q1; cases q1
    · rintro rfl; rw [bx4] at q2; cases q2
    · rintro rfl; rw [bx4] at q3; cases q3
  have nb : b1 ≠ cb ∧ b2 ≠ cb ∧ b3 ≠ cb := by
    have c4 := cc.old o4
    refine ⟨?_, ?_, ?_⟩
    · rintro rfl; rw [cap1] at j1 c4; rw [j1] at c4; cases c4
    · rintro rfl; rw [cap1] at j2 c4; rw [j2] at c4; cases c4
    · rintro rfl; rw [cap1] at j3 c4; rw [j3] at c4; cases c4
  have oml := o1.trans o14
  have it := JoinI (Z := butL m4 [ob, cb]) (l := ys) (cmp := belowI) lx (by omega) (ValuesI (F := none') (butL_at cs4 (by simp; omega)) (fun _ z => h.butS oml z (by simp; omega)) (by omega)) (butL_at j1 (by simp; omega)) (butL_at j2 (by simp; omega)) (butL_at j3 (by simp; omega)) (fun a b => Below_ok _ a b)
  simp (decide := true) (implicitDefEqProofs := false) (maxDischargeDepth := 20) only [go_sem, ↓reduceIte, true_implies, false_implies]
  simp only [c_sheaflaw10_found_9_at, wpM_block, c_sheaflaw10_found_8_at]
  have hob4 : ob < m4.size := box4.lt
  refine wpM_rangeP (A := fun i => i = ob) it (fun t => upd (upd t 7 (t 17)) 8 (t 18)) (by simp (decide := true) only [go_sem, ↓reduceIte]) rfl asg_sheaflaw10_found_0 body_sheaflaw10_found_0 (by decide) (fun K l t m h => by simp (decide := true) only [go_sem, ↓reduceIte]; exact h)
    (fun k => BoxV ob (foundL belowI ys xs k)) noD (fun k => BoxV.loc _ _) noD_loc (butL_frozen _ _) (fun i hi => ⟨by omega, by rw [hi]; exact butL_no (by simp), by omega⟩) (fun i hi => ⟨by omega, by rw [hi]; exact butL_no (by simp)⟩)
    (by
      refine ⟨b, c', ?_, fun m' z => ?_⟩
      · rw [show (stJ belowI ys (xs.take 0)).left = ys from rfl, ly]; exact cc.old o4
      · rw [show (stJ belowI ys (xs.take 0)).left = ys from rfl, ly]; exact h'.butS oml z (by simp; omega))
    ⟨none, box4, .nil _ _ _, fun i => by simp⟩ ?_ ?_ ?_
  · rintro j vs m5 A B l hj z1 o5 o6 dis ow ⟨p, ⟨tg, hb⟩, hv, hA⟩ ⟨q, rfl, hq⟩ hin hms
    refine ⟨rfl, ?_⟩
    have r0 := get_at0 hb
    have hbl := getM_lt hb
    have hA0 : ∀ i, A i → i < m5.size := fun i hi => (o5 i hi).1
    have fl := foundL_len belowI ys xs j
    simp (decide := true) (implicitDefEqProofs := false) (maxDischargeDepth := 20) only [go_sem, r0, ↓reduceIte, true_implies, false_implies]
    refine hv.appendQ rfl (by omega) rfl (by decide) (by decide +kernel) (by decide +kernel) rfl (by omega) fun m6 b6 s6 v6 k6 hb6 => ?_
    have g6 : m6.get ob = _ := (k6.2 ob hbl fun x hx e => by have := (hv.blk x hx).1; omega).trans hb
    simp (decide := true) (implicitDefEqProofs := false) (maxDischargeDepth := 20) only [go_sem, g6, ↓reduceIte, true_implies, false_implies]
    obtain ⟨A6, ⟨p7, ⟨tg7, hb7⟩, hv7, hA7⟩, t7⟩ := BoxV.more (tg := tg) hv hA hbl v6 k6 hb6
    have hfk : foundL belowI ys xs (j + 1) = foundL belowI ys xs j ++ [xs.getD j 0] ++ [if (hitJ belowI (stJ belowI ys (xs.take (j + 1))) (xs.getD j 0)).isSome then 1 else 0] := by
      rw [foundL_succ, List.append_assoc]; rfl
    generalize m6.put ob (some (.cells false tg [.slice (some ⟨b6, 0, s6⟩) ((foundL belowI ys xs j).length + 1) ((foundL belowI ys xs j).length + 1)])) = m7 at *
    generalize foundL belowI ys xs j ++ [xs.getD j 0] = fs at *
    have lfs : fs.length ≤ 100000 := by
      have := congrArg List.length hfk
      rw [List.length_append, foundL_len] at this
      simp at this
      omega
    have r7 : m7.at ob 0 = _ := get_at0 hb7
    have hbl7 := getM_lt hb7
    cases hh : hitJ belowI (stJ belowI ys (xs.take (j + 1))) (xs.getD j 0) with
    | none =>
      rw [hh] at hq hfk
      simp only at hq
      subst hq
      simp (decide := true) (implicitDefEqProofs := false) (maxDischargeDepth := 20) only [go_sem, r7, ↓reduceIte, true_implies, false_implies]
      refine hv7.appendQ rfl (by omega) rfl (by decide) (by decide +kernel) (by decide +kernel) rfl (by omega) fun m8 b8 s8 v8 k8 hb8 => ?_
      have g8 : m8.get ob = _ := (k8.2 ob hbl7 fun x hx e => by have := (hv7.blk x hx).1; omega).trans hb7
      simp (decide := true) (implicitDefEqProofs := false) (maxDischargeDepth := 20) only [go_sem, g8, ↓reduceIte, true_implies, false_implies]
      obtain ⟨A9, h9, t9⟩ := BoxV.more (tg := tg7) hv7 hA7 hbl7 v8 k8 hb8
      have tt := (t7.trans t9).mono (B := fun i => A i ∨ B i) fun _ => .inl
      refine ⟨A9, tt.c, tt.n, ?_⟩
      rw [hfk]
      exact h9
    | some y =>
      rw [hh] at hq hfk
      obtain ⟨b0, rfl, _⟩ := hq
      simp (decide := true) (implicitDefEqProofs := false) (maxDischargeDepth := 20) only [go_sem, r7, ↓reduceIte, true_implies, false_implies]
      refine hv7.appendQ rfl (by omega) rfl (by decide) (by decide +kernel) (by decide +kernel) rfl (by omega) fun m8 b8 s8 v8 k8 hb8 => ?_
      have g8 : m8.get ob = _ := (k8.2 ob hbl7 fun x hx e => by have := (hv7.blk x hx).1; omega).trans hb7
      simp (decide := true) (implicitDefEqProofs := false) (maxDischargeDepth := 20) only [go_sem, g8, ↓reduceIte, true_implies, false_implies]
      obtain ⟨A9, h9, t9⟩ := BoxV.more (tg := tg7) hv7 hA7 hbl7 v8 k8 hb8
      have tt := (t7.trans t9).mono (B := fun i => A i ∨ B i) fun _ => .inl
      refine ⟨A9, tt.c, tt.n, ?_⟩
      rw [hfk]
      exact h9
  · rintro m' A' z' o' ow ⟨p, hb, hv, hA⟩ c1 c2
    have r0 := Box.at0 hb
    have fl := foundL_len belowI ys xs n
    rw [fl] at r0 hv
    simp (decide := true) (implicitDefEqProofs := false) (maxDischargeDepth := 20) only [go_sem, r0, ↓reduceIte, true_implies, false_implies]
    refine ⟨p, rfl, hv.mono (by omega), .of_get (by have := oml.size; have := c1.size; omega) fun i hi => ?_⟩
    rw [c1.get i (by have := oml.size; omega) (by omega), oml.get hi]
  · rintro j x m' A' _ _ _ _ _ h
    exact h.elim
end Go.Proofs.Ytgbpgkfmmhlkoaa.W
