/-
  Join.
-/
import Derived.Test.YtpabllcacdopdaaJnB
namespace Go.Proofs.Ytpabllcacdopdaa.W
open Go.Abs
set_option linter.unusedSimpArgs false
set_option linter.unusedVariables false

/-- What Join yields: a number, and a pointer to a copy of what was found. -/
def joinEl (cmp : HRow → HRow → Int) (l xs : List HRow) : Nat → List Value → Mem → Set' → Prop := fun k vs m B => ∃ p, vs = [(xs.getD k noRow).v, p] ∧
  match hitJ cmp (stJ cmp l (xs.take (k + 1))) (xs.getD k noRow) with
  | none => p = .pointer none
  | some y => ∃ b, p = ptr b ∧ m.get b = some (.cells false true [y.v]) ∧ B b
theorem joinEl_loc (cmp : HRow → HRow → Int) (l xs : List HRow) (k : Nat) (vs : List Value) : LocP (joinEl cmp l xs k vs) := by
  rintro m m' B ⟨p, h1, h2⟩ hk hs
  refine ⟨p, h1, ?_⟩
  split
  · rename_i e
    rw [e] at h2
    exact h2
  · rename_i y e
    rw [e] at h2
    obtain ⟨b, h3, h4, h5⟩ := h2
    exact ⟨b, h3, (hk b h5).trans h4, h5⟩

/-- Where a cursor stands. -/
def JO (Z : Nat → Option Blk) (cb : Nat) (cmp : HRow → HRow → Int) (l xs : List HRow) : Nat → Mem → Prop := fun j m => CurAt Z cb (stJ cmp l (xs.take j)).left m

/-- A join under way beside its consumer. -/
structure JX (Z : Nat → Option Blk) (y : Value) (yb lb ab tb cb : Nat) (Q : Mem → Set' → Prop) (s : JS) (m : Mem) (A : Set') (A1 : Set') : Prop where
  q : Q m A1
  y : m.get yb = some (.cells false true [y])
  b : JB Z lb ab tb cb s m
  A : ∀ i, A i ↔ A1 i ∨ i = yb ∨ i = lb ∨ i = ab ∨ i = tb ∨ i = cb
  n : ∀ i, A1 i → i ≠ yb ∧ i ≠ lb ∧ i ≠ ab ∧ i ≠ tb ∧ i ≠ cb

theorem JX.loc {Z : Nat → Option Blk} {y : Value} {yb lb ab tb cb : Nat} {Q : Mem → Set' → Prop} (hl : LocP Q) (s : JS) : LocP fun m A => ∃ A1, JX Z y yb lb ab tb cb Q s m A A1 := by
  rintro m m' A ⟨A1, h⟩ hk hs
  refine ⟨A1, hl m m' A1 h.q (fun i hi => hk i ((h.A i).2 (.inl hi))) hs, (hk yb ((h.A yb).2 (.inr (.inl rfl)))).trans h.y, h.b.keep fun i hi => hk i ((h.A i).2 ?_), h.A, h.n⟩
  rcases hi with e | e | e | e
  · exact .inr (.inr (.inl e))
  · exact .inr (.inr (.inr (.inl e)))
  · exact .inr (.inr (.inr (.inr (.inl e))))
  · exact .inr (.inr (.inr (.inr (.inr e))))

set_option maxRecDepth 100000 in
set_option maxHeartbeats 4000000 in
theorem JoinI {Z0 Z : Nat → Option Blk} {s : Value} {f : Fn} {fa fb : Array Value} {n : Nat} {xs l : List HRow} (h0 : SubZ Z0 Z) (hl : xs.length = n) (hll : l.length ≤ 1000000) (hxs : ∀ k, RowZ Z (xs.getD k noRow)) (hls : ∀ y ∈ l, RowZ Z0 y) {cmp : HRow → HRow → Int} (hs : Iter E Z none' s n anyO (pureEl (rowsEl xs))) {b1 b2 b3 cb : Nat}
    (h1 : Z b1 = some (.cells false true [s])) (h2 : Z b2 = some (.cells false true [.func (.func F_flow_Cursor_Sint_1) #[] #[ptr cb]])) (h3 : Z b3 = some (.cells false true [.func f fa fb])) (hc : ∀ a b, RowZ Z a → RowZ Z b → PureF E Z (.func f fa fb) [a.v, b.v] (vI (cmp a b))) :
    Iter E Z (fun i => i = cb) (.func (.func F_flow_Join_Sint_Sint_1) #[] #[ptr b1, ptr b3, ptr b2]) n (JO Z0 cb cmp l xs) (joinEl cmp l xs) where
  fn := ⟨_, _, _, rfl⟩
  locO := fun k m m' h hk => h.keep (hk cb rfl)
  locE := joinEl_loc _ _ _
  go := by
    intro y hy I D lI lD step m A z o hF own0 i0
    have step : StepOk E Z _ _ _ _ y I D := step
    obtain ⟨yf, ya, yc, rfl⟩ := hy
    have own0 : CurAt Z0 cb l m := own0
    have hcb := hF cb rfl
    rw [CallF_func]
    refine ⟨some69, ?_⟩
    have e : (#[] ++ [Value.func yf ya yc].toArray ++ #[ptr b1, ptr b3, ptr b2] : Array Value) = [Value.func yf ya yc, ptr b1, ptr b3, ptr b2].toArray := by simp
    rw [e]
    refine .enter fn_flow_Join_Sint_Sint_1 (by simp) ?_
    have r0 := frozen_at z h1
    have lt1 := z.lt h1
    have n1 : ¬ b1 = m.size := by omega
    have n2 : ¬ b1 = m.size + 1 := by omega
    have n3 : ¬ b1 = m.size + (1 + 1) := by omega
    have n4 : ¬ b1 = m.size + (1 + (1 + 1)) := by omega
    simp (decide := true) (implicitDefEqProofs := false) (maxDischargeDepth := 20) only [go_sem, HRow.v, r0, n1, n2, n3, n4, ↓reduceIte, true_implies, false_implies]
    generalize hm1 : (((((m.push (.cells false true [Value.func yf ya yc])).push (.cells false true [.slice none 0 0])).push (.cells false true [.bool false])).push (.cells false true [.bool false])).put (m.size + (1 + 1)) (some (.cells false true [.bool false]))).put (m.size + (1 + (1 + 1))) (some (.cells false true [.bool false])) = m1
    have ho : Old m m1 := by rw [← hm1]; exact .put (.put (.push (.push (.push (.push (.refl m) _) _) _) _) _ _ (by omega)) _ _ (by omega)
    obtain ⟨yb, hyb⟩ : ∃ b, b = m.size := ⟨_, rfl⟩
    obtain ⟨lb, hlb⟩ : ∃ b, b = m.size + 1 := ⟨_, rfl⟩
    obtain ⟨ab, hab⟩ : ∃ b, b = m.size + (1 + 1) := ⟨_, rfl⟩
    obtain ⟨tb, htb⟩ : ∃ b, b = m.size + (1 + (1 + 1)) := ⟨_, rfl⟩
    have qy : m1.get yb = some (.cells false true [Value.func yf ya yc]) := by
      rw [← hm1, hyb, getM_put, if_neg (by omega), getM_put, if_neg (by omega), getM_push, if_neg (by simp <;> omega), getM_push, if_neg (by simp <;> omega), getM_push, if_neg (by simp), getM_push, if_pos rfl]
    have ql : m1.get lb = some (.cells false true [noRow.v]) := by
      rw [← hm1, hlb, getM_put, if_neg (by omega), getM_put, if_neg (by omega), getM_push, if_neg (by simp <;> omega), getM_push, if_neg (by simp <;> omega), getM_push, if_pos (by simp)]
      rfl
    have qa : m1.get ab = some (.cells false true [.bool false]) := by
      rw [← hm1, hab, getM_put, if_neg (by omega), getM_put, if_pos ⟨rfl, by simp⟩]
    have qt : m1.get tb = some (.cells false true [.bool false]) := by
      rw [← hm1, htb, getM_put, if_pos ⟨rfl, by simp⟩]
    rw [← htb, ← hab, ← hlb, ← hyb]
    clear hm1
    have zz := z.old ho
    have zfree : ∀ i, m.size ≤ i → Z i = none := fun i hi => z.free hi
    have zn : ∀ i, i = lb ∨ i = ab ∨ i = tb ∨ i = cb → Z i = none := by
      rintro i (rfl | rfl | rfl | rfl)
      · exact zfree _ (by omega)
      · exact zfree _ (by omega)
      · exact zfree _ (by omega)
      · exact hcb.2
    have zy : Z yb = none := zfree _ (by omega)
    have mine : ∀ i, (i = yb ∨ i = lb ∨ i = ab ∨ i = tb) → m.size ≤ i := by
      rintro i (rfl | rfl | rfl | rfl) <;> omega
    have nA : ∀ i, A i → i ≠ yb ∧ i ≠ lb ∧ i ≠ ab ∧ i ≠ tb ∧ i ≠ cb := fun i hi => by
      have h := o i hi
      exact ⟨by omega, by omega, by omega, by omega, h.2.2⟩
    simp only [c_flow_Join_Sint_Sint_1_17_at, wpM_block, c_flow_Join_Sint_Sint_1_16_at]
    refine wpM_rangeP (A := fun i => A i ∨ i = yb ∨ i = lb ∨ i = ab ∨ i = tb ∨ i = cb) hs (fun t => upd t 8 (t 12)) (by simp (decide := true) only [go_sem, HRow.v, ↓reduceIte]) rfl asg_flow_Join_Sint_Sint_1_0 body_flow_Join_Sint_Sint_1_0 (by decide) (fun K l t m h => by simp (decide := true) only [go_sem, HRow.v, ↓reduceIte]; exact h)
      (fun k m A => ∃ A1, JX Z0 (.func yf ya yc) yb lb ab tb cb (I k) (stJ cmp l (xs.take k)) m A A1)
      (fun k x m A => x = .ret ∧ ∃ A1, JX Z0 (.func yf ya yc) yb lb ab tb cb (D k) (stJ cmp l (xs.take (k + 1))) m A A1)
      (fun k => JX.loc (lI k) _) (fun k x m1 m2 A' h q r => ⟨h.1, JX.loc (lD k) _ m1 m2 A' h.2 q r⟩) zz
      (by
        rintro i (hi | rfl | rfl | rfl | rfl | rfl)
        · exact ⟨Nat.lt_of_lt_of_le (o i hi).1 ho.size, (o i hi).2.1, fun h => h⟩
        · exact ⟨getM_lt qy, zy, fun h => h⟩
        · exact ⟨getM_lt ql, zn _ (.inl rfl), fun h => h⟩
        · exact ⟨getM_lt qa, zn _ (.inr (.inl rfl)), fun h => h⟩
        · exact ⟨getM_lt qt, zn _ (.inr (.inr (.inl rfl))), fun h => h⟩
        · exact ⟨Nat.lt_of_lt_of_le hcb.1 ho.size, hcb.2, fun h => h⟩) (fun _ h => h.elim) trivial
      ⟨A, lI 0 m _ A i0 (fun i hi => ho.get (o i hi).1) ho.size, qy, ⟨ql, qa, qt, own0.keep (ho.get hcb.1), fun m _ => noRow_at m, hls⟩, fun _ => Iff.rfl, nA⟩ ?_ ?_ ?_
    · rintro k vs m2 A' B lp hk z1 o1 o2 dis ow ⟨A1, hX⟩ hel hin hms
      have hel : vs = [(xs.getD k noRow).v] := hel
      subst hel
      refine ⟨rfl, ?_⟩
      have hmm : m.size ≤ m2.size := Nat.le_trans ho.size hms
      have st1 : stJ cmp l (xs.take (k + 1)) = stepJ cmp (stJ cmp l (xs.take k)) (xs.getD k noRow) := by
        rw [List.take_succ_eq_append_getElem (by omega), stJ_snoc]
        simp [List.getD_eq_getElem?_getD, List.getElem?_eq_getElem (show k < xs.length by omega)]
      have hlen : (stJ cmp l (xs.take k)).left.length ≤ 1000000 := Nat.le_trans (stJ_len _ _ _) hll
      have ylt := getM_lt hX.y
      simp only [c_flow_Join_Sint_Sint_1_15_at, wpM_block, c_flow_Join_Sint_Sint_1_14_at, wpM_seq]
      refine Join_skip (x := xs.getD k noRow) hX.b z1 h0 zn (by omega) (by omega) (by omega) (by omega) (by omega) (by omega) hlen (hxs k) h2 h3 hc (by simp (decide := true) only [go_sem, HRow.v, ↓reduceIte]) (by simp (decide := true) only [go_sem, HRow.v, ↓reduceIte]) (by simp (decide := true) only [go_sem, HRow.v, ↓reduceIte]) (by simp (decide := true) only [go_sem, HRow.v, ↓reduceIte]) (by simp (decide := true) only [go_sem, HRow.v, ↓reduceIte]) (by simp (decide := true) only [go_sem, HRow.v, ↓reduceIte]) fun t3 m3 hag H3 hch z3 => ?_
      have e2 := hag 2 (by decide +kernel)
      have e4 := hag 4 (by decide +kernel)
      have e5 := hag 5 (by decide +kernel)
      have e7 := hag 7 (by decide +kernel)
      have e8 := hag 8 (by decide +kernel)
      simp (decide := true) only [go_sem, HRow.v, ↓reduceIte] at e2 e4 e5 e7 e8
      rw [← st1] at H3
      have elx : ∀ p m B, (match hitJ cmp (stJ cmp l (xs.take (k + 1))) (xs.getD k noRow) with | none => p = .pointer none | some y => ∃ b, p = ptr b ∧ m.get b = some (.cells false true [y.v]) ∧ B b) → joinEl cmp l xs k [(xs.getD k noRow).v, p] m B := fun p m B h => ⟨p, rfl, h⟩
      have hxk := hxs k
      generalize xs.getD k noRow = x at *
      generalize hT : stJ cmp l (xs.take (k + 1)) = T at *
      have gy3 : m3.get yb = some (.cells false true [Value.func yf ya yc]) := (hch.get yb ylt (by omega)).trans hX.y
      have hI3 : I k m3 A1 := lI k m2 m3 A1 hX.q (fun i hi => hch.get i (o1 i ((hX.A i).2 (.inl hi))).1 (by have := hX.n i hi; omega)) hch.size
      have rl := get_at0 H3.l
      have rt := get_at0 H3.t
      have rc := frozen_at z3 h3
      -- the yield, and what is behind it
      let P4 : List (Nat × Blk) := [(yb, .cells false true [.func yf ya yc]), (lb, .cells false true [T.last.v]), (ab, .cells false true [.bool T.asked]), (tb, .cells false true [.bool T.there])]
      have hP4 : ∀ i, (∃ p ∈ P4, i = p.1) ↔ i = yb ∨ i = lb ∨ i = ab ∨ i = tb := by
        intro i
        simp only [P4, List.mem_cons, List.not_mem_nil, or_false, exists_eq_or_imp, exists_eq_left]
      have yield : ∀ (m5 : Mem) (p : Value) (B5 : Set'), Old m3 m5 → (∀ i, B5 i → m3.size ≤ i ∧ i < m5.size) → joinEl cmp l xs k [x.v, p] m5 B5 →
          CallF E (.func yf ya yc) [x.v, p] m5 fun w m' => ∃ A'', ChgS (fun i => A' i ∨ B i) m2 m' ∧ NewS (fun i => A' i ∨ B i) m2 m' A'' ∧ (w = .bool true ∧ (∃ A1, JX Z0 (.func yf ya yc) yb lb ab tb cb (I (k + 1)) T m' A'' A1) ∨ w = .bool false ∧ (∃ A1, JX Z0 (.func yf ya yc) yb lb ab tb cb (D k) T m' A'' A1)) := by
        intro m5 p B5 o5 hB5 hel5
        have H5 := H3.old o5
        have y5 := (o5.get (getM_lt gy3)).trans gy3
        have z5 := z3.old o5
        have s25 : m2.size ≤ m5.size := Nat.le_trans hch.size o5.size
        have A1lt : ∀ i, A1 i → i < m3.size := fun i hi => Nat.lt_of_lt_of_le (o1 i ((hX.A i).2 (.inl hi))).1 hch.size
        have hI5 : I k m5 A1 := lI k m3 m5 A1 hI3 (fun i hi => o5.get (A1lt i hi)) o5.size
        have hp5 : ∀ p ∈ P4, m5.get p.1 = some p.2 ∧ ¬ A1 p.1 := by
          intro p hp
          have hn : ¬ A1 p.1 := fun h => by
            have := hX.n _ h
            have := (hP4 p.1).1 ⟨p, hp, rfl⟩
            omega
          refine ⟨?_, hn⟩
          simp only [P4, List.mem_cons, List.not_mem_nil, or_false] at hp
          rcases hp with rfl | rfl | rfl | rfl
          · exact y5
          · exact H5.l
          · exact H5.a
          · exact H5.t
        have plt : ∀ i, i = yb ∨ i = lb ∨ i = ab ∨ i = tb → i < m3.size := by
          rintro i (rfl | rfl | rfl | rfl)
          · exact getM_lt gy3
          · exact getM_lt H3.l
          · exact getM_lt H3.a
          · exact getM_lt H3.t
        refine (step.yield (vs := [x.v, p]) (P := P4) (A := fun i => A1 i ∨ ∃ p ∈ P4, i = p.1) (B := B5) hk z5 ?_ ?_ ?_ ?_ ?_ hI5 hp5 (fun _ => Iff.rfl) hel5).mono ?_
        · rintro i (hi | hi)
          · have := A1lt i hi
            exact ⟨by have := o5.size; omega, (o1 i ((hX.A i).2 (.inl hi))).2.1, (hX.n i hi).2.2.2.2⟩
          · have h4 := (hP4 i).1 hi
            have := plt i h4
            have := mine i h4
            exact ⟨by have := o5.size; omega, zfree i this, by omega⟩
        · intro i hi
          have := hB5 i hi
          exact ⟨this.2, z3.free this.1, by have := hch.size; omega⟩
        · rintro i (hi | hi) hb
          · have := A1lt i hi; have := hB5 i hb; omega
          · have := plt i ((hP4 i).1 hi); have := hB5 i hb; omega
        · intro i hi; omega
        · show CurAt Z0 cb (stJ cmp l (xs.take (k + 1))).left m5
          rw [hT]
          exact H5.c
        · rintro w m6 ⟨A2, t6, p6, hw⟩
          have hcb6 : m6.get cb = m5.get cb := t6.c.get cb H5.c.lt (by
            rintro ((h | h) | h)
            · exact (hX.n cb h).2.2.2.2 rfl
            · have := mine cb ((hP4 cb).1 h); omega
            · have := hB5 cb h; have := hch.size; omega)
          have n2 : ∀ i, A2 i → i ≠ yb ∧ i ≠ lb ∧ i ≠ ab ∧ i ≠ tb ∧ i ≠ cb := by
            intro i hi
            have g : ∀ q ∈ P4, i ≠ q.1 := fun q hq e => (p6 q hq).2 (e ▸ hi)
            refine ⟨g (yb, .cells false true [.func yf ya yc]) (by simp [P4]), g (lb, .cells false true [T.last.v]) (by simp [P4]), g (ab, .cells false true [.bool T.asked]) (by simp [P4]), g (tb, .cells false true [.bool T.there]) (by simp [P4]), ?_⟩
            rintro rfl
            rcases (t6.n i (.inl hi)).2 with (h | h) | h
            · rcases h with h | h
              · exact (hX.n i h).2.2.2.2 rfl
              · have := mine i ((hP4 i).1 h); omega
            · have := hB5 i h; have := H3.c.lt; omega
            · have := H5.c.lt; omega
          have c6 : ChgS (fun i => A' i ∨ B i) m2 m6 := by
            refine ⟨by have := t6.c.size; omega, fun i hi hna => ?_⟩
            have hnA' : ¬ A' i := fun h => hna (.inl h)
            rw [t6.c.get i (by omega) (by
              rintro ((h | h) | h)
              · exact hnA' ((hX.A i).2 (.inl h))
              · have := (hP4 i).1 h
                exact hnA' ((hX.A i).2 (.inr (by omega)))
              · have := hB5 i h; have := hch.size; omega), o5.get (by have := hch.size; omega), hch.get i hi (fun h => hnA' ((hX.A i).2 (.inr (by omega))))]
          have mk : ∀ (Q : Mem → Set' → Prop), Q m6 A2 → JX Z0 (.func yf ya yc) yb lb ab tb cb Q T m6 (fun i => A2 i ∨ i = yb ∨ i = lb ∨ i = ab ∨ i = tb ∨ i = cb) A2 := fun Q hQ =>
            ⟨hQ, (p6 (yb, .cells false true [.func yf ya yc]) (by simp [P4])).1, ⟨(p6 (lb, .cells false true [T.last.v]) (by simp [P4])).1, (p6 (ab, .cells false true [.bool T.asked]) (by simp [P4])).1, (p6 (tb, .cells false true [.bool T.there]) (by simp [P4])).1, H5.c.keep hcb6, H5.r⟩, fun _ => Iff.rfl, n2⟩
          refine ⟨fun i => A2 i ∨ i = yb ∨ i = lb ∨ i = ab ∨ i = tb ∨ i = cb, c6, fun i hi => ?_, ?_⟩
          · rcases hi with hi | hi
            · refine ⟨(t6.n i (.inl hi)).1, ?_⟩
              rcases (t6.n i (.inl hi)).2 with (h | h) | h
              · exact .inl (.inl ((hX.A i).2 (h.imp id fun h => by have := (hP4 i).1 h; omega)))
              · exact .inr (by have := hB5 i h; have := hch.size; omega)
              · exact .inr (by omega)
            · refine ⟨?_, .inl (.inl ((hX.A i).2 (.inr hi)))⟩
              have : i < m3.size := by
                by_cases h : i = cb
                · rw [h]; exact H3.c.lt
                · exact plt i (by omega)
              have := o5.size; have := t6.c.size; omega
          · rcases hw with ⟨rfl, hQ⟩ | ⟨rfl, hQ⟩
            · exact .inl ⟨rfl, A2, mk _ hQ⟩
            · exact .inr ⟨rfl, A2, mk _ hQ⟩
      have done_ : ∀ (w : Value) (m' : Mem), (∃ A'', ChgS (fun i => A' i ∨ B i) m2 m' ∧ NewS (fun i => A' i ∨ B i) m2 m' A'' ∧ (w = .bool true ∧ (∃ A1, JX Z0 (.func yf ya yc) yb lb ab tb cb (I (k + 1)) T m' A'' A1) ∨ w = .bool false ∧ (∃ A1, JX Z0 (.func yf ya yc) yb lb ab tb cb (D k) T m' A'' A1))) →
          (w = .bool true ∧ ∃ A'', ChgS (fun i => A' i ∨ B i) m2 m' ∧ NewS (fun i => A' i ∨ B i) m2 m' A'' ∧ ∃ A1, JX Z0 (.func yf ya yc) yb lb ab tb cb (I (k + 1)) T m' A'' A1) ∨ (w = .bool false ∧ ∃ A'', ChgS (fun i => A' i ∨ B i) m2 m' ∧ NewS (fun i => A' i ∨ B i) m2 m' A'' ∧ ∃ A1, JX Z0 (.func yf ya yc) yb lb ab tb cb (D k) T m' A'' A1) := by
        rintro w m' ⟨A'', c, n, ⟨hw, h⟩ | ⟨hw, h⟩⟩
        · exact .inl ⟨hw, A'', c, n, h⟩
        · exact .inr ⟨hw, A'', c, n, h⟩
      have ry3 := get_at0 gy3
      cases hth : T.there with
      | false =>
        rw [hth] at rt
        simp (decide := true) (implicitDefEqProofs := false) (maxDischargeDepth := 20) only [go_sem, HRow.v, e2, e4, e5, e7, e8, rt, ry3, ↓reduceIte, true_implies, false_implies]
        refine CallF.step ((yield m3 (.pointer none) none' (.refl _) (fun _ h => h.elim) (elx _ _ _ (by unfold hitJ; rw [if_neg (by rw [hth]; simp)]))).mono fun w m6 hw => ?_)
        rcases done_ w m6 hw with ⟨rfl, h⟩ | ⟨rfl, A'', c, nn, h⟩
        · simp (decide := true) (implicitDefEqProofs := false) (maxDischargeDepth := 20) only [go_sem, HRow.v, ↓reduceIte, true_implies, false_implies]
          exact h
        · simp (decide := true) (implicitDefEqProofs := false) (maxDischargeDepth := 20) only [go_sem, HRow.v, ↓reduceIte, true_implies, false_implies]
          exact ⟨A'', c, nn, .inl trivial, h⟩
      | true =>
        rw [hth] at rt
        simp (decide := true) (implicitDefEqProofs := false) (maxDischargeDepth := 20) only [go_sem, HRow.v, e2, e4, e5, e7, e8, rt, rl, rc, ↓reduceIte, true_implies, false_implies]
        refine CallF.step ((hc x T.last hxk (H3.r.1.sub h0) m3 z3).mono ?_)
        rintro w m4 ⟨rfl, o4⟩
        have rl4 : m4.at lb 0 = _ := get_at0 ((o4.get (getM_lt H3.l)).trans H3.l)
        have ry4 : m4.at yb 0 = _ := get_at0 ((o4.get (getM_lt gy3)).trans gy3)
        by_cases h0 : cmp x T.last = 0
        · have d0 : (cmp x T.last == 0) = true := by simpa using h0
          have nyb : ¬ yb = m4.size := by have := at_lt ry4; omega
          simp (decide := true) (implicitDefEqProofs := false) (maxDischargeDepth := 20) only [go_sem, HRow.v, e2, e4, e5, e7, e8, d0, rl4, ry4, nyb, ↓reduceIte, true_implies, false_implies]
          rw [put_push _ _ _ rfl]
          have o45 : Old m4 (m4.ext [some (.cells false true [T.last.v])]) := ⟨_, rfl⟩
          refine CallF.step ((yield (m4.ext [some (.cells false true [T.last.v])]) (.pointer (some ⟨m4.size, 0, none⟩)) (fun i => i = m4.size) (o4.trans o45) (fun i hi => ⟨by rw [hi]; exact o4.size, by rw [hi, size_ext]; simp⟩) (elx _ _ _ (by
            unfold hitJ
            rw [if_pos ⟨hth, h0⟩]
            exact ⟨m4.size, rfl, by rw [← push_ext, getM_push, if_pos rfl], rfl⟩))).mono fun w m6 hw => ?_)
          rcases done_ w m6 hw with ⟨rfl, h⟩ | ⟨rfl, A'', c, nn, h⟩
          · simp (decide := true) (implicitDefEqProofs := false) (maxDischargeDepth := 20) only [go_sem, HRow.v, ↓reduceIte, true_implies, false_implies]
            exact h
          · simp (decide := true) (implicitDefEqProofs := false) (maxDischargeDepth := 20) only [go_sem, HRow.v, ↓reduceIte, true_implies, false_implies]
            exact ⟨A'', c, nn, .inl trivial, h⟩
        · have d0 : (cmp x T.last == 0) = false := by simpa using h0
          simp (decide := true) (implicitDefEqProofs := false) (maxDischargeDepth := 20) only [go_sem, HRow.v, e2, e4, e5, e7, e8, d0, rl4, ry4, ↓reduceIte, true_implies, false_implies]
          refine CallF.step ((yield m4 (.pointer none) none' o4 (fun _ h => h.elim) (elx _ _ _ (by unfold hitJ; rw [if_neg (fun h => h0 h.2)]))).mono fun w m6 hw => ?_)
          rcases done_ w m6 hw with ⟨rfl, h⟩ | ⟨rfl, A'', c, nn, h⟩
          · simp (decide := true) (implicitDefEqProofs := false) (maxDischargeDepth := 20) only [go_sem, HRow.v, ↓reduceIte, true_implies, false_implies]
            exact h
          · simp (decide := true) (implicitDefEqProofs := false) (maxDischargeDepth := 20) only [go_sem, HRow.v, ↓reduceIte, true_implies, false_implies]
            exact ⟨A'', c, nn, .inl trivial, h⟩
    · rintro m' A' z' o' ow ⟨A1, hX⟩ c1 c2
      have oc : ChgS (fun i => A i ∨ i = cb) m m' := ⟨Nat.le_trans ho.size c1.size, fun i hi hne => by
        rw [c1.get i (Nat.lt_of_lt_of_le hi ho.size) (by
          rintro ((h | h) | h)
          · exact hne (.inl h)
          · by_cases hq : i = cb
            · exact hne (.inr hq)
            · have := mine i (by omega); omega
          · exact h), ho.get hi]⟩
      have on : NewS A m m' A1 := fun i hi => by
        have h2 := c2 i ((hX.A i).2 (.inl hi))
        refine ⟨h2.1, ?_⟩
        rcases h2.2 with (h | h) | h
        · exact .inl h
        · have := hX.n i hi; omega
        · exact .inr (Nat.le_trans ho.size h)
      simp (decide := true) (implicitDefEqProofs := false) (maxDischargeDepth := 20) only [go_sem, HRow.v, ↓reduceIte, true_implies, false_implies]
      refine ⟨A1, oc, on, .inl ⟨?_, hX.q⟩⟩
      have e : xs.take (n + 1) = xs.take n := by rw [List.take_of_length_le (by omega), List.take_of_length_le (by omega)]
      show CurAt Z0 cb (stJ cmp l (xs.take (n + 1))).left m'
      rw [e]
      exact hX.b.c
    · rintro k x m' A' hk z' o' ow hx ⟨rfl, A1, hX⟩ c1 c2
      have oc : ChgS (fun i => A i ∨ i = cb) m m' := ⟨Nat.le_trans ho.size c1.size, fun i hi hne => by
        rw [c1.get i (Nat.lt_of_lt_of_le hi ho.size) (by
          rintro ((h | h) | h)
          · exact hne (.inl h)
          · by_cases hq : i = cb
            · exact hne (.inr hq)
            · have := mine i (by omega); omega
          · exact h), ho.get hi]⟩
      have on : NewS A m m' A1 := fun i hi => by
        have h2 := c2 i ((hX.A i).2 (.inl hi))
        refine ⟨h2.1, ?_⟩
        rcases h2.2 with (h | h) | h
        · exact .inl h
        · have := hX.n i hi; omega
        · exact .inr (Nat.le_trans ho.size h)
      simp (decide := true) (implicitDefEqProofs := false) (maxDischargeDepth := 20) only [go_sem, HRow.v, ↓reduceIte, true_implies, false_implies]
      exact ⟨A1, oc, on, .inr ⟨k, hk, hX.b.c, hX.q⟩⟩
end Go.Proofs.Ytpabllcacdopdaa.W
