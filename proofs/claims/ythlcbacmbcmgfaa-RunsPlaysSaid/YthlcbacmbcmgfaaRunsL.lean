/-
  RunsPlays.
-/
import Derived.Test.YthlcbacmbcmgfaaRunsK
namespace Go.Proofs.Ythlcbacmbcmgfaa.W
open Go.Abs
set_option linter.unusedSimpArgs false
set_option linter.unusedVariables false

/-- What is in, when i numbers were taken and q went out. -/
def StP (xs : List Int) (b i q : Nat) (l : List (Int × Int)) : Prop := (i < min b xs.length ∧ q = 0 ∧ l.Perm (fillR (xs.take i))) ∨ (min b xs.length ≤ i ∧ i = min xs.length (b + q) ∧ l.Perm (heapR xs b q))
theorem StP.start (xs : List Int) (b : Nat) (hb : 0 < b) : StP xs b 0 0 [] := by
  by_cases h : 0 < min b xs.length
  · exact .inl ⟨h, rfl, .refl _⟩
  · refine .inr ⟨by omega, by omega, ?_⟩
    have : xs = [] := List.eq_nil_of_length_eq_zero (by omega)
    subst this
    show [].Perm (fillR (List.take b []))
    rw [List.take_nil]
    exact .refl _
theorem StP.take {xs : List Int} {b i q : Nat} {l : List (Int × Int)} (h : StP xs b i q l) (hi : i < xs.length) (hb : i < b) : q = 0 ∧ StP xs b (i + 1) 0 (l ++ [(0, xs.getD i 0)]) := by
  rcases h with ⟨h1, h2, h3⟩ | ⟨h1, h2, h3⟩
  · have e : (l ++ [(0, xs.getD i 0)]).Perm (fillR (xs.take (i + 1))) := by
      rw [List.take_succ_eq_append_getElem hi, fillR_snoc]
      refine List.Perm.trans ?_ (pushL_perm _ _).symm
      rw [List.getD_eq_getElem?_getD, List.getElem?_eq_getElem hi]
      exact (List.perm_append_singleton _ _).trans (h3.cons _)
    refine ⟨h2, ?_⟩
    by_cases h4 : i + 1 < min b xs.length
    · exact .inl ⟨h4, rfl, e⟩
    · refine .inr ⟨by omega, by omega, ?_⟩
      have : heapR xs b 0 = fillR (xs.take (i + 1)) := by
        show fillR (xs.take b) = _
        by_cases hbn : b ≤ xs.length
        · rw [show i + 1 = b by omega]
        · rw [List.take_of_length_le (by omega), List.take_of_length_le (by omega)]
      rw [this]
      exact e
  · omega
theorem StP.len {xs : List Int} {b i q : Nat} {l : List (Int × Int)} (h : StP xs b i q l) (hb : 0 < b) (hq : q ≤ xs.length) : l.length ≤ xs.length := by
  rcases h with ⟨h1, h2, h3⟩ | ⟨h1, h2, h3⟩
  · rw [h3.length_eq, fillR_len, List.length_take]; omega
  · rw [h3.length_eq, heapR_len xs b hb q hq]; omega
theorem StP.out {xs : List Int} {b i q : Nat} {l : List (Int × Int)} (h : StP xs b i q l) (hi : ¬ (i < xs.length ∧ i < b)) (hb : 0 < b) (hq : q < xs.length) : i = min xs.length (b + q) ∧ l.Perm (heapR xs b q) ∧ l.length = min b (xs.length - q) := by
  rcases h with ⟨h1, h2, h3⟩ | ⟨h1, h2, h3⟩
  · omega
  · exact ⟨h2, h3, h3.length_eq.trans (heapR_len xs b hb q (by omega))⟩
theorem StP.next {xs : List Int} {b i q : Nat} {l : List (Int × Int)} (hi : i = min xs.length (b + q)) (hb : 0 < b) (hq : q < xs.length) (hp : l.Perm (popL ltR (heapR xs b q))) :
    (i < xs.length → StP xs b (i + 1) (q + 1) (l ++ [nextR (yieldR xs b q) (xs.getD i 0)])) ∧ (¬ i < xs.length → StP xs b i (q + 1) l) := by
  refine ⟨fun h => .inr ⟨by omega, by omega, ?_⟩, fun h => .inr ⟨by omega, by omega, ?_⟩⟩
  · rw [heapR_succ, if_pos (by omega), show b + q = i by omega]
    refine List.Perm.trans ?_ (pushL_perm _ _).symm
    exact (List.perm_append_singleton _ _).trans (hp.cons _)
  · rw [heapR_succ, if_neg (by omega)]
    exact hp

/-- The memory of a play: what is in, and what went out. -/
structure PlayS (mB m : Mem) (aI aW : Option Addr) (xs : List Int) (b q : Nat) (l : List (Int × Int)) : Prop where
  o : Old mB m
  vi : Vec mB.size m 2 aI l.length (pC l)
  vw : Vec mB.size m 2 aW q (pC (takeR (yieldR xs b) q))
  dis : ∀ x y, aI = some x → aW = some y → x.block ≠ y.block
theorem PlayS.old {mB m m' : Mem} {aI aW : Option Addr} {xs : List Int} {b q : Nat} {l : List (Int × Int)} (P : PlayS mB m aI aW xs b q l) (o : Old m m') : PlayS mB m' aI aW xs b q l := ⟨P.o.trans o, P.vi.old o, P.vw.old o, P.dis⟩

set_option maxRecDepth 100000 in
set_option maxHeartbeats 8000000 in
theorem RunsPlays_loop {m0 mB m : Mem} {a0 : Option Addr} {n c0 b : Nat} {xs : List Int} (A : SlA m0 1 a0 n c0 (xs.map (.int .i64))) (o0 : Old m0 mB) (lx : xs.length = n) (hn : n ≤ 60) (hb : 0 < b) (hx : ∀ x ∈ xs, -9223372036854775808 ≤ x ∧ x < 9223372036854775808)
    {t : Fr} {aI : Option Addr} (P0 : PlayS mB m aI none xs b 0 []) (t5 : t 5 = .slice a0 n c0) (t6 : t 6 = .int .i64 b) (t8 : t 8 = .slice none 0 0) (t9 : t 9 = .slice aI 0 0) (t10 : t 10 = .int .i64 0) {K : Post3}
    (hK : ∀ t' m' aI aW l, Agree (writes c_sheaflaw11_RunsPlays_37) t t' → t' 8 = .slice aW n n → PlayS mB m' aI aW xs b n l → K .normal t' m') :
    wpM E F_sheaflaw11_RunsPlays 163 none c_sheaflaw11_RunsPlays_37 K t m := by
  refine wpM_cut (fun t' m' => ∃ aI aW l, t' 8 = .slice aW n n ∧ PlayS mB m' aI aW xs b n l) ?_ fun t' m' ha ⟨aI, aW, l, h1, h2⟩ => hK t' m' aI aW l ha h1 h2
  simp only [c_sheaflaw11_RunsPlays_37_at, wpM_block, c_sheaflaw11_RunsPlays_36_at]
  refine wpM_loopA (fun j t' m' => ∃ i q aI aW l, j = (n - i) + (n - q) ∧ i ≤ n ∧ q ≤ n ∧ t' 10 = .int .i64 (i : Nat) ∧ t' 8 = .slice aW q q ∧ t' 9 = .slice aI l.length l.length ∧ PlayS mB m' aI aW xs b q l ∧ StP xs b i q l) (n + n)
    ⟨0, 0, aI, none, [], by omega, by omega, by omega, t10, t8, t9, P0, StP.start xs b hb⟩ ?_
  rintro j t' m1 ha ⟨i, q, aI, aW, l, rfl, hi, hq, e10, e8, e9, P, St⟩
  have a5 := (ha 5 (by decide +kernel)).trans t5
  have a6 := (ha 6 (by decide +kernel)).trans t6
  have S := (A.old o0).old P.o
  by_cases hqn : q < n
  · have d1 : decide ((q : Int) < (n : Int)) = true := by simp; omega
    have w1 : IntKind.wrap .i64 ((i : Int) + 1) = ((i + 1 : Nat) : Int) := by rw [wrap_i64_id _ (by omega) (by omega)]; omega
    by_cases hib : i < n ∧ i < b
    · obtain ⟨h1, h2⟩ := hib
      have d2 : decide ((i : Int) < (n : Int)) = true := by simp; omega
      have d3 : decide ((i : Int) < (b : Int)) = true := by simp; omega
      obtain ⟨ab, ao, asp, rfl⟩ := S.addr (by omega)
      have r := S.at_map h1
      have z0 : (0 : Int) ≤ (i : Int) := by omega
      have z1 : (i : Int) < (n : Int) := by omega
      simp (decide := true) (implicitDefEqProofs := false) (maxDischargeDepth := 20) only [go_sem, ↓reduceIte, a5, a6, e8, e9, e10, d1, d2, d3, w1, r, z0, z1, Int.toNat_natCast, Nat.mul_one, true_implies, false_implies]
      obtain ⟨hq0, St'⟩ := St.take (by omega) h2
      subst hq0
      refine P.vi.append1' (ys := [vI 0, vI xs[i]]) P.o.size rfl (by decide) (by decide +kernel) (by decide +kernel) rfl (by have := St.len hb (by omega); omega) fun m2 b2 s2 v2 k2 hb2 => ?_
      rw [← pC_snoc l (0, xs[i])] at v2
      simp (decide := true) (implicitDefEqProofs := false) (maxDischargeDepth := 20) only [go_sem, ↓reduceIte, a5, a6, e8, e9, e10, w1, true_implies, false_implies]
      have eg : xs.getD i 0 = xs[i] := by rw [List.getD_eq_getElem?_getD, List.getElem?_eq_getElem (by omega)]; rfl
      rw [eg] at St'
      have el : (l ++ [(0, xs[i])]).length = l.length + 1 := by simp
      refine ⟨(n - (i + 1)) + (n - 0), by omega, i + 1, 0, _, aW, l ++ [(0, xs[i])], rfl, by omega, by omega, rfl, rfl, by rw [el], ⟨P.vi.keepOld k2 P.o, by rw [el]; exact v2, P.vw.keep fun x hx => k2.2 x.block (P.vw.lt hx) fun y hy e => P.dis y x hy hx e.symm, fun x y hx hy => ?_⟩, St'⟩
      cases hx
      have := P.vw.lt hy
      show ¬ b2 = y.block
      omega
    · obtain ⟨hiq, hperm, hlen⟩ := St.out (by omega) hb (by omega)
      have hl0 : 0 < l.length := by omega
      have d4 : decide ((l.length : Int) < 1) = false := by simp; omega
      have d5 : (if decide ((i : Int) < (n : Int)) = true then decide ((i : Int) < (b : Int)) else false) = false := by
        split
        · rename_i h; simp at h; simp; omega
        · rfl
      obtain ⟨bI, oI, sI, rfl⟩ := P.vi.sl.addr hl0
      obtain ⟨_, hoff, _⟩ := P.vi.blk _ rfl
      have hoff : oI = 0 := hoff
      subst hoff
      have go : ∀ (t2 : Fr) (K2 : Post3), t2 5 = .slice a0 n c0 → t2 8 = .slice aW q q → t2 9 = .slice (some ⟨bI, 0, sI⟩) l.length l.length → t2 10 = .int .i64 i → t2 11 = .int .i64 0 → t2 53 = .slice (some ⟨bI, 0, sI⟩) l.length l.length → t2 54 = .int .i64 l.length → t2 55 = .int .i64 0 →
          (∀ t3 m3 i' aI' aW' l', t3 10 = .int .i64 (i' : Nat) → t3 8 = .slice aW' (q + 1) (q + 1) → t3 9 = .slice aI' l'.length l'.length → i' ≤ n → i ≤ i' → PlayS mB m3 aI' aW' xs b (q + 1) l' → StP xs b i' (q + 1) l' → K2 .normal t3 m3) →
          wpM E F_sheaflaw11_RunsPlays 163 none c_sheaflaw11_RunsPlays_18 (seqK (wpM E F_sheaflaw11_RunsPlays 163 none c_sheaflaw11_RunsPlays_29 K2) K2) t2 m1 := by
        intro t2 K2 b5 b8 b9 b10 b11 b53 b54 b55 hK2
        refine Plays_leastR P.vi rfl hl0 (by omega) b9 b11 b53 b54 b55 fun t3 m3 at' ag e11 hat hmin o3 => ?_
        have f5 := (ag 5 (by decide +kernel)).trans b5
        have f8 := (ag 8 (by decide +kernel)).trans b8
        have f9 := (ag 9 (by decide +kernel)).trans b9
        have f10 := (ag 10 (by decide +kernel)).trans b10
        clear ag
        rw [seqK_normal]
        have P3 := P.old o3
        have S3 := S.old o3
        have eo : gt l at' = yieldR xs b q := least_same hperm (heapR_heap xs b q) hat hmin
        obtain ⟨r1, r2, r3⟩ := vecRowR P3.vi hat
        rw [eo] at r1 r2 r3
        obtain ⟨o, ho⟩ : ∃ o, o = yieldR xs b q := ⟨_, rfl⟩
        rw [← ho] at r1 r2 r3
        have z0 : (0 : Int) ≤ (at' : Int) := by omega
        have z1 : (at' : Int) < (l.length : Int) := by omega
        have lbI : bI < m3.size := P3.vi.lt rfl
        have nbI : ¬ bI = m3.size := by omega
        simp (decide := true) (implicitDefEqProofs := false) (maxDischargeDepth := 20) only [go_sem, ↓reduceIte, f5, f8, f9, f10, e11, r1, r2, r3, z0, z1, nbI, Int.toNat_natCast, true_implies, false_implies]
        refine two_boxes (fun mm => StepQ E (val2? (appendV E (mm.push _) _ _ _ _)) _) m3 _ _ fun m4 g4 o4 s4 => ?_
        have P4 := P3.old o4
        have lW4 : ∀ x, aW = some x → x.block < m3.size := fun x hx => P3.vw.lt hx
        refine P4.vw.appendQ (ys := [vI o.1, vI o.2]) s4.symm P4.o.size rfl (by decide) (by decide +kernel) (by decide +kernel) rfl (by omega) fun m5 b5' s5 v5 k5 hb5 => ?_
        have ew : pC (takeR (yieldR xs b) q) ++ [vI o.1, vI o.2] = pC (takeR (yieldR xs b) (q + 1)) := by rw [takeR_succ, pC_snoc, ho]
        rw [ew] at v5
        have z5 := k5.1
        have P5 : PlayS mB m5 (some ⟨bI, 0, sI⟩) (some ⟨b5', 0, s5⟩) xs b (q + 1) l := ⟨P4.vw.keepOld k5 P4.o, P4.vi.keep fun x hx => k5.2 x.block (P4.vi.lt hx) fun y hy e => P4.dis x y hx hy e, v5, fun x y hx hy => by
          cases hx; cases hy
          show ¬ bI = b5'
          omega⟩
        have g5 : m5.get m3.size = some (.cells false true [vI o.1, vI o.2]) := (k5.2 m3.size (by omega) fun x hx => by have := lW4 x hx; omega).trans g4
        have l5 := getM_lt g5
        have S5 : SlA m5 1 a0 n c0 (xs.map (.int .i64)) := (A.old o0).old P5.o
        obtain ⟨st, sx⟩ := P5.vi.sl.sliceTo (E := E) (k := .i64) (show at' ≤ l.length by omega)
        obtain ⟨ax, sf, sy⟩ : ∃ ax, (∀ t, isSl E t 2 = true → sliceV E t (.slice (some ⟨bI, 0, sI⟩) l.length l.length) (some (.int .i64 ((at' + 1 : Nat) : Int))) none = some (.slice ax (l.length - (at' + 1)) (l.length - (at' + 1)))) ∧ SlA m5 2 ax (l.length - (at' + 1)) (l.length - (at' + 1)) ((pC l).drop ((at' + 1) * 2)) := ⟨_, P5.vi.sl.sliceFrom (E := E) (k := .i64) (show at' + 1 ≤ l.length by omega)⟩
        have st' := st 60 (by decide +kernel)
        have sf' := sf 60 (by decide +kernel)
        have w2 : IntKind.wrap .i64 ((at' : Int) + 1) = ((at' + 1 : Nat) : Int) := by rw [wrap_i64_id _ (by omega) (by omega)]; omega
        simp (decide := true) (implicitDefEqProofs := false) (maxDischargeDepth := 20) only [go_sem, ↓reduceIte, f5, f8, f9, f10, e11, st', sf', w2, true_implies, false_implies]
        rw [pC_take] at sx
        rw [pC_drop l _ (by omega)] at sy
        have o56 : Old m5 (m5.push (.cells false true (zeroRow [.int .i64 0, .int .i64 0] 0))) := .push (.refl _) _
        have v6 : Vec mB.size (m5.push (.cells false true (zeroRow [.int .i64 0, .int .i64 0] 0))) 2 (some ⟨m5.size, 0, none⟩) 0 [] := .built P5.o.size rfl
        have s6 : (m5.push (.cells false true (zeroRow [.int .i64 0, .int .i64 0] 0))).size = m5.size + 1 := by simp
        generalize m5.push (.cells false true (zeroRow [.int .i64 0, .int .i64 0] 0)) = m6 at *
        have P6 := P5.old o56
        refine v6.append (E := E) (st := 60) (xt := 60) P6.o.size ((sx.old o56).appended' (by decide +kernel) (by decide)) (by rw [pC_len, List.length_take]; omega) (by decide +kernel) (pC_cell _) (by omega) fun m7 a7 v7 k7 e7 => ?_
        rw [Nat.zero_add] at v7 ⊢
        rw [List.nil_append] at v7
        have z7 := k7.1
        have hk7 : ∀ i, i < m5.size → m7.get i = m6.get i := fun i hi => k7.2 i (by omega) fun x hx => by cases hx; show i ≠ m5.size; omega
        have lb7 : ∀ x, a7 = some x → m5.size ≤ x.block := fun x hx => by
          rcases e7 with e | ⟨s', e⟩
          · rw [e] at hx; cases hx; exact Nat.le_refl _
          · rw [e] at hx; cases hx; show m5.size ≤ m6.size; omega
        have o57 : Old m5 m7 := .of_get (by omega) fun i hi => (hk7 i hi).trans (o56.get hi)
        simp (decide := true) (implicitDefEqProofs := false) (maxDischargeDepth := 20) only [go_sem, ↓reduceIte, f5, f8, f9, f10, e11, sf', w2, true_implies, false_implies]
        refine v7.append (E := E) (st := 60) (xt := 60) (P5.old o57).o.size ((sy.old o57).appended' (by decide +kernel) (by decide)) (by rw [pC_len, List.length_drop]) (by decide +kernel) (pC_cell _) (by omega) fun m8 a8 v8 k8 e8' => ?_
        have z8 := k8.1
        obtain ⟨l', hl'⟩ : ∃ l', l' = l.take at' ++ l.drop (at' + 1) := ⟨_, rfl⟩
        have len' : l'.length = at' + (l.length - (at' + 1)) := by rw [hl', List.length_append, List.length_take, List.length_drop]; omega
        rw [← pC_append, ← hl', ← len'] at v8
        rw [← len']
        have hk8 : ∀ i, i < m5.size → m8.get i = m7.get i := fun i hi => k8.2 i (by omega) fun x hx => by have := lb7 x hx; omega
        have lb8 : ∀ x, a8 = some x → m5.size ≤ x.block := fun x hx => by
          rcases e8' with e | ⟨s', e⟩
          · exact lb7 x (e ▸ hx)
          · rw [e] at hx; cases hx; show m5.size ≤ m7.size; omega
        have o58 : Old m5 m8 := .of_get (by omega) fun i hi => (hk8 i hi).trans (o57.get hi)
        have P8 : PlayS mB m8 a8 (some ⟨b5', 0, s5⟩) xs b (q + 1) l' := ⟨P5.o.trans o58, v8, P5.vw.old o58, fun x y hx hy => by
          have h1 := lb8 x hx
          have h2 := P5.vw.lt hy
          omega⟩
        have hp' : l'.Perm (popL ltR (heapR xs b q)) := by rw [hl']; exact erase_perm hperm hat eo
        obtain ⟨nx1, nx2⟩ := StP.next (b := b) hiq hb (by omega) hp'
        have g8 : m8.get m3.size = some (.cells false true [vI o.1, vI o.2]) := (o58.get l5).trans g5
        have r80 : m8.at m3.size 0 = some (vI o.1) := by unfold Mem.at; rw [g8]; rfl
        have r81 : m8.at m3.size 1 = some (vI o.2) := by unfold Mem.at; rw [g8]; rfl
        have S8 : SlA m8 1 a0 n c0 (xs.map (.int .i64)) := (A.old o0).old P8.o
        have w3 : IntKind.wrap .i64 ((i : Int) + 1) = ((i + 1 : Nat) : Int) := by rw [wrap_i64_id _ (by omega) (by omega)]; omega
        by_cases hin : i < n
        · have d2 : decide ((i : Int) < (n : Int)) = true := by simp; omega
          obtain ⟨ab, ao, asp, rfl⟩ := S8.addr (by omega)
          have rI := S8.at_map hin
          have y0 : (0 : Int) ≤ (i : Int) := by omega
          have y1 : (i : Int) < (n : Int) := by omega
          have eg : xs.getD i 0 = xs[i] := by rw [List.getD_eq_getElem?_getD, List.getElem?_eq_getElem (by omega)]; rfl
          have labs : ab < m8.size := at_lt rI
          have nab : ¬ ab = m8.size := by omega
          have n3 : ¬ m3.size = m8.size := by omega
          have n3' : ¬ m8.size = m3.size := by omega
          have hrun := yieldR_run xs b hb q (by omega)
          rw [← ho] at hrun
          have w4 : IntKind.wrap .i64 (o.1 + 1) = o.1 + 1 := wrap_i64_id _ (by omega) (by omega)
          have nx1 := nx1 (by omega)
          rw [← ho, eg] at nx1
          by_cases hlt : xs[i] < o.2
          · have d3 : decide (xs[i] < o.2) = true := by simpa using hlt
            simp (decide := true) (implicitDefEqProofs := false) (maxDischargeDepth := 20) only [go_sem, ↓reduceIte, f5, f8, f9, f10, e11, d2, d3, rI, y0, y1, nab, n3, n3', r80, r81, w3, w4, Int.toNat_natCast, Nat.mul_one, true_implies, false_implies]
            have oX : Old m8 _ := (((Old.refl m8).push (.cells false true [.int .i64 0, .int .i64 0])).put m8.size (some (.cells false true [vI o.1, .int .i64 xs[i]])) (Nat.le_refl _)).put m8.size (some (.cells false true [.int .i64 (o.1 + 1), .int .i64 xs[i]])) (Nat.le_refl _)
            have P9 := P8.old oX
            refine P9.vi.appendQ (ys := [vI (o.1 + 1), vI xs[i]]) (by simp) P9.o.size rfl (by decide) (by decide +kernel) (by decide +kernel) rfl (by omega) fun m10 b10 s10 v10 k10 hb10 => ?_
            rw [← pC_snoc l' ((o.1 + 1), xs[i])] at v10
            have en : nextR o xs[i] = ((o.1 + 1), xs[i]) := by unfold nextR; rw [if_pos hlt]
            rw [en] at nx1
            have z10 := k10.1
            have P10 : PlayS mB m10 (some ⟨b10, 0, s10⟩) (some ⟨b5', 0, s5⟩) xs b (q + 1) (l' ++ [((o.1 + 1), xs[i])]) := ⟨P9.vi.keepOld k10 P9.o, by rw [List.length_append]; exact v10, P9.vw.keep fun x hx => k10.2 x.block (P9.vw.lt hx) fun y hy e => P9.dis y x hy hx e.symm, fun x y hx hy => by
              cases hx
              have := P9.vw.lt hy
              show ¬ b10 = y.block
              omega⟩
            simp (decide := true) (implicitDefEqProofs := false) (maxDischargeDepth := 20) only [go_sem, ↓reduceIte, f5, f8, f9, f10, e11, w3, true_implies, false_implies]
            refine hK2 _ m10 (i + 1) (some ⟨b10, 0, s10⟩) (some ⟨b5', 0, s5⟩) (l' ++ [((o.1 + 1), xs[i])]) ?_ ?_ ?_ (by omega) (by omega) P10 nx1
            · simp (decide := true) only [go_sem, ↓reduceIte]
            · simp (decide := true) only [go_sem, ↓reduceIte]
            · rw [List.length_append]; simp (decide := true) only [go_sem, ↓reduceIte]
          · have d3 : decide (xs[i] < o.2) = false := by simpa using hlt
            simp (decide := true) (implicitDefEqProofs := false) (maxDischargeDepth := 20) only [go_sem, ↓reduceIte, f5, f8, f9, f10, e11, d2, d3, rI, y0, y1, nab, n3, n3', r80, r81, w3, Int.toNat_natCast, Nat.mul_one, true_implies, false_implies]
            have oX : Old m8 _ := ((Old.refl m8).push (.cells false true [.int .i64 0, .int .i64 0])).put m8.size (some (.cells false true [vI o.1, .int .i64 xs[i]])) (Nat.le_refl _)
            have P9 := P8.old oX
            refine P9.vi.appendQ (ys := [vI o.1, vI xs[i]]) (by simp) P9.o.size rfl (by decide) (by decide +kernel) (by decide +kernel) rfl (by omega) fun m10 b10 s10 v10 k10 hb10 => ?_
            rw [← pC_snoc l' (o.1, xs[i])] at v10
            have en : nextR o xs[i] = (o.1, xs[i]) := by unfold nextR; rw [if_neg hlt]
            rw [en] at nx1
            have z10 := k10.1
            have P10 : PlayS mB m10 (some ⟨b10, 0, s10⟩) (some ⟨b5', 0, s5⟩) xs b (q + 1) (l' ++ [(o.1, xs[i])]) := ⟨P9.vi.keepOld k10 P9.o, by rw [List.length_append]; exact v10, P9.vw.keep fun x hx => k10.2 x.block (P9.vw.lt hx) fun y hy e => P9.dis y x hy hx e.symm, fun x y hx hy => by
              cases hx
              have := P9.vw.lt hy
              show ¬ b10 = y.block
              omega⟩
            simp (decide := true) (implicitDefEqProofs := false) (maxDischargeDepth := 20) only [go_sem, ↓reduceIte, f5, f8, f9, f10, e11, w3, true_implies, false_implies]
            refine hK2 _ m10 (i + 1) (some ⟨b10, 0, s10⟩) (some ⟨b5', 0, s5⟩) (l' ++ [(o.1, xs[i])]) ?_ ?_ ?_ (by omega) (by omega) P10 nx1
            · simp (decide := true) only [go_sem, ↓reduceIte]
            · simp (decide := true) only [go_sem, ↓reduceIte]
            · rw [List.length_append]; simp (decide := true) only [go_sem, ↓reduceIte]
        · have d2 : decide ((i : Int) < (n : Int)) = false := by simp; omega
          simp (decide := true) (implicitDefEqProofs := false) (maxDischargeDepth := 20) only [go_sem, ↓reduceIte, f5, f8, f9, f10, e11, d2, true_implies, false_implies]
          refine hK2 _ m8 i a8 (some ⟨b5', 0, s5⟩) l' ?_ ?_ ?_ hi (Nat.le_refl _) P8 (nx2 (by omega)) <;> simp (decide := true) only [go_sem, f10, ↓reduceIte]
      have fin : ∀ (t3 : Fr) (m3 : Mem) (i' : Nat) (aI' aW' : Option Addr) (l' : List (Int × Int)), t3 10 = .int .i64 (i' : Nat) → t3 8 = .slice aW' (q + 1) (q + 1) → t3 9 = .slice aI' l'.length l'.length → i' ≤ n → i ≤ i' → PlayS mB m3 aI' aW' xs b (q + 1) l' → StP xs b i' (q + 1) l' →
          ∃ j, j < (n - i) + (n - q) ∧ ∃ i q aI aW l, j = (n - i) + (n - q) ∧ i ≤ n ∧ q ≤ n ∧ t3 10 = .int .i64 (i : Nat) ∧ t3 8 = .slice aW q q ∧ t3 9 = .slice aI l.length l.length ∧ PlayS mB m3 aI aW xs b q l ∧ StP xs b i q l :=
        fun t3 m3 i' aI' aW' l' h1 h2 h3 h4 h5 h6 h7 => ⟨(n - i') + (n - (q + 1)), by omega, i', q + 1, aI', aW', l', rfl, h4, by omega, h1, h2, h3, h6, h7⟩
      by_cases h1 : i < n
      · have d2 : decide ((i : Int) < (n : Int)) = true := by simp; omega
        have d3 : decide ((i : Int) < (b : Int)) = false := by simp; omega
        simp (decide := true) (implicitDefEqProofs := false) (maxDischargeDepth := 20) only [go_sem, ↓reduceIte, a5, a6, e8, e9, e10, d1, d2, d3, d4, true_implies, false_implies]
        refine go _ _ (by simp (decide := true) only [go_sem, a5, ↓reduceIte]) (by simp (decide := true) only [go_sem, e8, ↓reduceIte]) (by simp (decide := true) only [go_sem, e9, ↓reduceIte]) (by simp (decide := true) only [go_sem, e10, ↓reduceIte]) (by simp (decide := true) only [go_sem, ↓reduceIte]) (by simp (decide := true) only [go_sem, ↓reduceIte]) (by simp (decide := true) only [go_sem, ↓reduceIte]) (by simp (decide := true) only [go_sem, ↓reduceIte]) fun t3 m3 i' aI' aW' l' h1 h2 h3 h4 h5 h6 h7 => ?_
        simp (decide := true) (implicitDefEqProofs := false) (maxDischargeDepth := 20) only [go_sem, ↓reduceIte, true_implies, false_implies]
        exact fin t3 m3 i' aI' aW' l' h1 h2 h3 h4 h5 h6 h7
      · have d2 : decide ((i : Int) < (n : Int)) = false := by simp; omega
        simp (decide := true) (implicitDefEqProofs := false) (maxDischargeDepth := 20) only [go_sem, ↓reduceIte, a5, a6, e8, e9, e10, d1, d2, d4, true_implies, false_implies]
        refine go _ _ (by simp (decide := true) only [go_sem, a5, ↓reduceIte]) (by simp (decide := true) only [go_sem, e8, ↓reduceIte]) (by simp (decide := true) only [go_sem, e9, ↓reduceIte]) (by simp (decide := true) only [go_sem, e10, ↓reduceIte]) (by simp (decide := true) only [go_sem, ↓reduceIte]) (by simp (decide := true) only [go_sem, ↓reduceIte]) (by simp (decide := true) only [go_sem, ↓reduceIte]) (by simp (decide := true) only [go_sem, ↓reduceIte]) fun t3 m3 i' aI' aW' l' h1 h2 h3 h4 h5 h6 h7 => ?_
        simp (decide := true) (implicitDefEqProofs := false) (maxDischargeDepth := 20) only [go_sem, ↓reduceIte, true_implies, false_implies]
        exact fin t3 m3 i' aI' aW' l' h1 h2 h3 h4 h5 h6 h7
  · have d1 : decide ((q : Int) < (n : Int)) = false := by simp; omega
    have : q = n := by omega
    subst this
    simp (decide := true) (implicitDefEqProofs := false) (maxDischargeDepth := 20) only [go_sem, ↓reduceIte, a5, e8, d1, true_implies, false_implies]
    exact ⟨aI, aW, l, rfl, P⟩

set_option maxRecDepth 100000 in
set_option maxHeartbeats 8000000 in
theorem RunsPlays_law (m : Mem) (hro : ∀ i c, m.get i = some c → c.writable = false)
    (a0 : Option Addr) (l0 c0 : Nat) (xs0 : List Int) (hs0 : SlA m 1 a0 l0 c0 (xs0.map (.int .i64))) (hl0 : xs0.length = l0) (hx0 : ∀ x ∈ xs0, -9223372036854775808 ≤ x ∧ x < 9223372036854775808)
    (budget : Int) (hbm : -9223372036854775808 ≤ budget) (hbm' : budget < 9223372036854775808) :
    CallQ E F_sheaflaw11_RunsPlays [.slice a0 l0 c0, .int .i64 budget].toArray m fun v _ => v = .bool true := by
  obtain ⟨n, g0⟩ : ∃ n, n = min l0 60 := ⟨_, rfl⟩
  have m0 : min (l0 : Int) 60 = (n : Int) := by omega
  obtain ⟨s0, A⟩ := hs0.sliceTo (E := E) (k := .i64) (show n ≤ l0 by omega)
  rw [Nat.mul_one, ← List.map_take] at A
  have hx : ∀ x ∈ xs0.take n, -9223372036854775808 ≤ x ∧ x < 9223372036854775808 := fun x h => hx0 x (List.mem_of_mem_take h)
  generalize xs0.take n = xs at *
  have lx : xs.length = n := by have := A.len; simpa using this
  have s0' := s0 25 (by decide +kernel)
  have hn : n ≤ 60 := by omega
  have eb := budN_int budget
  have hbp := budN_pos budget
  refine .enter fn_sheaflaw11_RunsPlays (by simp) ?_
  simp (decide := true) (implicitDefEqProofs := false) (maxDischargeDepth := 20) only [go_sem, ↓reduceIte, m0, s0', ← eb, true_implies, false_implies]
  have oB : Old m (m.push (.cells false true [.int .i64 0, .int .i64 0])) := .push (.refl m) _
  have gB : (m.push (.cells false true [.int .i64 0, .int .i64 0])).get m.size = some (.cells false true [.int .i64 0, .int .i64 0]) := by rw [getM_push, if_pos rfl]
  have zB : (m.push (.cells false true [.int .i64 0, .int .i64 0])).size = m.size + 1 := by simp
  generalize m.push (.cells false true [.int .i64 0, .int .i64 0]) = mB at *
  have oE : Old mB (mB.push (.cells false true (zeroRow [.int .i64 0, .int .i64 0] 0))) := .push (.refl _) _
  have vE : Vec mB.size (mB.push (.cells false true (zeroRow [.int .i64 0, .int .i64 0] 0))) 2 (some ⟨mB.size, 0, none⟩) 0 [] := .built (Nat.le_refl _) rfl
  have P0 : PlayS mB (mB.push (.cells false true (zeroRow [.int .i64 0, .int .i64 0] 0))) (some ⟨mB.size, 0, none⟩) none xs (budN budget) 0 [] := ⟨oE, vE, .nil _ _ _, fun x y _ hy => by cases hy⟩
  refine RunsPlays_loop A oB lx hn hbp hx P0 (by simp (decide := true) only [go_sem, ↓reduceIte]) (by simp (decide := true) only [go_sem, ↓reduceIte]) (by simp (decide := true) only [go_sem, ↓reduceIte]) ?_ (by simp (decide := true) only [go_sem, ↓reduceIte]) fun t' m1 aI aW l ag e8 P => ?_
  · simp (decide := true) only [go_sem, zB, ↓reduceIte]
  have e1 := ag 1 (by decide +kernel)
  have e5 := ag 5 (by decide +kernel)
  have e6 := ag 6 (by decide +kernel)
  have e7 := ag 7 (by decide +kernel)
  simp (decide := true) only [go_sem, ↓reduceIte] at e1 e5 e6 e7
  clear ag
  have lB := getM_lt gB
  have met1 : MeterAt m1 m.size 0 0 := (P.o.get lB).trans gB
  simp (decide := true) (implicitDefEqProofs := false) (maxDischargeDepth := 20) only [go_sem, ↓reduceIte, e1, e5, e6, e7, e8, true_implies, false_implies]
  refine (items_at A (oB.trans P.o) (Nat.le_refl _) met1 (by decide) budget hbm' (by omega)).mono ?_
  rintro w m2 ⟨a2, rfl, v2, met2, c2⟩
  have z2 := c2.size
  have vw2 : Vec mB.size m2 2 aW n (pC (takeR (yieldR xs (budN budget)) n)) := P.vw.keep fun x hx => by
    have h1 := (P.vw.blk x hx).1
    exact c2.get _ (P.vw.lt hx) (by show ¬ x.block = m.size; omega)
  simp (decide := true) (implicitDefEqProofs := false) (maxDischargeDepth := 20) only [go_sem, ↓reduceIte, e1, e5, e6, e7, e8, true_implies, false_implies]
  refine (SameR v2.sl vw2.sl (by omega)).mono ?_
  rintro w m3 ⟨rfl, o3⟩
  have met3 : MeterAt m3 m.size 0 (max 0 ((min (budN budget) n : Nat) : Int)) := (o3.get (getM_lt met2)).trans met2
  have r0 : m3.at m.size 0 = some (vI 0) := get_at0 met3
  have r1 : m3.at m.size 1 = some (vI (max 0 ((min (budN budget) n : Nat) : Int))) := by unfold Mem.at; rw [met3]; rfl
  have em : (max 0 ((min (budN budget) n : Nat) : Int) == min ((budN budget : Nat) : Int) (n : Int)) = true := by simp; omega
  simp (decide := true) (implicitDefEqProofs := false) (maxDischargeDepth := 20) only [go_sem, nilOk, ↓reduceIte, e1, e5, e6, e7, e8, r0, r1, em, true_implies, false_implies]
end Go.Proofs.Ythlcbacmbcmgfaa.W
