/-
  FlowGroups, the law.
-/
import Derived.Test.YtgbpgkfmmhlkoaaFlowZ
namespace Go.Proofs.Ytgbpgkfmmhlkoaa.W
open Go.Abs
set_option linter.unusedSimpArgs false
set_option linter.unusedVariables false

theorem ListG {s : Value} {gs : List (List Int)} {n : Nat} {Own : Nat → Mem → Prop} {m : Mem} (hs : Iter E m.get none' s n Own (grEl gs)) (hgs : gs.length = n) (hn : n ≤ 1000000) (own0 : Own 0 m) :
    CallQ E F_flow_List_Sint [s].toArray m fun w m' => ∃ a es, w = .slice a n n ∧ es.map Gr.g = gs ∧ Vec m.size m' 1 a n (es.map Gr.v) ∧ GsAt m.get m' es ∧ (∀ e ∈ es, ∀ x, a = some x → e.b ≠ x.block) ∧ Old m m' := by
  refine .enter fn_flow_List_Sint (by simp) ?_
  simp (decide := true) (implicitDefEqProofs := false) (maxDischargeDepth := 20) only [go_sem, ↓reduceIte, true_implies, false_implies]
  refine .enter fn_slices_Collect_Sint (by simp) ?_
  simp (decide := true) (implicitDefEqProofs := false) (maxDischargeDepth := 20) only [go_sem, ↓reduceIte, true_implies, false_implies]
  refine (AppendSeqG hs hgs hn (frozen_self m) (fun _ h => h.elim) own0).mono ?_
  rintro w m' ⟨a, es, rfl, h1, h2, h3, h4, h5, _⟩
  simp (decide := true) (implicitDefEqProofs := false) (maxDischargeDepth := 20) only [go_sem, ↓reduceIte, true_implies, false_implies]
  exact ⟨a, es, rfl, h1, h2, h3, h4, old_of_chg h5⟩

def sameG (k : Int) (a b : Int) : Bool := IntKind.wrap .i64 ((andI .i64 a 15).tdiv k) == IntKind.wrap .i64 ((andI .i64 b 15).tdiv k)
theorem GroupsF {Z : Nat → Option Blk} {kb : Nat} {k : Int} (hk : ¬ k = 0) (h : Z kb = some (.cells false true [vI k])) (a b : Int) : PureF E Z (.func (.func F_sheaflaw10_FlowGroups_1) #[] #[ptr kb]) [vI a, vI b] (.bool (sameG k a b)) := fun m z => by
  have r := frozen_at z h
  refine callF_of some28 (l := [vI a, vI b, ptr kb]) (by simp) (.enter fn_sheaflaw10_FlowGroups_1 (by simp) ?_)
  simp (decide := true) (implicitDefEqProofs := false) (maxDischargeDepth := 20) only [go_sem, r, hk, ↓reduceIte, true_implies, false_implies]
  first | done | rfl

theorem one_box (P : Mem → Prop) (m : Mem) (v0 v1 : Value) (h : ∀ m', cap1 m' m.size v1 → Old m m' → P m') : P ((m.push (.cells false true [v0])).put m.size (some (.cells false true [v1]))) :=
  h _ (by unfold cap1; rw [getM_put, if_pos ⟨rfl, by simp⟩]) (.put (.push (.refl m) _) _ _ (by omega))

theorem len_flat : ∀ (gs : List (List Int)), (∀ g ∈ gs, g ≠ []) → gs.length ≤ gs.flatten.length
  | [], _ => by simp
  | g :: l, h => by
    have := len_flat l fun x hx => h x (by simp [hx])
    have := List.length_pos_iff.2 (h g (by simp))
    rw [List.flatten_cons, List.length_append, List.length_cons]
    omega
theorem mem_flat_len : ∀ {gs : List (List Int)} {g : List Int}, g ∈ gs → g.length ≤ gs.flatten.length
  | [], _, h => by simp at h
  | a :: l, g, h => by
    rw [List.flatten_cons, List.length_append]
    rcases List.mem_cons.1 h with rfl | h
    · omega
    · have := mem_flat_len h; omega
theorem GsAt.sl {Z : Nat → Option Blk} {m : Mem} {es : List Gr} (h : GsAt Z m es) {e : Gr} (he : e ∈ es) : SlA m 1 (some ⟨e.b, 0, e.s⟩) e.g.length e.g.length (e.g.map vI) := by
  obtain ⟨tg, g⟩ := h.at_ e he
  exact SlA.new g (by simp) (h.loose e he)

set_option maxRecDepth 100000 in
set_option maxHeartbeats 8000000 in
theorem FlowGroups_law (m : Mem) (hro : ∀ i c, m.get i = some c → c.writable = false)
    (a0 : Option Addr) (l0 c0 : Nat) (xs0 : List Int) (hs0 : SlA m 1 a0 l0 c0 (xs0.map (.int .i64))) (hl0 : xs0.length = l0) (hx0 : ∀ x ∈ xs0, -9223372036854775808 ≤ x ∧ x < 9223372036854775808)
    (d : Int) (hm : -9223372036854775808 ≤ d) (hm' : d < 9223372036854775808) :
    CallQ E F_sheaflaw10_FlowGroups [.slice a0 l0 c0, .int .i64 d].toArray m fun v _ => v = .bool true := by
  obtain ⟨n, g0⟩ : ∃ n, n = min l0 40 := ⟨_, rfl⟩
  have m0 : min (l0 : Int) 40 = (n : Int) := by omega
  obtain ⟨s0, A⟩ := hs0.sliceTo (E := E) (k := .i64) (show n ≤ l0 by omega)
  rw [Nat.mul_one, ← List.map_take] at A
  generalize xs0.take n = xs at *
  have lx : xs.length = n := by have := A.len; simpa using this
  have s0' := s0 23 (by decide +kernel)
  have hn : n ≤ 1000000 := by omega
  refine .enter fn_sheaflaw10_FlowGroups (by simp) ?_
  simp (decide := true) (implicitDefEqProofs := false) (maxDischargeDepth := 20) only [go_sem, ↓reduceIte, m0, s0', true_implies, false_implies]
  refine ((Within_ans d 1 4 hm hm' (by decide) (by decide) (by decide) (by decide)) m).mono ?_
  rintro w m1 ⟨rfl, o1⟩
  obtain ⟨k, hk⟩ : ∃ k : Int, k = 1 + d % (4 - 1 + 1) := ⟨_, rfl⟩
  rw [← hk]
  have hk1 : ¬ k = 0 := by omega
  simp (decide := true) (implicitDefEqProofs := false) (maxDischargeDepth := 20) only [go_sem, ↓reduceIte, true_implies, false_implies]
  refine one_box (fun mm => CallQ E _ _ mm _) m1 _ _ fun m2 gK o2 => ?_
  generalize m1.size = kb at *
  refine (From_at).mono ?_
  rintro w m3 ⟨bs, rfl, cs, o3, hbs⟩
  simp (decide := true) (implicitDefEqProofs := false) (maxDischargeDepth := 20) only [go_sem, ↓reduceIte, true_implies, false_implies]
  refine (Groups_at).mono ?_
  rintro w m4 ⟨b1, b2, rfl, c1, c2, o4⟩
  simp (decide := true) (implicitDefEqProofs := false) (maxDischargeDepth := 20) only [go_sem, ↓reduceIte, true_implies, false_implies]
  have o04 := o1.trans (o2.trans (o3.trans o4))
  have A4 := A.old o04
  have gK4 := gK.old (o3.trans o4)
  obtain ⟨gs, hgs⟩ : ∃ gs, gs = groupsL (sameG k) xs := ⟨_, rfl⟩
  have hflat : gs.flatten = xs := by rw [hgs]; exact groupsL_flat _ xs
  have hcut := groupsL_cut (sameG k) xs
  rw [← hgs] at hcut
  have it : ∀ q bs (cs : cap1 q bs (.slice a0 n c0)) (S : SlA q 1 a0 n c0 (xs.map vI)) b1 b2 (c1 : cap1 q b1 _) (c2 : cap1 q b2 _) (hK : cap1 q kb (vI k)), Iter E q.get none' (.func (.func F_flow_Groups_int_1) #[] #[ptr b1, ptr b2]) gs.length (GrO n (sameG k) xs anyO) (grEl gs) := fun q bs cs S b1 b2 c1 c2 hK => by
    rw [hgs]
    exact GroupsI (same := sameG k) lx hn (ValuesI cs (fun _ z => S.froz z) hn) c1 c2 (fun a b => GroupsF hk1 hK a b)
  have hmem := cut_mem _ hcut
  have hgl : gs.length ≤ n := by rw [← lx, ← hflat]; exact len_flat gs fun g hg => (hmem g hg).1
  refine (ListG (it m4 bs (cs.old o4) A4 b1 b2 c1 c2 gK4) rfl (by omega) (.inl ⟨rfl, trivial⟩)).mono ?_
  rintro w m5 ⟨ga, es, rfl, hes, V5, G5, hne5, o5⟩
  simp (decide := true) (implicitDefEqProofs := false) (maxDischargeDepth := 20) only [go_sem, ↓reduceIte, true_implies, false_implies]
  have les : es.length = gs.length := by rw [← hes, List.length_map]
  have gK5 := gK4.old o5
  have ht : ∀ i, i < gs.length → ∃ e, es[i]? = some e ∧ e ∈ es ∧ gs[i]? = some e.g := fun i hi => by
    refine ⟨es[i]'(by omega), List.getElem?_eq_getElem (by omega), List.getElem_mem _, ?_⟩
    have q : (es.map Gr.g)[i]? = some (es[i]'(by omega)).g := by
      rw [List.getElem?_map, List.getElem?_eq_getElem (by omega)]
      rfl
    rw [hes] at q
    exact q
  simp only [c_sheaflaw10_FlowGroups_24_at, wpM_block, c_sheaflaw10_FlowGroups_23_at]
  refine wpM_loopA (fun j t' m' => ∃ (i : Nat) (p : Option Addr), i ≤ gs.length ∧ j = gs.length - i ∧ t' 30 = .int .i64 (i : Nat) ∧ t' 9 = .slice p ((gs.take i).flatten).length ((gs.take i).flatten).length ∧ Vec m5.size m' 1 p ((gs.take i).flatten).length (((gs.take i).flatten).map vI) ∧ Old m5 m') gs.length
    ⟨0, none, by omega, rfl, by simp (decide := true) only [go_sem, ↓reduceIte]; try rfl, by simp (decide := true) only [go_sem, ↓reduceIte]; try rfl, .nil _ _ _, .refl _⟩ ?_
  rintro j t' m' hag ⟨i, p, hi, rfl, e30, e9, V, o⟩
  have e5 := hag 5 (by decide +kernel)
  have e7 := hag 7 (by decide +kernel)
  have e8 := hag 8 (by decide +kernel)
  have e28 := hag 28 (by decide +kernel)
  have e29 := hag 29 (by decide +kernel)
  simp (decide := true) only [go_sem, ↓reduceIte] at e5 e7 e8 e28 e29
  by_cases hlt : i < gs.length
  · have d1 : decide ((i : Int) < (gs.length : Int)) = true := by simp; omega
    have w1 : IntKind.wrap .i64 ((i : Int) + 1) = ((i + 1 : Nat) : Int) := by rw [wrap_i64_id _ (by omega) (by omega)]; omega
    have z0 : (0 : Int) ≤ (i : Int) := by omega
    have z1 : (i : Int) < (gs.length : Int) := by omega
    obtain ⟨e, he, hem, heg⟩ := ht i hlt
    obtain ⟨gb, go, gsp, rfl⟩ := V5.sl.addr (by omega)
    have r : m'.at gb (go + i) = some (.slice (some ⟨e.b, 0, e.s⟩) e.g.length e.g.length) := by
      have q := (V5.sl.old o).at_map hlt
      rw [q]
      have : es[i]'(by omega) = e := by
        rw [List.getElem?_eq_getElem (by omega)] at he
        exact Option.some.inj he
      rw [this]
      rfl
    have hge := hmem e.g (List.mem_of_getElem? heg)
    obtain ⟨y, yr, hy⟩ : ∃ y r, e.g = y :: r := by
      cases h : e.g with
      | nil => exact absurd h hge.1
      | cons y r => exact ⟨y, r, rfl⟩
    have hlen : 0 < e.g.length := by rw [hy]; simp
    have hget : ∀ m2, Old m' m2 → m2.at e.b (Int.toNat 0) = some (vI y) := fun m2 o2 => by
      have q := ((G5.old o).old o2).sl hem |>.at_map hlen
      rw [show Int.toNat 0 = 0 + 0 from rfl, q]
      simp [hy]
    have zl : (0 : Int) < (e.g.length : Int) := by rw [hy]; simp
    have lge : e.g.length ≤ n := by rw [← lx, ← hflat]; exact mem_flat_len (List.mem_of_getElem? heg)
    have inner : ∀ (t : Fr) (K : Post3) (mm : Mem), Old m' mm → t 7 = .func (.func 28) #[] #[ptr kb] → t 9 = .slice p ((gs.take i).flatten).length ((gs.take i).flatten).length → t 11 = .slice (some ⟨e.b, 0, e.s⟩) e.g.length e.g.length → t 30 = .int .i64 (i : Nat) →
        t 65 = .slice (some ⟨e.b, 0, e.s⟩) e.g.length e.g.length → t 66 = .int .i64 (e.g.length : Nat) → t 67 = .int .i64 0 →
        (∀ t2 m2, Old m' m2 → t2 9 = .slice p ((gs.take i).flatten).length ((gs.take i).flatten).length → t2 11 = .slice (some ⟨e.b, 0, e.s⟩) e.g.length e.g.length → t2 30 = .int .i64 (i : Nat) → K .normal t2 m2) →
        wpM E 8 133 none c_sheaflaw10_FlowGroups_14 K t mm := by
      intro t K mm omm h7 h9 h11 h30 h65 h66 h67 hK
      simp only [c_sheaflaw10_FlowGroups_14_at, wpM_block, c_sheaflaw10_FlowGroups_13_at]
      refine wpM_loopA (fun j t' m2 => ∃ q : Nat, q ≤ e.g.length ∧ j = e.g.length - q ∧ t' 67 = .int .i64 (q : Nat) ∧ Old m' m2) e.g.length ⟨0, by omega, rfl, h67, omm⟩ ?_
      rintro j t3 m2 hag3 ⟨q, hq, rfl, e67, o2⟩
      have b7 := (hag3 7 (by decide +kernel)).trans h7
      have b9 := (hag3 9 (by decide +kernel)).trans h9
      have b11 := (hag3 11 (by decide +kernel)).trans h11
      have b30 := (hag3 30 (by decide +kernel)).trans h30
      have b65 := (hag3 65 (by decide +kernel)).trans h65
      have b66 := (hag3 66 (by decide +kernel)).trans h66
      by_cases hql : q < e.g.length
      · have d3 : decide ((q : Int) < (e.g.length : Int)) = true := by simp; omega
        have w3 : IntKind.wrap .i64 ((q : Int) + 1) = ((q + 1 : Nat) : Int) := by rw [wrap_i64_id _ (by omega) (by omega)]; omega
        have y0 : (0 : Int) ≤ (q : Int) := by omega
        have y1 : (q : Int) < (e.g.length : Int) := by omega
        have rq := (((G5.old o).old o2).sl hem).at_map hql
        rw [Nat.zero_add] at rq
        have r0 := hget m2 o2
        have hs : sameG k y (e.g[q]'hql) = true := by
          have hm : e.g[q]'hql ∈ y :: yr := hy ▸ List.getElem_mem hql
          rcases List.mem_cons.1 hm with h | h
          · rw [h]; unfold sameG; simp
          · exact hge.2 y yr hy _ h
        generalize e.g[q]'hql = x at *
        simp (decide := true) (implicitDefEqProofs := false) (maxDischargeDepth := 20) only [go_sem, b7, b11, b65, b66, e67, d3, y0, y1, zl, rq, r0, Int.toNat_natCast, ↓reduceIte, true_implies, false_implies]
        obtain ⟨_, cq⟩ := GroupsF (Z := m2.get) hk1 ((gK5.old o).old o2) y x m2 (frozen_self m2)
        refine CallQ.mono cq ?_
        rintro w m3 ⟨rfl, o3⟩
        simp (decide := true) (implicitDefEqProofs := false) (maxDischargeDepth := 20) only [go_sem, hs, b7, b11, b65, b66, e67, w3, ↓reduceIte, true_implies, false_implies]
        exact ⟨e.g.length - (q + 1), by omega, q + 1, by omega, rfl, rfl, o2.trans o3⟩
      · have d3 : decide ((q : Int) < (e.g.length : Int)) = false := by simp; omega
        simp (decide := true) (implicitDefEqProofs := false) (maxDischargeDepth := 20) only [go_sem, b7, b11, b65, b66, e67, d3, ↓reduceIte, true_implies, false_implies]
        exact hK _ _ o2 (by simp (decide := true) only [go_sem, b9, ↓reduceIte]) (by simp (decide := true) only [go_sem, b11, ↓reduceIte]) (by simp (decide := true) only [go_sem, b30, ↓reduceIte])
    have ft : (gs.take (i + 1)).flatten = (gs.take i).flatten ++ e.g := by
      rw [List.take_add_one, heg, List.flatten_append]
      simp
    have lft : ((gs.take i).flatten).length ≤ n := by
      have h := congrArg (fun l => l.flatten.length) (List.take_append_drop i gs)
      simp only [List.flatten_append, List.length_append, hflat, lx] at h
      omega
    have SX := (G5.old o).sl hem
    have dl : decide ((e.g.length : Int) < 1) = false := by rw [hy]; simp; omega
    have x0 : m'.at e.b (Int.toNat 0) = some (vI y) := by
      have q := SX.at_map (show 0 < e.g.length by rw [hy]; simp)
      rw [show Int.toNat 0 = 0 + 0 from rfl, q]
      simp [hy]
    by_cases hi0 : i = 0
    · have d2 : decide ((i : Int) > 0) = false := by simp; omega
      simp (decide := true) (implicitDefEqProofs := false) (maxDischargeDepth := 20) only [go_sem, e7, e8, e9, e28, e29, e30, d1, d2, dl, z0, z1, r, Int.toNat_natCast, ↓reduceIte, true_implies, false_implies]
      refine inner _ _ m' (.refl m') (by simp (decide := true) only [go_sem, e7, ↓reduceIte]) (by simp (decide := true) only [go_sem, e9, ↓reduceIte]) (by simp (decide := true) only [go_sem, ↓reduceIte]) (by simp (decide := true) only [go_sem, e30, ↓reduceIte]) (by simp (decide := true) only [go_sem, ↓reduceIte]) (by simp (decide := true) only [go_sem, ↓reduceIte]) (by simp (decide := true) only [go_sem, ↓reduceIte]) fun t2 m2 o2 k9 k11 k30 => ?_
      simp (decide := true) (implicitDefEqProofs := false) (maxDischargeDepth := 20) only [go_sem, k9, k11, k30, ↓reduceIte, true_implies, false_implies]
      refine (V.old o2).append (by have := o.size; have := o2.size; omega) ((((G5.old o).old o2).sl hem).appended' (by decide +kernel) (by decide)) (by simp) (by decide +kernel) (by simp [List.all_eq_true, oneCell]) (by omega) fun m3 p3 V3 k3 _ => ?_
      simp (decide := true) (implicitDefEqProofs := false) (maxDischargeDepth := 20) only [go_sem, k30, w1, ↓reduceIte, true_implies, false_implies]
      refine ⟨gs.length - (i + 1), by omega, i + 1, p3, by omega, rfl, rfl, ?_, ?_, (V.old o2).keepOld k3 (o.trans o2)⟩
      · rw [ft, List.length_append]
      · rw [ft, List.length_append, List.map_append]; exact V3
    · have d2 : decide ((i : Int) > 0) = true := by simp; omega
      have w2 : IntKind.wrap .i64 ((i : Int) - 1) = ((i - 1 : Nat) : Int) := by rw [wrap_i64_id _ (by omega) (by omega)]; omega
      have z2 : (0 : Int) ≤ ((i - 1 : Nat) : Int) := by omega
      have z3 : ((i - 1 : Nat) : Int) < (gs.length : Int) := by omega
      obtain ⟨e', he', hem', heg'⟩ := ht (i - 1) (by omega)
      have r' : m'.at gb (go + (i - 1)) = some (.slice (some ⟨e'.b, 0, e'.s⟩) e'.g.length e'.g.length) := by
        have q := (V5.sl.old o).at_map (show i - 1 < gs.length by omega)
        rw [q]
        have : es[i - 1]'(by omega) = e' := by
          rw [List.getElem?_eq_getElem (by omega)] at he'
          exact Option.some.inj he'
        rw [this]
        rfl
      have hge' := hmem e'.g (List.mem_of_getElem? heg')
      obtain ⟨y', yr', hy'⟩ : ∃ y r, e'.g = y :: r := by
        cases h : e'.g with
        | nil => exact absurd h hge'.1
        | cons y r => exact ⟨y, r, rfl⟩
      have hdiff : sameG k y' y = false := cut_next _ hcut (i - 1) _ _ y' yr' y yr heg' (by rw [show i - 1 + 1 = i by omega]; exact heg) hy' hy
      have SX' := (G5.old o).sl hem'
      have dl' : decide ((e'.g.length : Int) > 0) = true := by rw [hy']; simp
      have zl' : (0 : Int) < (e'.g.length : Int) := by rw [hy']; simp
      have x0' : m'.at e'.b (Int.toNat 0) = some (vI y') := by
        have q := SX'.at_map (show 0 < e'.g.length by rw [hy']; simp)
        rw [show Int.toNat 0 = 0 + 0 from rfl, q]
        simp [hy']
      simp (decide := true) (implicitDefEqProofs := false) (maxDischargeDepth := 20) only [go_sem, e7, e8, e9, e28, e29, e30, d1, d2, dl, dl', w2, z0, z1, z2, z3, zl, zl', r, r', x0, x0', Int.toNat_natCast, ↓reduceIte, true_implies, false_implies]
      obtain ⟨_, cq⟩ := GroupsF (Z := m'.get) hk1 (gK5.old o) y' y m' (frozen_self m')
      refine CallQ.mono cq ?_
      rintro w m2' ⟨rfl, o2'⟩
      simp (decide := true) (implicitDefEqProofs := false) (maxDischargeDepth := 20) only [go_sem, hdiff, ↓reduceIte, true_implies, false_implies]
      refine inner _ _ m2' o2' (by simp (decide := true) only [go_sem, e7, ↓reduceIte]) (by simp (decide := true) only [go_sem, e9, ↓reduceIte]) (by simp (decide := true) only [go_sem, ↓reduceIte]) (by simp (decide := true) only [go_sem, e30, ↓reduceIte]) (by simp (decide := true) only [go_sem, ↓reduceIte]) (by simp (decide := true) only [go_sem, ↓reduceIte]) (by simp (decide := true) only [go_sem, ↓reduceIte]) fun t2 m2 o2 k9 k11 k30 => ?_
      simp (decide := true) (implicitDefEqProofs := false) (maxDischargeDepth := 20) only [go_sem, k9, k11, k30, ↓reduceIte, true_implies, false_implies]
      refine (V.old o2).append (by have := o.size; have := o2.size; omega) ((((G5.old o).old o2).sl hem).appended' (by decide +kernel) (by decide)) (by simp) (by decide +kernel) (by simp [List.all_eq_true, oneCell]) (by omega) fun m3 p3 V3 k3 _ => ?_
      simp (decide := true) (implicitDefEqProofs := false) (maxDischargeDepth := 20) only [go_sem, k30, w1, ↓reduceIte, true_implies, false_implies]
      refine ⟨gs.length - (i + 1), by omega, i + 1, p3, by omega, rfl, rfl, ?_, ?_, (V.old o2).keepOld k3 (o.trans o2)⟩
      · rw [ft, List.length_append]
      · rw [ft, List.length_append, List.map_append]; exact V3
  · have d1 : decide ((i : Int) < (gs.length : Int)) = false := by simp; omega
    have hin : i = gs.length := by omega
    rw [hin, List.take_length, hflat] at e9 V
    simp (decide := true) (implicitDefEqProofs := false) (maxDischargeDepth := 20) only [go_sem, e5, e7, e8, e9, e28, e29, e30, d1, ↓reduceIte, true_implies, false_implies]
    refine (SameI V.sl (A4.old (o5.trans o)) (by omega) (by omega)).mono ?_
    rintro w mB ⟨rfl, oB⟩
    have dd : decide (xs = xs) = true := by simp
    have fin : ∀ t mE, Frozen m4.get mE → t 5 = .slice a0 n c0 → t 7 = .func (.func 28) #[] #[ptr kb] → t 8 = .slice ga gs.length gs.length → wpM E 8 133 none c_sheaflaw10_FlowGroups_39 (retK (ResK E [ResultVar.tmp 4] fun v x => v = Value.bool true)) t mE := by
      intro t mE z h5 h7 h8
      have AE := A4.froz z
      have gE : cap1 mE kb (vI k) := z _ _ gK4
      simp (decide := true) (implicitDefEqProofs := false) (maxDischargeDepth := 20) only [go_sem, c_sheaflaw10_FlowGroups_39_at, h5, h7, h8, ↓reduceIte, true_implies, false_implies]
      refine (From_at).mono ?_
      rintro w n1 ⟨bs2, rfl, cs2, p1, _⟩
      simp (decide := true) (implicitDefEqProofs := false) (maxDischargeDepth := 20) only [go_sem, h5, h7, h8, ↓reduceIte, true_implies, false_implies]
      refine (Groups_at).mono ?_
      rintro w n2 ⟨d1', d2', rfl, u1, u2, p2⟩
      simp (decide := true) (implicitDefEqProofs := false) (maxDischargeDepth := 20) only [go_sem, h5, h7, h8, ↓reduceIte, true_implies, false_implies]
      refine (ListG (it n2 bs2 (cs2.old p2) (AE.old (p1.trans p2)) d1' d2' u1 u2 (gE.old (p1.trans p2))) rfl (by omega) (.inl ⟨rfl, trivial⟩)).mono ?_
      rintro w n3 ⟨ga2, es2, rfl, _, _, _, _, p3⟩
      have de : ((gs.length : Int) == (gs.length : Int)) = true := by simp
      simp (decide := true) (implicitDefEqProofs := false) (maxDischargeDepth := 20) only [go_sem, h5, h7, h8, de, ↓reduceIte, true_implies, false_implies]
      refine (From_at).mono ?_
      rintro w n4 ⟨bs3, rfl, cs3, p4, _⟩
      have p14 := p1.trans (p2.trans (p3.trans p4))
      simp (decide := true) (implicitDefEqProofs := false) (maxDischargeDepth := 20) only [go_sem, h5, h7, h8, ↓reduceIte, true_implies, false_implies]
      refine (ListI (g := fun k => xs.getD k 0) (ValuesI (F := none') cs3 (fun _ z => (AE.old p14).froz z) hn) hn (frozen_self n4) (fun _ h => h.elim) trivial).mono ?_
      rintro w n5 ⟨p5, rfl, V5', o5', -⟩
      have o5' := old_of_chg o5'
      rw [takeF_ints _ _ lx] at V5'
      simp (decide := true) (implicitDefEqProofs := false) (maxDischargeDepth := 20) only [go_sem, h5, h7, h8, ↓reduceIte, true_implies, false_implies]
      refine (SameI V5'.sl (AE.old (p14.trans o5')) (by omega) (by omega)).mono ?_
      rintro w n6 ⟨rfl, _⟩
      simp (decide := true) (implicitDefEqProofs := false) (maxDischargeDepth := 20) only [go_sem, dd, ↓reduceIte, true_implies, false_implies]
    have z4B : Frozen m4.get mB := (frozen_self m4).old (o5.trans (o.trans oB))
    simp (decide := true) (implicitDefEqProofs := false) (maxDischargeDepth := 20) only [go_sem, e5, e7, e8, dd, ↓reduceIte, true_implies, false_implies]
    simp only [c_sheaflaw10_FlowGroups_37_at, wpM_block, c_sheaflaw10_FlowGroups_36_at]
    -- the second loop
    generalize hc39 : c_sheaflaw10_FlowGroups_39 = c39 at *
    have V5B := V5.old (o.trans oB)
    have G5B := G5.old (o.trans oB)
    have gK5B := gK5.old (o.trans oB)
    by_cases hG0 : gs.length = 0
    · refine wpM_loopA (fun j t2 m2 => m2 = mB ∧ t2 89 = .int .i64 0) 0 ⟨rfl, by simp (decide := true) only [go_sem, ↓reduceIte]; try rfl⟩ ?_
      rintro j t2 m2 hag2 ⟨rfl, b89⟩
      have b5 := hag2 5 (by decide +kernel)
      have b7 := hag2 7 (by decide +kernel)
      have b8 := hag2 8 (by decide +kernel)
      have b88 := hag2 88 (by decide +kernel)
      simp (decide := true) only [go_sem, e5, e7, e8, ↓reduceIte] at b5 b7 b8 b88
      have d3 : decide ((0 : Int) < (gs.length : Int)) = false := by rw [hG0]; decide
      simp (decide := true) (implicitDefEqProofs := false) (maxDischargeDepth := 20) only [go_sem, b88, b89, d3, ↓reduceIte, true_implies, false_implies]
      refine fin _ _ z4B ?_ ?_ ?_ <;> simp (decide := true) only [go_sem, b5, b7, b8, ↓reduceIte]
    obtain ⟨gb, go, gsp, rfl⟩ := V5.sl.addr (by omega)
    obtain rfl : go = 0 := (V5.blk _ rfl).2.1
    obtain ⟨tg, hgB⟩ := (V5B.blk _ rfl).2.2
    have hgb4 : m4.size ≤ gb := (V5.blk _ rfl).1
    have hloose := V5.sl.loose _ rfl
    refine wpM_loopA (fun j t2 m2 => ∃ (q : Nat) (vals : List Value), q ≤ gs.length ∧ j = gs.length - q ∧ t2 89 = .int .i64 (q : Nat) ∧ m2.get gb = some (.cells false tg vals) ∧ vals.length = gs.length ∧ (∀ x, q ≤ x → vals[x]? = (es.map Gr.v)[x]?) ∧ (∀ x e, q ≤ x → es[x]? = some e → m2.get e.b = mB.get e.b) ∧ mB.size ≤ m2.size ∧ ∀ x, x < mB.size → x ≠ gb → (∀ e ∈ es, x ≠ e.b) → m2.get x = mB.get x) gs.length
      ⟨0, es.map Gr.v, by omega, rfl, by simp (decide := true) only [go_sem, ↓reduceIte]; try rfl, hgB, by rw [List.length_map, les], fun _ _ => rfl, fun _ _ _ _ => rfl, Nat.le_refl _, fun _ _ _ _ => rfl⟩ ?_
    rintro j t2 m2 hag2 ⟨q, vals, hq, rfl, b89, hgv, hvl, hve, hee, hsz, hrest⟩
    have b5 := hag2 5 (by decide +kernel)
    have b7 := hag2 7 (by decide +kernel)
    have b8 := hag2 8 (by decide +kernel)
    have b88 := hag2 88 (by decide +kernel)
    simp (decide := true) only [go_sem, e5, e7, e8, ↓reduceIte] at b5 b7 b8 b88
    by_cases hql : q < gs.length
    · have d3 : decide ((q : Int) < (gs.length : Int)) = true := by simp; omega
      have w3 : IntKind.wrap .i64 ((q : Int) + 1) = ((q + 1 : Nat) : Int) := by rw [wrap_i64_id _ (by omega) (by omega)]; omega
      have y0 : (0 : Int) ≤ (q : Int) := by omega
      have y1 : (q : Int) < (gs.length : Int) := by omega
      obtain ⟨e, he, hem, heg⟩ := ht q hql
      have hge := hmem e.g (List.mem_of_getElem? heg)
      obtain ⟨y, yr, hy⟩ : ∃ y r, e.g = y :: r := by
        cases h : e.g with
        | nil => exact absurd h hge.1
        | cons y r => exact ⟨y, r, rfl⟩
      have lge : e.g.length ≤ n := by rw [← lx, ← hflat]; exact mem_flat_len (List.mem_of_getElem? heg)
      have atv : ∀ (mm : Mem) (vs : List Value), mm.get gb = some (.cells false tg vs) → vs.length = gs.length → ∀ v, vs[q]? = some v → mm.at gb q = some v := fun mm vs h1 h2 v h3 => by
        unfold Mem.at
        rw [h1]
        exact h3
      have hvq : vals[q]? = some (.slice (some ⟨e.b, 0, e.s⟩) e.g.length e.g.length) := by
        rw [hve q (Nat.le_refl _), List.getElem?_map, he]
        rfl
      have r := atv m2 vals hgv hvl _ hvq
      obtain ⟨tge, hebB⟩ := G5B.at_ e hem
      have heb : m2.get e.b = some (.cells false tge (e.g.map vI)) := by rw [hee q e (Nat.le_refl _) he, hebB]
      have VX : Vec 0 m2 1 (some ⟨e.b, 0, e.s⟩) e.g.length (e.g.map vI) := .new heb (Nat.zero_le _) (by simp) (G5B.loose e hem)
      have lgb := getM_lt hgv
      have leb := getM_lt heb
      have hbg : e.b ≠ gb := hne5 e hem _ rfl
      simp (decide := true) (implicitDefEqProofs := false) (maxDischargeDepth := 20) only [go_sem, b5, b7, b8, b88, b89, d3, y0, y1, r, Int.toNat_natCast, ↓reduceIte, true_implies, false_implies]
      refine VX.append1' (by omega) rfl (by decide) (by decide +kernel) (by decide +kernel) rfl (by omega) fun m3 b' s' V3 k3 hb3 => ?_
      have hgv3 : m3.get gb = some (.cells false tg vals) := by rw [k3.2 gb lgb (fun x hx => by cases hx; exact fun h => hbg h.symm)]; exact hgv
      have lgb3 := getM_lt hgv3
      obtain ⟨m4', hm4⟩ : ∃ m4', m4' = m3.put gb (some (.cells false tg (vals.set q (.slice (some ⟨b', 0, s'⟩) (e.g.length + 1) (e.g.length + 1))))) := ⟨_, rfl⟩
      have hgb4' : m4'.get gb = some (.cells false tg (vals.set q (.slice (some ⟨b', 0, s'⟩) (e.g.length + 1) (e.g.length + 1)))) := by rw [hm4, getM_put, if_pos ⟨rfl, lgb3⟩]
      have r4 : m4'.at gb q = some (.slice (some ⟨b', 0, s'⟩) (e.g.length + 1) (e.g.length + 1)) := atv m4' _ hgb4' (by rw [List.length_set, hvl]) _ (by rw [List.getElem?_set_self (by omega)])
      have hbb : b' ≠ gb := by omega
      have V4 : Vec 0 m4' 1 (some ⟨b', 0, s'⟩) (e.g.length + 1) (e.g.map vI ++ [.int .i64 (-7)]) := V3.keep fun x hx => by cases hx; rw [hm4, getM_put, if_neg (fun h => hbb h.1)]
      obtain ⟨tgb, hb4⟩ := (V4.blk _ rfl).2.2
      have lb4 := getM_lt hb4
      have x0 : m4'.at b' (Int.toNat 0) = some (vI y) := by
        unfold Mem.at
        rw [hb4, hy]
        rfl
      have dq : decide (q + 1 ≤ gs.length) = true := by simp; omega
      have dq0 : decide (Int.toNat 0 + 1 ≤ (e.g.map vI ++ [Value.int IntKind.i64 (-7)]).length) = true := by simp
      have zp : (0 : Int) < ((e.g.length + 1 : Nat) : Int) := by omega
      simp (decide := true) (implicitDefEqProofs := false) (maxDischargeDepth := 20) only [go_sem, b5, b7, b8, b88, b89, hgv3, lgb3, hvl, ← hm4, r4, x0, hb4, lb4, y0, y1, zp, dq, dq0, w3, Int.toNat_natCast, ↓reduceIte, true_implies, false_implies]
      have hlow : ∀ x, x < m2.size → x ≠ gb → x ≠ e.b → x ≠ b' ∧ m4'.get x = m2.get x := fun x hx h1 h2 => by
        refine ⟨by omega, ?_⟩
        rw [hm4, getM_put, if_neg (fun h => h1 h.1), k3.2 x hx (fun a ha => by cases ha; exact h2)]
      refine ⟨gs.length - (q + 1), by omega, q + 1, vals.set q (.slice (some ⟨b', 0, s'⟩) (e.g.length + 1) (e.g.length + 1)), by omega, rfl, rfl, ?_, ?_, fun x hx => ?_, fun x e2 hx he2 => ?_, ?_, fun x hx h1 h2 => ?_⟩
      · rw [if_neg (fun h => hbb h.symm)]; exact hgb4'
      · rw [List.length_set, hvl]
      · rw [List.getElem?_set_ne (by omega)]; exact hve x (by omega)
      · have hq1 : e2.b ≠ e.b := by
          obtain ⟨g1, g2⟩ := List.getElem?_eq_some_iff.1 he2
          obtain ⟨g3, g4⟩ := List.getElem?_eq_some_iff.1 he
          have := List.pairwise_iff_getElem.1 G5.dis q x (by simpa using g3) (by simpa using g1) (by omega)
          simp only [List.getElem_map, g2, g4] at this
          exact fun h => this h.symm
        have hm2 : e2 ∈ es := List.mem_of_getElem? he2
        have hl2 : e2.b < m2.size := Nat.lt_of_lt_of_le (G5B.lt e2 hm2) hsz
        obtain ⟨h1, h2⟩ := hlow _ hl2 (hne5 e2 hm2 _ rfl) hq1
        rw [if_neg h1, h2]
        exact hee x e2 (by omega) he2
      · have := k3.1
        rw [hm4, size_put]
        omega
      · obtain ⟨h3, h4⟩ := hlow x (by omega) h1 (h2 e hem)
        rw [if_neg h3, h4]
        exact hrest x hx h1 h2
    · have d3 : decide ((q : Int) < (gs.length : Int)) = false := by simp; omega
      simp (decide := true) (implicitDefEqProofs := false) (maxDischargeDepth := 20) only [go_sem, b88, b89, d3, ↓reduceIte, true_implies, false_implies]
      refine fin _ _ (fun x b hx => ?_) ?_ ?_ ?_
      · have hl := getM_lt hx
        rw [hrest x (Nat.lt_of_lt_of_le hl (Nat.le_trans o5.size (Nat.le_trans o.size oB.size))) (by omega) (fun e he h => by
          have := G5.new e he
          rw [← h, hx] at this
          cases this)]
        exact z4B x b hx
      · simp (decide := true) only [go_sem, b5, ↓reduceIte]
      · simp (decide := true) only [go_sem, b7, ↓reduceIte]
      · simp (decide := true) only [go_sem, b8, ↓reduceIte]
end Go.Proofs.Ytgbpgkfmmhlkoaa.W
