/-
  The list of a total.
-/
import Derived.Test.YtjmppooebppecaaSumC
namespace Go.Proofs.Ytjmppooebppecaa.W
open Go.Abs
set_option linter.unusedSimpArgs false
set_option linter.unusedVariables false

theorem box3 (P : Mem → Prop) (m : Mem) (v0 v1 v2 : Value) (h : ∀ m', m'.get m.size = some (.cells false true [v0]) → m'.get (m.size + 1) = some (.cells false true [v1]) → m'.get (m.size + (1 + 1)) = some (.cells false true [v2]) → Old m m' → m'.size = m.size + 3 → P m') :
    P (((m.push (.cells false true [v0])).push (.cells false true [v1])).push (.cells false true [v2])) := by
  refine h _ ?_ ?_ ?_ (.push (.push (.push (.refl m) _) _) _) (by simp)
  · rw [getM_push, if_neg (by simp only [size_push]; omega), getM_push, if_neg (by simp only [size_push]; omega), getM_push, if_pos rfl]
  · rw [getM_push, if_neg (by simp only [size_push]; omega), getM_push, if_pos (by simp)]
  · rw [getM_push, if_pos (by simp)]

theorem rows_getD {m : Mem} {l : List Nat} {rs : List HRow} (hr : ∀ r ∈ rs, r.At m) (hn : ∀ r ∈ rs, ∀ b, r.ad = some b → r.xs ≠ [] → b.block ∉ l) : ∀ m', Frozen (butL m l) m' → ∀ k, (rs.getD k noRow).At m' := fun m' z k => by
  rw [List.getD_eq_getElem?_getD]
  cases hg : rs[k]? with
  | none => exact noRow_at m'
  | some r =>
    have hm := List.mem_of_getElem? hg
    exact row_but (hr r hm) z (hn r hm)

@[go_sem] theorem ResK_cc {t : Fr} {m : Mem} (K : Value → Mem → Prop) (i j : Nat) (a b : TypeId) : ResK E [.cell i a, .cell j b] K t m = match loadV E m a (t i) with
    | some v => (match loadV E m b (t j) with | some w => K (.tuple #[v, w]) m | none => False)
    | none => False := by
  unfold ResK resultsF resultsF resultsF
  cases loadV E m a (t i) with
  | none => rfl
  | some v => cases loadV E m b (t j) <;> rfl

theorem foldl_tot_len (key : List Nat) (col : Nat) : ∀ (l : List (List Int)) (st : List Grp × Option Grp), (l.foldl (stepT key col) st).1.length + (l.foldl (stepT key col) st).2.toList.length ≤ st.1.length + st.2.toList.length + l.length
  | [], st => by simp
  | r :: l, st => by
    rw [List.foldl_cons]
    refine Nat.le_trans (foldl_tot_len key col l _) ?_
    have : (stepT key col st r).1.length + (stepT key col st r).2.toList.length ≤ st.1.length + st.2.toList.length + 1 := by
      unfold stepT
      split
      · rename_i h; rw [h]; simp
      · rename_i g h
        rw [h]
        split
        · simp
        · simp
    rw [List.length_cons]
    omega
theorem totL_len (key : List Nat) (col : Nat) (rs : List (List Int)) : (totL key col rs).length ≤ rs.length := by
  have := foldl_tot_len key col rs ([], none)
  unfold totL stT
  rw [List.length_append]
  simpa using this

theorem outT_bd (g : Grp) : (outT g).length = g.1.length + 1 := by unfold outT; rw [List.length_append]; rfl

set_option maxRecDepth 100000 in
set_option maxHeartbeats 8000000 in
theorem TotF_at {m : Mem} {a : Option Addr} {n c : Nat} {rs : List HRow} (h : SlA m 1 a n c (rs.map HRow.v)) (hr : ∀ r ∈ rs, r.At m) (hn : n ≤ 1000) {key : List Nat} {col : Nat} {ka : Option Addr} {kn kc : Nat} (hk : SlA m 1 ka kn kc (key.map natV)) (hkn : kn ≤ 100)
    (hb : ∀ g ∈ totL key col (rs.map HRow.xs), (-9223372036854775808 ≤ g.2 ∧ g.2 < 9223372036854775808) ∧ ∀ x ∈ g.1, -9223372036854775808 ≤ x ∧ x < 9223372036854775808) :
    CallQ E F_sheaflaw19_total [.slice a n c, natV col, .slice ka kn kc].toArray m fun w m' => ∃ (ao : Option Addr) (os : List HRow), w = .tuple #[.slice ao os.length os.length, .bool true] ∧ SlA m' 1 ao os.length os.length (os.map HRow.v) ∧ os.map HRow.xs = (totL key col (rs.map HRow.xs)).map outT ∧ (∀ r ∈ os, r.At m') ∧ Old m m' := by
  have hl : rs.length = n := by have := h.len; simpa using this
  refine .enter fn_sheaflaw19_total (by simp) ?_
  simp (decide := true) (implicitDefEqProofs := false) (maxDischargeDepth := 20) only [go_sem, ↓reduceIte, true_implies, false_implies]
  refine box3 (fun mm => CallQ E _ _ mm _) m _ _ _ fun m1 g1 g2 g3 o1 hs1 => ?_
  obtain ⟨xb, hxb⟩ : ∃ b, b = m.size := ⟨_, rfl⟩
  obtain ⟨kb, hkb⟩ : ∃ b, b = m.size + 1 := ⟨_, rfl⟩
  obtain ⟨ob, hob⟩ : ∃ b, b = m.size + (1 + 1) := ⟨_, rfl⟩
  rw [← hob] at g3 ⊢
  rw [← hkb] at g2 ⊢
  rw [← hxb] at g1 ⊢
  refine (From_at).mono ?_
  rintro w m2 ⟨bv, rfl, cv, hbv, o2⟩
  simp (decide := true) (implicitDefEqProofs := false) (maxDischargeDepth := 20) only [go_sem, ↓reduceIte, true_implies, false_implies]
  refine (STotal_at).mono ?_
  rintro w m3 ⟨b1, b2, b3, rfl, c1, c2, c3, hb1, hb2, hb3, o3⟩
  simp (decide := true) (implicitDefEqProofs := false) (maxDischargeDepth := 20) only [go_sem, ↓reduceIte, true_implies, false_implies]
  have o13 := o2.trans o3
  have o03 := o1.trans o13
  have z2 := o2.size
  have z3 := o3.size
  have gx3 := (o13.get (getM_lt g1)).trans g1
  have gk3 := (o13.get (getM_lt g2)).trans g2
  have go3 : cap1 m3 ob (.slice none 0 0) := (o13.get (getM_lt g3)).trans g3
  have lo3 := getM_lt go3
  have lrow : ∀ r ∈ rs, ∀ b, r.ad = some b → r.xs ≠ [] → b.block < m.size := fun r hm b hb hx => ((hr r hm).sl.rows b hb (by simpa using hx)).lt
  have hR := rows_getD (l := [ob]) (fun r hm => (hr r hm).old o03) (fun r hm b hb hx => by have := lrow r hm b hb hx; simp; omega)
  have no3 : ∀ b, m1.size ≤ b → b ∉ [ob] := fun b hb => by simp; omega
  have it := TotalI (key := key) (col := col) (F := none') (ValuesR (n := n) (butL_at (cv.old o3) (no3 _ hbv)) (fun m' z => sla_but (h.old o03) z fun b hb hx => by have := (h.rows b hb hx).lt; simp; omega) (by omega)) hR hl
    (fun m' z => sla_but (hk.old o03) z fun b hb hx => by have := (hk.rows b hb hx).lt; simp; omega) hkn (butL_at c1 (no3 _ (by omega))) (butL_at c2 (no3 _ (by omega))) (butL_at c3 (no3 _ (by omega))) (fun g hg => (hb g hg).1)
  obtain ⟨gs, hgs⟩ : ∃ x, x = totL key col (rs.map HRow.xs) := ⟨_, rfl⟩
  rw [← hgs] at it hb ⊢
  simp only [c_sheaflaw19_total_10_at, wpM_block, c_sheaflaw19_total_9_at]
  refine wpM_rangeP (A := fun i => i = ob) it (fun t => upd (upd t 10 (t 20)) 11 (t 21)) (by simp (decide := true) only [go_sem, ↓reduceIte]) rfl asg_sheaflaw19_total_0 body_sheaflaw19_total_0 (by decide) (fun K l t m h => by simp (decide := true) only [go_sem, ↓reduceIte]; exact h)
    (fun k m A => ∃ ag os, ListJ 0 ob ((gs.take k).map outT) m A ag os) noD (fun k => ListJ.loc _ _ _) noD_loc (butL_frozen _ _) (fun i hi => ⟨by rw [hi]; exact lo3, butL_no (by simpa using hi), fun h => h.elim⟩) (fun i hi => hi.elim) trivial
    ⟨none, [], go3, .nil _ _ _, rfl, (fun g h => by simp at h), (fun g h => by simp at h), (fun y h => by cases h), rfl⟩ ?_ ?_ ?_
  · rintro k vs m4 A B l hk' z4 oA oB dis - ⟨ag, os, J⟩ ⟨g, b, hg, rfl, gb, hB⟩ hin hms
    refine ⟨rfl, ?_⟩
    have rO := get_at0 J.box
    have hol : os.length = k := by
      have := congrArg List.length J.xs
      simp at this
      omega
    have hkn' : k ≤ n := by
      have h1 := totL_len key col (rs.map HRow.xs)
      rw [← hgs, List.length_map] at h1
      omega
    simp (decide := true) (implicitDefEqProofs := false) (maxDischargeDepth := 20) only [go_sem, rO, ↓reduceIte, true_implies, false_implies]
    refine J.vec.append1' (Nat.zero_le _) rfl (by decide) (by decide +kernel) (by decide +kernel) rfl (by omega) fun m5 b5 s5 v5 k5 hb5 => ?_
    have gO5 : m5.get ob = _ := (k5.2 ob (getM_lt J.box) fun y hy e => (J.own y hy).2 e.symm).trans J.box
    simp (decide := true) (implicitDefEqProofs := false) (maxDischargeDepth := 20) only [go_sem, gO5, ↓reduceIte, true_implies, false_implies]
    have hgm := List.mem_of_getElem? hg
    have hrow : (⟨some ⟨b, 0, none⟩, (outT g).length, (outT g).length, outT g⟩ : HRow).At m4 := by
      refine ⟨.new gb (by simp) rfl, rfl, fun x hx => ?_⟩
      unfold outT at hx
      rcases List.mem_append.1 hx with hx | hx
      · exact (hb g hgm).2 x hx
      · rw [List.mem_singleton.1 hx]; exact (hb g hgm).1
    obtain ⟨J', T⟩ := J.more (B := B) hrow (fun i hi => (oA i hi).1) (fun i hi => (oB i hi).1) dis (fun x hx => by cases hx; exact (hB _).2 rfl) v5 k5 hb5 rfl
    have et : (gs.take (k + 1)).map outT = (gs.take k).map outT ++ [outT g] := by
      obtain ⟨hlt, he⟩ := List.getElem?_eq_some_iff.1 hg
      rw [List.take_succ_eq_append_getElem hlt, List.map_append, he]
      rfl
    rw [et]
    exact ⟨_, T.c, T.n, _, _, J'⟩
  · rintro m4 A' z4 o4 - ⟨ag, os, J⟩ c1' c2'
    rw [List.take_length] at J
    have rO := get_at0 J.box
    have keep : ∀ i, i < m3.size → i ≠ ob → m4.get i = m3.get i := fun i hi hne => c1'.get i hi fun e => e.elim hne fun e => e
    have gx4 := (keep xb (getM_lt gx3) (by omega)).trans gx3
    have gk4 := (keep kb (getM_lt gk3) (by omega)).trans gk3
    have lx4 := getM_lt gx4
    have lk4 := getM_lt gk4
    have nkx : ¬ kb = xb := by omega
    have nxk : ¬ xb = kb := by omega
    have nox : ¬ ob = xb := by omega
    simp (decide := true) (implicitDefEqProofs := false) (maxDischargeDepth := 20) only [go_sem, rO, gx4, gk4, lx4, lk4, nkx, nxk, nox, ↓reduceIte, true_implies, false_implies]
    have hol : os.length = gs.length := by
      have := congrArg List.length J.xs
      simpa using this
    have nA : ∀ i, A' i → i ≠ xb ∧ i ≠ kb := fun i hi => by
      have lx3 := getM_lt gx3
      have lk3 := getM_lt gk3
      rcases (c2' i hi).2 with h | h
      · exact ⟨by omega, by omega⟩
      · exact ⟨by omega, by omega⟩
    have gp : ∀ i, i ≠ xb → i ≠ kb → ((m4.put xb (some (.cells false true [.slice ag os.length os.length]))).put kb (some (.cells false true [.bool true]))).get i = m4.get i := fun i h1 h2 => by
      rw [getM_put, if_neg (fun e => h2 e.1), getM_put, if_neg (fun e => h1 e.1)]
    refine ⟨ag, os, by first | rfl | rw [hol], ?_, J.xs, fun r hr => ?_, ?_⟩
    · exact J.vec.sl.keep fun x hx _ => gp _ (nA _ (J.own x hx).1).1 (nA _ (J.own x hx).1).2
    · exact (J.row r hr).keep fun x hx _ => gp _ (nA _ (J.blk r hr x hx).1).1 (nA _ (J.blk r hr x hx).1).2
    · refine .of_get (by rw [size_put, size_put]; have := c1'.size; have := o03.size; omega) fun i hi => ?_
      have := o03.size
      rw [gp i (by omega) (by omega), keep i (by omega) (by omega), o03.get hi]
  · rintro k x m' A' _ _ _ _ _ h
    exact h.elim
end Go.Proofs.Ytjmppooebppecaa.W
