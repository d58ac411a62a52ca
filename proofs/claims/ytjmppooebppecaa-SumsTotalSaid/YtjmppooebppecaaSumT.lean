/-
  sums.Total as an iterator that may fail. The law's total, that may fail. Sums: what of the document's is needed. The document's Total: the plain law; alike in a key. The document's Total: a sum. The document's Total. SumsTotal.
-/
import Derived.Test.YtjmppooebppecaaSumB
import Derived.Test.YtjmppooebppecaaSumD
import Derived.Test.YtjmppooebppecaaSumE
import Derived.Test.YtjmppooebppecaaAbs30
import Derived.Test.YtjmppooebppecaaBook
namespace Go.Proofs.Ytjmppooebppecaa.W
open Go.Abs
set_option linter.unusedSimpArgs false
set_option linter.unusedVariables false


/-! ### SumK -/

def fitsG (g : Grp) : Prop := -9223372036854775808 ≤ g.2 ∧ g.2 < 9223372036854775808
instance (g : Grp) : Decidable (fitsG g) := inferInstanceAs (Decidable (_ ∧ _))
/-- What is handed over: sums, up to the first that is none. -/
def cutT : List Grp → List (Option Grp)
  | [] => []
  | g :: r => if fitsG g then some g :: cutT r else [none]
theorem cut_pre : ∀ (a b : List Grp), (∀ g ∈ a, fitsG g) → cutT (a ++ b) = a.map some ++ cutT b
  | [], b, _ => rfl
  | g :: a, b, h => by
    show (if fitsG g then some g :: cutT (a ++ b) else [none]) = _
    rw [if_pos (h g List.mem_cons_self), cut_pre a b fun x hx => h x (List.mem_cons_of_mem _ hx)]
    rfl
theorem cut_all {l : List Grp} (h : ∀ g ∈ l, fitsG g) : (cutT (l ++ (none : Option Grp).toList)).length = l.length := by
  rw [cut_pre _ _ h]
  simp [cutT]
theorem cut_at {l pre : List Grp} {g : Grp} (h : ∀ g ∈ pre, fitsG g) (hl : ∃ t, l = (pre ++ [g]) ++ t) : (fitsG g → (cutT l)[pre.length]? = some (some g) ∧ pre.length < (cutT l).length) ∧ (¬ fitsG g → (cutT l)[pre.length]? = some none ∧ (cutT l).length = pre.length + 1) := by
  obtain ⟨t, rfl⟩ := hl
  rw [List.append_assoc, cut_pre _ _ h]
  have e : cutT ([g] ++ t) = if fitsG g then some g :: cutT t else [none] := rfl
  rw [e]
  refine ⟨fun hg => ?_, fun hg => ?_⟩
  · rw [if_pos hg]; simp
  · rw [if_neg hg]; simp
def cutEl (cs : List (Option Grp)) : Nat → List Value → Mem → Set' → Prop := fun k vs m B =>
  (∃ g b, cs[k]? = some (some g) ∧ vs = [.slice (some ⟨b, 0, none⟩) (outT g).length (outT g).length, .bool true] ∧ m.get b = some (.cells false true ((outT g).map (.int .i64))) ∧ ∀ i, B i ↔ i = b) ∨
  (cs[k]? = some none ∧ vs = [.slice none 0 0, .bool false] ∧ ∀ i, ¬ B i)
theorem cutEl_loc (cs : List (Option Grp)) (k : Nat) (vs : List Value) : LocP (cutEl cs k vs) := by
  rintro m m' A (⟨g, b, h1, h2, h3, h4⟩ | h) hk hs
  · exact .inl ⟨g, b, h1, h2, (hk _ ((h4 _).2 rfl)).trans h3, h4⟩
  · exact .inr h

set_option maxRecDepth 100000 in
set_option maxHeartbeats 4000000 in
theorem Tell_bad {m : Mem} {kb sb yb b L : Nat} {s : Int} {yf : Fn} {ya yc : Array Value} (gk : m.get kb = some (.cells false true [.slice (some ⟨b, 0, none⟩) L (L + 1)]))
    (gs : Box m sb (Wc s)) (hs : -170141183460469231731687303715884105728 ≤ s ∧ s < 170141183460469231731687303715884105728) (hn : ¬ (-9223372036854775808 ≤ s ∧ s < 9223372036854775808)) (gy : m.get yb = some (.cells false true [.func yf ya yc])) {K : Value → Mem → Prop}
    (hK : ∀ m', Old m m' → CallF E (.func yf ya yc) [.slice none 0 0, .bool false] m' fun _ m'' => K (.bool false) m'') :
    CallQ E F_sums_Total_1_1 [ptr kb, ptr sb, ptr yb].toArray m K := by
  refine .enter fn_sums_Total_1_1 (by simp) ?_
  have rk := get_at0 gk
  simp (decide := true) (implicitDefEqProofs := false) (maxDischargeDepth := 20) only [go_sem, ↓reduceIte, rk, true_implies, false_implies]
  refine (SumValue gs hs.1 hs.2).mono ?_
  rintro w m1 ⟨rfl, o1⟩
  have ei : intA s = .tuple #[.int .i64 0, .bool false] := by unfold intA; rw [if_neg hn]
  rw [ei]
  have gy1 := (o1.get (getM_lt gy)).trans gy
  have ry1 := get_at0 gy1
  have ny : ¬ yb = m1.size := by have := getM_lt gy1; omega
  simp (decide := true) (implicitDefEqProofs := false) (maxDischargeDepth := 20) only [go_sem, ↓reduceIte, ry1, ny, true_implies, false_implies]
  refine CallF.step ((hK m1 o1).mono ?_)
  intro w m6 hk6
  simp (decide := true) (implicitDefEqProofs := false) (maxDischargeDepth := 20) only [go_sem, ↓reduceIte, true_implies, false_implies]
  exact hk6

set_option maxRecDepth 100000 in
set_option maxHeartbeats 8000000 in
theorem TotalF {Z : Nat → Option Blk} {F : Set'} {s : Value} {n : Nat} {rs : List HRow} {key : List Nat} {col : Nat} {ka : Option Addr} {kn kc : Nat} (hs : Iter E Z F s n anyO (pureEl (rowsEl rs))) (hr : ∀ m, Frozen Z m → ∀ k, (rs.getD k noRow).At m) (hl : rs.length = n)
    (hks : ∀ m, Frozen Z m → SlA m 1 ka kn kc (key.map natV)) (hkn : kn ≤ 100) {b1 b2 b3 : Nat} {r1 t1 r2 t2 r3 t3 : Bool} (h1 : Z b1 = some (.cells r1 t1 [s])) (h2 : Z b2 = some (.cells r2 t2 [.slice ka kn kc])) (h3 : Z b3 = some (.cells r3 t3 [natV col]))
    (hb : ∀ g ∈ totL key col (rs.map HRow.xs), -170141183460469231731687303715884105728 ≤ g.2 ∧ g.2 < 170141183460469231731687303715884105728) :
    Iter E Z F (.func (.func F_sums_Total_1) #[] #[ptr b1, ptr b2, ptr b3]) (cutT (totL key col (rs.map HRow.xs))).length anyO (cutEl (cutT (totL key col (rs.map HRow.xs)))) where
  fn := ⟨_, _, _, rfl⟩
  locO := fun _ _ _ _ _ => trivial
  locE := cutEl_loc _
  go := by
    intro y hy I D lI lD step m A z o hF own0 i0
    obtain ⟨yf, ya, yc, rfl⟩ := hy
    rw [CallF_func]
    refine ⟨by simp only [go_sem], ?_⟩
    have e : (#[] ++ [Value.func yf ya yc].toArray ++ #[ptr b1, ptr b2, ptr b3] : Array Value) = [Value.func yf ya yc, ptr b1, ptr b2, ptr b3].toArray := by simp
    rw [e]
    refine .enter fn_sums_Total_1 (by simp) ?_
    have r1 := frozen_at z h1
    have lb1 := z.lt h1
    have n1 : ¬ b1 = m.size := by omega
    have n2 : ¬ b1 = m.size + 1 := by omega
    have n3 : ¬ b1 = m.size + (1 + 1) := by omega
    have n4 : ¬ b1 = m.size + (1 + (1 + 1)) := by omega
    simp (decide := true) (implicitDefEqProofs := false) (maxDischargeDepth := 20) only [go_sem, r1, n1, n2, n3, n4, ↓reduceIte, true_implies, false_implies]
    refine tot_boxes (fun mm => wpM E _ _ _ _ _ _ mm) m _ _ _ _ _ fun m1 q0 q1 q2 q3 ho hs1 => ?_
    obtain ⟨yb, hyb⟩ : ∃ b, b = m.size := ⟨_, rfl⟩
    obtain ⟨kb, hkb⟩ : ∃ b, b = m.size + 1 := ⟨_, rfl⟩
    obtain ⟨sb, hsb⟩ : ∃ b, b = m.size + (1 + 1) := ⟨_, rfl⟩
    obtain ⟨tb, htb⟩ : ∃ b, b = m.size + (1 + (1 + 1)) := ⟨_, rfl⟩
    rw [← htb] at q3 ⊢
    rw [← hsb] at q2 q3 ⊢
    rw [← hkb] at q1 q3 ⊢
    rw [← hyb] at q0 q3 ⊢
    simp only [c_sums_Total_1_9_at, wpM_block, c_sums_Total_1_8_at]
    obtain ⟨xss, hxss⟩ : ∃ x, x = rs.map HRow.xs := ⟨_, rfl⟩
    rw [← hxss] at hb step ⊢
    have hxl : xss.length = n := by rw [hxss, List.length_map, hl]
    obtain ⟨N, hN⟩ : ∃ N, N = (cutT (totL key col xss)).length := ⟨_, rfl⟩
    rw [← hN]
    have hZF : ∀ i, m.size ≤ i → Z i = none ∧ ¬ F i := fun i hi => ⟨z.free hi, fun f => by have := (hF i f).1; omega⟩
    refine wpM_rangeP (A := fun i => A i ∨ i = yb ∨ i = kb ∨ i = sb ∨ i = tb) hs (fun t => upd t 8 (t 12)) (by simp (decide := true) only [go_sem, ↓reduceIte]) rfl asg_sums_Total_1_0 body_sums_Total_1_0 (by decide) (fun K l t m h => by simp (decide := true) only [go_sem, ↓reduceIte]; exact h)
      (fun k m A => (∀ g ∈ (stT key col (xss.take k)).1, fitsG g) ∧ ∃ A1, I (stT key col (xss.take k)).1.length m A1 ∧ TotJ yb kb sb tb (.func yf ya yc) (stT key col (xss.take k)).2 m A1 A)
      (fun k x m A => x = .ret ∧ ∃ A1, ((∃ j, j < N ∧ D j m A1) ∨ I N m A1) ∧ ∀ i, A1 i → A i)
      (fun k m1 m2 A' ⟨h0, A1, h1, h2⟩ hk hs => ⟨h0, A1, lI _ m1 m2 A1 h1 (fun i hi => hk i (h2.sub i hi)) hs, h2.loc hk⟩) (fun k x m1 m2 A' ⟨h1, A1, h3, h4⟩ hk hs => ⟨h1, A1, h3.imp (fun ⟨j, hj, h⟩ => ⟨j, hj, lD _ m1 m2 A1 h (fun i hi => hk i (h4 i hi)) hs⟩) fun h => lI _ m1 m2 A1 h (fun i hi => hk i (h4 i hi)) hs, h4⟩)
      (z.old ho) (fun i hi => ?_) (fun i hi => ⟨by have := (hF i hi).1; omega, (hF i hi).2⟩) trivial ⟨fun g hg => by simp [stT] at hg, A, lI 0 m _ A i0 (fun i hi => ho.get (o i hi).1) ho.size, ?_⟩ ?_ ?_ ?_
    · rcases hi with hi | hi
      · exact ⟨Nat.lt_of_lt_of_le (o i hi).1 ho.size, (o i hi).2⟩
      · exact ⟨by omega, hZF i (by omega)⟩
    · have na : ∀ i, m.size ≤ i → ¬ A i := fun i hi h => by have := (o i h).1; omega
      exact ⟨q0, q3, q1, ⟨true, q2⟩, ⟨.inr (.inl rfl), na _ (by omega)⟩, ⟨.inr (.inr (.inl rfl)), na _ (by omega)⟩, ⟨.inr (.inr (.inr (.inl rfl))), na _ (by omega)⟩, ⟨.inr (.inr (.inr (.inr rfl))), na _ (by omega)⟩, fun i hi => .inl hi⟩
    · rintro k vs m2 A' B l hk z1 o1 o2 dis - ⟨hok, A1, hI, J⟩ hel hin hms
      subst hel
      refine ⟨rfl, ?_⟩
      have hrow := hr m2 z1 k
      have hrF : ∀ m', Frozen Z m' → (rs.getD k noRow).At m' := fun m' z => hr m' z k
      have hel : rowsEl rs k = [(rs.getD k noRow).v] := rfl
      have st1 : stT key col (xss.take (k + 1)) = stepT key col (stT key col (xss.take k)) (rs.getD k noRow).xs := by
        rw [List.take_succ_eq_append_getElem (by omega), stT_snoc]
        congr 1
        simp only [hxss, List.getElem_map, List.getD_eq_getElem?_getD, List.getElem?_eq_getElem (show k < rs.length by omega), Option.getD_some]
      rw [hel]
      generalize rs.getD k noRow = row at *
      obtain ⟨rad, rn, rc, rxs⟩ := row
      have hsl : SlA m2 1 rad rn rc (rxs.map (.int .i64)) := hrow.sl
      have hbd := hrow.bd
      simp only [HRow.v] at st1 hbd ⊢
      have hcv : -9223372036854775808 ≤ rxs.getD col 0 ∧ rxs.getD col 0 < 9223372036854775808 := by
        rw [List.getD_eq_getElem?_getD]
        cases hg : rxs[col]? with
        | none => exact ⟨by decide, by decide⟩
        | some v => exact hbd v (List.mem_of_getElem? hg)
      have hlt : ∀ i, A' i → i < m2.size := fun i hi => (o1 i hi).1
      have rk2 := frozen_at z1 h2
      simp only [c_sums_Total_1_7_at, wpM_block, c_sums_Total_1_6_at, wpM_seq]
      refine wpM_mono c_sums_Total_1_5 _ _ (fun x t' m' hk => ?_) _ _ (wpM_agree c_sums_Total_1_5 _ _ (.refl _ _) (fun i hi => hi) (K := fun x t' m' => fin3
          (∃ A2 Aq g0, (∀ g ∈ (stT key col (xss.take (k + 1))).1, fitsG g) ∧ I (stT key col (xss.take (k + 1))).1.length m' A2 ∧ TotJ yb kb sb tb (.func yf ya yc) (some g0) m' A2 Aq ∧ Trs (fun i => A' i ∨ B i) m2 m' Aq ∧ (stT key col (xss.take (k + 1))).2 = some (g0.1, g0.2 + rxs.getD col 0))
          (∃ A'_1, ChgS (fun i => A' i ∨ B i) m2 m' ∧ NewS (fun i => A' i ∨ B i) m2 m' A'_1 ∧ ∃ A1, ((∃ j, j < N ∧ D j m' A1) ∨ I N m' A1) ∧ ∀ i, A1 i → A'_1 i) x) ?_)
      · obtain ⟨hag, hk⟩ := hk
        cases x with
        | normal =>
          obtain ⟨A2, Aq, g0, hok2, hI2, J2, T, hst⟩ := hk
          have a3 := hag 3 (by decide +kernel)
          have a6 := hag 6 (by decide +kernel)
          have a8 := hag 8 (by decide +kernel)
          simp (decide := true) only [go_sem, ↓reduceIte] at a3 a6 a8
          have zm := z1.chg T.c (fun i hi => hi.elim (fun h => (o1 i h).2.1) fun h => (o2 i h).2.1)
          have rc3 := frozen_at zm h3
          simp (decide := true) (implicitDefEqProofs := false) (maxDischargeDepth := 20) only [go_sem, a3, a6, a8, rc3, ↓reduceIte, true_implies, false_implies]
          refine (SAt_at col (hrF m' zm).sl).mono ?_
          rintro w m3 ⟨rfl, o3⟩
          simp (decide := true) (implicitDefEqProofs := false) (maxDischargeDepth := 20) only [go_sem, a3, a6, a8, ↓reduceIte, true_implies, false_implies]
          obtain ⟨tg, hgs⟩ := J2.gs
          have hls := getM_lt hgs
          refine SumAdd (x := g0.2) (b := sb) ⟨tg, (o3.get hls).trans hgs⟩ hcv.1 hcv.2 fun m4 u4 b4 => ?_
          simp (decide := true) (implicitDefEqProofs := false) (maxDischargeDepth := 20) only [go_sem, ↓reduceIte, true_implies, false_implies]
          have lAq : ∀ i, Aq i → i < m'.size := fun i hi => (T.n i hi).1
          have g4 : ∀ i, i < m'.size → i ≠ sb → m4.get i = m'.get i := fun i hi hne => by rw [u4.get i (Nat.lt_of_lt_of_le hi o3.size) hne, o3.get hi]
          have s4 : m'.size ≤ m4.size := Nat.le_trans o3.size u4.size
          have T4 : Trs Aq m' m4 Aq := ⟨⟨s4, fun i hi hna => g4 i hi fun e => hna (e ▸ J2.as_.1)⟩, fun i hi => ⟨Nat.lt_of_lt_of_le (lAq i hi) s4, .inl hi⟩⟩
          have TT := T.trans T4
          have gA : ∀ i, Aq i → i ≠ sb → m4.get i = m'.get i := fun i hi hne => g4 i (lAq i hi) hne
          refine ⟨Aq, TT.c, TT.n, hok2, A2, lI _ m' m4 A2 hI2 (fun i hi => gA i (J2.sub i hi) fun e => J2.as_.2 (e ▸ hi)) s4, ?_⟩
          rw [hst]
          have ne : ∀ i v, m'.get i = some (.cells false true [v]) → i ≠ sb := fun i v hg e => by
            rw [e, hgs] at hg
            simp [Wc] at hg
          obtain ⟨kbb, k1, k2, k3, k4, k5⟩ := J2.gk
          exact ⟨(gA _ J2.ay.1 (ne _ _ J2.gy)).trans J2.gy, (gA _ J2.at_.1 (ne _ _ J2.gt)).trans J2.gt, ⟨kbb, (gA _ J2.ak.1 (ne _ _ k1)).trans k1, (gA _ k3 k5.2.1).trans k2, k3, k4, k5⟩, b4, J2.ay, J2.ak, J2.as_, J2.at_, J2.sub⟩
        | ret =>
          obtain ⟨A3, c1, c2, A4, hD, hs4⟩ := hk
          exact ⟨A3, c1, c2, .inl rfl, rfl, A4, hD, hs4⟩
        | _ => exact hk.elim
      · obtain ⟨st, hst⟩ : ∃ x, x = stT key col (xss.take k) := ⟨_, rfl⟩
        rw [← hst] at J hI st1 hok
        simp (decide := true) (implicitDefEqProofs := false) (maxDischargeDepth := 20) only [go_sem, rk2, ↓reduceIte, true_implies, false_implies]
        refine (Columns_at hsl (hks m2 z1) (by omega)).mono ?_
        rintro w m3 ⟨xb, rfl, hxb, gx, o3⟩
        have J3 := J.loc (m' := m3) fun i hi => o3.get (hlt i hi)
        have hI3 := lI _ m2 m3 A1 hI (fun i hi => o3.get (hlt i (J.sub i hi))) o3.size
        have hkl : (keyV key rxs).length = kn := by have := (hks m2 z1).len; simp at this; simp [keyV, this]
        have lx := getM_lt gx
        have ea : (#[] ++ #[] ++ #[ptr kb, ptr sb, ptr yb] : Array Value) = [ptr kb, ptr sb, ptr yb].toArray := by simp
        have lyb := hlt _ J.ay.1
        have lkb := hlt _ J.ak.1
        have lsb := hlt _ J.as_.1
        have ltb := hlt _ J.at_.1
        have z3s := o3.size
        have reset : ∀ (m6 : Mem) (A2 : Set') (j' : Nat) (kv x0 y0 : Value) (tg : Bool), I j' m6 A2 → m6.get yb = some (.cells false true [.func yf ya yc]) → m6.get tb = some (.cells false true [.func (.func F_sums_Total_1_1) #[] #[ptr kb, ptr sb, ptr yb]]) →
            m6.get kb = some (.cells false true [kv]) → m6.get sb = some (.cells false tg [x0, y0]) → ¬ A2 yb → ¬ A2 kb → ¬ A2 sb → ¬ A2 tb → ¬ A2 xb → ChgS (fun i => A' i ∨ B i) m2 m6 → NewS (fun i => A' i ∨ B i) m2 m6 A2 → m6.get xb = some (.cells false true ((keyV key rxs).map (.int .i64) ++ [.int .i64 0])) →
            ∃ A2 Aq, I j' ((m6.put kb (some (.cells false true [.slice (some ⟨xb, 0, none⟩) kn (kn + 1)]))).put sb (some (.cells false tg [.int .i64 0, .int .u64 0]))) A2 ∧ TotJ yb kb sb tb (.func yf ya yc) (some (keyV key rxs, 0)) ((m6.put kb (some (.cells false true [.slice (some ⟨xb, 0, none⟩) kn (kn + 1)]))).put sb (some (.cells false tg [.int .i64 0, .int .u64 0]))) A2 Aq ∧
              Trs (fun i => A' i ∨ B i) m2 ((m6.put kb (some (.cells false true [.slice (some ⟨xb, 0, none⟩) kn (kn + 1)]))).put sb (some (.cells false tg [.int .i64 0, .int .u64 0]))) Aq := by
          intro m6 A2 j' kv x0 y0 tg hI6 gy6 gt6 gk6 gs6 ny nk ns nt nx c6 n6 gx6
          obtain ⟨m7, hm7⟩ : ∃ m7, m7 = (m6.put kb (some (.cells false true [.slice (some ⟨xb, 0, none⟩) kn (kn + 1)]))).put sb (some (.cells false tg [.int .i64 0, .int .u64 0])) := ⟨_, rfl⟩
          rw [← hm7]
          have lk6 := getM_lt gk6
          have ls6 := getM_lt gs6
          have s7 : m7.size = m6.size := by rw [hm7, size_put, size_put]
          have g7 : ∀ i, i ≠ kb → i ≠ sb → m7.get i = m6.get i := fun i h1 h2 => by rw [hm7, getM_put, if_neg (fun e => h2 e.1), getM_put, if_neg (fun e => h1 e.1)]
          have gk7 : m7.get kb = some (.cells false true [.slice (some ⟨xb, 0, none⟩) kn (kn + 1)]) := by rw [hm7, getM_put, if_neg (fun e => by omega), getM_put, if_pos ⟨rfl, lk6⟩]
          have gs7 : m7.get sb = some (.cells false tg [.int .i64 0, .int .u64 0]) := by rw [hm7, getM_put, if_pos ⟨rfl, by rw [size_put]; exact ls6⟩]
          refine ⟨A2, fun i => A2 i ∨ i = yb ∨ i = kb ∨ i = sb ∨ i = tb ∨ i = xb, lI _ m6 m7 A2 hI6 (fun i hi => g7 i (fun e => nk (e ▸ hi)) (fun e => ns (e ▸ hi))) (by omega), ?_, ?_⟩
          · exact ⟨(g7 _ (by omega) (by omega)).trans gy6, (g7 _ (by omega) (by omega)).trans gt6, ⟨xb, by rw [hkl]; exact gk7, (g7 _ (by omega) (by omega)).trans gx6, .inr (.inr (.inr (.inr (.inr rfl)))), nx, by omega, by omega, by omega, by omega⟩, ⟨tg, gs7⟩,
              ⟨.inr (.inl rfl), ny⟩, ⟨.inr (.inr (.inl rfl)), nk⟩, ⟨.inr (.inr (.inr (.inl rfl))), ns⟩, ⟨.inr (.inr (.inr (.inr (.inl rfl)))), nt⟩, fun i hi => .inl hi⟩
          · refine ⟨⟨by have := c6.size; omega, fun i hi hna => ?_⟩, fun i hi => ?_⟩
            · rw [g7 i (fun e => hna (.inl (e ▸ J.ak.1))) (fun e => hna (.inl (e ▸ J.as_.1))), c6.get i hi hna]
            · have lm := c6.size
              rcases hi with hi | rfl | rfl | rfl | rfl | rfl
              · have := n6 i hi
                exact ⟨by omega, this.2⟩
              · exact ⟨by omega, .inl (.inl J.ay.1)⟩
              · exact ⟨by omega, .inl (.inl J.ak.1)⟩
              · exact ⟨by omega, .inl (.inl J.as_.1)⟩
              · exact ⟨by omega, .inl (.inl J.at_.1)⟩
              · exact ⟨by have := getM_lt gx6; omega, .inr hxb⟩
        have nx1 : ¬ A1 xb := fun h => by have := hlt _ (J.sub _ h); omega
        cases hcur : st.2 with
        | none =>
          have J3' := J3
          rw [hcur] at J3'
          have gk3 : m3.get kb = some (.cells false true [.slice none 0 0]) := J3'.gk
          have rk := get_at0 gk3
          have rt := get_at0 J3.gt
          have st1' : stT key col (xss.take (k + 1)) = (st.1, some (keyV key rxs, 0 + rxs.getD col 0)) := by rw [st1]; unfold stepT; rw [hcur]
          simp (decide := true) (implicitDefEqProofs := false) (maxDischargeDepth := 20) only [go_sem, rk, rt, ↓reduceIte, true_implies, false_implies]
          rw [ea]
          refine (Tell_nil gk3).mono ?_
          rintro w m6 ⟨rfl, o6⟩
          obtain ⟨tg, gs3⟩ := J3'.gs
          have gs6 : m6.get sb = _ := (o6.get (getM_lt gs3)).trans gs3
          have gk6 := (o6.get (getM_lt gk3)).trans gk3
          have o26 := o3.trans o6
          obtain ⟨A2, Aq, k1, k2, k3⟩ := reset m6 A1 st.1.length _ _ _ tg (lI _ m3 m6 A1 hI3 (fun i hi => o6.get (by have := hlt i (J.sub i hi); omega)) o6.size) ((o6.get (by omega)).trans J3.gy) ((o6.get (by omega)).trans J3.gt) gk6 gs6 J.ay.2 J.ak.2 J.as_.2 J.at_.2 nx1 (o26.chg _) (fun i hi => ⟨Nat.lt_of_lt_of_le (hlt i (J.sub i hi)) o26.size, .inl (.inl (J.sub i hi))⟩) ((o6.get lx).trans gx)
          have nks : ¬ sb = kb := by omega
          simp only [Wc, curS] at gs6
          have ls6 := getM_lt gs6
          simp (decide := true) (implicitDefEqProofs := false) (maxDischargeDepth := 20) only [go_sem, gk6, gs6, nks, ls6, st1', ↓reduceIte, true_implies, false_implies]
          exact ⟨A2, Aq, (keyV key rxs, 0), hok, k1, k2, k3, rfl⟩
        | some g =>
          have J3' := J3
          rw [hcur] at J3'
          obtain ⟨b, gk3, gb3, hAb, nAb, hbk, hbs, hby, hbt⟩ := J3'.gk
          have hgl : g.1.length = kn := by
            rw [stT_len key col (xss.take k) g (by rw [← hst]; exact hcur), ← hkl]
            simp [keyV]
          rw [hgl] at gk3
          have rk := get_at0 gk3
          have lb2 := hlt _ hAb
          have SK := sla_pre gb3 hgl
          have SX := sla_pre gx hkl
          simp (decide := true) (implicitDefEqProofs := false) (maxDischargeDepth := 20) only [go_sem, rk, ↓reduceIte, true_implies, false_implies]
          refine (Equal_at SK SX (by omega)).mono ?_
          rintro w m4 ⟨rfl, o4⟩
          have o24 := o3.trans o4
          have J4 := J.loc (m' := m4) fun i hi => o24.get (hlt i hi)
          have hI4 := lI _ m2 m4 A1 hI (fun i hi => o24.get (hlt i (J.sub i hi))) o24.size
          by_cases heq : g.1 = keyV key rxs
          · have dq : decide (g.1 = keyV key rxs) = true := by simpa using heq
            rw [dq]
            have st1' : stT key col (xss.take (k + 1)) = (st.1, some (g.1, g.2 + rxs.getD col 0)) := by rw [st1]; unfold stepT; rw [hcur]; simp only [if_pos heq]
            simp (decide := true) (implicitDefEqProofs := false) (maxDischargeDepth := 20) only [go_sem, st1', ↓reduceIte, true_implies, false_implies]
            rw [hcur] at J4
            exact ⟨A1, A', g, hok, hI4, J4, ⟨o24.chg _, fun i hi => ⟨Nat.lt_of_lt_of_le (hlt i hi) o24.size, .inl (.inl hi)⟩⟩, rfl⟩
          · have dq : decide (g.1 = keyV key rxs) = false := by simpa using heq
            rw [dq]
            have st1' : stT key col (xss.take (k + 1)) = (st.1 ++ [g], some (keyV key rxs, 0 + rxs.getD col 0)) := by rw [st1]; unfold stepT; rw [hcur]; simp only [if_neg heq]
            have hat := totL_at key col xss k g (by rw [st1', ← hst])
            rw [← hst] at hat
            have hgb := hb g (List.mem_of_getElem? hat)
            have hct := cut_at (l := totL key col xss) (pre := st.1) (g := g) hok (by
              obtain ⟨t, ht⟩ := totL_grow key col xss (k + 1)
              rw [st1'] at ht
              exact ⟨t, ht⟩)
            have gk4 := (o4.get (getM_lt gk3)).trans gk3
            have gb4 := (o4.get (getM_lt gb3)).trans gb3
            have gx4 := (o4.get lx).trans gx
            have rt := get_at0 J4.gt
            simp (decide := true) (implicitDefEqProofs := false) (maxDischargeDepth := 20) only [go_sem, rt, ↓reduceIte, true_implies, false_implies]
            rw [ea]
            obtain ⟨tg, gs4⟩ := J4.gs
            rw [hcur] at gs4
            by_cases hfit : fitsG g
            · have hok' : ∀ x ∈ st.1 ++ [g], fitsG x := fun x hx => by
                rcases List.mem_append.1 hx with hx | hx
                · exact hok x hx
                · rw [List.mem_singleton.1 hx]; exact hfit
              refine Tell_some (s := g.2) gk4 gb4 hgl (by omega) ⟨tg, gs4⟩ hfit J4.gy hbk hbs hby fun m5 z5 k5 g5 => ?_
              have z4 := o24.size
              have k25 : ∀ i, i < m2.size → i ≠ b → m5.get i = m2.get i := fun i hi hne => by rw [k5 i (by omega) hne, o24.get hi]
              have lA1 : ∀ i, A1 i → i < m2.size := fun i hi => hlt i (J.sub i hi)
              have zb : Z b = none := (o1 b hAb).2.1
              have fz5 : Frozen Z m5 := fun i c hi => by
                rw [k25 i (z1.lt hi) (fun e => by rw [e, zb] at hi; cases hi)]
                exact z1 i c hi
              have hol : (outT g).length = kn + 1 := by unfold outT; rw [List.length_append, hgl]; rfl
              refine (step st.1.length _ m5 A1 (fun i => i = b) (hct.1 hfit).2 fz5 (fun i hi => ⟨by have := lA1 i hi; omega, (o1 i (J.sub i hi)).2⟩) (fun i hi => by rw [hi]; exact ⟨by omega, (o1 b hAb).2⟩) (fun i hi e => nAb (e ▸ hi)) (fun i hi => by have := (hF i hi).1; omega) trivial
                (lI _ m2 m5 A1 hI (fun i hi => k25 i (lA1 i hi) fun e => nAb (e ▸ hi)) (by omega)) (.inl ⟨g, b, (hct.1 hfit).1, by rw [hol], g5, fun i => Iff.rfl⟩)).mono ?_
              rintro w m6 ⟨A2, c1, c2, hw⟩
              have z6 := c1.size
              have g6 : ∀ i, i < m5.size → ¬ A1 i → i ≠ b → m6.get i = m5.get i := fun i hi h1 h2 => c1.get i hi fun e => e.elim h1 h2
              have c26 : ChgS (fun i => A' i ∨ B i) m2 m6 := ⟨by omega, fun i hi hna => by
                have nb : i ≠ b := fun e => hna (.inl (e ▸ hAb))
                rw [g6 i (by omega) (fun h => hna (.inl (J.sub i h))) nb, k25 i hi nb]⟩
              have n26 : NewS (fun i => A' i ∨ B i) m2 m6 A2 := fun i hi => ⟨(c2 i hi).1, by
                rcases (c2 i hi).2 with (h | h) | h
                · exact .inl (.inl (J.sub i h))
                · rw [h]; exact .inl (.inl hAb)
                · exact .inr (by omega)⟩
              have nA2 : ∀ i, i < m5.size → ¬ A1 i → i ≠ b → ¬ A2 i := fun i hi h1 h2 h => by
                rcases (c2 i h).2 with (h | h) | h
                · exact h1 h
                · exact h2 h
                · omega
              have m4z : xb < m4.size := by have := o4.size; omega
              rcases hw with ⟨rfl, hI2⟩ | ⟨rfl, hD⟩
              · have gk6 : m6.get kb = _ := (g6 kb (by omega) J.ak.2 (Ne.symm hbk)).trans ((k5 kb (by omega) (Ne.symm hbk)).trans gk4)
                have gs6 : m6.get sb = _ := (g6 sb (by omega) J.as_.2 (Ne.symm hbs)).trans ((k5 sb (by omega) (Ne.symm hbs)).trans gs4)
                obtain ⟨A3, Aq, q1, q2, q3⟩ := reset m6 A2 (st.1.length + 1) _ _ _ tg hI2 ((g6 yb (by omega) J.ay.2 (Ne.symm hby)).trans ((k5 yb (by omega) (Ne.symm hby)).trans J4.gy)) ((g6 tb (by omega) J.at_.2 (Ne.symm hbt)).trans ((k5 tb (by omega) (Ne.symm hbt)).trans J4.gt)) gk6 gs6
                  (nA2 _ (by omega) J.ay.2 (Ne.symm hby)) (nA2 _ (by omega) J.ak.2 (Ne.symm hbk)) (nA2 _ (by omega) J.as_.2 (Ne.symm hbs)) (nA2 _ (by omega) J.at_.2 (Ne.symm hbt)) (nA2 _ (by omega) nx1 (by omega)) c26 n26 ((g6 xb (by omega) nx1 (by omega)).trans ((k5 xb m4z (by omega)).trans gx4))
                have nks : ¬ sb = kb := by omega
                simp only [Wc, curS] at gs6
                have ls6 := getM_lt gs6
                have el : (st.1 ++ [g]).length = st.1.length + 1 := by simp
                simp (decide := true) (implicitDefEqProofs := false) (maxDischargeDepth := 20) only [go_sem, gk6, gs6, nks, ls6, st1', el, ↓reduceIte, true_implies, false_implies]
                exact ⟨A3, Aq, (keyV key rxs, 0), hok', q1, q2, q3, rfl⟩
              · simp (decide := true) (implicitDefEqProofs := false) (maxDischargeDepth := 20) only [go_sem, st1', ↓reduceIte, true_implies, false_implies]
                exact ⟨A2, c26, n26, A2, .inl ⟨_, hN ▸ (hct.1 hfit).2, hD⟩, fun i hi => hi⟩
            · obtain ⟨hc1, hc2⟩ := hct.2 hfit
              rw [← hN] at hc2
              refine Tell_bad (s := g.2) gk4 ⟨tg, gs4⟩ hgb hfit J4.gy fun m5 o45 => ?_
              have o25 := o24.trans o45
              have z25 := o25.size
              have lA1 : ∀ i, A1 i → i < m2.size := fun i hi => hlt i (J.sub i hi)
              refine (step st.1.length _ m5 A1 none' (by omega) (z1.old o25) (fun i hi => ⟨by have := lA1 i hi; omega, (o1 i (J.sub i hi)).2⟩) (fun i hi => hi.elim) (fun i hi e => e) (fun i hi => by have := (hF i hi).1; omega) trivial
                (lI _ m2 m5 A1 hI (fun i hi => o25.get (lA1 i hi)) z25) (.inr ⟨hc1, rfl, fun i h => h⟩)).mono ?_
              rintro w m6 ⟨A2, c1, c2, hw⟩
              have z6 := c1.size
              have c26 : ChgS (fun i => A' i ∨ B i) m2 m6 := ⟨by omega, fun i hi hna => by
                rw [c1.get i (by omega) (fun e => e.elim (fun h => hna (.inl (J.sub i h))) fun h => h.elim), o25.get hi]⟩
              have n26 : NewS (fun i => A' i ∨ B i) m2 m6 A2 := fun i hi => ⟨(c2 i hi).1, by
                rcases (c2 i hi).2 with (h | h) | h
                · exact .inl (.inl (J.sub i h))
                · exact h.elim
                · exact .inr (by omega)⟩
              simp (decide := true) (implicitDefEqProofs := false) (maxDischargeDepth := 20) only [go_sem, st1', ↓reduceIte, true_implies, false_implies]
              refine ⟨A2, c26, n26, A2, ?_, fun i hi => hi⟩
              rcases hw with ⟨rfl, hI2⟩ | ⟨rfl, hD⟩
              · exact .inr (by rw [hc2]; exact hI2)
              · exact .inl ⟨_, by omega, hD⟩
    · rintro m' A' z' o' - ⟨hok, A1, hI, J⟩ c1 c2
      rw [show n = xss.length from hxl.symm, List.take_length] at hI J hok
      have hlt : ∀ i, A' i → i < m'.size := fun i hi => (o' i hi).1
      have lA1 : ∀ i, A1 i → i < m'.size := fun i hi => hlt i (J.sub i hi)
      have ea : (#[] ++ #[] ++ #[ptr kb, ptr sb, ptr yb] : Array Value) = [ptr kb, ptr sb, ptr yb].toArray := by simp
      have rt := get_at0 J.gt
      have c1s := c1.size
      have hos := ho.size
      -- what is left, seen from ahead of the boxes
      have outC : ∀ i, i < m.size → ¬ (A i ∨ F i) → m'.get i = m.get i := fun i hi hna => by
        rw [c1.get i (by omega) (by
          rintro ((h | h) | h)
          · exact hna (.inl h)
          · omega
          · exact hna (.inr h)), ho.get hi]
      have outN : ∀ i, A' i → A i ∨ m.size ≤ i := fun i hi => by
        rcases (c2 i hi).2 with (h | h) | h
        · exact .inl h
        · exact .inr (by omega)
        · exact .inr (by omega)
      simp (decide := true) (implicitDefEqProofs := false) (maxDischargeDepth := 20) only [go_sem, rt, ↓reduceIte, true_implies, false_implies]
      rw [ea]
      cases hcur : (stT key col xss).2 with
      | none =>
        rw [hcur] at J
        have gk : m'.get kb = some (.cells false true [.slice none 0 0]) := J.gk
        refine (Tell_nil gk).mono ?_
        rintro w m6 ⟨rfl, o6⟩
        have el : N = (stT key col xss).1.length := by rw [hN]; unfold totL; rw [hcur]; exact (cut_all (l := (stT key col xss).1) hok)
        simp (decide := true) (implicitDefEqProofs := false) (maxDischargeDepth := 20) only [go_sem, el, ↓reduceIte, true_implies, false_implies]
        have o6s := o6.size
        exact ⟨A1, ⟨by omega, fun i hi hna => by rw [o6.get (by omega), outC i hi hna]⟩, fun i hi => ⟨by have := lA1 i hi; omega, outN i (J.sub i hi)⟩, .inl ⟨trivial, lI _ m' m6 A1 hI (fun i hi => o6.get (lA1 i hi)) o6s⟩⟩
      | some g =>
        rw [hcur] at J
        obtain ⟨b, gk3, gb3, hAb, nAb, hbk, hbs, hby, hbt⟩ := J.gk
        obtain ⟨tg, gs4⟩ := J.gs
        have hgl := stT_len key col xss g hcur
        have hkl : key.length = kn := by have := (hks m' z').len; simpa using this
        have lb := hlt _ hAb
        have eT : totL key col xss = (stT key col xss).1 ++ [g] := by unfold totL; rw [hcur]; rfl
        have hat : (totL key col xss)[(stT key col xss).1.length]? = some g := by rw [eT]; simp
        have hgb := hb g (List.mem_of_getElem? hat)
        have hct := cut_at (l := totL key col xss) (pre := (stT key col xss).1) (g := g) hok ⟨[], by rw [eT, List.append_nil]⟩
        by_cases hfit : fitsG g
        · refine Tell_some (s := g.2) gk3 gb3 rfl (by omega) ⟨tg, gs4⟩ hfit J.gy hbk hbs hby fun m5 z5 k5 g5 => ?_
          have zb : Z b = none := (o' b hAb).2.1
          have fz5 : Frozen Z m5 := fun i c hi => by
            rw [k5 i (z'.lt hi) (fun e => by rw [e, zb] at hi; cases hi)]
            exact z' i c hi
          have hol : (outT g).length = g.1.length + 1 := by unfold outT; rw [List.length_append]; rfl
          refine (step (stT key col xss).1.length _ m5 A1 (fun i => i = b) (hct.1 hfit).2 fz5 (fun i hi => ⟨by have := lA1 i hi; omega, (o' i (J.sub i hi)).2⟩) (fun i hi => by rw [hi]; exact ⟨by omega, (o' b hAb).2⟩) (fun i hi e => nAb (e ▸ hi)) (fun i hi => by have := (hF i hi).1; omega) trivial
            (lI _ m' m5 A1 hI (fun i hi => k5 i (lA1 i hi) fun e => nAb (e ▸ hi)) (by omega)) (.inl ⟨g, b, (hct.1 hfit).1, by rw [hol], g5, fun i => Iff.rfl⟩)).mono ?_
          rintro w m6 ⟨A2, d1, d2, hw⟩
          have z6 := d1.size
          have el : N = (stT key col xss).1.length + 1 := by rw [hN, eT, cut_pre _ _ hok]; simp [cutT, hfit]
          have fin : ChgS (fun i => A i ∨ F i) m m6 ∧ NewS A m m6 A2 := by
            refine ⟨⟨by omega, fun i hi hna => ?_⟩, fun i hi => ⟨(d2 i hi).1, ?_⟩⟩
            · have nA : ∀ x, A' x → i = x → False := fun x hx e => by
                subst e
                rcases outN i hx with h | h
                · exact hna (.inl h)
                · omega
              rw [d1.get i (by omega) (fun e => e.elim (fun h => nA i (J.sub i h) rfl) fun h => nA b hAb h), k5 i (by omega) (fun h => nA b hAb h), outC i hi hna]
            · rcases (d2 i hi).2 with (h | h) | h
              · exact outN i (J.sub i h)
              · rw [h]; exact outN b hAb
              · exact .inr (by omega)
          rcases hw with ⟨rfl, hI2⟩ | ⟨rfl, hD⟩
          · simp (decide := true) (implicitDefEqProofs := false) (maxDischargeDepth := 20) only [go_sem, el, ↓reduceIte, true_implies, false_implies]
            exact ⟨A2, fin.1, fin.2, .inl ⟨trivial, hI2⟩⟩
          · simp (decide := true) (implicitDefEqProofs := false) (maxDischargeDepth := 20) only [go_sem, el, ↓reduceIte, true_implies, false_implies]
            exact ⟨A2, fin.1, fin.2, .inr ⟨_, Nat.lt_succ_self _, trivial, hD⟩⟩
        · obtain ⟨hc1, hc2⟩ := hct.2 hfit
          rw [← hN] at hc2
          refine Tell_bad (s := g.2) gk3 ⟨tg, gs4⟩ hgb hfit J.gy fun m5 o5 => ?_
          have z5 := o5.size
          refine (step (stT key col xss).1.length _ m5 A1 none' (by omega) (z'.old o5) (fun i hi => ⟨by have := lA1 i hi; omega, (o' i (J.sub i hi)).2⟩) (fun i hi => hi.elim) (fun i hi e => e) (fun i hi => by have := (hF i hi).1; omega) trivial
            (lI _ m' m5 A1 hI (fun i hi => o5.get (lA1 i hi)) z5) (.inr ⟨hc1, rfl, fun i h => h⟩)).mono ?_
          rintro w m6 ⟨A2, d1, d2, hw⟩
          have z6 := d1.size
          have fin : ChgS (fun i => A i ∨ F i) m m6 ∧ NewS A m m6 A2 := by
            refine ⟨⟨by omega, fun i hi hna => ?_⟩, fun i hi => ⟨(d2 i hi).1, ?_⟩⟩
            · have nA : ∀ x, A' x → i = x → False := fun x hx e => by
                subst e
                rcases outN i hx with h | h
                · exact hna (.inl h)
                · omega
              rw [d1.get i (by omega) (fun e => e.elim (fun h => nA i (J.sub i h) rfl) fun h => h.elim), o5.get (by omega), outC i hi hna]
            · rcases (d2 i hi).2 with (h | h) | h
              · exact outN i (J.sub i h)
              · exact h.elim
              · exact .inr (by omega)
          rcases hw with ⟨rfl, hI2⟩ | ⟨rfl, hD⟩
          · simp (decide := true) (implicitDefEqProofs := false) (maxDischargeDepth := 20) only [go_sem, ↓reduceIte, true_implies, false_implies]
            exact ⟨A2, fin.1, fin.2, .inl ⟨trivial, by rw [hc2]; exact hI2⟩⟩
          · simp (decide := true) (implicitDefEqProofs := false) (maxDischargeDepth := 20) only [go_sem, ↓reduceIte, true_implies, false_implies]
            exact ⟨A2, fin.1, fin.2, .inr ⟨_, by omega, trivial, hD⟩⟩
    · rintro k x m' A' hk z' o' - hx ⟨rfl, A1, hD, hsub⟩ c1 c2
      simp (decide := true) (implicitDefEqProofs := false) (maxDischargeDepth := 20) only [go_sem, ↓reduceIte, true_implies, false_implies]
      refine ⟨A1, ⟨by have := c1.size; have := ho.size; omega, fun i hi hna => ?_⟩, fun i hi => ?_, hD.elim (fun ⟨j, hj, h⟩ => .inr ⟨j, hj, trivial, h⟩) fun h => .inl ⟨trivial, h⟩⟩
      · rw [c1.get i (by omega) (by
          rintro ((h | h) | h)
          · exact hna (.inl h)
          · omega
          · exact hna (.inr h)), ho.get hi]
      · have := c2 i (hsub i hi)
        refine ⟨this.1, ?_⟩
        rcases this.2 with (h | h) | h
        · exact .inl h
        · exact .inr (by omega)
        · exact .inr (by omega)


/-! ### SumL -/

abbrev ORow := Option (List Int)
def oT (cs : List (Option Grp)) : List ORow := cs.map (Option.map outT)

theorem cut_len : ∀ l : List Grp, (cutT l).length ≤ l.length
  | [] => Nat.le_refl _
  | g :: l => by
    show (if fitsG g then some g :: cutT l else [none]).length ≤ _
    have := cut_len l
    split <;> simp <;> omega
theorem cut_mem : ∀ {l : List Grp} {g : Grp}, some g ∈ cutT l → fitsG g ∧ g ∈ l
  | [], g, h => by cases h
  | x :: l, g, h => by
    have h : some g ∈ (if fitsG x then some x :: cutT l else [none]) := h
    split at h
    · rename_i hx
      rcases List.mem_cons.1 h with h | h
      · cases h; exact ⟨hx, List.mem_cons_self⟩
      · have := cut_mem h
        exact ⟨this.1, List.mem_cons_of_mem _ this.2⟩
    · simp at h

def PRes (outs : List ORow) (w : Value) (m : Mem) : Prop :=
  (∃ ao os, outs = (os : List HRow).map (fun r => some r.xs) ∧ w = .tuple #[.slice ao os.length os.length, .bool true] ∧ SlA m 1 ao os.length os.length (os.map HRow.v) ∧ ∀ r ∈ os, r.At m) ∨
  (none ∈ outs ∧ w = .tuple #[.slice none 0 0, .bool false])

/-- The rows that are told, in a list; the boxes of the answer. -/
structure PLJ (outs : List ORow) (ob xb kb k : Nat) (m : Mem) (A A0 : Set') (ag : Option Addr) (gs : List HRow) : Prop where
  l : ListJ 0 ob (gs.map HRow.xs) m A0 ag gs
  pre : outs.take k = gs.map fun r => some r.xs
  gx : cap1 m xb (.slice none 0 0)
  gk : cap1 m kb (.bool false)
  iff : ∀ i, A i ↔ A0 i ∨ i = xb ∨ i = kb
  nx : ¬ A0 xb
  nk : ¬ A0 kb
def PLJ' (outs : List ORow) (ob xb kb : Nat) (k : Nat) (m : Mem) (A : Set') : Prop := ∃ A0 ag gs, PLJ outs ob xb kb k m A A0 ag gs
theorem PLJ'.loc (outs : List ORow) (ob xb kb k : Nat) : LocP (PLJ' outs ob xb kb k) := by
  rintro m m' A ⟨A0, ag, gs, h⟩ hk hs
  have l := h.l
  refine ⟨A0, ag, gs, ?_, h.pre, (hk _ ((h.iff _).2 (.inr (.inl rfl)))).trans h.gx, (hk _ ((h.iff _).2 (.inr (.inr rfl)))).trans h.gk, h.iff, h.nx, h.nk⟩
  have k0 : ∀ i, A0 i → m'.get i = m.get i := fun i hi => hk i ((h.iff i).2 (.inl hi))
  exact ⟨(k0 _ l.ao).trans l.box, l.vec.keep fun x hx => k0 _ (l.own x hx).1, l.xs, fun g hg => (l.row g hg).keep fun x hx _ => k0 _ (l.blk g hg x hx).1, l.blk, l.own, l.ao⟩
def PLD (outs : List ORow) (xb kb : Nat) (k : Nat) (x : Exit) (m : Mem) (A : Set') : Prop := x = .ret ∧ none ∈ outs ∧ cap1 m xb (.slice none 0 0) ∧ cap1 m kb (.bool false) ∧ A xb ∧ A kb
theorem PLD.loc (outs : List ORow) (xb kb k : Nat) (x : Exit) : LocP (PLD outs xb kb k x) := fun m m' A ⟨h1, h2, h3, h4, h5, h6⟩ hk _ => ⟨h1, h2, (hk _ h5).trans h3, (hk _ h6).trans h4, h5, h6⟩

set_option maxRecDepth 100000 in
set_option maxHeartbeats 8000000 in
theorem Tot_range {m : Mem} {t : Fr} {s : Value} {ob xb kb : Nat} {cs : List (Option Grp)} (it : Iter E (butL m [ob, xb, kb]) none' s cs.length anyO (cutEl cs)) (hN : cs.length ≤ 100000) (hfo : ∀ g, some g ∈ cs → ∀ x ∈ outT g, -9223372036854775808 ≤ x ∧ x < 9223372036854775808)
    (gO : cap1 m ob (.slice none 0 0)) (gX : cap1 m xb (.slice none 0 0)) (gK : cap1 m kb (.bool false)) (hne : ob ≠ xb ∧ ob ≠ kb ∧ xb ≠ kb)
    (t19 : t 19 = s) (t8 : t 8 = ptr ob) (t6 : t 6 = ptr xb) (t7 : t 7 = ptr kb) {K : Post3}
    (hK : ∀ m' A, PLJ' (oT cs) ob xb kb cs.length m' A → m.size ≤ m'.size → (∀ i, i < m.size → i ≠ ob → i ≠ xb → i ≠ kb → m'.get i = m.get i) → (∀ i, A i → i = ob ∨ i = xb ∨ i = kb ∨ m.size ≤ i) → K .normal t m')
    (hK' : ∀ m', none ∈ oT cs → cap1 m' xb (.slice none 0 0) → cap1 m' kb (.bool false) → m.size ≤ m'.size → (∀ i, i < m.size → i ≠ ob → i ≠ xb → i ≠ kb → m'.get i = m.get i) → K .ret t m') :
    wpM E F_sheaflaw19_total 29 none c_sheaflaw19_total_10 K t m := by
  simp only [c_sheaflaw19_total_10_at, wpM_block, c_sheaflaw19_total_9_at]
  have lO := getM_lt gO
  have lX := getM_lt gX
  have lK := getM_lt gK
  refine wpM_rangeP (A := fun i => i = ob ∨ i = xb ∨ i = kb) it (fun t => upd (upd t 10 (t 20)) 11 (t 21)) (by simp (decide := true) only [go_sem, t19, ↓reduceIte]) rfl asg_sheaflaw19_total_0 body_sheaflaw19_total_0 (by decide) (fun K l t m h => by simp (decide := true) only [go_sem, ↓reduceIte]; exact h)
    (PLJ' (oT cs) ob xb kb) (PLD (oT cs) xb kb) (PLJ'.loc (oT cs) ob xb kb) (PLD.loc (oT cs) xb kb) (butL_frozen _ _) (fun i hi => ⟨by rcases hi with rfl | rfl | rfl <;> assumption, butL_no (by simpa using hi), fun h => h.elim⟩) (fun i hi => hi.elim) trivial
    ⟨fun i => i = ob, none, [], ⟨gO, .nil _ _ _, rfl, (fun g h => by simp at h), (fun g h => by simp at h), (fun y h => by cases h), rfl⟩, by simp, gX, gK, fun i => Iff.rfl, hne.1.symm, hne.2.1.symm⟩ ?_ ?_ ?_
  · rintro k vs m4 A B l hk z4 oA oB dis - ⟨A0, ag, gs, J⟩ hel hin hms
    have lA : ∀ i, A i → i < m4.size := fun i hi => (oA i hi).1
    have hax : A xb := (J.iff _).2 (.inr (.inl rfl))
    have hak : A kb := (J.iff _).2 (.inr (.inr rfl))
    rcases hel with ⟨g, b, hat', rfl, gb, hB⟩ | ⟨hat', rfl, hB⟩
    · refine ⟨rfl, ?_⟩
      have hat : (oT cs)[k]? = some (some (outT g)) := by simp [oT, hat']
      have hfit := hfo g (List.mem_of_getElem? hat')
      have hlk : k < cs.length := (List.getElem?_eq_some_iff.1 hat').1
      generalize outT g = r at *
      have rO := get_at0 J.l.box
      have hgl : gs.length = k := by
        have := congrArg List.length J.pre
        simp [oT] at this
        omega
      simp (decide := true) (implicitDefEqProofs := false) (maxDischargeDepth := 20) only [go_sem, t8, t6, t7, rO, ↓reduceIte, true_implies, false_implies]
      refine J.l.vec.append1' (Nat.zero_le _) rfl (by decide) (by decide +kernel) (by decide +kernel) rfl (by omega) fun m5 b5 s5 v5 k5 hb5 => ?_
      have gO5 : m5.get ob = _ := (k5.2 ob (getM_lt J.l.box) fun y hy e => (J.l.own y hy).2 e.symm).trans J.l.box
      simp (decide := true) (implicitDefEqProofs := false) (maxDischargeDepth := 20) only [go_sem, t8, t6, t7, gO5, ↓reduceIte, true_implies, false_implies]
      have hrow : (⟨some ⟨b, 0, none⟩, r.length, r.length, r⟩ : HRow).At m4 := ⟨.new gb (by simp) rfl, rfl, hfit⟩
      obtain ⟨J', T⟩ := J.l.more (B := B) hrow (fun i hi => lA i ((J.iff i).2 (.inl hi))) (fun i hi => (oB i hi).1) (fun i hi => dis i ((J.iff i).2 (.inl hi))) (fun x hx => by cases hx; exact (hB _).2 rfl) v5 k5 hb5 rfl
      have s45 := k5.1
      have lx4 := lA _ hax
      have lk4 := lA _ hak
      have gx6 : ∀ i, i < m4.size → i ≠ ob → (∀ y, ag = some y → i ≠ y.block) → (m5.put ob (some (.cells false true [.slice (some ⟨b5, 0, s5⟩) (gs.length + 1) (gs.length + 1)]))).get i = m4.get i := fun i hi h1 h2 => by rw [getM_put, if_neg (fun e => h1 e.1), k5.2 i hi h2]
      have nag : ∀ i, ¬ A0 i → ∀ y, ag = some y → i ≠ y.block := fun i hi y hy e => hi (e ▸ (J.l.own y hy).1)
      refine ⟨fun i => ((A0 i ∨ B i) ∨ i = b5) ∨ i = xb ∨ i = kb, T.c.mono fun i hi => hi.imp (fun h => (J.iff i).2 (.inl h)) fun h => h, fun i hi => ?_, fun i => (A0 i ∨ B i) ∨ i = b5, some ⟨b5, 0, s5⟩, gs ++ [⟨some ⟨b, 0, none⟩, r.length, r.length, r⟩], ⟨by rw [List.map_append]; exact J', ?_, (gx6 xb lx4 hne.1.symm (nag xb J.nx)).trans J.gx, (gx6 kb lk4 hne.2.1.symm (nag kb J.nk)).trans J.gk, fun i => Iff.rfl, ?_, ?_⟩⟩
      · rcases hi with hi | rfl | rfl
        · have := T.n i hi
          exact ⟨this.1, this.2.imp (fun h => h.imp (fun h => (J.iff i).2 (.inl h)) fun h => h) fun h => h⟩
        · exact ⟨by rw [size_put]; omega, .inl (.inl hax)⟩
        · exact ⟨by rw [size_put]; omega, .inl (.inl hak)⟩
      · obtain ⟨hlt, he⟩ := List.getElem?_eq_some_iff.1 hat
        rw [List.take_succ_eq_append_getElem hlt, List.map_append, J.pre, he]
        rfl
      · rintro ((h | h) | h)
        · exact J.nx h
        · exact dis _ hax h
        · omega
      · rintro ((h | h) | h)
        · exact J.nk h
        · exact dis _ hak h
        · omega
    · refine ⟨rfl, ?_⟩
      have hat : (oT cs)[k]? = some none := by simp [oT, hat']
      have gX4 : m4.get xb = some (.cells false true [.slice none 0 0]) := J.gx
      have gK4 : m4.get kb = some (.cells false true [.bool false]) := J.gk
      have lx4 := lA _ hax
      have lk4 := lA _ hak
      have nkx : ¬ kb = xb := fun e => hne.2.2 e.symm
      simp (decide := true) (implicitDefEqProofs := false) (maxDischargeDepth := 20) only [go_sem, t8, t6, t7, gX4, gK4, lx4, lk4, nkx, ↓reduceIte, true_implies, false_implies]
      refine ⟨A, ⟨by rw [size_put, size_put]; exact Nat.le_refl _, fun i hi hna => ?_⟩, fun i hi => ⟨by rw [size_put, size_put]; exact lA i hi, .inl (.inl hi)⟩, .inl trivial, rfl, List.mem_of_getElem? hat, ?_, ?_, hax, hak⟩
      · rw [getM_put, if_neg (fun e => hna (.inl (by rw [e.1]; exact hak))), getM_put, if_neg (fun e => hna (.inl (by rw [e.1]; exact hax)))]
      · unfold cap1
        rw [getM_put, if_neg (fun e => hne.2.2 e.1), getM_put, if_pos ⟨rfl, lx4⟩]
      · unfold cap1
        rw [getM_put, if_pos ⟨rfl, by rw [size_put]; exact lk4⟩]
  · rintro m' A' z' o' - J c1 c2
    simp (decide := true) (implicitDefEqProofs := false) (maxDischargeDepth := 20) only [go_sem, ↓reduceIte, true_implies, false_implies]
    refine hK m' A' J c1.size (fun i hi h1 h2 h3 => c1.get i hi fun e => ?_) fun i hi => ?_
    · rcases e with (e | e | e) | e
      · exact h1 e
      · exact h2 e
      · exact h3 e
      · exact e
    · rcases (c2 i hi).2 with (e | e | e) | e
      · exact .inl e
      · exact .inr (.inl e)
      · exact .inr (.inr (.inl e))
      · exact .inr (.inr (.inr e))
  · rintro k x m' A' hk z' o' - hx ⟨rfl, h2, h3, h4, _⟩ c1 c2
    simp (decide := true) (implicitDefEqProofs := false) (maxDischargeDepth := 20) only [go_sem, ↓reduceIte, true_implies, false_implies]
    refine hK' m' h2 h3 h4 c1.size fun i hi h1 h2 h3 => c1.get i hi fun e => ?_
    rcases e with (e | e | e) | e
    · exact h1 e
    · exact h2 e
    · exact h3 e
    · exact e


set_option maxRecDepth 100000 in
set_option maxHeartbeats 8000000 in
theorem TotG_at {m : Mem} {a : Option Addr} {n c : Nat} {rs : List HRow} (h : SlA m 1 a n c (rs.map HRow.v)) (hr : ∀ r ∈ rs, r.At m) (hn : n ≤ 1000) {key : List Nat} {col : Nat} {ka : Option Addr} {kn kc : Nat} (hk : SlA m 1 ka kn kc (key.map natV)) (hkn : kn ≤ 100)
    (hb : ∀ g ∈ totL key col (rs.map HRow.xs), (-170141183460469231731687303715884105728 ≤ g.2 ∧ g.2 < 170141183460469231731687303715884105728) ∧ ∀ x ∈ g.1, -9223372036854775808 ≤ x ∧ x < 9223372036854775808) :
    CallQ E F_sheaflaw19_total [.slice a n c, natV col, .slice ka kn kc].toArray m fun w m' => PRes (oT (cutT (totL key col (rs.map HRow.xs)))) w m' ∧ Old m m' := by
  have hl : rs.length = n := by have := h.len; simpa using this
  refine .enter fn_sheaflaw19_total (by simp) ?_
  simp (decide := true) (implicitDefEqProofs := false) (maxDischargeDepth := 20) only [go_sem, ↓reduceIte, true_implies, false_implies]
  refine box3 (fun mm => CallQ E _ _ mm _) m _ _ _ fun m1 g1 g2 g3 o1 hs1 => ?_
  obtain ⟨xb, hxb⟩ : ∃ b, b = m.size := ⟨_, rfl⟩
  obtain ⟨kb, hkb⟩ : ∃ b, b = m.size + 1 := ⟨_, rfl⟩
  obtain ⟨ob, hob⟩ : ∃ b, b = m.size + (1 + 1) := ⟨_, rfl⟩
  rw [← hob] at g3 ⊢
  rw [← hkb] at g2 ⊢
  rw [← hxb] at g1 ⊢
  refine (From_at).mono ?_
  rintro w m2 ⟨bv, rfl, cv, hbv, o2⟩
  simp (decide := true) (implicitDefEqProofs := false) (maxDischargeDepth := 20) only [go_sem, ↓reduceIte, true_implies, false_implies]
  refine (STotal_at).mono ?_
  rintro w m3 ⟨b1, b2, b3, rfl, c1, c2, c3, hb1, hb2, hb3, o3⟩
  simp (decide := true) (implicitDefEqProofs := false) (maxDischargeDepth := 20) only [go_sem, ↓reduceIte, true_implies, false_implies]
  have o13 := o2.trans o3
  have o03 := o1.trans o13
  have z2 := o2.size
  have z3 := o3.size
  have gx3 := (o13.get (getM_lt g1)).trans g1
  have gk3 := (o13.get (getM_lt g2)).trans g2
  have go3 : cap1 m3 ob (.slice none 0 0) := (o13.get (getM_lt g3)).trans g3
  have lo3 := getM_lt go3
  have lrow : ∀ r ∈ rs, ∀ b, r.ad = some b → r.xs ≠ [] → b.block < m.size := fun r hm b hb hx => ((hr r hm).sl.rows b hb (by simpa using hx)).lt
  have hR := rows_getD (l := [ob, xb, kb]) (fun r hm => (hr r hm).old o03) (fun r hm b hb hx => by have := lrow r hm b hb hx; simp; omega)
  have no3 : ∀ b, m1.size ≤ b → b ∉ [ob, xb, kb] := fun b hb => by simp; omega
  have it := TotalF (key := key) (col := col) (F := none') (ValuesR (n := n) (butL_at (cv.old o3) (no3 _ hbv)) (fun m' z => sla_but (h.old o03) z fun b hb hx => by have := (h.rows b hb hx).lt; simp; omega) (by omega)) hR hl
    (fun m' z => sla_but (hk.old o03) z fun b hb hx => by have := (hk.rows b hb hx).lt; simp; omega) hkn (butL_at c1 (no3 _ (by omega))) (butL_at c2 (no3 _ (by omega))) (butL_at c3 (no3 _ (by omega))) (fun g hg => (hb g hg).1)
  obtain ⟨cs, hcs⟩ : ∃ x, x = cutT (totL key col (rs.map HRow.xs)) := ⟨_, rfl⟩
  have hcl : cs.length ≤ 100000 := by
    have h1 := cut_len (totL key col (rs.map HRow.xs))
    have h2 := totL_len key col (rs.map HRow.xs)
    rw [List.length_map] at h2
    rw [hcs]
    omega
  have hfo : ∀ g, some g ∈ cs → ∀ x ∈ outT g, -9223372036854775808 ≤ x ∧ x < 9223372036854775808 := fun g hg x hx => by
    rw [hcs] at hg
    obtain ⟨h1, h2⟩ := cut_mem hg
    unfold outT at hx
    rcases List.mem_append.1 hx with hx | hx
    · exact (hb g h2).2 x hx
    · rw [List.mem_singleton.1 hx]; exact h1
  rw [← hcs] at it ⊢
  have gX3 : cap1 m3 xb (.slice none 0 0) := gx3
  have gK3 : cap1 m3 kb (.bool false) := gk3
  refine Tot_range it hcl hfo go3 gX3 gK3 (by omega) (by simp (decide := true) only [go_sem, ↓reduceIte]) (by simp (decide := true) only [go_sem, ↓reduceIte]) (by simp (decide := true) only [go_sem, ↓reduceIte]) (by simp (decide := true) only [go_sem, ↓reduceIte]) (fun m8 A ⟨A0, ag, gs, J⟩ z8 k8 nA8 => ?_) fun m8 hno gX8 gK8 z8 k8 => ?_
  · have l := J.l
    have rO := get_at0 l.box
    have gX8 : m8.get xb = some (.cells false true [.slice none 0 0]) := J.gx
    have gK8 : m8.get kb = some (.cells false true [.bool false]) := J.gk
    have lx8 := getM_lt gX8
    have lk8 := getM_lt gK8
    have nkx : ¬ kb = xb := by omega
    have nxk : ¬ xb = kb := by omega
    have pre := J.pre
    have hol : (oT cs).length = cs.length := by unfold oT; rw [List.length_map]
    rw [← hol, List.take_length] at pre
    simp (decide := true) (implicitDefEqProofs := false) (maxDischargeDepth := 20) only [go_sem, rO, gX8, gK8, lx8, lk8, nkx, nxk, ↓reduceIte, true_implies, false_implies]
    have gp : ∀ i, i ≠ xb → i ≠ kb → ((m8.put xb (some (.cells false true [.slice ag gs.length gs.length]))).put kb (some (.cells false true [.bool true]))).get i = m8.get i := fun i h1 h2 => by
      rw [getM_put, if_neg (fun e => h2 e.1), getM_put, if_neg (fun e => h1 e.1)]
    have nA : ∀ i, A0 i → i ≠ xb ∧ i ≠ kb := fun i hi => ⟨fun e => J.nx (e ▸ hi), fun e => J.nk (e ▸ hi)⟩
    refine ⟨.inl ⟨ag, gs, pre, rfl, l.vec.sl.keep fun x hx _ => gp _ (nA _ (l.own x hx).1).1 (nA _ (l.own x hx).1).2, fun r hr' => (l.row r hr').keep fun x hx _ => gp _ (nA _ (l.blk r hr' x hx).1).1 (nA _ (l.blk r hr' x hx).1).2⟩, .of_get (by rw [size_put, size_put]; have := o03.size; omega) fun i hi => ?_⟩
    have := o03.size
    rw [gp i (by omega) (by omega), k8 i (by omega) (by omega) (by omega) (by omega), o03.get hi]
  · have gX8 : m8.get xb = some (.cells false true [.slice none 0 0]) := gX8
    have gK8 : m8.get kb = some (.cells false true [.bool false]) := gK8
    have rx := get_at0 gX8
    have rk := get_at0 gK8
    have := o03.size
    simp (decide := true) (implicitDefEqProofs := false) (maxDischargeDepth := 20) only [go_sem, rx, rk, ↓reduceIte, true_implies, false_implies]
    refine ⟨.inr ⟨hno, rfl⟩, .of_get (by omega) fun i hi => ?_⟩
    rw [k8 i (by omega) (by omega) (by omega) (by omega), o03.get hi]


/-! ### SumM -/

set_option maxRecDepth 100000 in
theorem rOf_ans (a : Int) (h1 : -9223372036854775808 ≤ a) (h2 : a < 9223372036854775808) : Ans E F_sheafref1_Of [.int .i64 a] (W a) := by
  refine .of fn_sheafref1_Of (by simp) fun m => ?_
  by_cases h : a < 0
  · have d : decide (a < 0) = true := by simpa using h
    simp (decide := true) (implicitDefEqProofs := false) (maxDischargeDepth := 20) only [go_sem, ↓reduceIte, d, W, true_implies, false_implies]
    simp only [wrap_i64, wrap_u64]
    exact pair_eq (by omega) (by omega)
  · have d : decide (a < 0) = false := by simpa using h
    simp (decide := true) (implicitDefEqProofs := false) (maxDischargeDepth := 20) only [go_sem, ↓reduceIte, d, W, true_implies, false_implies]
    simp only [wrap_i64, wrap_u64]
    exact pair_eq (by omega) (by omega)
set_option maxRecDepth 100000 in
theorem rAdd_ans (x y : Int) : Ans E F_sheafref1_Add [W x, W y] (W (x + y)) := by
  refine .of fn_sheafref1_Add (by simp) fun m => ?_
  by_cases h : x % 18446744073709551616 + y % 18446744073709551616 < 18446744073709551616
  · have w1 : IntKind.wrap .u64 (x % 18446744073709551616 + y % 18446744073709551616) = x % 18446744073709551616 + y % 18446744073709551616 := by rw [wrap_u64]; omega
    have d1 : decide (x % 18446744073709551616 + y % 18446744073709551616 < x % 18446744073709551616) = false := by simp; omega
    simp (decide := true) (implicitDefEqProofs := false) (maxDischargeDepth := 20) only [go_sem, ↓reduceIte, W, w1, d1, true_implies, false_implies]
    simp only [wrap_i64]
    exact pair_eq (by omega) (by omega)
  · have w1 : IntKind.wrap .u64 (x % 18446744073709551616 + y % 18446744073709551616) = x % 18446744073709551616 + y % 18446744073709551616 - 18446744073709551616 := by rw [wrap_u64]; omega
    have d1 : decide (x % 18446744073709551616 + y % 18446744073709551616 - 18446744073709551616 < x % 18446744073709551616) = true := by simp; omega
    simp (decide := true) (implicitDefEqProofs := false) (maxDischargeDepth := 20) only [go_sem, ↓reduceIte, W, w1, d1, true_implies, false_implies]
    simp only [wrap_i64]
    exact pair_eq (by omega) (by omega)
set_option maxRecDepth 100000 in
theorem rInt_ans (x : Int) (h : -170141183460469231731687303715884105728 ≤ x) (h' : x < 170141183460469231731687303715884105728) :
    Ans E F_sheafref1_Int [W x] (if -9223372036854775808 ≤ x ∧ x < 9223372036854775808 then .tuple #[.int .i64 x, .bool true] else .tuple #[.int .i64 0, .bool false]) := by
  have o := rOf_ans (IntKind.wrap .i64 (x % 18446744073709551616)) (by rw [wrap_i64]; omega) (by rw [wrap_i64]; omega)
  simp only [W] at o
  refine .of fn_sheafref1_Int (by simp) fun m => ?_
  have u1 := wrap_i64_id (x / 18446744073709551616) (by omega) (by omega)
  by_cases hr : -9223372036854775808 ≤ x ∧ x < 9223372036854775808
  · rw [if_pos hr]
    have e1 : IntKind.wrap .i64 (x % 18446744073709551616) = x := by rw [wrap_i64]; omega
    have d1 : (x / 18446744073709551616 == x / 18446744073709551616) = true := by simp
    rw [e1] at o
    rw [u1] at o
    simp (decide := true) (implicitDefEqProofs := false) (maxDischargeDepth := 20) only [go_sem, ↓reduceIte, W, u1, e1, o.eq, beq_self_eq_true, true_implies, false_implies]
  · rw [if_neg hr]
    obtain ⟨y, hy⟩ : ∃ y, y = IntKind.wrap .i64 (x % 18446744073709551616) := ⟨_, rfl⟩
    rw [← hy] at o
    have hy2 := hy
    rw [wrap_i64] at hy2
    have u2 := wrap_i64_id (y / 18446744073709551616) (by omega) (by omega)
    have d1 : (y / 18446744073709551616 == x / 18446744073709551616) = false := by simp; omega
    rw [u2] at o
    simp (decide := true) (implicitDefEqProofs := false) (maxDischargeDepth := 20) only [go_sem, ↓reduceIte, W, u1, ← hy, o.eq, d1, Bool.false_and, Bool.not_false, true_implies, false_implies]
theorem imap79 : IsIMap E 79 (.bool false) := ⟨_, _, map79, rfl⟩
def seg (rs : List (List Int)) (i k : Nat) : List (List Int) := (rs.take k).drop i
theorem seg_succ (rs : List (List Int)) {i k : Nat} (hi : i ≤ k) (hk : k < rs.length) : seg rs i (k + 1) = seg rs i k ++ [rs[k]] := by
  unfold seg
  rw [List.take_succ_eq_append_getElem hk, List.drop_append_of_le_length (by rw [List.length_take]; omega)]
theorem seg_self (rs : List (List Int)) (i : Nat) : seg rs i i = [] := by unfold seg; rw [List.drop_eq_nil_iff, List.length_take]; omega
theorem wpM_cutX {E : Env} {f n : Nat} {rd : Option Nat} {c : MC} {K : Post3} {t : Fr} {m : Mem} (P : Post3) (h : wpM E f n rd c P t m) (k : ∀ x t' m', Agree (writes c) t t' → P x t' m' → K x t' m') : wpM E f n rd c K t m :=
  wpM_mono c _ _ (fun x t' m' hk => k x t' m' hk.1 hk.2) t m (wpM_agree c t m (.refl _ _) (fun i hi => hi) h)
theorem filter_all {α : Type} {p : α → Bool} {l : List α} (h : ∀ x ∈ l, p x = true) : l.filter p = l := List.filter_eq_self.2 h
theorem filter_no {α : Type} {p : α → Bool} {l : List α} (h : ∀ x ∈ l, p x = false) : l.filter p = [] := List.filter_eq_nil_iff.2 fun x hx => by rw [h x hx]; exact Bool.noConfusion
theorem takeWhile_all {α : Type} (p : α → Bool) : ∀ l : List α, ∀ x ∈ l.takeWhile p, p x = true
  | [], x, h => by simp at h
  | y :: l, x, h => by
    rw [List.takeWhile_cons] at h
    split at h
    · rename_i hy
      rcases List.mem_cons.1 h with rfl | h
      · exact hy
      · exact takeWhile_all p l x h
    · cases h
theorem dropWhile_head {α : Type} (p : α → Bool) : ∀ l : List α, ∀ y t, l.dropWhile p = y :: t → p y = false
  | [], y, t, h => by simp at h
  | z :: l, y, t, h => by
    rw [List.dropWhile_cons] at h
    split at h
    · exact dropWhile_head p l y t h
    · rename_i hz
      cases h
      simpa using hz
theorem take1 (rs : List (List Int)) {i : Nat} (h : i < rs.length) : rs.take (i + 1) = rs.take i ++ [rs.getD i []] := by
  rw [List.take_succ_eq_append_getElem h]; simp [List.getD_eq_getElem?_getD, h]


/-! ### SumN -/

def tS (col : Nat) (l : List (List Int)) : Int := l.foldl (fun a r => a + r.getD col 0) 0
theorem tS_snoc (col : Nat) (l : List (List Int)) (r : List Int) : tS col (l ++ [r]) = tS col l + r.getD col 0 := by unfold tS; rw [List.foldl_append]; rfl
def sK (key : List Nat) (K r : List Int) : Bool := decide (keyV key r = K)
def grpT (key : List Nat) (col : Nat) (rs : List (List Int)) (K : List Int) : Grp := (K, tS col (rs.filter (sK key K)))
def leT (key : List Nat) (a b : List Int) : Prop := cmpL (keyV key a) (keyV key b) [] ≤ 0

theorem fold_same (key : List Nat) (col : Nat) : ∀ (g : List (List Int)) (out : List Grp) (K : List Int) (s : Int), (∀ x ∈ g, keyV key x = K) → g.foldl (stepT key col) (out, some (K, s)) = (out, some (K, g.foldl (fun a r => a + r.getD col 0) s))
  | [], _, _, _, _ => rfl
  | r :: g, out, K, s, h => by
    have e : stepT key col (out, some (K, s)) r = (out, some (K, s + r.getD col 0)) := by
      unfold stepT
      simp only
      rw [if_pos (h r List.mem_cons_self).symm]
    rw [List.foldl_cons, e, List.foldl_cons]
    exact fold_same key col g out K _ fun x hx => h x (List.mem_cons_of_mem _ hx)

theorem tot_groups (key : List Nat) (col : Nat) : ∀ (n : Nat) (ps : List (List Int)), ps.length ≤ n → ps.Pairwise (leT key) → ∃ Ks : List (List Int), Ks.Nodup ∧ (∀ K, K ∈ Ks ↔ ∃ r ∈ ps, keyV key r = K) ∧ Ks.Pairwise (fun a b => cmpL a b [] ≤ 0) ∧
    ∀ st : List Grp × Option Grp, (∀ g, st.2 = some g → ∀ r ∈ ps, keyV key r ≠ g.1) → (ps.foldl (stepT key col) st).1 ++ (ps.foldl (stepT key col) st).2.toList = st.1 ++ st.2.toList ++ Ks.map (grpT key col ps)
  | n, [], _, _ => ⟨[], List.nodup_nil, fun K => ⟨fun h => (by cases h), fun ⟨r, hr, _⟩ => (by cases hr)⟩, .nil, fun st _ => by simp⟩
  | 0, r :: ps, h, _ => by simp at h
  | n + 1, r :: ps, h, hs => by
    obtain ⟨g, hg⟩ : ∃ g, g = ps.takeWhile (fun x => decide (keyV key x = keyV key r)) := ⟨_, rfl⟩
    obtain ⟨tl, htl⟩ : ∃ tl, tl = ps.dropWhile (fun x => decide (keyV key x = keyV key r)) := ⟨_, rfl⟩
    have hps : ps = g ++ tl := by rw [hg, htl]; exact List.takeWhile_append_dropWhile.symm
    have hgk : ∀ x ∈ g, keyV key x = keyV key r := fun x hx => by
      rw [hg] at hx
      simpa using takeWhile_all _ _ x hx
    have hs' := List.pairwise_cons.1 hs
    have hst : tl.Pairwise (leT key) := by
      have := hs'.2
      rw [hps, List.pairwise_append] at this
      exact this.2.1
    have htk : ∀ x ∈ tl, keyV key x ≠ keyV key r := by
      cases ht : tl with
      | nil => exact fun x hx => by cases hx
      | cons y t =>
        have hy : keyV key y ≠ keyV key r := by
          rw [ht] at htl
          simpa using dropWhile_head _ _ y t htl.symm
        rw [ht] at hst
        have hry : leT key r y := hs'.1 y (by rw [hps, ht]; simp)
        intro x hx hxe
        rcases List.mem_cons.1 hx with rfl | hx
        · exact hy hxe
        · have hyx : leT key y x := (List.pairwise_cons.1 hst).1 x hx
          unfold leT at hyx hry
          rw [hxe, cmpL_neg] at hyx
          exact hy ((cmpL_zero _ _ []).1 (by omega)).symm
    have hlen : tl.length ≤ n := by
      have := congrArg List.length hps
      simp only [List.length_append] at this
      simp only [List.length_cons] at h
      omega
    obtain ⟨Ks, hnd, hmem, hpw, hrun⟩ := tot_groups key col n tl hlen hst
    have hnk : keyV key r ∉ Ks := fun hk => by
      obtain ⟨x, hx, he⟩ := (hmem _).1 hk
      exact htk x hx he
    have bo0 : grpT key col (r :: ps) (keyV key r) = (keyV key r, g.foldl (fun a r => a + r.getD col 0) (0 + r.getD col 0)) := by
      unfold grpT
      have e1 : (r :: ps).filter (sK key (keyV key r)) = r :: g := by
        rw [List.filter_cons_of_pos (by unfold sK; simp), hps, List.filter_append, filter_all (fun x hx => by unfold sK; rw [hgk x hx]; simp), filter_no (fun x hx => by unfold sK; simp [htk x hx]), List.append_nil]
      rw [e1]
      rfl
    have boT : ∀ K ∈ Ks, grpT key col (r :: ps) K = grpT key col tl K := fun K hK => by
      unfold grpT
      have hne : keyV key r ≠ K := fun e => hnk (e ▸ hK)
      have e1 : (r :: ps).filter (sK key K) = tl.filter (sK key K) := by
        rw [List.filter_cons_of_neg (by unfold sK; simp [hne]), hps, List.filter_append, filter_no (l := g) (fun x hx => by unfold sK; rw [hgk x hx]; simp [hne]), List.nil_append]
      rw [e1]
    refine ⟨keyV key r :: Ks, List.nodup_cons.2 ⟨hnk, hnd⟩, fun K => ⟨fun hK => ?_, fun ⟨x, hx, h2⟩ => ?_⟩, List.pairwise_cons.2 ⟨fun K hK => ?_, hpw⟩, fun st hc => ?_⟩
    · rcases List.mem_cons.1 hK with rfl | hK
      · exact ⟨r, List.mem_cons_self, rfl⟩
      · obtain ⟨x, hx, h2⟩ := (hmem _).1 hK
        exact ⟨x, List.mem_cons_of_mem _ (by rw [hps]; exact List.mem_append.2 (.inr hx)), h2⟩
    · rcases List.mem_cons.1 hx with rfl | hx
      · rw [← h2]; exact List.mem_cons_self
      · rw [hps] at hx
        rcases List.mem_append.1 hx with hx | hx
        · rw [← h2, hgk x hx]; exact List.mem_cons_self
        · exact List.mem_cons_of_mem _ ((hmem K).2 ⟨x, hx, h2⟩)
    · obtain ⟨x, hx, h2⟩ := (hmem K).1 hK
      rw [← h2]
      exact hs'.1 x (by rw [hps]; exact List.mem_append.2 (.inr hx))
    · have e0 : stepT key col st r = (st.1 ++ st.2.toList, some (keyV key r, 0 + r.getD col 0)) := by
        obtain ⟨s1, s2⟩ := st
        unfold stepT
        cases s2 with
        | none => simp
        | some g0 =>
          simp only
          rw [if_neg (fun e => hc g0 rfl r List.mem_cons_self e.symm)]
          rfl
      have e1 : (r :: ps).foldl (stepT key col) st = tl.foldl (stepT key col) (st.1 ++ st.2.toList, some (grpT key col (r :: ps) (keyV key r))) := by
        rw [List.foldl_cons, e0, hps, List.foldl_append, fold_same key col g _ _ _ hgk, ← hps, bo0]
      rw [e1, hrun _ (fun g0 hg0 x hx => by cases hg0; exact htk x hx)]
      have e2 : Ks.map (grpT key col tl) = Ks.map (grpT key col (r :: ps)) := List.map_congr_left fun K hK => (boT K hK).symm
      rw [e2]
      simp

theorem tot_spec {key : List Nat} (col : Nat) {rs : List (List Int)} (h : rs.Pairwise (leT key)) : ∃ Ks : List (List Int), Ks.Nodup ∧ (∀ K, K ∈ Ks ↔ ∃ r ∈ rs, keyV key r = K) ∧ Ks.Pairwise (fun a b => cmpL a b [] ≤ 0) ∧ totL key col rs = Ks.map (grpT key col rs) := by
  obtain ⟨Ks, h1, h2, h3, h4⟩ := tot_groups key col _ rs (Nat.le_refl _) h
  exact ⟨Ks, h1, h2, h3, h4 ([], none) fun g hg => by cases hg⟩

theorem tS_bd (col : Nat) : ∀ (l : List (List Int)) (a : Int), (∀ r ∈ l, -9223372036854775808 ≤ r.getD col 0 ∧ r.getD col 0 < 9223372036854775808) → -(9223372036854775808 * (l.length : Int)) ≤ l.foldl (fun a r => a + r.getD col 0) a - a ∧ l.foldl (fun a r => a + r.getD col 0) a - a ≤ 9223372036854775808 * (l.length : Int)
  | [], a, _ => by simp
  | r :: l, a, h => by
    have h1 := h r List.mem_cons_self
    have h2 := tS_bd col l (a + r.getD col 0) fun x hx => h x (List.mem_cons_of_mem _ hx)
    rw [List.foldl_cons, List.length_cons]
    omega
theorem tS_wide {col : Nat} {l : List (List Int)} (h : ∀ r ∈ l, -9223372036854775808 ≤ r.getD col 0 ∧ r.getD col 0 < 9223372036854775808) (hl : l.length ≤ 1000) : -170141183460469231731687303715884105728 ≤ tS col l ∧ tS col l < 170141183460469231731687303715884105728 := by
  have := tS_bd col l 0 h
  unfold tS
  omega

/-! ### alike in a key -/

set_option maxRecDepth 100000 in
set_option maxHeartbeats 8000000 in
theorem Tot_same {m : Mem} {t : Fr} {a0 xad rad ka : Option Addr} {n c0 xc rc k kn kc : Nat} {xs r : List Int} {key : List Nat} (hk : SlA m 1 ka kn kc (key.map natV)) (hkn : kn ≤ 100) (hk4 : ∀ c ∈ key, c < 4)
    (hx : SlA m 1 xad 4 xc (xs.map (.int .i64))) (hr : SlA m 1 rad 4 rc (r.map (.int .i64))) {Lb Lo : Nat} {Ls : Option Nat} (ha0 : a0 = some ⟨Lb, Lo, Ls⟩) (hrow : m.at Lb (Lo + k) = some (.slice xad 4 xc)) (hkn' : k < n) (hn : n ≤ 1000)
    (t0 : t 0 = .slice a0 n c0) (t11 : t 11 = .slice rad 4 rc) (t13 : t 13 = vI (k : Nat)) (t14 : t 14 = .bool true) (t40 : t 40 = .slice ka kn kc) (t41 : t 41 = vI (kn : Nat)) (t42 : t 42 = vI 0) {K : Post3}
    (hK : ∀ t', Agree (writes c_sheafref16_Total_12) t t' → t' 14 = .bool (decide (keyV key xs = keyV key r)) → K .normal t' m) :
    wpM E F_sheafref16_Total 106 none c_sheafref16_Total_12 K t m := by
  refine wpM_cut (fun t' m' => m' = m ∧ t' 14 = .bool (decide (keyV key xs = keyV key r))) ?_ fun t' m' ha ⟨h1, h2⟩ => by rw [h1]; exact hK t' ha h2
  have hkl : key.length = kn := by have := hk.len; simpa using this
  have hxl : xs.length = 4 := by have := hx.len; simpa using this
  have hrl : r.length = 4 := by have := hr.len; simpa using this
  subst ha0
  obtain ⟨xb, xo, xsp, rfl⟩ := hx.addr (by omega)
  obtain ⟨rb, ro, rsp, rfl⟩ := hr.addr (by omega)
  simp only [c_sheafref16_Total_12_at, wpM_block, c_sheafref16_Total_11_at]
  refine wpM_loopA (fun j t' m' => ∃ i : Nat, i ≤ kn ∧ j = kn - i ∧ m' = m ∧ t' 42 = vI (i : Nat) ∧ t' 14 = .bool (decide (keyV (key.take i) xs = keyV (key.take i) r))) kn ⟨0, by omega, rfl, rfl, t42, by rw [t14]; simp [keyV]⟩ ?_
  rintro j t' m' ha ⟨i, hi, rfl, rfl, e42, e14⟩
  have e0 := (ha 0 (by decide +kernel)).trans t0
  have e11 := (ha 11 (by decide +kernel)).trans t11
  have e13 := (ha 13 (by decide +kernel)).trans t13
  have e40 := (ha 40 (by decide +kernel)).trans t40
  have e41 := (ha 41 (by decide +kernel)).trans t41
  by_cases hlt : i < kn
  · have d1 : decide ((i : Int) < (kn : Int)) = true := by simp; omega
    have w1 : IntKind.wrap .i64 ((i : Int) + 1) = ((i + 1 : Nat) : Int) := by rw [wrap_i64_id _ (by omega) (by omega)]; omega
    have z0 : (0 : Int) ≤ (i : Int) := by omega
    have z1 : (i : Int) < (kn : Int) := by omega
    have y0 : (0 : Int) ≤ (k : Int) := by omega
    have y1 : (k : Int) < (n : Int) := by omega
    obtain ⟨kb, ko, ksp, rfl⟩ := hk.addr (by omega)
    have rk : m'.at kb (ko + i) = some (natV (key[i]'(by omega))) := hk.at_map hlt
    have hc := hk4 (key[i]'(by omega)) (List.getElem_mem _)
    have et : ∀ y : List Int, keyV (key.take (i + 1)) y = keyV (key.take i) y ++ [y.getD (key[i]'(by omega)) 0] := fun y => by
      unfold keyV
      rw [List.take_succ_eq_append_getElem (by omega), List.map_append]
      rfl
    generalize key[i]'(by omega) = c at *
    have u0 : (0 : Int) ≤ (c : Int) := by omega
    have u1 : (c : Int) < ((4 : Nat) : Int) := by omega
    have qx : m'.at xb (xo + c) = some (.int .i64 (xs.getD c 0)) := by
      have := hx.at_map hc
      rw [show xs.getD c 0 = xs[c]'(by omega) by simp [List.getD_eq_getElem?_getD, List.getElem?_eq_getElem (show c < xs.length by omega)]]
      exact this
    have qr : m'.at rb (ro + c) = some (.int .i64 (r.getD c 0)) := by
      have := hr.at_map hc
      rw [show r.getD c 0 = r[c]'(by omega) by simp [List.getD_eq_getElem?_getD, List.getElem?_eq_getElem (show c < r.length by omega)]]
      exact this
    by_cases hs : keyV (key.take i) xs = keyV (key.take i) r
    · rw [decide_eq_true hs] at e14
      have ed : (xs.getD c 0 == r.getD c 0) = decide (keyV (key.take (i + 1)) xs = keyV (key.take (i + 1)) r) := by
        rw [et, et, hs]
        rw [Bool.eq_iff_iff]
        simp
      simp (decide := true) (implicitDefEqProofs := false) (maxDischargeDepth := 20) only [go_sem, e0, e11, e13, e14, e40, e41, e42, d1, z0, z1, y0, y1, u0, u1, rk, hrow, qx, qr, w1, ↓reduceIte, Int.toNat_natCast, true_implies, false_implies]
      refine ⟨kn - (i + 1), by omega, i + 1, by omega, rfl, rfl, ?_⟩
      rw [← ed]
    · rw [decide_eq_false hs] at e14
      have ed : decide (keyV (key.take (i + 1)) xs = keyV (key.take (i + 1)) r) = false := by
        rw [et, et]
        refine decide_eq_false fun e => hs ?_
        exact (List.append_inj' e rfl).1
      simp (decide := true) (implicitDefEqProofs := false) (maxDischargeDepth := 20) only [go_sem, e0, e11, e13, e14, e40, e41, e42, d1, z0, z1, y0, y1, u0, u1, rk, hrow, qx, qr, w1, ↓reduceIte, Int.toNat_natCast, true_implies, false_implies]
      refine ⟨kn - (i + 1), by omega, i + 1, by omega, rfl, rfl, ?_⟩
      rw [ed]
  · have d1 : decide ((i : Int) < (kn : Int)) = false := by simp; omega
    have hik : key.take i = key := List.take_of_length_le (by omega)
    rw [hik] at e14
    simp (decide := true) (implicitDefEqProofs := false) (maxDischargeDepth := 20) only [go_sem, e41, e42, d1, ↓reduceIte, true_implies, false_implies]
    exact e14


/-! ### SumO -/

theorem rowsW {m : Mem} {b : Nat} {tg : Bool} {v0 v1 : Value} (h : m.get b = some (.cells false tg [v0, v1])) : m.rows b 0 2 = some [v0, v1] := by
  unfold Mem.rows; rw [h]; rfl

structure InT (m0 m : Mem) (sb db : Nat) (key : List Nat) (col : Nat) (rs : List (List Int)) (K : List Int) (i k : Nat) (f : Int → Option Value) : Prop where
  a : m.get sb = some (.cells false true (Wc (tS col ((seg rs i k).filter (sK key K)))))
  d : ∃ g, IMap m db g ∧ (∀ j : Nat, i ≤ j → j < k → sK key K (rs.getD j []) = true → g (j : Int) = some (.bool true)) ∧ ∀ j : Nat, (¬ (i ≤ j ∧ j < k ∧ sK key K (rs.getD j []) = true)) → g (j : Int) = f (j : Int)
  size : m0.size ≤ m.size
  keep : ∀ x, x < m0.size → x ≠ sb → x ≠ db → m.get x = m0.get x

attribute [-go_sem] c_sheafref16_Total_14_at in
set_option maxRecDepth 100000 in
set_option maxHeartbeats 16000000 in
theorem Tot_inner {m0 : Mem} {t : Fr} {a0 rad ka : Option Addr} {n c0 rc i sb db kn kc col : Nat} {ls : List HRow} {r : List Int} {key : List Nat} {f : Int → Option Value} (hs : SlA m0 1 a0 n c0 (ls.map HRow.v)) (hr : ∀ r ∈ ls, r.At m0) (h4 : ∀ r ∈ ls, r.n = 4) (hn : n ≤ 900) (hi : i ≤ n)
    (hkey : SlA m0 1 ka kn kc (key.map natV)) (hkn : kn ≤ 100) (hk4 : ∀ c ∈ key, c < 4) (hcol : col < 4)
    (hrs : SlA m0 1 rad 4 rc (r.map (.int .i64))) (gA : m0.get sb = some (.cells false true (Wc 0))) (gD : IMap m0 db f)
    (na : ∀ x, a0 = some x → x.block ≠ sb ∧ x.block ≠ db) (nr : ∀ r ∈ ls, ∀ x, r.ad = some x → x.block ≠ sb ∧ x.block ≠ db) (nrr : ∀ x, rad = some x → x.block ≠ sb ∧ x.block ≠ db) (nk : ∀ x, ka = some x → x.block ≠ sb ∧ x.block ≠ db) (hne : sb ≠ db)
    (t0 : t 0 = .slice a0 n c0) (t1 : t 1 = .slice ka kn kc) (t2 : t 2 = natV col) (t9 : t 9 = .map (some db)) (t11 : t 11 = .slice rad 4 rc) (t12 : t 12 = ptr sb) (t13 : t 13 = vI (i : Nat)) {K : Post3}
    (hK : ∀ t' m', Agree (writes c_sheafref16_Total_23) t t' → InT m0 m' sb db key col (ls.map HRow.xs) (keyV key r) i n f → K .normal t' m') :
    wpM E F_sheafref16_Total 106 none c_sheafref16_Total_23 K t m0 := by
  refine wpM_cut (fun t' m' => InT m0 m' sb db key col (ls.map HRow.xs) (keyV key r) i n f) ?_ fun t' m' ha h => hK t' m' ha h
  have hl : ls.length = n := by have := hs.len; simpa using this
  simp only [c_sheafref16_Total_23_at, wpM_block, c_sheafref16_Total_22_at]
  refine wpM_loopA (fun j t' m' => ∃ k, i ≤ k ∧ k ≤ n ∧ j = n - k ∧ t' 13 = vI (k : Nat) ∧ InT m0 m' sb db key col (ls.map HRow.xs) (keyV key r) i k f) (n - i)
    ⟨i, Nat.le_refl _, hi, rfl, t13, ⟨by rw [seg_self]; exact gA, ⟨f, gD, fun j h1 h2 => by omega, fun j _ => rfl⟩, Nat.le_refl _, fun _ _ _ _ => rfl⟩⟩ ?_
  rintro j t' m' ha ⟨k, hik, hk, rfl, e13, H⟩
  have e0 := (ha 0 (by decide +kernel)).trans t0
  have e1 := (ha 1 (by decide +kernel)).trans t1
  have e2 := (ha 2 (by decide +kernel)).trans t2
  have e9 := (ha 9 (by decide +kernel)).trans t9
  have e11 := (ha 11 (by decide +kernel)).trans t11
  have e12 := (ha 12 (by decide +kernel)).trans t12
  by_cases hlt : k < n
  · have d1 : decide ((k : Int) < (n : Int)) = true := by simp; omega
    have w1 : IntKind.wrap .i64 ((k : Int) + 1) = ((k + 1 : Nat) : Int) := by rw [wrap_i64_id _ (by omega) (by omega)]; omega
    have z0 : (0 : Int) ≤ (k : Int) := by omega
    have z1 : (k : Int) < (n : Int) := by omega
    have y0 : (0 : Int) ≤ (col : Int) := by omega
    have y1 : (col : Int) < ((4 : Nat) : Int) := by omega
    have kp : ∀ x, x < m0.size → x ≠ sb ∧ x ≠ db → m'.get x = m0.get x := fun x hx h => H.keep x hx h.1 h.2
    have hS := hs.keep fun x hx hne' => kp _ ((hs.rows x hx hne').lt) (na x hx)
    have hKy := hkey.keep fun x hx hne' => kp _ ((hkey.rows x hx hne').lt) (nk x hx)
    obtain ⟨Lb, Lo, Lsp, rfl⟩ := hS.addr (by omega)
    have r0 : m'.at Lb (Lo + k) = some (HRow.v (ls[k]'(by omega))) := hS.at_map hlt
    have hmem : ls[k]'(by omega) ∈ ls := List.getElem_mem _
    have hAt : (ls[k]'(by omega)).At m' := (hr _ hmem).keep fun x hx hne' => kp _ (((hr _ hmem).sl.rows x hx (by simpa using hne')).lt) (nr _ hmem x hx)
    have nx := nr _ hmem
    have hn4 := h4 _ hmem
    have esg : seg (ls.map HRow.xs) i (k + 1) = seg (ls.map HRow.xs) i k ++ [(ls[k]'(by omega)).xs] := by rw [seg_succ _ hik (by rw [List.length_map]; omega)]; simp
    have exk : (ls.map HRow.xs).getD k [] = (ls[k]'(by omega)).xs := by simp [List.getD_eq_getElem?_getD, show k < ls.length by omega]
    generalize ls[k]'(by omega) = x at *
    obtain ⟨xad, xn, xc, xs⟩ := x
    simp only at hn4 esg exk nx
    subst hn4
    have hsl : SlA m' 1 xad 4 xc (xs.map (.int .i64)) := hAt.sl
    have hbd : ∀ x ∈ xs, -9223372036854775808 ≤ x ∧ x < 9223372036854775808 := hAt.bd
    have hlen : xs.length = 4 := by have := hsl.len; simpa using this
    have r1 : m'.at Lb (Lo + k) = some (.slice xad 4 xc) := r0
    have hRS := hrs.keep fun x hx hne' => kp _ ((hrs.rows x hx hne').lt) (nrr x hx)
    simp (decide := true) (implicitDefEqProofs := false) (maxDischargeDepth := 20) only [go_sem, e0, e1, e13, d1, ↓reduceIte, Int.toNat_natCast, true_implies, false_implies]
    refine Tot_same (Ls := Lsp) (c0 := c0) (rc := rc) (kc := kc) hKy hkn hk4 hsl hRS rfl r1 hlt (by omega) (by simp (decide := true) only [go_sem, e0, ↓reduceIte]) (by simp (decide := true) only [go_sem, e11, ↓reduceIte]) (by simp (decide := true) only [go_sem, e13, ↓reduceIte]) (by simp (decide := true) only [go_sem, ↓reduceIte]) (by simp (decide := true) only [go_sem, e1, ↓reduceIte]) (by simp (decide := true) only [go_sem, ↓reduceIte]) (by simp (decide := true) only [go_sem, ↓reduceIte]) fun t2' hag g14 => ?_
    have f0 := hag 0 (by decide +kernel)
    have f2 := hag 2 (by decide +kernel)
    have f9 := hag 9 (by decide +kernel)
    have f12 := hag 12 (by decide +kernel)
    have f13 := hag 13 (by decide +kernel)
    simp (decide := true) only [go_sem, e0, e2, e9, e12, e13, ↓reduceIte] at f0 f2 f9 f12 f13
    clear hag
    by_cases hsm : keyV key xs = keyV key r
    · rw [decide_eq_true hsm] at g14
      have hsame : sK key (keyV key r) xs = true := by unfold sK; exact decide_eq_true hsm
      obtain ⟨xb, xo, xsp, rfl⟩ := hsl.addr (by omega)
      have nxb := nx _ rfl
      obtain ⟨g, G1, G2, G3⟩ := H.d
      obtain ⟨m2, hu, D2, s2, kp2⟩ := G1.upd imap79 (k : Int) (.bool true)
      have qc : m2.at xb (xo + col) = some (.int .i64 (xs.getD col 0)) := by
        have := hsl.at_map hcol
        rw [show xs.getD col 0 = xs[col]'(by omega) by simp [List.getD_eq_getElem?_getD, List.getElem?_eq_getElem (show col < xs.length by omega)]]
        unfold Mem.at at this ⊢
        rw [kp2 xb nxb.2]
        exact this
      have r2 : m2.at Lb (Lo + k) = some (.slice (some ⟨xb, xo, xsp⟩) 4 xc) := by
        unfold Mem.at at r1 ⊢
        rw [kp2 Lb (na _ rfl).2]
        exact r1
      have gA2 := (kp2 sb hne).trans H.a
      have lA2 := getM_lt gA2
      have h9 : -9223372036854775808 ≤ xs.getD col 0 ∧ xs.getD col 0 < 9223372036854775808 := hbd _ (by simp [List.getD_eq_getElem?_getD, hlen, hcol])
      have o1 := rOf_ans (xs.getD col 0) h9.1 h9.2
      obtain ⟨S, hS'⟩ : ∃ S, S = tS col ((seg (ls.map HRow.xs) i k).filter (sK key (keyV key r))) := ⟨_, rfl⟩
      have ebs : tS col ((seg (ls.map HRow.xs) i (k + 1)).filter (sK key (keyV key r))) = S + xs.getD col 0 := by
        rw [esg, List.filter_append, List.filter_cons_of_pos hsame, List.filter_nil, tS_snoc, hS']
      rw [← hS'] at gA2
      have a1 := rAdd_ans S (xs.getD col 0)
      simp only [W] at o1 a1
      simp only [Wc] at gA2
      have rA2 := rowsW gA2
      have fin : ∀ mF : Mem, m2.size ≤ mF.size → mF.get sb = some (.cells false true (Wc (S + xs.getD col 0))) → (∀ x, x < m2.size → x ≠ sb → mF.get x = m2.get x) → InT m0 mF sb db key col (ls.map HRow.xs) (keyV key r) i (k + 1) f := fun mF hsz h1 h3 => by
        refine ⟨by rw [ebs]; exact h1, ⟨updM g (k : Int) (.bool true), D2.keep (h3 db D2.blk hne.symm), fun j j1 j2 j3 => ?_, fun j hj => ?_⟩, by have := H.size; omega, fun x hx x1 x3 => ?_⟩
        · unfold updM
          by_cases hjk : j = k
          · rw [if_pos (by omega)]
          · rw [if_neg (by omega)]; exact G2 j j1 (by omega) j3
        · unfold updM
          have hjk : j ≠ k := fun e => hj ⟨by omega, by omega, by rw [e, exk]; exact hsame⟩
          rw [if_neg (by omega)]
          exact G3 j fun h' => hj ⟨h'.1, by omega, h'.2.2⟩
        · rw [h3 x (by have := H.size; omega) x1, kp2 x x3, H.keep x hx x1 x3]
      simp (decide := true) (implicitDefEqProofs := false) (maxDischargeDepth := 20) only [go_sem, g14, ↓reduceIte, true_implies, false_implies]
      simp only [c_sheafref16_Total_14_at]
      simp (decide := true) (implicitDefEqProofs := false) (maxDischargeDepth := 20) only [go_sem, f0, f2, f9, f12, f13, g14, hu, z0, z1, y0, y1, w1, r2, qc, gA2, rA2, lA2, o1.eq, a1.eq, ↓reduceIte, Int.toNat_natCast, true_implies, false_implies]
      obtain ⟨M, hM⟩ : ∃ M, M = ansM E F_sheafref1_Add #[.agg #[.int .i64 (IntKind.i64.wrap (S / 18446744073709551616)), .int .u64 (S % 18446744073709551616)], .agg #[.int .i64 (IntKind.i64.wrap (xs.getD col 0 / 18446744073709551616)), .int .u64 (xs.getD col 0 % 18446744073709551616)]] [] (ansM E F_sheafref1_Of #[.int .i64 (xs.getD col 0)] [sb] m2) := ⟨_, rfl⟩
      have oM : Old m2 M := by rw [hM]; exact .ansM (.ansM (.refl m2))
      have sM := oM.size
      rw [← hM]
      refine ⟨n - (k + 1), by omega, k + 1, by omega, by omega, rfl, rfl, fin _ (by rw [size_put]; exact sM) ?_ fun x hx x1 => ?_⟩
      · rw [getM_put, if_pos ⟨rfl, by omega⟩]
        rfl
      · rw [getM_put, if_neg (fun e => x1 e.1), oM.get hx]
    · rw [decide_eq_false hsm] at g14
      have hx : sK key (keyV key r) xs = false := by unfold sK; exact decide_eq_false hsm
      simp (decide := true) (implicitDefEqProofs := false) (maxDischargeDepth := 20) only [go_sem, g14, f13, w1, ↓reduceIte, true_implies, false_implies]
      refine ⟨n - (k + 1), by omega, k + 1, by omega, by omega, rfl, rfl, ?_⟩
      have e1 : (seg (ls.map HRow.xs) i (k + 1)).filter (sK key (keyV key r)) = (seg (ls.map HRow.xs) i k).filter (sK key (keyV key r)) := by
        rw [esg, List.filter_append, List.filter_cons_of_neg (by rw [hx]; exact Bool.noConfusion), List.filter_nil, List.append_nil]
      obtain ⟨g, g1, g2, g3⟩ := H.d
      refine ⟨by rw [e1]; exact H.a, ⟨g, g1, fun j h1 h2 h3 => ?_, fun j h => ?_⟩, H.size, H.keep⟩
      · by_cases hj : j = k
        · subst hj; rw [exk, hx] at h3; cases h3
        · exact g2 j h1 (by omega) h3
      · exact g3 j fun h' => h ⟨h'.1, by omega, h'.2.2⟩
  · have d1 : decide ((k : Int) < (n : Int)) = false := by simp; omega
    have hkn : k = n := by omega
    subst hkn
    simp (decide := true) (implicitDefEqProofs := false) (maxDischargeDepth := 20) only [go_sem, e0, e13, d1, ↓reduceIte, true_implies, false_implies]
    exact H

theorem keyV_take (key : List Nat) (r : List Int) (j : Nat) (h : j < key.length) : keyV (key.take (j + 1)) r = keyV (key.take j) r ++ [r.getD (key[j]) 0] := by
  unfold keyV
  rw [List.take_succ_eq_append_getElem h, List.map_append]
  rfl

set_option maxRecDepth 100000 in
set_option maxHeartbeats 8000000 in
theorem Tot_key {m0 : Mem} {t : Fr} {rad ka : Option Addr} {rc kn kc : Nat} {r : List Int} {key : List Nat} (hk : SlA m0 1 ka kn kc (key.map natV)) (hkn : kn ≤ 100) (hk4 : ∀ c ∈ key, c < 4) (hr : SlA m0 1 rad 4 rc (r.map (.int .i64)))
    (t11 : t 11 = .slice rad 4 rc) (t19 : t 19 = .slice none 0 0) (t82 : t 82 = .slice ka kn kc) (t83 : t 83 = vI (kn : Nat)) (t84 : t 84 = vI 0) {K : Post3}
    (hK : ∀ t' m' a, Agree (writes c_sheafref16_Total_35) t t' → t' 19 = .slice a kn kn → Vec m0.size m' 1 a kn ((keyV key r).map (.int .i64)) → Old m0 m' → K .normal t' m') :
    wpM E F_sheafref16_Total 106 none c_sheafref16_Total_35 K t m0 := by
  refine wpM_cut (fun t' m' => ∃ a, t' 19 = .slice a kn kn ∧ Vec m0.size m' 1 a kn ((keyV key r).map (.int .i64)) ∧ Old m0 m') ?_ fun t' m' ha ⟨a, h1, h2, h3⟩ => hK t' m' a ha h1 h2 h3
  have hkl : key.length = kn := by have := hk.len; simpa using this
  have hrl : r.length = 4 := by have := hr.len; simpa using this
  obtain ⟨rb, ro, rsp, rfl⟩ := hr.addr (by omega)
  simp only [c_sheafref16_Total_35_at, wpM_block, c_sheafref16_Total_34_at]
  refine wpM_loopA (fun j t' m' => ∃ (i : Nat) (a : Option Addr), i ≤ kn ∧ j = kn - i ∧ t' 84 = vI (i : Nat) ∧ t' 19 = .slice a i i ∧ Vec m0.size m' 1 a i ((keyV (key.take i) r).map (.int .i64)) ∧ Old m0 m') kn ⟨0, none, by omega, rfl, t84, t19, .nil _ _ _, .refl m0⟩ ?_
  rintro j t' m' ha ⟨i, a, hi, rfl, e84, e19, V, o⟩
  have e11 := (ha 11 (by decide +kernel)).trans t11
  have e82 := (ha 82 (by decide +kernel)).trans t82
  have e83 := (ha 83 (by decide +kernel)).trans t83
  by_cases hlt : i < kn
  · have d1 : decide ((i : Int) < (kn : Int)) = true := by simp; omega
    have w1 : IntKind.wrap .i64 ((i : Int) + 1) = ((i + 1 : Nat) : Int) := by rw [wrap_i64_id _ (by omega) (by omega)]; omega
    have z0 : (0 : Int) ≤ (i : Int) := by omega
    have z1 : (i : Int) < (kn : Int) := by omega
    have hk' := hk.old o
    have hr' := hr.old o
    obtain ⟨kb, ko, ksp, rfl⟩ := hk'.addr (by omega)
    have rk : m'.at kb (ko + i) = some (natV (key[i]'(by omega))) := hk'.at_map hlt
    have hc := hk4 (key[i]'(by omega)) (List.getElem_mem _)
    have et := keyV_take key r i (by omega)
    generalize key[i]'(by omega) = c at *
    have u0 : (0 : Int) ≤ (c : Int) := by omega
    have u1 : (c : Int) < ((4 : Nat) : Int) := by omega
    have qr : m'.at rb (ro + c) = some (.int .i64 (r.getD c 0)) := by
      have := hr'.at_map hc
      rw [show r.getD c 0 = r[c]'(by omega) by simp [List.getD_eq_getElem?_getD, List.getElem?_eq_getElem (show c < r.length by omega)]]
      exact this
    simp (decide := true) (implicitDefEqProofs := false) (maxDischargeDepth := 20) only [go_sem, e11, e19, e82, e83, e84, d1, z0, z1, u0, u1, rk, qr, ↓reduceIte, Int.toNat_natCast, true_implies, false_implies]
    refine V.appendQ rfl (by have := o.size; omega) rfl (by decide) (by decide +kernel) (by decide +kernel) rfl (by omega) fun m3 b3 s3 v3 k3 hb3 => ?_
    simp (decide := true) (implicitDefEqProofs := false) (maxDischargeDepth := 20) only [go_sem, e84, w1, ↓reduceIte, true_implies, false_implies]
    refine ⟨kn - (i + 1), by omega, i + 1, some ⟨b3, 0, s3⟩, by omega, rfl, rfl, rfl, ?_, V.keepOld k3 o⟩
    rw [et, List.map_append]
    exact v3
  · have d1 : decide ((i : Int) < (kn : Int)) = false := by simp; omega
    have hik : i = kn := by omega
    subst hik
    rw [List.take_of_length_le (by omega)] at V
    simp (decide := true) (implicitDefEqProofs := false) (maxDischargeDepth := 20) only [go_sem, e83, e84, d1, ↓reduceIte, true_implies, false_implies]
    exact ⟨a, e19, V, o⟩


/-! ### SumQ -/

/-- What is told so far, plainly. -/
structure OutG (key : List Nat) (col : Nat) (rs : List (List Int)) (i : Nat) (outs Ks : List (List Int)) : Prop where
  nd : Ks.Nodup
  mem : ∀ K, K ∈ Ks ↔ ∃ r ∈ rs.take i, keyV key r = K
  ok : ∀ K ∈ Ks, fitsG (grpT key col rs K)
  out : outs = Ks.map fun K => outT (grpT key col rs K)
theorem OutG.skip {key : List Nat} {col : Nat} {rs : List (List Int)} {i : Nat} {outs Ks : List (List Int)} (h : OutG key col rs i outs Ks) (hi : i < rs.length) (hk : keyV key (rs.getD i []) ∈ Ks) : OutG key col rs (i + 1) outs Ks := by
  refine ⟨h.nd, fun K => ?_, h.ok, h.out⟩
  rw [take1 rs hi, h.mem]
  constructor
  · rintro ⟨r, hr, e⟩; exact ⟨r, List.mem_append.2 (.inl hr), e⟩
  · rintro ⟨r, hr, e⟩
    rcases List.mem_append.1 hr with hr | hr
    · exact ⟨r, hr, e⟩
    · rw [List.mem_singleton.1 hr] at e
      exact (h.mem K).1 (e ▸ hk)
theorem OutG.more {key : List Nat} {col : Nat} {rs : List (List Int)} {i : Nat} {outs Ks : List (List Int)} (h : OutG key col rs i outs Ks) (hi : i < rs.length) (hk : keyV key (rs.getD i []) ∉ Ks) (hf : fitsG (grpT key col rs (keyV key (rs.getD i [])))) : OutG key col rs (i + 1) (outs ++ [outT (grpT key col rs (keyV key (rs.getD i [])))]) (Ks ++ [keyV key (rs.getD i [])]) := by
  refine ⟨?_, fun K => ?_, fun K hK => ?_, by rw [h.out, List.map_append]; rfl⟩
  · rw [List.nodup_append]
    exact ⟨h.nd, by simp, fun x hx y hy e => by rw [List.mem_singleton.1 hy] at e; exact hk (e ▸ hx)⟩
  · rw [take1 rs hi, List.mem_append, List.mem_singleton, h.mem]
    constructor
    · rintro (⟨r, hr, e⟩ | e)
      · exact ⟨r, List.mem_append.2 (.inl hr), e⟩
      · exact ⟨_, List.mem_append.2 (.inr (List.mem_singleton.2 rfl)), e.symm⟩
    · rintro ⟨r, hr, e⟩
      rcases List.mem_append.1 hr with hr | hr
      · exact .inl ⟨r, hr, e⟩
      · rw [List.mem_singleton.1 hr] at e; exact .inr e.symm
  · rcases List.mem_append.1 hK with hK | hK
    · exact h.ok K hK
    · rw [List.mem_singleton.1 hK]; exact hf
theorem seg_sK {key : List Nat} {rs : List (List Int)} {K : List Int} {i : Nat} (h : ¬ ∃ r ∈ rs.take i, keyV key r = K) : (seg rs i rs.length).filter (sK key K) = rs.filter (sK key K) := by
  unfold seg
  rw [List.take_length]
  conv => rhs; rw [← List.take_append_drop i rs, List.filter_append]
  rw [filter_no (l := rs.take i) (fun x hx => ?_), List.nil_append]
  unfold sK
  exact decide_eq_false fun e => h ⟨x, hx, e⟩

structure OutM (m0 m : Mem) (db : Nat) (key : List Nat) (rs : List (List Int)) (a : Option Addr) (es : List HRow) (Ks : List (List Int)) : Prop where
  vec : Vec m0.size m 1 a es.length (es.map HRow.v)
  row : ∀ e ∈ es, e.At m
  blk : ∀ e ∈ es, ∃ b s, e.ad = some ⟨b, 0, s⟩ ∧ m0.size ≤ b ∧ b < m.size ∧ ∀ y, a = some y → b ≠ y.block
  map : ∃ g, IMap m db g ∧ ∀ j : Nat, j < rs.length → (g (j : Int)).getD (.bool false) = .bool (decide (keyV key (rs.getD j []) ∈ Ks))
  size : m0.size ≤ m.size
  keep : ∀ x, x < m0.size → x ≠ db → m.get x = m0.get x

set_option maxRecDepth 100000 in
set_option maxHeartbeats 16000000 in
theorem Tot_outer {m0 : Mem} {t : Fr} {a0 ka : Option Addr} {n c0 db kn kc col : Nat} {ls : List HRow} {key : List Nat} (hs : SlA m0 1 a0 n c0 (ls.map HRow.v)) (hr : ∀ r ∈ ls, r.At m0) (h4 : ∀ r ∈ ls, r.n = 4) (hn : n ≤ 900) (gD : IMap m0 db fun _ => none)
    (hkey : SlA m0 1 ka kn kc (key.map natV)) (hkn : 1 ≤ kn ∧ kn ≤ 100) (hk4 : ∀ c ∈ key, c < 4) (hcol : col < 4)
    (na : ∀ x, a0 = some x → 0 < n → x.block ≠ db) (nr : ∀ r ∈ ls, ∀ x, r.ad = some x → x.block ≠ db) (nk : ∀ x, ka = some x → x.block ≠ db)
    (t0 : t 0 = .slice a0 n c0) (t1 : t 1 = .slice ka kn kc) (t2 : t 2 = natV col) (t8 : t 8 = .slice none 0 0) (t9 : t 9 = .map (some db)) (t23 : t 23 = .slice a0 n c0) (t24 : t 24 = vI (n : Nat)) (t25 : t 25 = vI 0) {K : Post3}
    (hK : ∀ t' m' a es Ks, Agree (writes c_sheafref16_Total_50) t t' → t' 8 = .slice a es.length es.length → OutM m0 m' db key (ls.map HRow.xs) a es Ks → OutG key col (ls.map HRow.xs) n (es.map HRow.xs) Ks → es.length ≤ n → K .normal t' m')
    (hR : ∀ t' m', t' 6 = .slice none 0 0 → t' 7 = .bool false → (∃ r ∈ ls.map HRow.xs, ¬ fitsG (grpT key col (ls.map HRow.xs) (keyV key r))) → m0.size ≤ m'.size → (∀ x, x < m0.size → x ≠ db → m'.get x = m0.get x) → K .ret t' m') :
    wpM E F_sheafref16_Total 106 none c_sheafref16_Total_50 K t m0 := by
  refine wpM_cutX (fun x t' m' => (x = .normal ∧ ∃ a es Ks, t' 8 = .slice a es.length es.length ∧ OutM m0 m' db key (ls.map HRow.xs) a es Ks ∧ OutG key col (ls.map HRow.xs) n (es.map HRow.xs) Ks ∧ es.length ≤ n) ∨ (x = .ret ∧ t' 6 = .slice none 0 0 ∧ t' 7 = .bool false ∧ (∃ r ∈ ls.map HRow.xs, ¬ fitsG (grpT key col (ls.map HRow.xs) (keyV key r))) ∧ m0.size ≤ m'.size ∧ ∀ x, x < m0.size → x ≠ db → m'.get x = m0.get x)) ?_ fun x t' m' hag h => ?_
  rotate_left
  · rcases h with ⟨rfl, a, es, Ks, h1, h2, h3, h4⟩ | ⟨rfl, h1, h2, h3, h4, h5⟩
    · exact hK t' m' a es Ks hag h1 h2 h3 h4
    · exact hR t' m' h1 h2 h3 h4 h5
  have hl : ls.length = n := by have := hs.len; simpa using this
  obtain ⟨rs, hrs⟩ : ∃ rs, rs = ls.map HRow.xs := ⟨_, rfl⟩
  have hrl : rs.length = n := by rw [hrs, List.length_map, hl]
  have hkl : key.length = kn := by have := hkey.len; simpa using this
  have ldb := gD.blk
  have r4 : ∀ r ∈ rs, r.length = 4 ∧ ∀ x ∈ r, -9223372036854775808 ≤ x ∧ x < 9223372036854775808 := fun r hr' => by
    rw [hrs] at hr'
    obtain ⟨y, hy, rfl⟩ := List.mem_map.1 hr'
    exact ⟨by rw [(hr y hy).len]; exact h4 y hy, (hr y hy).bd⟩
  rw [← hrs]
  simp only [c_sheafref16_Total_50_at, wpM_block, c_sheafref16_Total_49_at]
  refine wpM_loopA (fun j t' m' => ∃ k a es Ks, k ≤ n ∧ j = n - k ∧ t' 25 = vI (k : Nat) ∧ t' 8 = .slice a es.length es.length ∧ OutM m0 m' db key rs a es Ks ∧ OutG key col rs k (es.map HRow.xs) Ks ∧ es.length ≤ k) n
    ⟨0, none, [], [], by omega, rfl, t25, t8, ⟨.nil _ _ _, fun p hp => (by cases hp), fun p hp => (by cases hp), ⟨_, gD, fun j hj => (by simp)⟩, Nat.le_refl _, fun _ _ _ => rfl⟩, ⟨List.nodup_nil, fun K => ⟨fun h => (by cases h), fun ⟨x, hx, _⟩ => (by simp at hx)⟩, fun K hK => (by cases hK), rfl⟩, Nat.le_refl _⟩ ?_
  rintro j t' m' ha ⟨k, a, es, Ks, hk, rfl, e25, e8, H, P, hlen2⟩
  have e0 := (ha 0 (by decide +kernel)).trans t0
  have e1 := (ha 1 (by decide +kernel)).trans t1
  have e2 := (ha 2 (by decide +kernel)).trans t2
  have e9 := (ha 9 (by decide +kernel)).trans t9
  have e23 := (ha 23 (by decide +kernel)).trans t23
  have e24 := (ha 24 (by decide +kernel)).trans t24
  by_cases hlt : k < n
  · have d1 : decide ((k : Int) < (n : Int)) = true := by simp; omega
    have w1 : IntKind.wrap .i64 ((k : Int) + 1) = ((k + 1 : Nat) : Int) := by rw [wrap_i64_id _ (by omega) (by omega)]; omega
    have z0 : (0 : Int) ≤ (k : Int) := by omega
    have z1 : (k : Int) < (n : Int) := by omega
    have szH := H.size
    have hS := hs.keep fun x hx hne' => H.keep _ ((hs.rows x hx hne').lt) (na x hx (by omega))
    have hKy := hkey.keep fun x hx hne' => H.keep _ ((hkey.rows x hx hne').lt) (nk x hx)
    have hrM : ∀ r ∈ ls, r.At m' := fun r hr' => (hr r hr').keep fun x hx hne' => H.keep _ (((hr r hr').sl.rows x hx (by simpa using hne')).lt) (nr r hr' x hx)
    obtain ⟨Lb, Lo, Lsp, rfl⟩ := hS.addr (by omega)
    have lLb : Lb < m0.size := (hs.rows ⟨Lb, Lo, Lsp⟩ rfl (fun e => by have h := hs.len; rw [e] at h; simp only [List.length_nil] at h; omega)).lt
    have lKb : ∀ x, ka = some x → x.block < m0.size := fun x hx => (hkey.rows x hx (fun e => by have h := hkey.len; rw [e] at h; simp only [List.length_nil] at h; omega)).lt
    have r0 : m'.at Lb (Lo + k) = some (HRow.v (ls[k]'(by omega))) := hS.at_map hlt
    have hmem : ls[k]'(by omega) ∈ ls := List.getElem_mem _
    have hAt := hrM _ hmem
    have hAt0 := hr _ hmem
    have hn4 := h4 _ hmem
    have exk : rs.getD k [] = (ls[k]'(by omega)).xs := by subst hrs; simp [List.getD_eq_getElem?_getD, show k < ls.length by omega]
    have hmr : (ls[k]'(by omega)).xs ∈ rs := by subst hrs; exact List.mem_map.2 ⟨_, hmem, rfl⟩
    generalize ls[k]'(by omega) = x at *
    obtain ⟨xad, xn, xc, xs⟩ := x
    simp only at hn4 exk hmr
    subst hn4
    have hsl : SlA m' 1 xad 4 xc (xs.map (.int .i64)) := hAt.sl
    have hsl0 : SlA m0 1 xad 4 xc (xs.map (.int .i64)) := hAt0.sl
    obtain ⟨xb, xo, xsp, hxa⟩ := hsl.addr (by omega)
    subst hxa
    have lxb : xb < m0.size := (hsl0.rows ⟨xb, xo, xsp⟩ rfl (fun e => by have h := hsl0.len; rw [e] at h; simp only [List.length_nil] at h; omega)).lt
    have r1 : m'.at Lb (Lo + k) = some (.slice (some ⟨xb, xo, xsp⟩) 4 xc) := r0
    obtain ⟨g, G1, G2⟩ := H.map
    have hgk := G2 k (by omega)
    rw [exk] at hgk
    have look := G1.look imap79 (k : Int)
    rw [hgk] at look
    have hax : ∀ y, a = some y → m0.size ≤ y.block ∧ y.block < m'.size := fun y hy => ⟨(H.vec.blk y hy).1, H.vec.lt hy⟩
    by_cases hin : keyV key xs ∈ Ks
    · rw [decide_eq_true hin] at look
      simp (decide := true) (implicitDefEqProofs := false) (maxDischargeDepth := 20) only [go_sem, nilOk, e0, e8, e9, e23, e24, e25, d1, z0, z1, w1, r1, look, Option.map_some, ↓reduceIte, Int.toNat_natCast, true_implies, false_implies]
      exact ⟨n - (k + 1), by omega, k + 1, a, es, Ks, by omega, rfl, rfl, rfl, H, P.skip (by omega) (by rw [exk]; exact hin), by omega⟩
    · rw [decide_eq_false hin] at look
      simp (decide := true) (implicitDefEqProofs := false) (maxDischargeDepth := 20) only [go_sem, nilOk, e0, e8, e9, e23, e24, e25, d1, z0, z1, r1, look, Option.map_some, ↓reduceIte, Int.toNat_natCast, true_implies, false_implies]
      have hnp : ¬ ∃ r ∈ rs.take k, keyV key r = keyV key xs := fun h => hin ((P.mem _).2 h)
      obtain ⟨S, hS'⟩ : ∃ S, S = tS col (rs.filter (sK key (keyV key xs))) := ⟨_, rfl⟩
      have eG : grpT key col rs (keyV key xs) = (keyV key xs, S) := by rw [hS']; rfl
      have hSb := tS_wide (col := col) (l := rs.filter (sK key (keyV key xs))) (fun r hr' => by
        have := r4 r (List.mem_filter.1 hr').1
        exact this.2 _ (by simp [List.getD_eq_getElem?_getD, this.1, hcol])) (Nat.le_trans (List.length_filter_le _ _) (by omega))
      rw [← hS'] at hSb
      obtain ⟨sb, hsb⟩ : ∃ b, b = m'.size := ⟨_, rfl⟩
      obtain ⟨m1, hm1⟩ : ∃ m1, m1 = m'.push (.cells false true [.int .i64 0, .int .u64 0]) := ⟨_, rfl⟩
      have o1 : Old m' m1 := by rw [hm1]; exact .push (.refl m') _
      have s1 : m1.size = m'.size + 1 := by rw [hm1, size_push]
      have gA : m1.get sb = some (.cells false true (Wc 0)) := by rw [hm1, hsb, getM_push, if_pos rfl]; rfl
      rw [← hsb, ← hm1]
      clear hm1
      refine Tot_inner (r := xs) (f := g) (hS.old o1) (fun r hr' => (hrM r hr').old o1) h4 hn (by omega) (hKy.old o1) hkn.2 hk4 hcol (hsl.old o1) gA (G1.old o1) (fun x hx => by cases hx; exact ⟨by show Lb ≠ sb; omega, na _ rfl (by omega)⟩) (fun r hr' x hx => ?_) (fun x hx => by cases hx; exact ⟨by show xb ≠ sb; omega, nr _ hmem _ rfl⟩) (fun x hx => ⟨by have := lKb x hx; omega, nk x hx⟩) (by omega)
        (by simp (decide := true) only [go_sem, e0, ↓reduceIte]) (by simp (decide := true) only [go_sem, e1, ↓reduceIte]) (by simp (decide := true) only [go_sem, e2, ↓reduceIte]) (by simp (decide := true) only [go_sem, e9, ↓reduceIte]) (by simp (decide := true) only [go_sem, ↓reduceIte]) (by simp (decide := true) only [go_sem, ↓reduceIte]) (by simp (decide := true) only [go_sem, ↓reduceIte]) fun t2' m2 hag J => ?_
      · have := ((hr r hr').sl.rows x hx (fun e => by have h := (hr r hr').sl.len; rw [e, h4 r hr'] at h; simp only [List.length_nil] at h; omega)).lt
        exact ⟨by omega, nr r hr' x hx⟩
      have f1 := hag 1 (by decide +kernel)
      have f8 := hag 8 (by decide +kernel)
      have f11 := hag 11 (by decide +kernel)
      have f12 := hag 12 (by decide +kernel)
      have f25 := hag 25 (by decide +kernel)
      simp (decide := true) only [go_sem, e1, e8, e25, ↓reduceIte] at f1 f8 f11 f12 f25
      clear hag
      have JA := J.a
      rw [← hrs, ← hrl, seg_sK hnp, ← hS'] at JA
      have s2 := J.size
      have g2 : ∀ x, x < m'.size → x ≠ db → m2.get x = m'.get x := fun x hx h => by rw [J.keep x (by omega) (by omega) h, o1.get hx]
      have i1 := rInt_ans S hSb.1 hSb.2
      simp only [W] at i1
      simp only [Wc] at JA
      have rA := rowsW JA
      have lA := getM_lt JA
      simp (decide := true) (implicitDefEqProofs := false) (maxDischargeDepth := 20) only [go_sem, nilOk, f1, f8, f11, f12, f25, rA, lA, ↓reduceIte, Int.toNat_natCast, true_implies, false_implies]
      refine (i1 m2).mono ?_
      rintro w m3 ⟨rfl, o3⟩
      have s3 := o3.size
      by_cases hfit : -9223372036854775808 ≤ S ∧ S < 9223372036854775808
      · rw [if_pos hfit]
        simp (decide := true) (implicitDefEqProofs := false) (maxDischargeDepth := 20) only [go_sem, nilOk, f1, f8, f11, f12, f25, ↓reduceIte, Int.toNat_natCast, true_implies, false_implies]
        have hKy3 : SlA m3 1 ka kn kc (key.map natV) := (hKy.keep fun x hx hne' => g2 _ (by have := lKb x hx; omega) (nk x hx)).old o3
        have hsl3 : SlA m3 1 (some ⟨xb, xo, xsp⟩) 4 xc (xs.map (.int .i64)) := (hsl.keep fun x hx hne' => by cases hx; exact g2 xb (by omega) (nr _ hmem _ rfl)).old o3
        refine Tot_key (r := xs) hKy3 hkn.2 hk4 hsl3 (by simp (decide := true) only [go_sem, f11, ↓reduceIte]) (by simp (decide := true) only [go_sem, ↓reduceIte]) (by simp (decide := true) only [go_sem, f1, ↓reduceIte]) (by simp (decide := true) only [go_sem, ↓reduceIte]) (by simp (decide := true) only [go_sem, ↓reduceIte]) fun t4' m4 ax hag4 h19 V4 o4 => ?_
        have v8 := hag4 8 (by decide +kernel)
        have v17 := hag4 17 (by decide +kernel)
        have v25 := hag4 25 (by decide +kernel)
        simp (decide := true) only [go_sem, f8, f25, ↓reduceIte] at v8 v17 v25
        clear hag4
        have s4 := o4.size
        have o24 := o3.trans o4
        simp (decide := true) (implicitDefEqProofs := false) (maxDischargeDepth := 20) only [go_sem, nilOk, v8, v17, v25, h19, ↓reduceIte, Int.toNat_natCast, true_implies, false_implies]
        refine V4.appendQ rfl (by omega) rfl (by decide) (by decide +kernel) (by decide +kernel) rfl (by omega) fun m5 b5 s5 v5 k5 hb5 => ?_
        have o25 : Old m2 m5 := .of_get (by have := k5.1; omega) fun i hi => by rw [k5.2 i (by omega) fun y hy e => by have := (V4.blk y hy).1; omega, o24.get hi]
        have s25 := o25.size
        have V' : Vec m0.size m5 1 a es.length (es.map HRow.v) := (H.vec.keep fun y hy => g2 _ (hax y hy).2 (by have := hax y hy; omega)).old o25
        simp (decide := true) (implicitDefEqProofs := false) (maxDischargeDepth := 20) only [go_sem, nilOk, v8, v25, ↓reduceIte, Int.toNat_natCast, true_implies, false_implies]
        refine V'.appendQ rfl (by omega) rfl (by decide) (by decide +kernel) (by decide +kernel) rfl (by omega) fun m6 b6 s6 v6 k6 hb6 => ?_
        simp (decide := true) (implicitDefEqProofs := false) (maxDischargeDepth := 20) only [go_sem, nilOk, v25, w1, ↓reduceIte, Int.toNat_natCast, true_implies, false_implies]
        have eo : (keyV key xs).map (Value.int .i64) ++ [.int .i64 S] = (outT (keyV key xs, S)).map (.int .i64) := by unfold outT; rw [List.map_append]; rfl
        rw [eo] at v5
        have l5 : b5 < m5.size := v5.lt rfl
        have s6' := k6.1
        have lo5 : m3.size ≤ b5 := (v5.blk _ rfl).1
        have g6 : ∀ i, i < m5.size → (∀ y, a = some y → i ≠ y.block) → m6.get i = m5.get i := fun i hi hne => k6.2 i hi hne
        have g26 : ∀ i, i < m'.size → i ≠ db → (∀ y, a = some y → i ≠ y.block) → m6.get i = m'.get i := fun i hi h1 h2 => by rw [g6 i (by omega) h2, o25.get (by omega), g2 i hi h1]
        refine ⟨n - (k + 1), by omega, k + 1, some ⟨b6, 0, s6⟩, es ++ [⟨some ⟨b5, 0, s5⟩, kn + 1, kn + 1, outT (keyV key xs, S)⟩], Ks ++ [keyV key xs], by omega, rfl, rfl, by rw [List.length_append]; rfl, ⟨?_, fun e he => ?_, fun e he => ?_, ?_, by omega, fun x hx hne => ?_⟩, ?_, by rw [List.length_append, List.length_singleton]; omega⟩
        · rw [List.length_append, List.map_append]
          exact v6
        · rcases List.mem_append.1 he with he | he
          · obtain ⟨b, s, hb1, hb2, hb3, hb4⟩ := H.blk e he
            exact (H.row e he).keep fun y hy _ => by
              rw [hb1] at hy; cases hy
              exact g26 b hb3 (by omega) hb4
          · rw [List.mem_singleton.1 he]
            refine ⟨v5.sl.keep fun y hy _ => ?_, ?_, fun x hx => ?_⟩
            · cases hy
              exact g6 b5 l5 fun y hy => by have := hax y hy; omega
            · unfold outT; rw [List.length_append]; simp [keyV, hkl]
            · unfold outT at hx
              rcases List.mem_append.1 hx with hx | hx
              · obtain ⟨c, hc, rfl⟩ := List.mem_map.1 hx
                have := r4 xs hmr
                exact this.2 _ (by simp [List.getD_eq_getElem?_getD, this.1, hk4 c hc])
              · rw [List.mem_singleton.1 hx]; exact hfit
        · rcases List.mem_append.1 he with he | he
          · obtain ⟨b, s, hb1, hb2, hb3, hb4⟩ := H.blk e he
            exact ⟨b, s, hb1, hb2, by omega, fun y hy => by cases hy; show b ≠ b6; omega⟩
          · rw [List.mem_singleton.1 he]
            exact ⟨b5, s5, rfl, by omega, by omega, fun y hy => by cases hy; show b5 ≠ b6; omega⟩
        · obtain ⟨g', J1, J2, J3⟩ := J.d
          rw [← hrs] at J2 J3
          refine ⟨g', J1.keep ((g6 db (by omega) fun y hy e => by have := hax y hy; omega).trans (o25.get (by omega))), fun j hj => ?_⟩
          by_cases hsm : sK key (keyV key xs) (rs.getD j []) = true
          · have hsm' : keyV key (rs.getD j []) = keyV key xs := by unfold sK at hsm; simpa using hsm
            have hkj : k ≤ j := by
              refine Nat.le_of_not_lt fun hjk => hnp ⟨rs.getD j [], ?_, hsm'⟩
              rw [List.getD_eq_getElem?_getD, List.getElem?_eq_getElem hj]
              exact List.mem_take_iff_getElem.2 ⟨j, by omega, rfl⟩
            rw [J2 j hkj (by omega) hsm, hsm', decide_eq_true (List.mem_append.2 (.inr (List.mem_singleton.2 rfl)))]
            rfl
          · rw [J3 j fun h => hsm h.2.2, G2 j hj]
            have : keyV key (rs.getD j []) ≠ keyV key xs := fun e => hsm (by unfold sK; rw [e]; simp)
            have e1 : decide (keyV key (rs.getD j []) ∈ Ks) = decide (keyV key (rs.getD j []) ∈ Ks ++ [keyV key xs]) := by
              generalize rs.getD j [] = z at this ⊢
              simp [this]
            rw [e1]
        · rw [g26 x (by omega) hne fun y hy e => by have := hax y hy; omega, H.keep x hx hne]
        · have := P.more (by omega) (by rw [exk]; exact hin) (by rw [exk, eG]; exact hfit)
          rw [exk, eG] at this
          rw [List.map_append]
          exact this
      · rw [if_neg hfit]
        simp (decide := true) (implicitDefEqProofs := false) (maxDischargeDepth := 20) only [go_sem, nilOk, f1, f8, f11, f12, f25, ↓reduceIte, Int.toNat_natCast, true_implies, false_implies]
        exact .inr ⟨⟨xs, hmr, by rw [eG]; exact hfit⟩, by omega, fun x hx hne => by rw [o3.get (by omega), g2 x (by omega) hne, H.keep x hx hne]⟩
  · have d1 : decide ((k : Int) < (n : Int)) = false := by simp; omega
    have hkn' : k = n := by omega
    subst hkn'
    simp (decide := true) (implicitDefEqProofs := false) (maxDischargeDepth := 20) only [go_sem, e24, e25, d1, ↓reduceIte, true_implies, false_implies]
    exact .inl ⟨a, es, Ks, e8, H, P, hlen2⟩


/-! ### SumR -/

def TotR (key : List Nat) (col : Nat) (rs : List (List Int)) (w : Value) (m : Mem) : Prop :=
  (∃ (a : Option Addr) (es : List HRow) (Ks : List (List Int)), w = .tuple #[.slice a es.length es.length, .bool true] ∧ SlA m 1 a es.length es.length ((sortL [] es).map HRow.v) ∧ (∀ e ∈ es, e.At m) ∧ OutG key col rs rs.length (es.map HRow.xs) Ks ∧ es.length ≤ rs.length) ∨
  (w = .tuple #[.slice none 0 0, .bool false] ∧ ∃ r ∈ rs, ¬ fitsG (grpT key col rs (keyV key r)))

set_option maxRecDepth 100000 in
set_option maxHeartbeats 8000000 in
theorem RTotal_at {m : Mem} {a0 ka : Option Addr} {n c0 kn kc col : Nat} {ls : List HRow} {key : List Nat} (hs : SlA m 1 a0 n c0 (ls.map HRow.v)) (hr : ∀ r ∈ ls, r.At m) (h4 : ∀ r ∈ ls, r.n = 4) (hn : n ≤ 900)
    (hkey : SlA m 1 ka kn kc (key.map natV)) (hkn : 1 ≤ kn ∧ kn ≤ 100) (hk4 : ∀ c ∈ key, c < 4) (hcol : col < 4) :
    CallQ E F_sheafref16_Total [.slice a0 n c0, .slice ka kn kc, natV col].toArray m fun w m' => TotR key col (ls.map HRow.xs) w m' ∧ Old m m' := by
  have hl : ls.length = n := by have := hs.len; simpa using this
  have hlr : (ls.map HRow.xs).length = n := by rw [List.length_map, hl]
  have hkl : key.length = kn := by have := hkey.len; simpa using this
  refine .enter fn_sheafref16_Total (by simp) ?_
  have mk : ∀ mm : Mem, makeMapV E mm 79 none = some (.map (some mm.size), mm.push (.map [] 0)) := fun mm => makeMapV_int imap79
  simp (decide := true) (implicitDefEqProofs := false) (maxDischargeDepth := 20) only [go_sem, mk, Option.map_none, ↓reduceIte, true_implies, false_implies]
  obtain ⟨m1, hm1⟩ : ∃ m1, m1 = m.push (.map [] 0) := ⟨_, rfl⟩
  have o1 : Old m m1 := by rw [hm1]; exact .push (.refl m) _
  have g1 : m1.get m.size = some (.map [] 0) := by rw [hm1, getM_push, if_pos rfl]
  rw [← hm1]
  have D := IMap.new g1
  refine Tot_outer (hs.old o1) (fun r hr' => (hr r hr').old o1) h4 hn D (hkey.old o1) hkn hk4 hcol (fun x hx h0 => ?_) (fun r hr' x hx => ?_) (fun x hx => ?_) (by simp (decide := true) only [go_sem, ↓reduceIte]) (by simp (decide := true) only [go_sem, ↓reduceIte]) (by simp (decide := true) only [go_sem, ↓reduceIte]) (by simp (decide := true) only [go_sem, ↓reduceIte]) (by simp (decide := true) only [go_sem, ↓reduceIte]) (by simp (decide := true) only [go_sem, ↓reduceIte]) (by simp (decide := true) only [go_sem, ↓reduceIte]) (by simp (decide := true) only [go_sem, ↓reduceIte])
    (fun t2 m2 a es Ks hag e8 J P hel => ?_) (fun t2 m2 e6 e7 hbad hsz hkp => ?_)
  · have := (hs.rows x hx (fun e => by have h := hs.len; rw [e] at h; simp only [List.length_nil] at h; omega)).lt
    omega
  · have := ((hr r hr').sl.rows x hx (fun e => by have h := (hr r hr').sl.len; rw [e, h4 r hr'] at h; simp only [List.length_nil] at h; omega)).lt
    omega
  · have := (hkey.rows x hx (fun e => by have h := hkey.len; rw [e] at h; simp only [List.length_nil] at h; omega)).lt
    omega
  · have hn1 : ∀ r ∈ es, r.n ≤ 1000000 := fun r hr' => by
      have h1 : r.xs ∈ es.map HRow.xs := List.mem_map.2 ⟨r, hr', rfl⟩
      rw [P.out] at h1
      obtain ⟨K, hK, h2⟩ := List.mem_map.1 h1
      obtain ⟨y, _, h3⟩ := (P.mem K).1 hK
      rw [← (J.row r hr').len, ← h2, ← h3]
      show (keyV key y ++ [_]).length ≤ _
      rw [List.length_append]
      simp [keyV]
      omega
    simp (decide := true) (implicitDefEqProofs := false) (maxDischargeDepth := 20) only [go_sem, e8, ↓reduceIte, true_implies, false_implies]
    refine (Sorted_at (cols := []) J.vec.sl J.row hn1 (.empty 1) (by omega) (by omega)).mono ?_
    rintro w m3 ⟨b, s, rfl, V, o3⟩
    simp (decide := true) (implicitDefEqProofs := false) (maxDischargeDepth := 20) only [go_sem, ↓reduceIte, true_implies, false_implies]
    have sz1 := o1.size
    have sz2 := J.size
    have sz3 := o3.size
    refine ⟨.inl ⟨some ⟨b, 0, s⟩, es, Ks, rfl, V.sl, fun e he => (J.row e he).old o3, by rw [hlr]; exact P, by rw [hlr]; exact hel⟩, .of_get (by omega) fun i hi => ?_⟩
    rw [o3.get (by omega), J.keep i (by omega) (by omega), o1.get hi]
  · have sz1 := o1.size
    simp (decide := true) (implicitDefEqProofs := false) (maxDischargeDepth := 20) only [go_sem, e6, e7, ↓reduceIte, true_implies, false_implies]
    refine ⟨.inr ⟨rfl, hbad⟩, .of_get (by omega) fun i hi => ?_⟩
    rw [hkp i (by omega) (by omega), o1.get hi]

theorem four (z : List Int) (h : z.length = 4) : ∃ a b c d, z = [a, b, c, d] := by
  match z, h with
  | [a, b, c, d], _ => exact ⟨a, b, c, d, rfl⟩
theorem cmp01 (a b c d x y z w : Int) : cmpL [a, b, c, d] [x, y, z, w] [0, 1] = firstN [cmpO (some a) (some x), cmpO (some b) (some y), cmpO (some a) (some x), cmpO (some b) (some y), cmpO (some c) (some z), cmpO (some d) (some w)] := rfl
theorem cmp1 (a x : Int) : cmpL [a] [x] [] = firstN [cmpO (some a) (some x)] := rfl
theorem cmp2 (a b x y : Int) : cmpL [a, b] [x, y] [] = firstN [cmpO (some a) (some x), cmpO (some b) (some y)] := rfl
theorem cmp3 (a b c x y z : Int) : cmpL [a, b, c] [x, y, z] [] = firstN [cmpO (some a) (some x), cmpO (some b) (some y), cmpO (some c) (some z)] := rfl
theorem leT_of {x y : List Int} (hx : x.length = 4) (hy : y.length = 4) (h : cmpL x y [0, 1] ≤ 0) : leT [0] x y ∧ leT [0, 1] x y := by
  obtain ⟨a, b, c, d, rfl⟩ := four x hx
  obtain ⟨e, f, g, i, rfl⟩ := four y hy
  rw [cmp01] at h
  unfold leT
  rw [show keyV [0] [a, b, c, d] = [a] from rfl, show keyV [0] [e, f, g, i] = [e] from rfl, show keyV [0, 1] [a, b, c, d] = [a, b] from rfl, show keyV [0, 1] [e, f, g, i] = [e, f] from rfl, cmp1, cmp2]
  generalize cmpO (some a) (some e) = c0 at *
  generalize cmpO (some b) (some f) = c1 at *
  simp only [firstN] at h ⊢
  by_cases h0 : c0 = 0
  · rw [if_pos h0] at h ⊢
    by_cases h1 : c1 = 0
    · rw [if_pos h0, if_pos h1]; exact ⟨Int.le_refl _, Int.le_refl _⟩
    · rw [if_neg h1] at h; rw [if_pos h0, if_neg h1]; exact ⟨Int.le_refl _, h⟩
  · rw [if_neg h0] at h
    rw [if_neg h0, if_neg h0]
    exact ⟨h, h⟩
theorem out_le {key : List Nat} (hk : key = [0] ∨ key = [0, 1]) {r q : List Int} (hne : keyV key r ≠ keyV key q) (h : cmpL (keyV key r) (keyV key q) [] ≤ 0) (n m : Int) : cmpL (keyV key r ++ [n]) (keyV key q ++ [m]) [] ≤ 0 := by
  have hz : cmpL (keyV key r) (keyV key q) [] ≠ 0 := fun e => hne ((cmpL_zero _ _ []).1 e)
  rcases hk with rfl | rfl
  · rw [show keyV [0] r = [r.getD 0 0] from rfl, show keyV [0] q = [q.getD 0 0] from rfl] at *
    simp only [List.cons_append, List.nil_append]
    rw [cmp1] at h hz
    rw [cmp2]
    generalize cmpO (some (r.getD 0 0)) (some (q.getD 0 0)) = c0 at *
    simp only [firstN] at h hz ⊢
    by_cases h0 : c0 = 0
    · rw [if_pos h0] at hz; exact (hz rfl).elim
    · rw [if_neg h0] at h ⊢; exact h
  · rw [show keyV [0, 1] r = [r.getD 0 0, r.getD 1 0] from rfl, show keyV [0, 1] q = [q.getD 0 0, q.getD 1 0] from rfl] at *
    simp only [List.cons_append, List.nil_append]
    rw [cmp2] at h hz
    rw [cmp3]
    generalize cmpO (some (r.getD 0 0)) (some (q.getD 0 0)) = c0 at *
    generalize cmpO (some (r.getD 1 0)) (some (q.getD 1 0)) = c1 at *
    simp only [firstN] at h hz ⊢
    by_cases h0 : c0 = 0
    · rw [if_pos h0] at h hz ⊢
      by_cases h1 : c1 = 0
      · rw [if_pos h1] at hz; exact (hz rfl).elim
      · rw [if_neg h1] at h ⊢; exact h
    · rw [if_neg h0] at h ⊢; exact h
theorem cut_none : ∀ {l : List Grp}, (∃ g ∈ l, ¬ fitsG g) → none ∈ cutT l
  | [], ⟨g, h, _⟩ => by cases h
  | x :: l, ⟨g, h, hg⟩ => by
    show none ∈ (if fitsG x then some x :: cutT l else [none])
    split
    · rename_i hx
      rcases List.mem_cons.1 h with rfl | h
      · exact (hg hx).elim
      · exact List.mem_cons_of_mem _ (cut_none ⟨g, h, hg⟩)
    · exact List.mem_singleton.2 rfl

set_option maxRecDepth 100000 in
set_option maxHeartbeats 8000000 in
theorem Total_end {m : Mem} {t : Fr} {a0 ka : Option Addr} {n c0 kn kc : Nat} {ls : List HRow} {key : List Nat} (hs : SlA m 1 a0 n c0 (ls.map HRow.v)) (hr : ∀ r ∈ ls, r.At m) (h4 : ∀ r ∈ ls, r.n = 4) (hn : n ≤ 900)
    (hkey : SlA m 1 ka kn kc (key.map natV)) (hk : key = [0] ∨ key = [0, 1]) (hsrt : (ls.map HRow.xs).Pairwise (fun x y => cmpL x y [0, 1] ≤ 0))
    (t5 : t 5 = .slice a0 n c0) (t6 : t 6 = .slice ka kn kc) :
    wpM E F_sheaflaw19_SumsTotal 39 none c_sheaflaw19_SumsTotal_4 (retK (ResK E [.tmp 4] fun v _ => v = .bool true)) t m := by
  have hl : ls.length = n := by have := hs.len; simpa using this
  have hkl : key.length = kn := by have := hkey.len; simpa using this
  have hkn : 1 ≤ kn ∧ kn ≤ 100 := by rcases hk with rfl | rfl <;> simp at hkl <;> omega
  have hk4 : ∀ c ∈ key, c < 4 := fun c hc => by rcases hk with rfl | rfl <;> simp at hc <;> omega
  obtain ⟨rs, hrs⟩ : ∃ rs, rs = ls.map HRow.xs := ⟨_, rfl⟩
  have hrl : rs.length = n := by rw [hrs, List.length_map, hl]
  have r4 : ∀ r ∈ rs, r.length = 4 ∧ ∀ x ∈ r, -9223372036854775808 ≤ x ∧ x < 9223372036854775808 := fun r hr' => by
    rw [hrs] at hr'
    obtain ⟨y, hy, rfl⟩ := List.mem_map.1 hr'
    exact ⟨by rw [(hr y hy).len]; exact h4 y hy, (hr y hy).bd⟩
  rw [← hrs] at hsrt
  have hle : rs.Pairwise (leT key) := hsrt.imp_of_mem fun {x y} hx hy h => by
    have := leT_of (r4 x hx).1 (r4 y hy).1 h
    rcases hk with rfl | rfl
    · exact this.1
    · exact this.2
  obtain ⟨Ks, hnd, hmem, hpw, htot⟩ := tot_spec 3 hle
  have hb : ∀ g ∈ totL key 3 rs, (-170141183460469231731687303715884105728 ≤ g.2 ∧ g.2 < 170141183460469231731687303715884105728) ∧ ∀ x ∈ g.1, -9223372036854775808 ≤ x ∧ x < 9223372036854775808 := fun g hg => by
    rw [htot] at hg
    obtain ⟨K, hK, rfl⟩ := List.mem_map.1 hg
    obtain ⟨r, hr', rfl⟩ := (hmem K).1 hK
    refine ⟨tS_wide (fun q hq => ?_) (Nat.le_trans (List.length_filter_le _ _) (by omega)), fun x hx => ?_⟩
    · have := r4 q (List.mem_filter.1 hq).1
      exact this.2 _ (by simp [List.getD_eq_getElem?_getD, this.1])
    · obtain ⟨c, hc, rfl⟩ := List.mem_map.1 hx
      have := r4 r hr'
      exact this.2 _ (by simp [List.getD_eq_getElem?_getD, this.1, hk4 c hc])
  simp (decide := true) (implicitDefEqProofs := false) (maxDischargeDepth := 20) only [go_sem, t5, t6, ↓reduceIte, true_implies, false_implies]
  refine (TotG_at (key := key) (col := 3) hs hr (by omega) hkey hkn.2 (by rw [← hrs]; exact hb)).mono ?_
  rintro w m1 ⟨hres, o1⟩
  have tot2 := RTotal_at (col := 3) (hs.old o1) (fun r hr' => (hr r hr').old o1) h4 hn (hkey.old o1) hkn hk4 (by omega)
  rw [← hrs] at hres tot2
  by_cases hall : ∀ g ∈ totL key 3 rs, fitsG g
  · have ec : cutT (totL key 3 rs) = (totL key 3 rs).map some := by
      have := cut_pre (totL key 3 rs) [] hall
      rw [List.append_nil] at this
      rw [this]
      simp [cutT]
    rw [ec] at hres
    rcases hres with ⟨ao, os, hos, rfl, SO, hro'⟩ | ⟨hno, _⟩
    · have hxs : os.map HRow.xs = (totL key 3 rs).map outT := by
        have e1 : os.map (fun r => some r.xs) = (os.map HRow.xs).map some := by rw [List.map_map]; rfl
        have e2 : oT ((totL key 3 rs).map some) = ((totL key 3 rs).map outT).map some := by unfold oT; rw [List.map_map, List.map_map]; rfl
        rw [e1, e2] at hos
        exact ((List.map_inj_right (fun x y h => Option.some.inj h)).1 hos).symm
      simp (decide := true) (implicitDefEqProofs := false) (maxDischargeDepth := 20) only [go_sem, t5, t6, ↓reduceIte, true_implies, false_implies]
      refine tot2.mono ?_
      rintro w m2 ⟨hR, o2⟩
      rcases hR with ⟨b, es, Ks2, rfl, SE, hre, P, hpl⟩ | ⟨_, r, hr', hbad⟩
      · have hmem2 : ∀ K, K ∈ Ks2 ↔ ∃ r ∈ rs, keyV key r = K := fun K => by rw [P.mem, List.take_length]
        have hKs : Ks.Perm Ks2 := (List.perm_ext_iff_of_nodup hnd P.nd).2 fun K => (hmem K).trans (hmem2 K).symm
        have h1 : os.map HRow.xs = Ks.map fun K => outT (grpT key 3 rs K) := by rw [hxs, htot, List.map_map]; rfl
        have hpp : (os.map HRow.xs).Perm (es.map HRow.xs) := by rw [h1, P.out]; exact hKs.map _
        have hsame : os.map HRow.xs = (sortL [] es).map HRow.xs := by
          refine List.Perm.eq_of_pairwise (le := fun a b => cmpL a b [] ≤ 0) (fun a b _ _ h k => ?_) ?_ ?_ (hpp.trans ((sortL_perm _ _).map _).symm)
          · rw [cmpL_neg] at k
            exact (cmpL_zero _ _ []).1 (by omega)
          · rw [h1, List.pairwise_map]
            have hne : Ks.Pairwise (fun a b => a ≠ b) := hnd
            refine (hpw.and hne).imp_of_mem fun {K1 K2} hK1 hK2 h => ?_
            obtain ⟨r1, _, rfl⟩ := (hmem K1).1 hK1
            obtain ⟨r2, _, rfl⟩ := (hmem K2).1 hK2
            exact out_le hk h.2 h.1 _ _
          · rw [List.pairwise_map]; exact sortL_sorted _ _
        have hol : os.length = es.length := by have := hpp.length_eq; simpa using this
        have lenx : ∀ x ∈ os.map HRow.xs, x.length ≤ 1000000 := fun x hx => by
          rw [h1] at hx
          obtain ⟨K, hK, rfl⟩ := List.mem_map.1 hx
          obtain ⟨y, _, rfl⟩ := (hmem K).1 hK
          show (keyV key y ++ [_]).length ≤ _
          rw [List.length_append]
          simp [keyV]
          omega
        have p1 := sortL_perm [] es
        have d1 : (true == true) = true := rfl
        simp (decide := true) (implicitDefEqProofs := false) (maxDischargeDepth := 20) only [go_sem, t5, t6, d1, ↓reduceIte, true_implies, false_implies]
        refine (Rows_at (SO.old o2) SE (fun r hr' => ⟨(hro' r hr').old o2, ?_⟩) (fun r hr' => ⟨hre r (p1.mem_iff.1 hr'), ?_⟩) (by omega) (by omega)).mono ?_
        · rw [← (hro' r hr').len]
          exact lenx _ (List.mem_map.2 ⟨r, hr', rfl⟩)
        · rw [← (hre r (p1.mem_iff.1 hr')).len]
          exact lenx _ (by rw [hsame]; exact List.mem_map.2 ⟨r, hr', rfl⟩)
        rintro w m3 ⟨rfl, o3⟩
        rw [decide_eq_true hsame]
        simp (decide := true) (implicitDefEqProofs := false) (maxDischargeDepth := 20) only [go_sem, ↓reduceIte, true_implies, false_implies]
      · refine (hbad (hall _ ?_)).elim
        rw [htot]
        exact List.mem_map.2 ⟨_, (hmem _).2 ⟨r, hr', rfl⟩, rfl⟩
    · simp [oT] at hno
  · have hex : ∃ g ∈ totL key 3 rs, ¬ fitsG g := by
      refine Classical.byContradiction fun h => hall fun g hg => Classical.byContradiction fun hf => h ⟨g, hg, hf⟩
    have hno : none ∈ oT (cutT (totL key 3 rs)) := List.mem_map.2 ⟨none, cut_none hex, rfl⟩
    rcases hres with ⟨ao, os, hos, rfl, SO, hro'⟩ | ⟨_, rfl⟩
    · rw [hos] at hno
      simp at hno
    · simp (decide := true) (implicitDefEqProofs := false) (maxDischargeDepth := 20) only [go_sem, t5, t6, ↓reduceIte, true_implies, false_implies]
      refine tot2.mono ?_
      rintro w m2 ⟨hR, o2⟩
      rcases hR with ⟨b, es, Ks2, rfl, SE, hre, P, hpl⟩ | ⟨rfl, _⟩
      · obtain ⟨g, hg, hf⟩ := hex
        rw [htot] at hg
        obtain ⟨K, hK, rfl⟩ := List.mem_map.1 hg
        refine (hf (P.ok K ((P.mem K).2 ?_))).elim
        rw [List.take_length]
        exact (hmem K).1 hK
      · have d1 : (false == false) = true := rfl
        simp (decide := true) (implicitDefEqProofs := false) (maxDischargeDepth := 20) only [go_sem, t5, t6, d1, ↓reduceIte, true_implies, false_implies]
        refine (Rows_at (rs := []) (qs := []) (.empty 1) (.empty 1) (fun r hr => by cases hr) (fun r hr => by cases hr) (by omega) (by omega)).mono ?_
        rintro w m3 ⟨rfl, o3⟩
        have d2 : decide (([] : List HRow).map HRow.xs = ([] : List HRow).map HRow.xs) = true := rfl
        rw [d2]
        simp (decide := true) (implicitDefEqProofs := false) (maxDischargeDepth := 20) only [go_sem, ↓reduceIte, true_implies, false_implies]

attribute [-go_sem] c_sheaflaw19_SumsTotal_4_at in
set_option maxRecDepth 100000 in
set_option maxHeartbeats 8000000 in
theorem SumsTotal_law (m : Mem) (hro : ∀ i c, m.get i = some c → c.writable = false)
    (a0 : Option Addr) (l0 c0 : Nat) (zs : List (List Int)) (hs0 : SlA m 7 a0 l0 c0 ((zs.map fun z => z.map (.int .i64)).flatten)) (hl0 : zs.length = l0) (hz0 : ∀ z ∈ zs, z.length = 7 ∧ ∀ x ∈ z, -9223372036854775808 ≤ x ∧ x < 9223372036854775808) (two : Bool) :
    CallQ E F_sheaflaw19_SumsTotal [.slice a0 l0 c0, .bool two].toArray m fun v _ => v = .bool true := by
  refine .enter fn_sheaflaw19_SumsTotal (by simp) ?_
  simp (decide := true) (implicitDefEqProofs := false) (maxDischargeDepth := 20) only [go_sem, ↓reduceIte, true_implies, false_implies]
  refine (RowsF_at hs0 hl0 hz0).mono ?_
  rintro w m1 ⟨b, s, qs, rfl, hqn, V, O, hqb, hrows, hsort, o1⟩
  have hx : (qs.map rowH).map HRow.xs = qs.map Prod.snd := by rw [List.map_map]; rfl
  have h4 : ∀ r ∈ qs.map rowH, r.n = 4 := fun r hr => by
    obtain ⟨q, hq, rfl⟩ := List.mem_map.1 hr
    obtain ⟨e, p, i, n, h1, _⟩ := hrows q hq
    show q.2.length = 4
    rw [h1]; rfl
  have hAt : ∀ r ∈ qs.map rowH, r.At m1 := fun r hr => by
    obtain ⟨q, hq, rfl⟩ := List.mem_map.1 hr
    exact O.at_ q hq
  obtain ⟨m2, hm2⟩ : ∃ m2, m2 = m1.push (.cells false true [.int .i64 0]) := ⟨_, rfl⟩
  have o2 : Old m1 m2 := by rw [hm2]; exact .push (.refl m1) _
  have s2 : m2.size = m1.size + 1 := by rw [hm2, size_push]
  cases two with
  | true =>
    simp (decide := true) (implicitDefEqProofs := false) (maxDischargeDepth := 20) only [go_sem, ← hm2, ↓reduceIte, true_implies, false_implies]
    have o3 : Old m1 (m2.push (.cells false true [.int .i64 0, .int .i64 1])) := o2.trans (.push (.refl m2) _)
    refine Total_end (ls := qs.map rowH) (key := [0, 1]) (n := qs.length) (V.sl.old o3) (fun r hr => (hAt r hr).old o3) h4 (by omega) (ka := some ⟨m2.size, 0, none⟩) (kn := 2) (kc := 2) (.new (by rw [getM_push, if_pos rfl]; rfl) rfl rfl) (.inr rfl) (by rw [hx]; exact hsort) (by simp (decide := true) only [go_sem, ↓reduceIte]) (by simp (decide := true) only [go_sem, ↓reduceIte])
  | false =>
    simp (decide := true) (implicitDefEqProofs := false) (maxDischargeDepth := 20) only [go_sem, ← hm2, ↓reduceIte, true_implies, false_implies]
    refine Total_end (ls := qs.map rowH) (key := [0]) (n := qs.length) (V.sl.old o2) (fun r hr => (hAt r hr).old o2) h4 (by omega) (ka := some ⟨m1.size, 0, none⟩) (kn := 1) (kc := 1) (.new (by rw [hm2, getM_push, if_pos rfl]; rfl) rfl rfl) (.inl rfl) (by rw [hx]; exact hsort) (by simp (decide := true) only [go_sem, ↓reduceIte]) (by simp (decide := true) only [go_sem, ↓reduceIte])

end Go.Proofs.Ytjmppooebppecaa.W
