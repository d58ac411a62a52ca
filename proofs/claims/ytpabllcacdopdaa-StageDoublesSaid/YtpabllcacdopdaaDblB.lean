/-
  stage.Doubles as an iterator.
-/
import Derived.Test.YtpabllcacdopdaaDblA
namespace Go.Proofs.Ytpabllcacdopdaa.W
open Go.Abs
set_option linter.unusedSimpArgs false
set_option linter.unusedVariables false

set_option maxRecDepth 100000 in
set_option maxHeartbeats 8000000 in
theorem DoublesI {Z : Nat → Option Blk} {F : Set'} {s : Value} {n : Nat} {Own : Nat → Mem → Prop} {rs : List HRow} (hs : Iter E Z F s n Own (pureEl (rowsEl rs))) (hr : ∀ m, Frozen Z m → ∀ k, (rs.getD k noRow).At m) (hrn : ∀ k, (rs.getD k noRow).n ≤ 1000000)
    {b1 : Nat} {r1 t1 : Bool} (h1 : Z b1 = some (.cells r1 t1 [s])) :
    Iter E Z F (.func (.func F_stage_Doubles_1) #[] #[ptr b1]) n (OwnD Own n) (cloneEl rs (dblW rs n)) where
  fn := ⟨_, _, _, rfl⟩
  locO := fun k m m' h hk => by cases k with
    | zero => exact hs.locO 0 m m' h hk
    | succ k => exact hs.locO _ m m' h hk
  locE := cloneEl_loc _ _
  go := by
    intro y hy I D lI lD step m A z o hF own0 i0
    obtain ⟨yf, ya, yc, rfl⟩ := hy
    rw [CallF_func]
    refine ⟨by simp only [go_sem], ?_⟩
    have e : (#[] ++ [Value.func yf ya yc].toArray ++ #[ptr b1] : Array Value) = [Value.func yf ya yc, ptr b1].toArray := by simp
    rw [e]
    refine .enter fn_stage_Doubles_1 (by simp) ?_
    have r1 := frozen_at z h1
    have lb1 := z.lt h1
    have n1 : ¬ b1 = m.size := by omega
    have n2 : ¬ b1 = m.size + 1 := by omega
    have n3 : ¬ b1 = m.size + (1 + 1) := by omega
    have n4 : ¬ b1 = m.size + (1 + (1 + 1)) := by omega
    have n5 : ¬ b1 = m.size + (1 + (1 + (1 + 1))) := by omega
    simp (decide := true) (implicitDefEqProofs := false) (maxDischargeDepth := 20) only [go_sem, r1, n1, n2, n3, n4, n5, ↓reduceIte, true_implies, false_implies]
    refine dbl_boxes (fun mm => wpM E _ _ _ _ _ _ mm) m _ _ _ _ _ _ _ _ fun m1 q0 q1 q2 q3 q4 ho hs1 => ?_
    obtain ⟨yb, hyb⟩ : ∃ b, b = m.size := ⟨_, rfl⟩
    obtain ⟨kb, hkb⟩ : ∃ b, b = m.size + 1 := ⟨_, rfl⟩
    obtain ⟨hb, hhb⟩ : ∃ b, b = m.size + (1 + 1) := ⟨_, rfl⟩
    obtain ⟨db, hdb⟩ : ∃ b, b = m.size + (1 + (1 + 1)) := ⟨_, rfl⟩
    obtain ⟨tb, htb⟩ : ∃ b, b = m.size + (1 + (1 + (1 + 1))) := ⟨_, rfl⟩
    rw [← htb] at q4 ⊢
    rw [← hdb] at q3 q4 ⊢
    rw [← hhb] at q2 ⊢
    rw [← hkb] at q1 q4 ⊢
    rw [← hyb] at q0 q4 ⊢
    simp only [c_stage_Doubles_1_7_at, wpM_block, c_stage_Doubles_1_6_at]
    have hZF : ∀ i, m.size ≤ i → Z i = none ∧ ¬ F i := fun i hi => ⟨z.free hi, fun f => by have := (hF i f).1; omega⟩
    have ea : (#[] ++ #[] ++ #[ptr db, ptr yb, ptr kb] : Array Value) = [ptr db, ptr yb, ptr kb].toArray := by simp
    refine wpM_rangeP (A := fun i => A i ∨ i = yb ∨ i = kb ∨ i = hb ∨ i = db ∨ i = tb) hs (fun t => upd t 7 (t 11)) (by simp (decide := true) only [go_sem, ↓reduceIte]) rfl asg_stage_Doubles_1_0 body_stage_Doubles_1_0 (by decide) (fun K l t m h => by simp (decide := true) only [go_sem, ↓reduceIte]; exact h)
      (fun k m A => ∃ A1, I (k - 1) m A1 ∧ DblJ rs yb kb hb db tb (.func yf ya yc) k m A1 A)
      (fun k x m A => x = .ret ∧ 0 < k ∧ ∃ A1, D (k - 1) m A1 ∧ ∀ i, A1 i → A i)
      (fun k m1 m2 A' ⟨A1, h1, h2⟩ hk hs => ⟨A1, lI _ m1 m2 A1 h1 (fun i hi => hk i (h2.sub i hi)) hs, h2.loc hk⟩) (fun k x m1 m2 A' ⟨h1, h2, A1, h3, h4⟩ hk hs => ⟨h1, h2, A1, lD _ m1 m2 A1 h3 (fun i hi => hk i (h4 i hi)) hs, h4⟩)
      (z.old ho) (fun i hi => ?_) (fun i hi => ⟨by have := (hF i hi).1; omega, (hF i hi).2⟩) (hs.locO 0 m m1 own0 fun i hi => ho.get (hF i hi).1) ⟨A, lI 0 m _ A i0 (fun i hi => ho.get (o i hi).1) ho.size, ?_⟩ ?_ ?_ ?_
    · rcases hi with hi | hi
      · exact ⟨Nat.lt_of_lt_of_le (o i hi).1 ho.size, (o i hi).2⟩
      · exact ⟨by omega, hZF i (by omega)⟩
    · have na : ∀ i, m.size ≤ i → ¬ A i := fun i hi h => by have := (o i h).1; omega
      exact ⟨q0, q4, q2, q3, q1, ⟨.inr (.inl rfl), na _ (by omega)⟩, ⟨.inr (.inr (.inl rfl)), na _ (by omega)⟩, ⟨.inr (.inr (.inr (.inl rfl))), na _ (by omega)⟩, ⟨.inr (.inr (.inr (.inr (.inl rfl)))), na _ (by omega)⟩, ⟨.inr (.inr (.inr (.inr (.inr rfl)))), na _ (by omega)⟩, fun i hi => .inl hi⟩
    · rintro k vs m2 A' B l hk z1 o1 o2 dis ow ⟨A1, hI, J⟩ hel hin hms
      subst hel
      refine ⟨rfl, ?_⟩
      have hrF : ∀ m', Frozen Z m' → (rs.getD k noRow).At m' := fun m' z => hr m' z k
      have hrnk := hrn k
      have hel : rowsEl rs k = [(rs.getD k noRow).v] := rfl
      rw [hel]
      have hlt : ∀ i, A' i → i < m2.size := fun i hi => (o1 i hi).1
      have a0k : at0 rs k = (rs.getD k noRow).xs.getD 0 0 := rfl
      have fin : ∀ (m6 : Mem) (A2 : Set') (m7 : Mem) (ac : Option Addr), I k m6 A2 → m6.get yb = some (.cells false true [.func yf ya yc]) → m6.get tb = some (.cells false true [.func (.func F_stage_Doubles_1_1) #[] #[ptr db, ptr yb, ptr kb]]) →
          kb < m6.size → hb < m6.size → db < m6.size → ¬ A2 yb → ¬ A2 kb → ¬ A2 hb → ¬ A2 db → ¬ A2 tb → ChgS (fun i => A' i ∨ B i) m2 m6 → NewS (fun i => A' i ∨ B i) m2 m6 A2 → Vec m6.size m7 1 ac (rs.getD k noRow).n ((rs.getD k noRow).xs.map (.int .i64)) → Old m6 m7 →
          ∃ A'_1, ChgS (fun i => A' i ∨ B i) m2 (((m7.put kb (some (.cells false true [.slice ac (rs.getD k noRow).n (rs.getD k noRow).n]))).put hb (some (.cells false true [.bool true]))).put db (some (.cells false true [.bool (sameB rs k)]))) ∧
            NewS (fun i => A' i ∨ B i) m2 (((m7.put kb (some (.cells false true [.slice ac (rs.getD k noRow).n (rs.getD k noRow).n]))).put hb (some (.cells false true [.bool true]))).put db (some (.cells false true [.bool (sameB rs k)]))) A'_1 ∧
            ∃ A1, I k (((m7.put kb (some (.cells false true [.slice ac (rs.getD k noRow).n (rs.getD k noRow).n]))).put hb (some (.cells false true [.bool true]))).put db (some (.cells false true [.bool (sameB rs k)]))) A1 ∧ DblJ rs yb kb hb db tb (.func yf ya yc) (k + 1) (((m7.put kb (some (.cells false true [.slice ac (rs.getD k noRow).n (rs.getD k noRow).n]))).put hb (some (.cells false true [.bool true]))).put db (some (.cells false true [.bool (sameB rs k)]))) A1 A'_1 := by
        intro m6 A2 m7 ac hI6 gy6 gt6 lk6 lh6 ld6 ny nk nh nd nt c6 n6 V o7
        have ly6 := getM_lt gy6
        have lt6 := getM_lt gt6
        have s7 := o7.size
        obtain ⟨m9, hm9⟩ : ∃ m9, m9 = ((m7.put kb (some (.cells false true [.slice ac (rs.getD k noRow).n (rs.getD k noRow).n]))).put hb (some (.cells false true [.bool true]))).put db (some (.cells false true [.bool (sameB rs k)])) := ⟨_, rfl⟩
        rw [← hm9]
        have s9 : m9.size = m7.size := by rw [hm9, size_put, size_put, size_put]
        have g9 : ∀ i, i ≠ kb → i ≠ hb → i ≠ db → m9.get i = m7.get i := fun i h1 h2 h3 => by rw [hm9, getM_put, if_neg (fun e => h3 e.1), getM_put, if_neg (fun e => h2 e.1), getM_put, if_neg (fun e => h1 e.1)]
        have gk9 : m9.get kb = some (.cells false true [.slice ac (rs.getD k noRow).n (rs.getD k noRow).n]) := by rw [hm9, getM_put, if_neg (fun e => by omega), getM_put, if_neg (fun e => by omega), getM_put, if_pos ⟨rfl, by omega⟩]
        have gh9 : m9.get hb = some (.cells false true [.bool true]) := by rw [hm9, getM_put, if_neg (fun e => by omega), getM_put, if_pos ⟨rfl, by rw [size_put]; omega⟩]
        have gd9 : m9.get db = some (.cells false true [.bool (sameB rs k)]) := by rw [hm9, getM_put, if_pos ⟨rfl, by rw [size_put, size_put]; omega⟩]
        have Vb : ∀ x, ac = some x → m6.size ≤ x.block ∧ x.block < m7.size := fun x hx => ⟨(V.blk x hx).1, V.lt hx⟩
        have V9 : Vec 0 m9 1 ac (rs.getD k noRow).n ((rs.getD k noRow).xs.map (.int .i64)) := (V.mono (Nat.zero_le _)).keep fun x hx => g9 _ (by have := Vb x hx; omega) (by have := Vb x hx; omega) (by have := Vb x hx; omega)
        have hI9 : I k m9 A2 := lI _ m6 m9 A2 hI6 (fun i hi => by rw [g9 i (fun e => nk (e ▸ hi)) (fun e => nh (e ▸ hi)) (fun e => nd (e ▸ hi)), o7.get (n6 i hi).1]) (by omega)
        have lA2 : ∀ i, A2 i → i < m6.size := fun i hi => (n6 i hi).1
        have c6s := c6.size
        refine ⟨fun i => A2 i ∨ i = yb ∨ i = kb ∨ i = hb ∨ i = db ∨ i = tb ∨ ∃ x, ac = some x ∧ i = x.block, ⟨by omega, fun i hi hna => ?_⟩, fun i hi => ?_, A2, hI9, (g9 _ (by omega) (by omega) (by omega)).trans ((o7.get ly6).trans gy6), (g9 _ (by omega) (by omega) (by omega)).trans ((o7.get lt6).trans gt6), by simpa using gh9, by simpa using gd9, ⟨ac, gk9, V9, fun x hx => ?_⟩, ⟨.inr (.inl rfl), ny⟩, ⟨.inr (.inr (.inl rfl)), nk⟩, ⟨.inr (.inr (.inr (.inl rfl))), nh⟩, ⟨.inr (.inr (.inr (.inr (.inl rfl)))), nd⟩, ⟨.inr (.inr (.inr (.inr (.inr (.inl rfl))))), nt⟩, fun i hi => .inl hi⟩
        · rw [g9 i (fun e => hna (.inl (e ▸ J.ak.1))) (fun e => hna (.inl (e ▸ J.ah.1))) (fun e => hna (.inl (e ▸ J.ad.1))), o7.get (by omega), c6.get i hi hna]
        · rcases hi with hi | rfl | rfl | rfl | rfl | rfl | ⟨x, hx, rfl⟩
          · have := n6 i hi
            exact ⟨by omega, this.2⟩
          · exact ⟨by omega, .inl (.inl J.ay.1)⟩
          · exact ⟨by omega, .inl (.inl J.ak.1)⟩
          · exact ⟨by omega, .inl (.inl J.ah.1)⟩
          · exact ⟨by omega, .inl (.inl J.ad.1)⟩
          · exact ⟨by omega, .inl (.inl J.at_.1)⟩
          · have := Vb x hx
            exact ⟨by omega, .inr (by omega)⟩
        · have := Vb x hx
          exact ⟨.inr (.inr (.inr (.inr (.inr (.inr ⟨x, hx, rfl⟩))))), fun h => by have := lA2 _ h; omega, by omega, by omega, by omega, by omega, by omega⟩
      have nhk : ¬ hb = kb := by omega
      have ndk : ¬ db = kb := by omega
      have ndh : ¬ db = hb := by omega
      have hrowv : (rs.getD k noRow).v = .slice (rs.getD k noRow).ad (rs.getD k noRow).n (rs.getD k noRow).c := rfl
      rw [hrowv]
      have rh := get_at0 J.gh
      have rd := get_at0 J.gd
      have ld := getM_lt J.gd
      have lh := hlt _ J.ah.1
      have lk := hlt _ J.ak.1
      have ly := hlt _ J.ay.1
      have lt := hlt _ J.at_.1
      have nyd : ¬ yb = db := by omega
      have nhd : ¬ hb = db := by omega
      have nkd : ¬ kb = db := by omega
      have ntd : ¬ tb = db := by omega
      simp only [c_stage_Doubles_1_5_at, wpM_block, c_stage_Doubles_1_4_at, c_stage_Doubles_1_3_at, c_stage_Doubles_1_2_at, wpM_seq]
      cases k with
      | zero =>
        have gk : m2.get kb = some (.cells false true [.slice none 0 0]) := J.gk
        have sb0 : sameB rs 0 = false := rfl
        rw [sb0] at fin
        simp only [Nat.lt_irrefl, decide_false, Bool.false_and] at rh rd
        have gd := J.gd
        simp only [Nat.lt_irrefl, decide_false, Bool.false_and] at gd
        obtain ⟨m6, hm6⟩ : ∃ m6, m6 = m2.put db (some (.cells false true [.bool false])) := ⟨_, rfl⟩
        have rh6 : m6.at hb 0 = some (.bool false) := get_at0 (by rw [hm6, getM_put, if_neg (fun e => nhd e.1)]; have := J.gh; simpa using this)
        simp (decide := true) (implicitDefEqProofs := false) (maxDischargeDepth := 20) only [go_sem, rh, rd, gd, ← hm6, rh6, ↓reduceIte, true_implies, false_implies]
        have g6 : ∀ i, i ≠ db → m6.get i = m2.get i := fun i h => by rw [hm6, getM_put, if_neg (fun e => h e.1)]
        have s6 : m6.size = m2.size := by rw [hm6, size_put]
        have z6 : Frozen Z m6 := fun i c hi => by
          rw [g6 i (fun e => by rw [e, (o1 db J.ad.1).2.1] at hi; cases hi)]
          exact z1 i c hi
        refine (Clone_at (hrF m6 z6).sl hrnk).mono ?_
        rintro w m7 ⟨ac, rfl, V, o7⟩
        have gk7 := (o7.get (by omega)).trans ((g6 _ nkd).trans gk)
        have gh7 := (o7.get (by omega)).trans ((g6 _ nhd).trans J.gh)
        have gd7 : m7.get db = some (.cells false true [.bool false]) := (o7.get (by omega)).trans (by rw [hm6, getM_put, if_pos ⟨rfl, ld⟩])
        have lk7 := getM_lt gk7
        have lh7 := getM_lt gh7
        have ld7 := getM_lt gd7
        simp only [Nat.lt_irrefl, decide_false, Bool.false_and] at gh7
        simp (decide := true) (implicitDefEqProofs := false) (maxDischargeDepth := 20) only [go_sem, gk7, gh7, gd7, lk7, lh7, ld7, nhk, ndk, ndh, ↓reduceIte, true_implies, false_implies]
        exact fin m6 A1 m7 ac (lI _ m2 m6 A1 hI (fun i hi => g6 i fun e => J.ad.2 (e ▸ hi)) (by omega)) ((g6 _ nyd).trans J.gy) ((g6 _ ntd).trans J.gt) (by omega) (by omega) (by omega) J.ay.2 J.ak.2 J.ah.2 J.ad.2 J.at_.2 ⟨by omega, fun i hi hna => g6 i fun e => hna (.inl (e ▸ J.ad.1))⟩ (fun i hi => ⟨by have := hlt i (J.sub i hi); omega, .inl (.inl (J.sub i hi))⟩) V o7
      | succ k =>
        obtain ⟨ac, gk, V, hac⟩ := J.gk
        have rk := get_at0 gk
        have hrow := hrF m2 z1
        have hsk : SlA m2 1 ac (rs.getD k noRow).n (rs.getD k noRow).n ((rs.getD k noRow).xs.map (.int .i64)) := V.sl
        have sbk : sameB rs (k + 1) = ((rs.getD k noRow).xs.getD 0 0 == (rs.getD (k + 1) noRow).xs.getD 0 0) := by unfold sameB at0; simp
        have hw : dblW rs n k = if (sameB rs k || sameB rs (k + 1)) = true then 2 else 0 := by unfold dblW; rw [show decide (k + 1 < n) = true by simpa using hk, Bool.true_and]
        simp only [Nat.zero_lt_succ, decide_true, Bool.true_and, Nat.add_sub_cancel] at rh rd hI
        have gd := J.gd
        simp only [Nat.zero_lt_succ, decide_true, Bool.true_and, Nat.add_sub_cancel] at gd
        have gh := J.gh
        simp only [Nat.zero_lt_succ, decide_true] at gh
        simp (decide := true) (implicitDefEqProofs := false) (maxDischargeDepth := 20) only [go_sem, rh, rd, rk, ↓reduceIte, true_implies, false_implies]
        refine (At_at 0 hsk (by omega)).mono ?_
        rintro w m3 ⟨rfl, o3⟩
        simp (decide := true) (implicitDefEqProofs := false) (maxDischargeDepth := 20) only [go_sem, ↓reduceIte, true_implies, false_implies]
        refine (At_at 0 (hrow.sl.old o3) (by omega)).mono ?_
        rintro w m4 ⟨rfl, o4⟩
        have o24 := o3.trans o4
        obtain ⟨dd, hdd⟩ : ∃ dd, dd = (sameB rs k || sameB rs (k + 1)) := ⟨_, rfl⟩
        have gd4 := (o24.get ld).trans gd
        have ld4 := getM_lt gd4
        have rd4 := get_at0 gd4
        have s24 := o24.size
        obtain ⟨m5, hm5⟩ : ∃ m5, m5 = m4.put db (some (.cells false true [.bool dd])) := ⟨_, rfl⟩
        have g5 : ∀ i, i < m2.size → i ≠ db → m5.get i = m2.get i := fun i hi h => by rw [hm5, getM_put, if_neg (fun e => h e.1), o24.get hi]
        have s5 : m5.size = m4.size := by rw [hm5, size_put]
        have gd5 : m5.get db = some (.cells false true [.bool dd]) := by rw [hm5, getM_put, if_pos ⟨rfl, ld4⟩]
        have gy5 := (g5 _ ly nyd).trans J.gy
        have gt5 := (g5 _ lt ntd).trans J.gt
        have gh5 := (g5 _ lh nhd).trans gh
        have gk5 := (g5 _ lk nkd).trans gk
        have rh5 := get_at0 gh5
        have rt5 := get_at0 gt5
        have z5 : Frozen Z m5 := fun i c hi => by
          rw [g5 i (z1.lt hi) (fun e => by rw [e, (o1 db J.ad.1).2.1] at hi; cases hi)]
          exact z1 i c hi
        have lA1 : ∀ i, A1 i → i < m2.size := fun i hi => hlt i (J.sub i hi)
        have nA1 : ∀ i, A1 i → i ≠ db := fun i hi e => J.ad.2 (e ▸ hi)
        have hBl : ∀ i, (∃ x, ac = some x ∧ i = x.block) → A' i ∧ ¬ A1 i ∧ i ≠ yb ∧ i ≠ kb ∧ i ≠ hb ∧ i ≠ db ∧ i ≠ tb := fun i ⟨x, hx, e⟩ => e ▸ hac x hx
        have ow5 : OwnD Own n (k + 1) m5 := by
          show Own (min (k + 2) (n + 1)) m5
          rw [Nat.min_eq_left (by omega)]
          exact hs.locO _ m2 m5 ow fun i hi => g5 i (by have := (hF i hi).1; omega) fun e => (o1 db J.ad.1).2.2 (e ▸ hi)
        have key := step k [.slice ac (rs.getD k noRow).n (rs.getD k noRow).n, vI (dblW rs n k)] m5 A1 (fun i => ∃ x, ac = some x ∧ i = x.block) (by omega) z5 (fun i hi => ⟨by have := lA1 i hi; omega, (o1 i (J.sub i hi)).2⟩) (fun i hi => ⟨by have := hlt i (hBl i hi).1; omega, (o1 i (hBl i hi).1).2⟩) (fun i hi hb => (hBl i hb).2.1 hi) (fun i hi => by have := (hF i hi).1; omega) ow5
          (lI k m2 m5 A1 hI (fun i hi => g5 i (lA1 i hi) (nA1 i hi)) (by omega)) ⟨ac, rfl, V.keep fun x hx => g5 _ (hlt _ (hac x hx).1) (hac x hx).2.2.2.2.2.1, fun _ => Iff.rfl⟩
        rw [hw, ← hdd] at key
        have tell : ∀ {K : Value → Mem → Prop}, (∀ w m6 A2, ChgS (fun i => A1 i ∨ ∃ x, ac = some x ∧ i = x.block) m5 m6 → NewS (fun i => A1 i ∨ ∃ x, ac = some x ∧ i = x.block) m5 m6 A2 → (w = .bool true ∧ I (k + 1) m6 A2 ∨ w = .bool false ∧ D k m6 A2) → K w m6) → CallQ E F_stage_Doubles_1_1 [ptr db, ptr yb, ptr kb].toArray m5 K := fun hK => by
          refine DTell gd5 gy5 gk5 ⟨_, _, _, rfl⟩ (key.mono ?_)
          rintro w m6 ⟨A2, h1, h2, h3⟩
          exact hK w m6 A2 h1 h2 h3
        clear key
        have behind : ∀ (w : Value) (m6 : Mem) (A2 : Set'), ChgS (fun i => A1 i ∨ ∃ x, ac = some x ∧ i = x.block) m5 m6 → NewS (fun i => A1 i ∨ ∃ x, ac = some x ∧ i = x.block) m5 m6 A2 → ChgS (fun i => A' i ∨ B i) m2 m6 ∧ NewS (fun i => A' i ∨ B i) m2 m6 A2 ∧ (∀ i, i < m2.size → ¬ A1 i → (∀ x, ac = some x → i ≠ x.block) → m6.get i = m5.get i) ∧ (∀ i, i < m2.size → ¬ A1 i → (∀ x, ac = some x → i ≠ x.block) → ¬ A2 i) := by
          intro w m6 A2 c1 c2
          have z6 := c1.size
          refine ⟨⟨by omega, fun i hi hna => ?_⟩, fun i hi => ⟨(c2 i hi).1, ?_⟩, fun i hi h1 h2 => c1.get i (by omega) fun e => e.elim h1 fun ⟨x, hx, e⟩ => h2 x hx e, fun i hi h1 h2 h3 => ?_⟩
          · rw [c1.get i (by omega) (fun e => e.elim (fun h => hna (.inl (J.sub i h))) fun ⟨x, hx, e⟩ => hna (.inl (e ▸ (hac x hx).1))), g5 i hi (fun e => hna (.inl (e ▸ J.ad.1)))]
          · rcases (c2 i hi).2 with (h | ⟨x, hx, rfl⟩) | h
            · exact .inl (.inl (J.sub i h))
            · exact .inl (.inl (hac x hx).1)
            · exact .inr (by omega)
          · rcases (c2 i h3).2 with (h | ⟨x, hx, e⟩) | h
            · exact h1 h
            · exact h2 x hx e
            · omega
        have hdd' : (if sameB rs k = true then true else sameB rs (k + 1)) = dd := by rw [hdd]; cases sameB rs k <;> rfl
        have ax : ∀ x, ac = some x → yb ≠ x.block ∧ kb ≠ x.block ∧ hb ≠ x.block ∧ db ≠ x.block ∧ tb ≠ x.block := fun x hx => by
          obtain ⟨_, _, h3, h4, h5, h6, h7⟩ := hac x hx
          exact ⟨h3.symm, h4.symm, h5.symm, h6.symm, h7.symm⟩
        cases hsk0 : sameB rs k with
        | true =>
          rw [hsk0] at rd4 gd4 hdd'
          simp only [if_true] at hdd'
          subst hdd'
          simp (decide := true) (implicitDefEqProofs := false) (maxDischargeDepth := 20) only [go_sem, ← sbk, rd4, gd4, ← hm5, rh5, rt5, ↓reduceIte, true_implies, false_implies]
          rw [ea]
          refine tell fun w m6 A2 c1 c2 hw => ?_
          obtain ⟨k1, k2, k3, k4⟩ := behind w m6 A2 c1 c2
          rcases hw with ⟨rfl, hI2⟩ | ⟨rfl, hD⟩
          · simp (decide := true) (implicitDefEqProofs := false) (maxDischargeDepth := 20) only [go_sem, ↓reduceIte, true_implies, false_implies]
            have z6 := z1.chg k1 fun i hi => hi.elim (fun h => (o1 i h).2.1) fun h => (o2 i h).2.1
            have s56 := c1.size
            refine (Clone_at (hrF m6 z6).sl hrnk).mono ?_
            rintro w m7 ⟨ac', rfl, V', o7⟩
            have gk7 := (o7.get (by omega)).trans ((k3 _ lk J.ak.2 fun x hx => (ax x hx).2.1).trans gk5)
            have gh7 := (o7.get (by omega)).trans ((k3 _ lh J.ah.2 fun x hx => (ax x hx).2.2.1).trans gh5)
            have gd7 := (o7.get (by omega)).trans ((k3 _ ld J.ad.2 fun x hx => (ax x hx).2.2.2.1).trans gd5)
            have lk7 := getM_lt gk7
            have lh7 := getM_lt gh7
            have ld7 := getM_lt gd7
            simp (decide := true) (implicitDefEqProofs := false) (maxDischargeDepth := 20) only [go_sem, gk7, gh7, gd7, lk7, lh7, ld7, nhk, ndk, ndh, ↓reduceIte, true_implies, false_implies]
            exact fin m6 A2 m7 ac' hI2 ((k3 _ ly J.ay.2 fun x hx => (ax x hx).1).trans gy5) ((k3 _ lt J.at_.2 fun x hx => (ax x hx).2.2.2.2).trans gt5) (by omega) (by omega) (by omega)
              (k4 _ ly J.ay.2 fun x hx => (ax x hx).1) (k4 _ lk J.ak.2 fun x hx => (ax x hx).2.1) (k4 _ lh J.ah.2 fun x hx => (ax x hx).2.2.1) (k4 _ ld J.ad.2 fun x hx => (ax x hx).2.2.2.1) (k4 _ lt J.at_.2 fun x hx => (ax x hx).2.2.2.2) k1 k2 V' o7
          · simp (decide := true) (implicitDefEqProofs := false) (maxDischargeDepth := 20) only [go_sem, ↓reduceIte, true_implies, false_implies]
            exact ⟨A2, k1, k2, .inl trivial, A2, hD, fun i hi => hi⟩
        | false =>
          rw [hsk0] at rd4 gd4 hdd'
          simp only [Bool.false_eq_true, if_false] at hdd'
          subst hdd'
          simp (decide := true) (implicitDefEqProofs := false) (maxDischargeDepth := 20) only [go_sem, ← sbk, rd4, gd4, ← hm5, rh5, rt5, ↓reduceIte, true_implies, false_implies]
          rw [ea]
          refine tell fun w m6 A2 c1 c2 hw => ?_
          obtain ⟨k1, k2, k3, k4⟩ := behind w m6 A2 c1 c2
          rcases hw with ⟨rfl, hI2⟩ | ⟨rfl, hD⟩
          · simp (decide := true) (implicitDefEqProofs := false) (maxDischargeDepth := 20) only [go_sem, ↓reduceIte, true_implies, false_implies]
            have z6 := z1.chg k1 fun i hi => hi.elim (fun h => (o1 i h).2.1) fun h => (o2 i h).2.1
            have s56 := c1.size
            refine (Clone_at (hrF m6 z6).sl hrnk).mono ?_
            rintro w m7 ⟨ac', rfl, V', o7⟩
            have gk7 := (o7.get (by omega)).trans ((k3 _ lk J.ak.2 fun x hx => (ax x hx).2.1).trans gk5)
            have gh7 := (o7.get (by omega)).trans ((k3 _ lh J.ah.2 fun x hx => (ax x hx).2.2.1).trans gh5)
            have gd7 := (o7.get (by omega)).trans ((k3 _ ld J.ad.2 fun x hx => (ax x hx).2.2.2.1).trans gd5)
            have lk7 := getM_lt gk7
            have lh7 := getM_lt gh7
            have ld7 := getM_lt gd7
            simp (decide := true) (implicitDefEqProofs := false) (maxDischargeDepth := 20) only [go_sem, gk7, gh7, gd7, lk7, lh7, ld7, nhk, ndk, ndh, ↓reduceIte, true_implies, false_implies]
            exact fin m6 A2 m7 ac' hI2 ((k3 _ ly J.ay.2 fun x hx => (ax x hx).1).trans gy5) ((k3 _ lt J.at_.2 fun x hx => (ax x hx).2.2.2.2).trans gt5) (by omega) (by omega) (by omega)
              (k4 _ ly J.ay.2 fun x hx => (ax x hx).1) (k4 _ lk J.ak.2 fun x hx => (ax x hx).2.1) (k4 _ lh J.ah.2 fun x hx => (ax x hx).2.2.1) (k4 _ ld J.ad.2 fun x hx => (ax x hx).2.2.2.1) (k4 _ lt J.at_.2 fun x hx => (ax x hx).2.2.2.2) k1 k2 V' o7
          · simp (decide := true) (implicitDefEqProofs := false) (maxDischargeDepth := 20) only [go_sem, ↓reduceIte, true_implies, false_implies]
            exact ⟨A2, k1, k2, .inl trivial, A2, hD, fun i hi => hi⟩
    · rintro m' A' z' o' ow ⟨A1, hI, J⟩ c1 c2
      have hlt : ∀ i, A' i → i < m'.size := fun i hi => (o' i hi).1
      have lA1 : ∀ i, A1 i → i < m'.size := fun i hi => hlt i (J.sub i hi)
      have rt := get_at0 J.gt
      have rh := get_at0 J.gh
      have c1s := c1.size
      have hos := ho.size
      have outC : ∀ i, i < m.size → ¬ (A i ∨ F i) → m'.get i = m.get i := fun i hi hna => by
        rw [c1.get i (by omega) (by
          rintro ((h | h) | h)
          · exact hna (.inl h)
          · omega
          · exact hna (.inr h)), ho.get hi]
      have outN : ∀ i, A' i → A i ∨ m.size ≤ i := fun i hi => by
        rcases (c2 i hi).2 with (h | h) | h
        · exact .inl h
        · exact .inr (by omega)
        · exact .inr (by omega)
      cases n with
      | zero =>
        simp only [Nat.lt_irrefl, decide_false] at rh
        simp (decide := true) (implicitDefEqProofs := false) (maxDischargeDepth := 20) only [go_sem, rh, ↓reduceIte, true_implies, false_implies]
        exact ⟨A1, ⟨by omega, outC⟩, fun i hi => ⟨lA1 i hi, outN i (J.sub i hi)⟩, .inl ⟨ow, hI⟩⟩
      | succ n =>
        obtain ⟨ac, gk, V, hac⟩ := J.gk
        simp only [Nat.zero_lt_succ, decide_true, Nat.add_sub_cancel] at rh hI
        have gd := J.gd
        simp only [Nat.zero_lt_succ, decide_true, Bool.true_and, Nat.add_sub_cancel] at gd
        have hw : dblW rs (n + 1) n = if (sameB rs n) = true then 2 else 0 := by unfold dblW; rw [show decide (n + 1 < n + 1) = false by simp, Bool.false_and, Bool.or_false]
        have hBl : ∀ i, (∃ x, ac = some x ∧ i = x.block) → A' i ∧ ¬ A1 i := fun i ⟨x, hx, e⟩ => e ▸ ⟨(hac x hx).1, (hac x hx).2.1⟩
        have ow' : OwnD Own (n + 1) (n + 1) m' := by
          show Own (min (n + 2) (n + 1 + 1)) m'
          rw [Nat.min_eq_left (by omega)]
          exact ow
        have key := step n [.slice ac (rs.getD n noRow).n (rs.getD n noRow).n, vI (dblW rs (n + 1) n)] m' A1 (fun i => ∃ x, ac = some x ∧ i = x.block) (by omega) z' (fun i hi => ⟨lA1 i hi, (o' i (J.sub i hi)).2⟩) (fun i hi => ⟨hlt i (hBl i hi).1, (o' i (hBl i hi).1).2⟩) (fun i hi hb => (hBl i hb).2 hi) (fun i hi => by have := (hF i hi).1; omega) ow'
          hI ⟨ac, rfl, V, fun _ => Iff.rfl⟩
        rw [hw] at key
        simp (decide := true) (implicitDefEqProofs := false) (maxDischargeDepth := 20) only [go_sem, rh, rt, ↓reduceIte, true_implies, false_implies]
        rw [ea]
        refine DTell gd J.gy gk ⟨_, _, _, rfl⟩ (key.mono ?_)
        rintro w m6 ⟨A2, k1, k2, hw⟩
        have k1s := k1.size
        have fC : ChgS (fun i => A i ∨ F i) m m6 := ⟨by omega, fun i hi hna => by
          rw [k1.get i (by omega) (by
            rintro (h | ⟨x, hx, rfl⟩)
            · exact (outN i (J.sub i h)).elim (fun h => hna (.inl h)) fun h => by omega
            · exact (outN _ (hac x hx).1).elim (fun h => hna (.inl h)) fun h => by omega), outC i hi hna]⟩
        have fN : NewS A m m6 A2 := fun i hi => ⟨(k2 i hi).1, by
          rcases (k2 i hi).2 with (h | ⟨x, hx, rfl⟩) | h
          · exact outN i (J.sub i h)
          · exact outN _ (hac x hx).1
          · exact .inr (by omega)⟩
        have owF : ∀ i, F i → m6.get i = m'.get i := fun i hi => k1.get i (by have := (hF i hi).1; omega) (by
            rintro (h | ⟨x, hx, rfl⟩)
            · exact (o' i (J.sub i h)).2.2 hi
            · exact (o' _ (hac x hx).1).2.2 hi)
        simp (decide := true) (implicitDefEqProofs := false) (maxDischargeDepth := 20) only [go_sem, ↓reduceIte, true_implies, false_implies]
        refine ⟨A2, fC, fN, ?_⟩
        rcases hw with ⟨-, hI2⟩ | ⟨-, hD⟩
        · refine .inl ⟨?_, hI2⟩
          show Own (min (n + 1 + 2) (n + 1 + 1)) m6
          rw [Nat.min_eq_right (by omega)]
          exact hs.locO _ m' m6 ow owF
        · refine .inr ⟨n, by omega, ?_, hD⟩
          show Own (min (n + 2) (n + 1 + 1)) m6
          rw [Nat.min_eq_left (by omega)]
          exact hs.locO _ m' m6 ow owF
    · rintro k x m' A' hk z' o' ow hx ⟨rfl, hk0, A1, hD, hsub⟩ c1 c2
      have hos := ho.size
      have c1s := c1.size
      simp (decide := true) (implicitDefEqProofs := false) (maxDischargeDepth := 20) only [go_sem, ↓reduceIte, true_implies, false_implies]
      refine ⟨A1, ⟨by omega, fun i hi hna => ?_⟩, fun i hi => ⟨(o' i (hsub i hi)).1, ?_⟩, .inr ⟨k - 1, by omega, ?_, hD⟩⟩
      · rw [c1.get i (by omega) (by
          rintro ((h | h) | h)
          · exact hna (.inl h)
          · omega
          · exact hna (.inr h)), ho.get hi]
      · rcases (c2 i (hsub i hi)).2 with (h | h) | h
        · exact .inl h
        · exact .inr (by omega)
        · exact .inr (by omega)
      · obtain ⟨j, rfl⟩ : ∃ j, k = j + 1 := ⟨k - 1, by omega⟩
        show Own (min (j + 2) (n + 1)) m'
        rw [Nat.min_eq_left (by omega)]
        exact ow
end Go.Proofs.Ytpabllcacdopdaa.W
