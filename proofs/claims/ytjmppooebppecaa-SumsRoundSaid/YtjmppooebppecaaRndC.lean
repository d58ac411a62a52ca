/-
  sums.Round: an entity's sums in memory, what is told of it. sums.Round: what goes out, and how it is told. sums.Round as an iterator.
-/
import Derived.Test.YtjmppooebppecaaSumB
namespace Go.Proofs.Ytjmppooebppecaa.W
open Go.Abs
set_option linter.unusedSimpArgs false
set_option linter.unusedVariables false


/-! ### RndA -/

@[go_sem] theorem loggedW_nilCheck {i : Nat} {log : List (Nat × Nat)} (x : Operand) (r : Operand → Value) : loggedW (.nilCheck x) r i log = log := rfl

theorem W_eq (x y : Int) (hx : -170141183460469231731687303715884105728 ≤ x) (hx' : x < 170141183460469231731687303715884105728) (hy : -170141183460469231731687303715884105728 ≤ y) (hy' : y < 170141183460469231731687303715884105728) :
    (IntKind.wrap .i64 (x / 18446744073709551616) == IntKind.wrap .i64 (y / 18446744073709551616) && x % 18446744073709551616 == y % 18446744073709551616) = decide (x = y) := by
  rw [wrap_i64_id _ (by omega) (by omega), wrap_i64_id _ (by omega) (by omega)]
  rw [Bool.eq_iff_iff]
  simp only [Bool.and_eq_true, beq_iff_eq, decide_eq_true_eq]
  omega
structure En where
  id : Int
  parts : Int
  am : Int
  mo : Int
def sHi (x : Int) : Value := .int .i64 (IntKind.wrap .i64 (x / 18446744073709551616))
def sLo (x : Int) : Value := .int .u64 (x % 18446744073709551616)
def enC (e : En) : List Value := [vI e.id, vI e.parts, sHi e.am, sLo e.am, sHi e.mo, sLo e.mo]

section
variable {m : Mem} {b : Nat} {tg : Bool} {v0 v1 v2 v3 v4 v5 : Value}
theorem enRows2 (h : m.get b = some (.cells false tg [v0, v1, v2, v3, v4, v5])) : m.rows b 2 2 = some [v2, v3] := by
  unfold Mem.rows; rw [h]; rfl
theorem enRows4 (h : m.get b = some (.cells false tg [v0, v1, v2, v3, v4, v5])) : m.rows b 4 2 = some [v4, v5] := by
  unfold Mem.rows; rw [h]; rfl
theorem enAt0 (h : m.get b = some (.cells false tg [v0, v1, v2, v3, v4, v5])) : m.at b 0 = some v0 := by
  unfold Mem.at; rw [h]; rfl
theorem enAt1 (h : m.get b = some (.cells false tg [v0, v1, v2, v3, v4, v5])) : m.at b 1 = some v1 := by
  unfold Mem.at; rw [h]; rfl

set_option maxRecDepth 100000 in
set_option maxHeartbeats 4000000 in
theorem SumAdd2 {x n : Int} (hg : m.get b = some (.cells false tg [v0, v1, sHi x, sLo x, v4, v5])) (hn : -9223372036854775808 ≤ n) (hn' : n < 9223372036854775808) {K : Value → Mem → Prop}
    (hK : ∀ m', Upd m m' b → m'.get b = some (.cells false tg [v0, v1, sHi (x + n), sLo (x + n), v4, v5]) → K (.tuple #[]) m') :
    CallQ E F_money_Sum_Add [.pointer (some ⟨b, 2, none⟩), .int .i64 n].toArray m K := by
  refine .enter fn_money_Sum_Add (by simp) ?_
  have hl := getM_lt hg
  have hr := enRows2 hg
  have o1 := Of_W n hn hn'
  have a1 := Add_ans x n
  simp only [W] at o1 a1
  simp only [sHi, sLo] at hr hg
  simp (decide := true) (implicitDefEqProofs := false) (maxDischargeDepth := 20) only [go_sem, ↓reduceIte, nilOk, hr, hg, hl, o1.eq, a1.eq]
  exact hK _ (Upd.put (by simp (decide := true) (maxDischargeDepth := 20) only [go_sem]) _ _) (by simp (decide := true) (maxDischargeDepth := 20) only [go_sem, hl]; rfl)
set_option maxRecDepth 100000 in
set_option maxHeartbeats 4000000 in
theorem SumAdd4 {x n : Int} (hg : m.get b = some (.cells false tg [v0, v1, v2, v3, sHi x, sLo x])) (hn : -9223372036854775808 ≤ n) (hn' : n < 9223372036854775808) {K : Value → Mem → Prop}
    (hK : ∀ m', Upd m m' b → m'.get b = some (.cells false tg [v0, v1, v2, v3, sHi (x + n), sLo (x + n)]) → K (.tuple #[]) m') :
    CallQ E F_money_Sum_Add [.pointer (some ⟨b, 4, none⟩), .int .i64 n].toArray m K := by
  refine .enter fn_money_Sum_Add (by simp) ?_
  have hl := getM_lt hg
  have hr := enRows4 hg
  have o1 := Of_W n hn hn'
  have a1 := Add_ans x n
  simp only [W] at o1 a1
  simp only [sHi, sLo] at hr hg
  simp (decide := true) (implicitDefEqProofs := false) (maxDischargeDepth := 20) only [go_sem, ↓reduceIte, nilOk, hr, hg, hl, o1.eq, a1.eq]
  exact hK _ (Upd.put (by simp (decide := true) (maxDischargeDepth := 20) only [go_sem]) _ _) (by simp (decide := true) (maxDischargeDepth := 20) only [go_sem, hl]; rfl)
set_option maxRecDepth 100000 in
theorem SumWide2 {x : Int} (hg : m.get b = some (.cells false tg [v0, v1, sHi x, sLo x, v4, v5])) : CallQ E F_money_Sum_Wide [.pointer (some ⟨b, 2, none⟩)].toArray m fun w m' => w = W x ∧ Old m m' := by
  refine .enter fn_money_Sum_Wide (by simp) ?_
  have hl := getM_lt hg
  have hr := enRows2 hg
  have hne : ¬ b = m.size := by omega
  simp only [sHi, sLo] at hr hg
  simp (decide := true) (implicitDefEqProofs := false) (maxDischargeDepth := 20) only [go_sem, ↓reduceIte, nilOk, hr, hg, hl, hne, W]
set_option maxRecDepth 100000 in
theorem SumWide4 {x : Int} (hg : m.get b = some (.cells false tg [v0, v1, v2, v3, sHi x, sLo x])) : CallQ E F_money_Sum_Wide [.pointer (some ⟨b, 4, none⟩)].toArray m fun w m' => w = W x ∧ Old m m' := by
  refine .enter fn_money_Sum_Wide (by simp) ?_
  have hl := getM_lt hg
  have hr := enRows4 hg
  have hne : ¬ b = m.size := by omega
  simp only [sHi, sLo] at hr hg
  simp (decide := true) (implicitDefEqProofs := false) (maxDischargeDepth := 20) only [go_sem, ↓reduceIte, nilOk, hr, hg, hl, hne, W]
end

theorem not_hi (x : Int) : notI .i64 (IntKind.wrap .i64 (x / 18446744073709551616)) = IntKind.wrap .i64 ((-x - 1) / 18446744073709551616) := by
  rw [not_i64 _ (by rw [wrap_i64]; omega) (by rw [wrap_i64]; omega)]
  simp only [wrap_i64]
  omega
theorem not_lo (x : Int) : notI .u64 (x % 18446744073709551616) = (-x - 1) % 18446744073709551616 := by
  obtain ⟨k, hk⟩ := Int.eq_ofNat_of_zero_le (Int.emod_nonneg x (show (18446744073709551616 : Int) ≠ 0 by decide))
  rw [hk, not_u64 k (by omega)]
  omega
set_option maxRecDepth 100000 in
theorem Opp_at {m : Mem} (x : Int) (h : -170141183460469231731687303715884105728 < x) (h' : x < 170141183460469231731687303715884105728) : CallQ E F_sums_opposite [W x].toArray m fun w m' => w = intA (-x) ∧ Old m m' := by
  refine .enter fn_sums_opposite (by simp) ?_
  have o1 := Of_W 1 (by decide) (by decide)
  have a1 := Add_ans (-x - 1) 1
  rw [show -x - 1 + 1 = -x by omega] at a1
  have i1 := Int_intA (-x) (by omega) (by omega)
  have n1 := not_hi x
  have n2 := not_lo x
  unfold intA at i1 ⊢
  simp only [W] at o1 a1 i1 ⊢
  by_cases hc : -9223372036854775808 ≤ -x ∧ -x < 9223372036854775808
  · rw [if_pos hc] at i1 ⊢
    simp (decide := true) (implicitDefEqProofs := false) (maxDischargeDepth := 20) only [go_sem, ↓reduceIte, n1, n2, o1.eq, a1.eq, i1.eq, true_implies, false_implies]
  · rw [if_neg hc] at i1 ⊢
    simp (decide := true) (implicitDefEqProofs := false) (maxDischargeDepth := 20) only [go_sem, ↓reduceIte, n1, n2, o1.eq, a1.eq, i1.eq, true_implies, false_implies]

/-! ### what is told -/
def fitE (x : Int) : Prop := -9223372036854775808 ≤ x ∧ x < 9223372036854775808
instance (x : Int) : Decidable (fitE x) := inferInstanceAs (Decidable (_ ∧ _))
def midE (x : Int) : Prop := -170141183460469231731687303715884105728 < x ∧ x < 170141183460469231731687303715884105728
def ovE (ov : Bool) (e : En) : Bool := ov || !decide (fitE (-e.mo))
def rowE (e : En) : List Int := [e.id, e.parts, 9999, -e.mo]

section
variable {m : Mem} {eb yb ob b : Nat} {tg : Bool} {e : En} {ov : Bool} {yf : Fn} {ya yc : Array Value} {K : Value → Mem → Prop}
set_option maxRecDepth 100000 in
theorem RTell_nil (ge : m.get eb = some (.cells false true [.pointer none])) : CallQ E F_sums_Round_1_1 [ptr eb, ptr yb, ptr ob].toArray m fun w m' => w = .bool true ∧ Old m m' := by
  refine .enter fn_sums_Round_1_1 (by simp) ?_
  have re := get_at0 ge
  simp (decide := true) (implicitDefEqProofs := false) (maxDischargeDepth := 20) only [go_sem, ↓reduceIte, nilOk, re, true_implies, false_implies]
set_option maxRecDepth 100000 in
set_option maxHeartbeats 4000000 in
theorem RTell_bad (ge : m.get eb = some (.cells false true [ptr b])) (gb : m.get b = some (.cells false tg (enC e))) (ham : midE e.am) (hne : e.am ≠ 0) (gy : m.get yb = some (.cells false true [.func yf ya yc]))
    (hK : ∀ m', Old m m' → CallF E (.func yf ya yc) [.slice none 0 0, .int .i64 4] m' fun _ m'' => K (.bool false) m'') :
    CallQ E F_sums_Round_1_1 [ptr eb, ptr yb, ptr ob].toArray m K := by
  refine .enter fn_sums_Round_1_1 (by simp) ?_
  have re := get_at0 ge
  simp (decide := true) (implicitDefEqProofs := false) (maxDischargeDepth := 20) only [go_sem, ↓reduceIte, nilOk, re, true_implies, false_implies]
  refine (SumWide2 gb).mono ?_
  rintro w m1 ⟨rfl, o1⟩
  have hq := W_eq e.am 0 (by have := ham.1; omega) ham.2 (by decide) (by decide)
  rw [decide_eq_false hne, show IntKind.wrap .i64 ((0 : Int) / 18446744073709551616) = 0 by decide, show (0 : Int) % 18446744073709551616 = 0 by decide] at hq
  have gy1 := (o1.get (getM_lt gy)).trans gy
  have ry1 := get_at0 gy1
  simp (decide := true) (implicitDefEqProofs := false) (maxDischargeDepth := 20) only [go_sem, ↓reduceIte, nilOk, W, hq, ry1, true_implies, false_implies]
  refine CallF.step ((hK m1 o1).mono ?_)
  intro w m6 hk6
  simp (decide := true) (implicitDefEqProofs := false) (maxDischargeDepth := 20) only [go_sem, ↓reduceIte, nilOk, true_implies, false_implies]
  exact hk6
/-- What stays but for a box. -/
def But (ob : Nat) (m m' : Mem) : Prop := m.size ≤ m'.size ∧ ∀ i, i < m.size → i ≠ ob → m'.get i = m.get i
set_option maxRecDepth 100000 in
set_option maxHeartbeats 4000000 in
theorem RTell_ok (ge : m.get eb = some (.cells false true [ptr b])) (gb : m.get b = some (.cells false tg (enC e))) (ham : e.am = 0) (hmo : midE e.mo) (gy : m.get yb = some (.cells false true [.func yf ya yc])) (go : m.get ob = some (.cells false true [.bool ov])) (hne : eb ≠ ob ∧ yb ≠ ob ∧ b ≠ ob)
    (hK1 : ovE ov e = true ∨ e.mo = 0 → ∀ m', But ob m m' → m'.get ob = some (.cells false true [.bool (ovE ov e)]) → K (.bool true) m')
    (hK2 : ovE ov e = false → e.mo ≠ 0 → ∀ m' rb, But ob m m' → m'.get ob = some (.cells false true [.bool (ovE ov e)]) → m.size ≤ rb → m'.get rb = some (.cells false true ((rowE e).map (.int .i64))) → CallF E (.func yf ya yc) [.slice (some ⟨rb, 0, none⟩) 4 4, .int .i64 0] m' K) :
    CallQ E F_sums_Round_1_1 [ptr eb, ptr yb, ptr ob].toArray m K := by
  refine .enter fn_sums_Round_1_1 (by simp) ?_
  have re := get_at0 ge
  simp (decide := true) (implicitDefEqProofs := false) (maxDischargeDepth := 20) only [go_sem, ↓reduceIte, nilOk, re, true_implies, false_implies]
  refine (SumWide2 gb).mono ?_
  rintro w m1 ⟨rfl, o1⟩
  have hq := W_eq e.am 0 (by omega) (by omega) (by decide) (by decide)
  rw [decide_eq_true ham, show IntKind.wrap .i64 ((0 : Int) / 18446744073709551616) = 0 by decide, show (0 : Int) % 18446744073709551616 = 0 by decide] at hq
  have ge1 := (o1.get (getM_lt ge)).trans ge
  have re1 := get_at0 ge1
  have gb1 := (o1.get (getM_lt gb)).trans gb
  simp (decide := true) (implicitDefEqProofs := false) (maxDischargeDepth := 20) only [go_sem, ↓reduceIte, nilOk, W, hq, re1, true_implies, false_implies]
  refine (SumWide4 gb1).mono ?_
  rintro w m2 ⟨rfl, o2⟩
  simp (decide := true) (implicitDefEqProofs := false) (maxDischargeDepth := 20) only [go_sem, ↓reduceIte, nilOk, true_implies, false_implies]
  refine (Opp_at e.mo hmo.1 hmo.2).mono ?_
  rintro w m3 ⟨rfl, o3⟩
  have o13 := o1.trans (o2.trans o3)
  have s3 := o13.size
  have go3 := (o13.get (getM_lt go)).trans go
  have ro3 := get_at0 go3
  have lo3 := getM_lt go3
  have lob := getM_lt go
  have ge3 := (o13.get (getM_lt ge)).trans ge
  have re3 := get_at0 ge3
  have gb3 := (o13.get (getM_lt gb)).trans gb
  have rb0 := enAt0 gb3
  have rb1 := enAt1 gb3
  have gy3 := (o13.get (getM_lt gy)).trans gy
  have ry3 := get_at0 gy3
  have n1 : ¬ eb = ob := hne.1
  have n2 : ¬ yb = ob := hne.2.1
  have n3 : ¬ b = ob := hne.2.2
  have n4 : ¬ eb = m3.size := by have := getM_lt ge3; omega
  have n5 : ¬ yb = m3.size := by have := getM_lt gy3; omega
  have n6 : ¬ b = m3.size := by have := getM_lt gb3; omega
  have n7 : ¬ ob = m3.size := by omega
  unfold intA
  by_cases hf : -9223372036854775808 ≤ -e.mo ∧ -e.mo < 9223372036854775808
  · rw [if_pos hf]
    have dov : ovE ov e = ov := by unfold ovE; rw [decide_eq_true (show fitE (-e.mo) from hf)]; cases ov <;> rfl
    rw [dov] at hK1 hK2
    cases ov with
    | true =>
      simp (decide := true) (implicitDefEqProofs := false) (maxDischargeDepth := 20) only [go_sem, ↓reduceIte, nilOk, ro3, go3, lo3, true_implies, false_implies]
      refine hK1 (.inl rfl) _ ⟨by rw [size_put]; omega, fun i hi h => by rw [getM_put, if_neg (fun e => h e.1), o13.get hi]⟩ (by rw [getM_put, if_pos ⟨rfl, lo3⟩] <;> rfl)
    | false =>
      by_cases h0 : e.mo = 0
      · have d0 : (-e.mo == 0) = true := by rw [h0]; rfl
        simp (decide := true) (implicitDefEqProofs := false) (maxDischargeDepth := 20) only [go_sem, ↓reduceIte, nilOk, ro3, go3, lo3, d0, true_implies, false_implies]
        refine hK1 (.inr h0) _ ⟨by rw [size_put]; omega, fun i hi h => by rw [getM_put, if_neg (fun e => h e.1), o13.get hi]⟩ (by rw [getM_put, if_pos ⟨rfl, lo3⟩] <;> rfl)
      · have d0 : (-e.mo == 0) = false := by simp; omega
        simp (decide := true) (implicitDefEqProofs := false) (maxDischargeDepth := 20) only [go_sem, ↓reduceIte, nilOk, ro3, go3, lo3, d0, re3, ry3, rb0, rb1, n1, n2, n3, n4, n5, n6, n7, Bool.not_true, true_implies, false_implies]
        obtain ⟨m5, hm5⟩ : ∃ m5, m5 = (m3.put ob (some (.cells false true [.bool false]))).push (.cells false true ((rowE e).map (.int .i64))) := ⟨_, rfl⟩
        have hrow : (rowE e).map (Value.int .i64) = [vI e.id, vI e.parts, .int .i64 9999, .int .i64 (-e.mo)] := rfl
        rw [hrow] at hm5
        rw [← hm5]
        have s5 : m5.size = m3.size + 1 := by rw [hm5, size_push, size_put]
        have g5 : ∀ i, i < m3.size → i ≠ ob → m5.get i = m3.get i := fun i hi h => by rw [hm5, getM_push, if_neg (by rw [size_put]; omega), getM_put, if_neg (fun e => h e.1)]
        refine CallF.step ((hK2 rfl h0 m5 m3.size ⟨by omega, fun i hi h => by rw [g5 i (by omega) h, o13.get hi]⟩ (by rw [hm5, getM_push, if_neg (by rw [size_put]; omega), getM_put, if_pos ⟨rfl, lo3⟩]) s3 (by rw [hm5, getM_push, if_pos (by rw [size_put]), hrow])).mono ?_)
        intro w m6 hk6
        simp (decide := true) (implicitDefEqProofs := false) (maxDischargeDepth := 20) only [go_sem, ↓reduceIte, nilOk, true_implies, false_implies]
        exact hk6
  · rw [if_neg hf]
    have dov : ovE ov e = true := by unfold ovE; rw [decide_eq_false (show ¬ fitE (-e.mo) from hf)]; cases ov <;> rfl
    rw [dov] at hK1 hK2
    cases ov with
    | true =>
      simp (decide := true) (implicitDefEqProofs := false) (maxDischargeDepth := 20) only [go_sem, ↓reduceIte, nilOk, ro3, go3, lo3, true_implies, false_implies]
      refine hK1 (.inl rfl) _ ⟨by rw [size_put]; omega, fun i hi h => by rw [getM_put, if_neg (fun e => h e.1), o13.get hi]⟩ (by rw [getM_put, if_pos ⟨rfl, lo3⟩] <;> rfl)
    | false =>
      simp (decide := true) (implicitDefEqProofs := false) (maxDischargeDepth := 20) only [go_sem, ↓reduceIte, nilOk, ro3, go3, lo3, true_implies, false_implies]
      refine hK1 (.inl rfl) _ ⟨by rw [size_put]; omega, fun i hi h => by rw [getM_put, if_neg (fun e => h e.1), o13.get hi]⟩ (by rw [getM_put, if_pos ⟨rfl, lo3⟩] <;> rfl)
end


/-! ### RndB -/

def enAdd (e : En) (r : List Int) : En := ⟨e.id, r.getD 7 0, e.am + r.getD 4 0, e.mo + r.getD 9 0⟩
def en0 (r : List Int) : En := ⟨r.getD 1 0, 0, 0, 0⟩
def stepE (st : List En × Option En) (r : List Int) : List En × Option En :=
  match st.2 with
  | none => (st.1, some (enAdd (en0 r) r))
  | some e => if e.id = r.getD 1 0 then (st.1, some (enAdd e r)) else (st.1 ++ [e], some (enAdd (en0 r) r))
def stE (rs : List (List Int)) : List En × Option En := rs.foldl stepE ([], none)
def entL (rs : List (List Int)) : List En := (stE rs).1 ++ (stE rs).2.toList
theorem stE_snoc (rs : List (List Int)) (r : List Int) : stE (rs ++ [r]) = stepE (stE rs) r := by unfold stE; rw [List.foldl_append]; rfl
theorem foldE_grow : ∀ (l : List (List Int)) (st : List En × Option En), ∃ t, (l.foldl stepE st).1 = st.1 ++ t
  | [], st => ⟨[], by simp⟩
  | r :: l, st => by
    obtain ⟨t, ht⟩ := foldE_grow l (stepE st r)
    rw [List.foldl_cons, ht]
    unfold stepE
    split
    · exact ⟨t, rfl⟩
    · split
      · exact ⟨t, rfl⟩
      · exact ⟨_ :: t, by rw [List.append_assoc]; rfl⟩
theorem entL_grow (rs : List (List Int)) (k : Nat) : ∃ t, entL rs = (stE (rs.take k)).1 ++ t := by
  obtain ⟨t, ht⟩ := foldE_grow (rs.drop k) (stE (rs.take k))
  have : stE rs = (rs.drop k).foldl stepE (stE (rs.take k)) := by
    unfold stE
    rw [← List.foldl_append, List.take_append_drop]
  exact ⟨t ++ (stE rs).2.toList, by unfold entL; rw [this, ht, List.append_assoc]⟩

abbrev REl := Sum (List Int) Int
def elE (ov : Bool) (e : En) : List REl := if ovE ov e = true ∨ e.mo = 0 then [] else [.inl (rowE e)]
def cutN : Bool → List En → List REl
  | ov, [] => if ov then [.inr 3] else []
  | ov, e :: es => if e.am ≠ 0 then [.inr 4] else elE ov e ++ cutN (ovE ov e) es
def outN : Bool → List En → List REl
  | ov, [] => []
  | ov, e :: es => elE ov e ++ outN (ovE ov e) es
def ovsN (ov : Bool) (es : List En) : Bool := es.foldl ovE ov
theorem cutN_pre : ∀ (ov : Bool) (a b : List En), (∀ e ∈ a, e.am = 0) → cutN ov (a ++ b) = outN ov a ++ cutN (ovsN ov a) b
  | ov, [], b, _ => rfl
  | ov, e :: a, b, h => by
    show (if e.am ≠ 0 then [.inr 4] else elE ov e ++ cutN (ovE ov e) (a ++ b)) = (elE ov e ++ outN (ovE ov e) a) ++ cutN (ovsN (ovE ov e) a) b
    rw [if_neg (by have := h e List.mem_cons_self; omega), cutN_pre (ovE ov e) a b fun x hx => h x (List.mem_cons_of_mem _ hx), List.append_assoc]
theorem outN_snoc : ∀ (ov : Bool) (a : List En) (e : En), outN ov (a ++ [e]) = outN ov a ++ elE (ovsN ov a) e
  | ov, [], e => by show elE ov e ++ [] = [] ++ elE ov e; simp
  | ov, x :: a, e => by
    show elE ov x ++ outN (ovE ov x) (a ++ [e]) = (elE ov x ++ outN (ovE ov x) a) ++ elE (ovsN (ovE ov x) a) e
    rw [outN_snoc (ovE ov x) a e, List.append_assoc]
theorem ovsN_snoc (ov : Bool) (a : List En) (e : En) : ovsN ov (a ++ [e]) = ovE (ovsN ov a) e := by unfold ovsN; rw [List.foldl_append]; rfl

theorem cutN_bad {ov : Bool} {e : En} {es : List En} (h : e.am ≠ 0) : cutN ov (e :: es) = [.inr 4] := if_pos h
theorem cutN_good {ov : Bool} {e : En} {es : List En} (h : e.am = 0) : cutN ov (e :: es) = elE ov e ++ cutN (ovE ov e) es := if_neg fun k => k h

/-- What is handed over. -/
def rndEl (cs : List REl) : Nat → List Value → Mem → Set' → Prop := fun k vs m B =>
  (∃ r b, cs[k]? = some (.inl r) ∧ vs = [.slice (some ⟨b, 0, none⟩) r.length r.length, .int .i64 0] ∧ m.get b = some (.cells false true (r.map (.int .i64))) ∧ ∀ i, B i ↔ i = b) ∨
  (∃ s, cs[k]? = some (.inr s) ∧ vs = [.slice none 0 0, .int .i64 s] ∧ ∀ i, ¬ B i)
theorem rndEl_loc (cs : List REl) (k : Nat) (vs : List Value) : LocP (rndEl cs k vs) := by
  rintro m m' A (⟨r, b, h1, h2, h3, h4⟩ | h) hk hs
  · exact .inl ⟨r, b, h1, h2, (hk _ ((h4 _).2 rfl)).trans h3, h4⟩
  · exact .inr h

set_option maxHeartbeats 4000000 in
/-- An entity is told, to a consumer that is under way. -/
theorem RTell_all {Z : Nat → Option Blk} {F : Set'} {yf : Fn} {ya yc : Array Value} {I D : Nat → Mem → Set' → Prop} {es pre rest : List En} {e : En} (lI : ∀ k, LocP (I k))
    (step : ∀ k vs m A B, k < (cutN false es).length → Frozen Z m → OwnS Z F m A → OwnS Z F m B → (∀ i, A i → ¬ B i) → (∀ i, F i → i < m.size) → anyO (k + 1) m → I k m A → rndEl (cutN false es) k vs m B →
      CallF E (.func yf ya yc) vs m fun w m' => ∃ A', ChgS (fun i => A i ∨ B i) m m' ∧ NewS (fun i => A i ∨ B i) m m' A' ∧ (w = .bool true ∧ I (k + 1) m' A' ∨ w = .bool false ∧ D k m' A'))
    (hes : es = pre ++ e :: rest) (hok : ∀ x ∈ pre, x.am = 0) (hmid : midE e.am ∧ midE e.mo) {m : Mem} {A1 : Set'} (z : Frozen Z m) (o : OwnS Z F m A1) (hF : ∀ i, F i → i < m.size) (hI : I (outN false pre).length m A1)
    {eb yb ob b : Nat} {tg : Bool} (ge : m.get eb = some (.cells false true [ptr b])) (gb : m.get b = some (.cells false tg (enC e))) (gy : m.get yb = some (.cells false true [.func yf ya yc])) (go : m.get ob = some (.cells false true [.bool (ovsN false pre)])) (hne : eb ≠ ob ∧ yb ≠ ob ∧ b ≠ ob) (nob : ¬ A1 ob) (zob : Z ob = none ∧ ¬ F ob) :
    CallQ E F_sums_Round_1_1 [ptr eb, ptr yb, ptr ob].toArray m fun w m' => ∃ A2, ChgS (fun i => A1 i ∨ i = ob) m m' ∧ NewS A1 m m' A2 ∧
      ((w = .bool true ∧ e.am = 0 ∧ m'.get ob = some (.cells false true [.bool (ovsN false (pre ++ [e]))]) ∧ I (outN false (pre ++ [e])).length m' A2) ∨
       (w = .bool false ∧ ((∃ j, j < (cutN false es).length ∧ D j m' A2) ∨ I (cutN false es).length m' A2))) := by
  have lA : ∀ i, A1 i → i < m.size := fun i hi => (o i hi).1
  have lob := getM_lt go
  obtain ⟨cs, hcs⟩ : ∃ x, x = cutN false es := ⟨_, rfl⟩
  have hcut : cs = outN false pre ++ cutN (ovsN false pre) (e :: rest) := by rw [hcs, hes]; exact cutN_pre false pre (e :: rest) hok
  rw [← hcs] at step ⊢
  by_cases ham : e.am = 0
  · have hce : cutN (ovsN false pre) (e :: rest) = elE (ovsN false pre) e ++ cutN (ovE (ovsN false pre) e) rest := cutN_good ham
    refine RTell_ok ge gb ham hmid.2 gy go hne (fun hsk m' hb ho => ?_) fun h1 h2 m5 rb hb ho hrb hrow => ?_
    · have he : elE (ovsN false pre) e = [] := by unfold elE; rw [if_pos hsk]
      refine ⟨A1, ⟨hb.1, fun i hi hna => hb.2 i hi fun e => hna (.inr e)⟩, fun i hi => ⟨Nat.lt_of_lt_of_le (lA i hi) hb.1, .inl hi⟩, .inl ⟨rfl, ham, by rw [ovsN_snoc]; exact ho, ?_⟩⟩
      rw [outN_snoc, he, List.append_nil]
      exact lI _ m m' A1 hI (fun i hi => hb.2 i (lA i hi) fun e => nob (e ▸ hi)) hb.1
    · have he : elE (ovsN false pre) e = [.inl (rowE e)] := by
        unfold elE
        rw [if_neg (by rw [h1]; rintro (h | h); exact Bool.noConfusion h; exact h2 h)]
      rw [hce, he] at hcut
      have hat : cs[(outN false pre).length]? = some (.inl (rowE e)) := by rw [hcut]; simp
      have hlt : (outN false pre).length < cs.length := by rw [hcut]; simp
      have hsz := hb.1
      have lrb := getM_lt hrow
      have z5 : Frozen Z m5 := fun i c hi => by
        rw [hb.2 i (z.lt hi) (fun e => by rw [e, zob.1] at hi; cases hi)]
        exact z i c hi
      refine (step _ _ m5 A1 (fun i => i = rb) hlt z5 (fun i hi => ⟨by have := lA i hi; omega, (o i hi).2⟩) (fun i hi => by rw [hi]; exact ⟨lrb, z.free hrb, fun h => by have := hF _ h; omega⟩) (fun i hi e => by have := lA i hi; omega) (fun i hi => by have := hF i hi; omega) trivial
        (lI _ m m5 A1 hI (fun i hi => hb.2 i (lA i hi) fun e => nob (e ▸ hi)) hsz) (.inl ⟨rowE e, rb, hat, rfl, hrow, fun i => Iff.rfl⟩)).mono ?_
      rintro w m6 ⟨A2, c1, c2, hw⟩
      have z6 := c1.size
      refine ⟨A2, ⟨by omega, fun i hi hna => ?_⟩, fun i hi => ⟨(c2 i hi).1, ?_⟩, ?_⟩
      · rw [c1.get i (by omega) (by rintro (h | h); exact hna (.inl h); omega), hb.2 i hi fun e => hna (.inr e)]
      · rcases (c2 i hi).2 with (h | h) | h
        · exact .inl h
        · exact .inr (by omega)
        · exact .inr (by omega)
      · rcases hw with ⟨rfl, hI2⟩ | ⟨rfl, hD⟩
        · refine .inl ⟨rfl, ham, ?_, ?_⟩
          · rw [ovsN_snoc, c1.get ob (by omega) (by rintro (h | h); exact nob h; omega)]
            exact ho
          · rw [outN_snoc, he, List.length_append]
            exact hI2
        · exact .inr ⟨rfl, .inl ⟨_, hlt, hD⟩⟩
  · have hce : cutN (ovsN false pre) (e :: rest) = [.inr 4] := cutN_bad ham
    rw [hce] at hcut
    have hat : cs[(outN false pre).length]? = some (.inr 4) := by rw [hcut]; simp
    have hlen : cs.length = (outN false pre).length + 1 := by rw [hcut]; simp
    refine RTell_bad ge gb hmid.1 ham gy fun m5 o5 => ?_
    have hsz := o5.size
    refine (step _ _ m5 A1 (fun _ => False) (by omega) (z.old o5) (fun i hi => ⟨by have := lA i hi; omega, (o i hi).2⟩) (fun i hi => hi.elim) (fun i hi e => e) (fun i hi => by have := hF i hi; omega) trivial
      (lI _ m m5 A1 hI (fun i hi => o5.get (lA i hi)) hsz) (.inr ⟨4, hat, rfl, fun i h => h⟩)).mono ?_
    rintro w m6 ⟨A2, c1, c2, hw⟩
    have z6 := c1.size
    refine ⟨A2, ⟨by omega, fun i hi hna => ?_⟩, fun i hi => ⟨(c2 i hi).1, ?_⟩, .inr ⟨rfl, ?_⟩⟩
    · rw [c1.get i (by omega) (by rintro (h | h); exact hna (.inl h); exact h), o5.get hi]
    · rcases (c2 i hi).2 with (h | h) | h
      · exact .inl h
      · exact h.elim
      · exact .inr (by omega)
    · rcases hw with ⟨_, hI2⟩ | ⟨_, hD⟩
      · rw [hlen]; exact .inr hI2
      · exact .inl ⟨_, by omega, hD⟩


/-! ### RndC -/

theorem foldE_none : ∀ (l : List (List Int)) (st : List En × Option En), (st.2 = none → st.1 = []) → (l.foldl stepE st).2 = none → (l.foldl stepE st).1 = []
  | [], st, h => h
  | r :: l, st, h => by
    rw [List.foldl_cons]
    refine foldE_none l _ fun hn => ?_
    unfold stepE at hn
    split at hn
    · cases hn
    · split at hn <;> cases hn
theorem stE_none {rs : List (List Int)} (h : (stE rs).2 = none) : (stE rs).1 = [] := foldE_none rs ([], none) (fun _ => rfl) h

/-- The boxes of a round that is under way. -/
structure RndJ (yb eb ob tb : Nat) (y : Value) (cur : Option En) (ov : Bool) (m : Mem) (A1 A : Set') : Prop where
  gy : m.get yb = some (.cells false true [y])
  gt : m.get tb = some (.cells false true [.func (.func F_sums_Round_1_1) #[] #[ptr eb, ptr yb, ptr ob]])
  go : m.get ob = some (.cells false true [.bool ov])
  ge : match cur with
    | none => m.get eb = some (.cells false true [.pointer none])
    | some e => ∃ b tg, m.get eb = some (.cells false true [ptr b]) ∧ m.get b = some (.cells false tg (enC e)) ∧ A b ∧ ¬ A1 b ∧ b ≠ eb ∧ b ≠ ob ∧ b ≠ yb ∧ b ≠ tb
  ay : A yb ∧ ¬ A1 yb
  ae : A eb ∧ ¬ A1 eb
  ao : A ob ∧ ¬ A1 ob
  at_ : A tb ∧ ¬ A1 tb
  sub : ∀ i, A1 i → A i
theorem RndJ.loc {yb eb ob tb : Nat} {y : Value} {cur : Option En} {ov : Bool} {m m' : Mem} {A1 A : Set'} (h : RndJ yb eb ob tb y cur ov m A1 A) (hk : ∀ i, A i → m'.get i = m.get i) : RndJ yb eb ob tb y cur ov m' A1 A where
  gy := (hk _ h.ay.1).trans h.gy
  gt := (hk _ h.at_.1).trans h.gt
  go := (hk _ h.ao.1).trans h.go
  ge := by
    have := h.ge
    cases cur with
    | none => exact (hk _ h.ae.1).trans this
    | some g =>
      obtain ⟨b, tg, h1, h2, h3, h4⟩ := this
      exact ⟨b, tg, (hk _ h.ae.1).trans h1, (hk _ h3).trans h2, h3, h4⟩
  ay := h.ay
  ae := h.ae
  ao := h.ao
  at_ := h.at_
  sub := h.sub

theorem rnd_boxes (P : Mem → Prop) (m : Mem) (v0 v1 v2 v2' v3 v4 : Value) (h : ∀ m', m'.get m.size = some (.cells false true [v0]) → m'.get (m.size + 1) = some (.cells false true [v1]) → m'.get (m.size + (1 + 1)) = some (.cells false true [v2']) → m'.get (m.size + (1 + (1 + 1))) = some (.cells false true [v4]) → Old m m' → m'.size = m.size + 4 → P m') :
    P ((((((m.push (.cells false true [v0])).push (.cells false true [v1])).push (.cells false true [v2])).put (m.size + (1 + 1)) (some (.cells false true [v2']))).push (.cells false true [v3])).put (m.size + (1 + (1 + 1))) (some (.cells false true [v4]))) := by
  refine h _ ?_ ?_ ?_ ?_ (.put (.push (.put (.push (.push (.push (.refl m) _) _) _) _ _ (by omega)) _) _ _ (by omega)) (by simp only [size_put, size_push])
  · simp only [getM_put, getM_push, size_put, size_push]
    rw [if_neg (by omega), if_neg (by omega), if_neg (by omega), if_neg (by omega), if_neg (by omega), if_pos trivial]
  all_goals simp [getM_put, getM_push, size_put, size_push]

set_option maxRecDepth 100000 in
set_option maxHeartbeats 16000000 in
theorem RoundI {Z : Nat → Option Blk} {F : Set'} {s : Value} {n : Nat} {rs : List HRow} (hs : Iter E Z F s n anyO (pureEl (rowsEl rs))) (hr : ∀ m, Frozen Z m → ∀ k, (rs.getD k noRow).At m) (hl : rs.length = n)
    {b1 : Nat} {r1 t1 : Bool} (h1 : Z b1 = some (.cells r1 t1 [s])) (hb : ∀ e ∈ entL (rs.map HRow.xs), midE e.am ∧ midE e.mo) :
    Iter E Z F (.func (.func F_sums_Round_1) #[] #[ptr b1]) (cutN false (entL (rs.map HRow.xs))).length anyO (rndEl (cutN false (entL (rs.map HRow.xs)))) where
  fn := ⟨_, _, _, rfl⟩
  locO := fun _ _ _ _ _ => trivial
  locE := rndEl_loc _
  go := by
    intro y hy I D lI lD step m A z o hF own0 i0
    obtain ⟨yf, ya, yc, rfl⟩ := hy
    rw [CallF_func]
    refine ⟨by simp only [go_sem], ?_⟩
    have e : (#[] ++ [Value.func yf ya yc].toArray ++ #[ptr b1] : Array Value) = [Value.func yf ya yc, ptr b1].toArray := by simp
    rw [e]
    refine .enter fn_sums_Round_1 (by simp) ?_
    have r1 := frozen_at z h1
    have lb1 := z.lt h1
    have n1 : ¬ b1 = m.size := by omega
    have n2 : ¬ b1 = m.size + 1 := by omega
    have n3 : ¬ b1 = m.size + (1 + 1) := by omega
    have n4 : ¬ b1 = m.size + (1 + (1 + 1)) := by omega
    simp (decide := true) (implicitDefEqProofs := false) (maxDischargeDepth := 20) only [go_sem, r1, n1, n2, n3, n4, ↓reduceIte, true_implies, false_implies]
    refine rnd_boxes (fun mm => wpM E _ _ _ _ _ _ mm) m _ _ _ _ _ _ fun m1 q0 q1 q2 q3 ho hs1 => ?_
    obtain ⟨yb, hyb⟩ : ∃ b, b = m.size := ⟨_, rfl⟩
    obtain ⟨eb, heb⟩ : ∃ b, b = m.size + 1 := ⟨_, rfl⟩
    obtain ⟨ob, hob⟩ : ∃ b, b = m.size + (1 + 1) := ⟨_, rfl⟩
    obtain ⟨tb, htb⟩ : ∃ b, b = m.size + (1 + (1 + 1)) := ⟨_, rfl⟩
    rw [← htb] at q3 ⊢
    rw [← hob] at q2 q3 ⊢
    rw [← heb] at q1 q3 ⊢
    rw [← hyb] at q0 q3 ⊢
    simp only [c_sums_Round_1_10_at]
    obtain ⟨xss, hxss⟩ : ∃ x, x = rs.map HRow.xs := ⟨_, rfl⟩
    rw [← hxss] at hb step ⊢
    have hxl : xss.length = n := by rw [hxss, List.length_map, hl]
    obtain ⟨N, hN⟩ : ∃ N, N = (cutN false (entL xss)).length := ⟨_, rfl⟩
    rw [← hN]
    have hZF : ∀ i, m.size ≤ i → Z i = none ∧ ¬ F i := fun i hi => ⟨z.free hi, fun f => by have := (hF i f).1; omega⟩
    have ea : (#[] ++ #[] ++ #[ptr eb, ptr yb, ptr ob] : Array Value) = [ptr eb, ptr yb, ptr ob].toArray := by simp
    refine wpM_rangeP (A := fun i => A i ∨ i = yb ∨ i = eb ∨ i = ob ∨ i = tb) hs (fun t => upd t 6 (t 10)) (by simp (decide := true) only [go_sem, ↓reduceIte]) rfl asg_sums_Round_1_0 body_sums_Round_1_0 (by decide) (fun K l t m h => by simp (decide := true) only [go_sem, ↓reduceIte]; exact h)
      (fun k m A => (∀ e ∈ (stE (xss.take k)).1, e.am = 0) ∧ ∃ A1, I (outN false (stE (xss.take k)).1).length m A1 ∧ RndJ yb eb ob tb (.func yf ya yc) (stE (xss.take k)).2 (ovsN false (stE (xss.take k)).1) m A1 A)
      (fun k x m A => x = .ret ∧ ∃ A1, ((∃ j, j < N ∧ D j m A1) ∨ I N m A1) ∧ ∀ i, A1 i → A i)
      (fun k m1 m2 A' ⟨h0, A1, h1, h2⟩ hk hs => ⟨h0, A1, lI _ m1 m2 A1 h1 (fun i hi => hk i (h2.sub i hi)) hs, h2.loc hk⟩) (fun k x m1 m2 A' ⟨h1, A1, h3, h4⟩ hk hs => ⟨h1, A1, h3.imp (fun ⟨j, hj, h⟩ => ⟨j, hj, lD _ m1 m2 A1 h (fun i hi => hk i (h4 i hi)) hs⟩) fun h => lI _ m1 m2 A1 h (fun i hi => hk i (h4 i hi)) hs, h4⟩)
      (z.old ho) (fun i hi => ?_) (fun i hi => ⟨by have := (hF i hi).1; omega, (hF i hi).2⟩) trivial ⟨fun g hg => by simp [stE] at hg, A, lI 0 m _ A i0 (fun i hi => ho.get (o i hi).1) ho.size, ?_⟩ ?_ ?_ ?_
    · rcases hi with hi | hi
      · exact ⟨Nat.lt_of_lt_of_le (o i hi).1 ho.size, (o i hi).2⟩
      · exact ⟨by omega, hZF i (by omega)⟩
    · have na : ∀ i, m.size ≤ i → ¬ A i := fun i hi h => by have := (o i h).1; omega
      exact ⟨q0, q3, q2, q1, ⟨.inr (.inl rfl), na _ (by omega)⟩, ⟨.inr (.inr (.inl rfl)), na _ (by omega)⟩, ⟨.inr (.inr (.inr (.inl rfl))), na _ (by omega)⟩, ⟨.inr (.inr (.inr (.inr rfl))), na _ (by omega)⟩, fun i hi => .inl hi⟩
    · rintro k vs m2 A' B l hk z1 o1 o2 dis - ⟨hok, A1, hI, J⟩ hel hin hms
      subst hel
      refine ⟨rfl, ?_⟩
      have hrow := hr m2 z1 k
      have hrF : ∀ m', Frozen Z m' → (rs.getD k noRow).At m' := fun m' z => hr m' z k
      have hel : rowsEl rs k = [(rs.getD k noRow).v] := rfl
      have st1 : stE (xss.take (k + 1)) = stepE (stE (xss.take k)) (rs.getD k noRow).xs := by
        rw [List.take_succ_eq_append_getElem (by omega), stE_snoc]
        congr 1
        simp only [hxss, List.getElem_map, List.getD_eq_getElem?_getD, List.getElem?_eq_getElem (show k < rs.length by omega), Option.getD_some]
      rw [hel]
      generalize rs.getD k noRow = row at *
      obtain ⟨rad, rn, rc, rxs⟩ := row
      have hbd := hrow.bd
      simp only [HRow.v] at st1 hbd ⊢
      have hcv : ∀ c, -9223372036854775808 ≤ rxs.getD c 0 ∧ rxs.getD c 0 < 9223372036854775808 := fun c => by
        rw [List.getD_eq_getElem?_getD]
        cases hg : rxs[c]? with
        | none => exact ⟨by decide, by decide⟩
        | some v => exact hbd v (List.mem_of_getElem? hg)
      have hlt : ∀ i, A' i → i < m2.size := fun i hi => (o1 i hi).1
      simp only [c_sums_Round_1_9_at, wpM_block, c_sums_Round_1_8_at, wpM_seq]
      refine wpM_mono c_sums_Round_1_5 _ _ (fun x t' m' hk => ?_) _ _ (wpM_agree c_sums_Round_1_5 _ _ (.refl _ _) (fun i hi => hi) (K := fun x t' m' => fin3
          (∃ A2 Aq e0, (∀ g ∈ (stE (xss.take (k + 1))).1, g.am = 0) ∧ I (outN false (stE (xss.take (k + 1))).1).length m' A2 ∧ RndJ yb eb ob tb (.func yf ya yc) (some e0) (ovsN false (stE (xss.take (k + 1))).1) m' A2 Aq ∧ Trs (fun i => A' i ∨ B i) m2 m' Aq ∧ (stE (xss.take (k + 1))).2 = some (enAdd e0 rxs))
          (∃ A'_1, ChgS (fun i => A' i ∨ B i) m2 m' ∧ NewS (fun i => A' i ∨ B i) m2 m' A'_1 ∧ ∃ A1, ((∃ j, j < N ∧ D j m' A1) ∨ I N m' A1) ∧ ∀ i, A1 i → A'_1 i) x) ?_)
      · obtain ⟨hag, hk⟩ := hk
        cases x with
        | normal =>
          obtain ⟨A2, Aq, e0, hok2, hI2, J2, T, hst⟩ := hk
          have a3 := hag 3 (by decide +kernel)
          have a6 := hag 6 (by decide +kernel)
          simp (decide := true) only [go_sem, ↓reduceIte] at a3 a6
          have zm := z1.chg T.c (fun i hi => hi.elim (fun h => (o1 i h).2.1) fun h => (o2 i h).2.1)
          obtain ⟨b, tg, ge, gb, hAb, nAb, hbe, hbo, hby, hbt⟩ := J2.ge
          have lAq : ∀ i, Aq i → i < m'.size := fun i hi => (T.n i hi).1
          have re := get_at0 ge
          have lb := getM_lt gb
          have le := getM_lt ge
          simp only [enC] at gb
          have SR := (hrF m' zm).sl
          simp (decide := true) (implicitDefEqProofs := false) (maxDischargeDepth := 20) only [go_sem, nilOk, a3, a6, re, ↓reduceIte, true_implies, false_implies]
          refine (SAt_at 7 ((SlA.gm [eb]).2 SR)).mono ?_
          rintro w m3 ⟨rfl, o3⟩
          obtain ⟨el3, rfl, -⟩ := o3.ugm
          have o3 : Old m' (m'.ext el3) := ⟨el3, rfl⟩
          have gb3 := (o3.get lb).trans gb
          have lb3 := getM_lt gb3
          have re3 := get_at0 ((o3.get le).trans ge)
          have neb : ¬ eb = b := fun e => hbe e.symm
          have zb : Z b = none ∧ ¬ F b := by
            have h := T.n b hAb
            rcases h.2 with (h | h) | h
            · exact (o1 b h).2
            · exact (o2 b h).2
            · exact hZF b (by omega)
          have fz : ∀ mm : Mem, (∀ i, i < m'.size → i ≠ b → mm.get i = m'.get i) → Frozen Z mm := fun mm hmm i c hi => by
            rw [hmm i (zm.lt hi) (fun e => by rw [e, zb.1] at hi; cases hi)]
            exact zm i c hi
          simp (decide := true) (implicitDefEqProofs := false) (maxDischargeDepth := 20) only [go_sem, nilOk, a3, a6, re3, gb3, lb3, neb, ↓reduceIte, true_implies, false_implies]
          obtain ⟨m4, hm4⟩ : ∃ m4, m4 = (m'.ext el3).put b (some (.cells false tg [vI e0.id, .int .i64 (rxs.getD 7 0), sHi e0.am, sLo e0.am, sHi e0.mo, sLo e0.mo])) := ⟨_, rfl⟩
          rw [← hm4]
          have s4 : m4.size = (m'.ext el3).size := by rw [hm4, size_put]
          have k4 : ∀ i, i < m'.size → i ≠ b → m4.get i = m'.get i := fun i hi h => by rw [hm4, getM_put, if_neg (fun e => h e.1), o3.get hi]
          have gb4 : m4.get b = some (.cells false tg [vI e0.id, .int .i64 (rxs.getD 7 0), sHi e0.am, sLo e0.am, sHi e0.mo, sLo e0.mo]) := by rw [hm4, getM_put, if_pos ⟨rfl, lb3⟩]
          have s3 := o3.size
          generalize m'.ext el3 = m3 at *
          clear hm4
          refine (SAt_at 4 ((SlA.gm [eb]).2 (hrF m4 (fz m4 k4)).sl)).mono ?_
          rintro w m5 ⟨rfl, o5⟩
          obtain ⟨el5, rfl, -⟩ := o5.ugm
          have o5 : Old m4 (m4.ext el5) := ⟨el5, rfl⟩
          have gb5 := (o5.get (getM_lt gb4)).trans gb4
          have s5 := o5.size
          simp (decide := true) (implicitDefEqProofs := false) (maxDischargeDepth := 20) only [go_sem, nilOk, a3, a6, ↓reduceIte, true_implies, false_implies]
          have k5 : ∀ i, i < m'.size → i ≠ b → (m4.ext el5).get i = m'.get i := fun i hi h => by rw [o5.get (by omega), k4 i hi h]
          generalize m4.ext el5 = m5 at *
          refine SumAdd2 gb5 (hcv 4).1 (hcv 4).2 fun m6 u6 gb6 => ?_
          have s6 := u6.size
          have k6 : ∀ i, i < m'.size → i ≠ b → m6.get i = m'.get i := fun i hi h => by rw [u6.get i (by omega) h, k5 i hi h]
          have re6 := get_at0 ((k6 eb le neb).trans ge)
          simp (decide := true) (implicitDefEqProofs := false) (maxDischargeDepth := 20) only [go_sem, nilOk, a3, a6, re6, ↓reduceIte, true_implies, false_implies]
          refine (SAt_at 9 ((SlA.gm [eb]).2 (hrF m6 (fz m6 k6)).sl)).mono ?_
          rintro w m7 ⟨rfl, o7⟩
          obtain ⟨el7, rfl, -⟩ := o7.ugm
          have o7 : Old m6 (m6.ext el7) := ⟨el7, rfl⟩
          have gb7 := (o7.get (getM_lt gb6)).trans gb6
          have s7 := o7.size
          simp (decide := true) (implicitDefEqProofs := false) (maxDischargeDepth := 20) only [go_sem, nilOk, a3, a6, ↓reduceIte, true_implies, false_implies]
          have k7 : ∀ i, i < m'.size → i ≠ b → (m6.ext el7).get i = m'.get i := fun i hi h => by rw [o7.get (by omega), k6 i hi h]
          generalize m6.ext el7 = m7 at *
          refine SumAdd4 gb7 (hcv 9).1 (hcv 9).2 fun m8 u8 gb8 => ?_
          have s8 := u8.size
          have k8 : ∀ i, i < m'.size → i ≠ b → m8.get i = m'.get i := fun i hi h => by rw [u8.get i (by omega) h, k7 i hi h]
          simp (decide := true) (implicitDefEqProofs := false) (maxDischargeDepth := 20) only [go_sem, ↓reduceIte, true_implies, false_implies]
          have sz8 : m'.size ≤ m8.size := by omega
          have T8 : Trs Aq m' m8 Aq := ⟨⟨sz8, fun i hi hna => k8 i hi fun e => hna (e ▸ hAb)⟩, fun i hi => ⟨Nat.lt_of_lt_of_le (lAq i hi) sz8, .inl hi⟩⟩
          have TT := T.trans T8
          have gA : ∀ i, Aq i → i ≠ b → m8.get i = m'.get i := fun i hi hne => k8 i (lAq i hi) hne
          refine ⟨Aq, TT.c, TT.n, hok2, A2, lI _ m' m8 A2 hI2 (fun i hi => gA i (J2.sub i hi) fun e => nAb (e ▸ hi)) sz8, ?_⟩
          rw [hst]
          exact ⟨(gA _ J2.ay.1 (Ne.symm hby)).trans J2.gy, (gA _ J2.at_.1 (Ne.symm hbt)).trans J2.gt, (gA _ J2.ao.1 (Ne.symm hbo)).trans J2.go, ⟨b, tg, (gA _ J2.ae.1 (Ne.symm hbe)).trans ge, gb8, hAb, nAb, hbe, hbo, hby, hbt⟩, J2.ay, J2.ae, J2.ao, J2.at_, J2.sub⟩
        | ret =>
          obtain ⟨A3, c1, c2, A4, hD, hs4⟩ := hk
          exact ⟨A3, c1, c2, .inl rfl, rfl, A4, hD, hs4⟩
        | _ => exact hk.elim
      · obtain ⟨st, hst⟩ : ∃ x, x = stE (xss.take k) := ⟨_, rfl⟩
        rw [← hst] at J hI st1 hok
        simp (decide := true) (implicitDefEqProofs := false) (maxDischargeDepth := 20) only [go_sem, ↓reduceIte, true_implies, false_implies]
        refine (SAt_at 1 hrow.sl).mono ?_
        rintro w m3 ⟨rfl, o3⟩
        have J3 := J.loc (m' := m3) fun i hi => o3.get (hlt i hi)
        have lA1 : ∀ i, A1 i → i < m2.size := fun i hi => hlt i (J.sub i hi)
        have hI3 := lI _ m2 m3 A1 hI (fun i hi => o3.get (lA1 i hi)) o3.size
        have lyb := hlt _ J.ay.1
        have leb := hlt _ J.ae.1
        have lob := hlt _ J.ao.1
        have ltb := hlt _ J.at_.1
        have z3s := o3.size
        obtain ⟨X, hX⟩ : ∃ X : List Value, X = [.int .i64 (rxs.getD 1 0), .int .i64 0, .int .i64 0, .int .u64 0, .int .i64 0, .int .u64 0] := ⟨_, rfl⟩
        have hXe : X = enC (en0 rxs) := by rw [hX]; rfl
        have reset : ∀ (m6 : Mem) (A2 : Set') (j' : Nat) (kv : Value) (ov : Bool), I j' m6 A2 → m6.get yb = some (.cells false true [.func yf ya yc]) → m6.get tb = some (.cells false true [.func (.func F_sums_Round_1_1) #[] #[ptr eb, ptr yb, ptr ob]]) →
            m6.get eb = some (.cells false true [kv]) → m6.get ob = some (.cells false true [.bool ov]) → ¬ A2 yb → ¬ A2 eb → ¬ A2 ob → ¬ A2 tb → ChgS (fun i => A' i ∨ B i) m2 m6 → NewS (fun i => A' i ∨ B i) m2 m6 A2 →
            ∃ A2 Aq, I j' ((m6.push (.cells false true X)).put eb (some (.cells false true [ptr m6.size]))) A2 ∧ RndJ yb eb ob tb (.func yf ya yc) (some (en0 rxs)) ov ((m6.push (.cells false true X)).put eb (some (.cells false true [ptr m6.size]))) A2 Aq ∧
              Trs (fun i => A' i ∨ B i) m2 ((m6.push (.cells false true X)).put eb (some (.cells false true [ptr m6.size]))) Aq := by
          intro m6 A2 j' kv ov hI6 gy6 gt6 ge6 go6 ny ne' no nt c6 n6
          obtain ⟨m7, hm7⟩ : ∃ m7, m7 = (m6.push (.cells false true X)).put eb (some (.cells false true [ptr m6.size])) := ⟨_, rfl⟩
          rw [← hm7]
          have le6 := getM_lt ge6
          have s7 : m7.size = m6.size + 1 := by rw [hm7, size_put, size_push]
          have g7 : ∀ i, i < m6.size → i ≠ eb → m7.get i = m6.get i := fun i h1 h2 => by rw [hm7, getM_put, if_neg (fun e => h2 e.1), getM_push, if_neg (by omega)]
          have ge7 : m7.get eb = some (.cells false true [ptr m6.size]) := by rw [hm7, getM_put, if_pos ⟨rfl, by rw [size_push]; omega⟩]
          have gx7 : m7.get m6.size = some (.cells false true (enC (en0 rxs))) := by rw [hm7, getM_put, if_neg (by omega), getM_push, if_pos rfl, hXe]
          have lm := c6.size
          have lA2 : ∀ i, A2 i → i < m6.size := fun i hi => (n6 i hi).1
          refine ⟨A2, fun i => A2 i ∨ i = yb ∨ i = eb ∨ i = ob ∨ i = tb ∨ i = m6.size, lI _ m6 m7 A2 hI6 (fun i hi => g7 i (lA2 i hi) (fun e => ne' (e ▸ hi))) (by omega), ?_, ?_⟩
          · exact ⟨(g7 _ (by omega) (by omega)).trans gy6, (g7 _ (by omega) (by omega)).trans gt6, (g7 _ (by omega) (by omega)).trans go6, ⟨m6.size, true, ge7, gx7, .inr (.inr (.inr (.inr (.inr rfl)))), fun h => by have := lA2 _ h; omega, by omega, by omega, by omega, by omega⟩,
              ⟨.inr (.inl rfl), ny⟩, ⟨.inr (.inr (.inl rfl)), ne'⟩, ⟨.inr (.inr (.inr (.inl rfl))), no⟩, ⟨.inr (.inr (.inr (.inr (.inl rfl)))), nt⟩, fun i hi => .inl hi⟩
          · refine ⟨⟨by omega, fun i hi hna => ?_⟩, fun i hi => ?_⟩
            · rw [g7 i (by omega) (fun e => hna (.inl (e ▸ J.ae.1))), c6.get i hi hna]
            · rcases hi with hi | rfl | rfl | rfl | rfl | rfl
              · have := n6 i hi
                exact ⟨by omega, this.2⟩
              · exact ⟨by omega, .inl (.inl J.ay.1)⟩
              · exact ⟨by omega, .inl (.inl J.ae.1)⟩
              · exact ⟨by omega, .inl (.inl J.ao.1)⟩
              · exact ⟨by omega, .inl (.inl J.at_.1)⟩
              · exact ⟨by omega, .inr (by omega)⟩
        cases hcur : st.2 with
        | none =>
          have J3' := J3
          rw [hcur] at J3'
          have ge3 : m3.get eb = some (.cells false true [.pointer none]) := J3'.ge
          have re := get_at0 ge3
          have rt := get_at0 J3.gt
          have st1' : stE (xss.take (k + 1)) = (st.1, some (enAdd (en0 rxs) rxs)) := by rw [st1]; unfold stepE; rw [hcur]
          simp (decide := true) (implicitDefEqProofs := false) (maxDischargeDepth := 20) only [go_sem, re, rt, ↓reduceIte, true_implies, false_implies]
          rw [ea]
          refine (RTell_nil ge3).mono ?_
          rintro w m6 ⟨rfl, o6⟩
          have ge6 := (o6.get (getM_lt ge3)).trans ge3
          have le6 := getM_lt ge6
          have o26 := o3.trans o6
          have s6 := o6.size
          obtain ⟨A2, Aq, k1, k2, k3⟩ := reset m6 A1 _ _ _ (lI _ m3 m6 A1 hI3 (fun i hi => o6.get (by have := lA1 i hi; omega)) o6.size) ((o6.get (by omega)).trans J3.gy) ((o6.get (by omega)).trans J3.gt) ge6 ((o6.get (by omega)).trans J3.go) J.ay.2 J.ae.2 J.ao.2 J.at_.2 (o26.chg _) (fun i hi => ⟨Nat.lt_of_lt_of_le (lA1 i hi) o26.size, .inl (.inl (J.sub i hi))⟩)
          have nem : ¬ eb = m6.size := by omega
          rw [hX] at k1 k2 k3
          simp (decide := true) (implicitDefEqProofs := false) (maxDischargeDepth := 20) only [go_sem, ge6, le6, nem, st1', ↓reduceIte, true_implies, false_implies]
          exact ⟨A2, Aq, en0 rxs, hok, k1, k2, k3, rfl⟩
        | some g =>
          have J3' := J3
          rw [hcur] at J3'
          obtain ⟨b, tg, ge3, gb3, hAb, nAb, hbe, hbo, hby, hbt⟩ := J3'.ge
          have re := get_at0 ge3
          have rb0 : m3.at b 0 = some (.int .i64 g.id) := by simp only [enC] at gb3; exact enAt0 gb3
          have rt := get_at0 J3.gt
          by_cases heq : g.id = rxs.getD 1 0
          · have dq : (g.id != rxs.getD 1 0) = false := by simpa using heq
            have st1' : stE (xss.take (k + 1)) = (st.1, some (enAdd g rxs)) := by rw [st1]; unfold stepE; rw [hcur]; simp only [if_pos heq]
            simp (decide := true) (implicitDefEqProofs := false) (maxDischargeDepth := 20) only [go_sem, nilOk, re, rb0, dq, st1', ↓reduceIte, true_implies, false_implies]
            exact ⟨A1, A', g, hok, hI3, J3', ⟨o3.chg _, fun i hi => ⟨Nat.lt_of_lt_of_le (hlt i hi) o3.size, .inl (.inl hi)⟩⟩, rfl⟩
          · have dq : (g.id != rxs.getD 1 0) = true := by simpa using heq
            have st1' : stE (xss.take (k + 1)) = (st.1 ++ [g], some (enAdd (en0 rxs) rxs)) := by rw [st1]; unfold stepE; rw [hcur]; simp only [if_neg heq]
            obtain ⟨rest, hrest⟩ : ∃ rest, entL xss = st.1 ++ g :: rest := by
              obtain ⟨t, ht⟩ := entL_grow xss (k + 1)
              rw [st1'] at ht
              exact ⟨t, by rw [ht]; simp⟩
            have hmid := hb g (by rw [hrest]; simp)
            simp (decide := true) (implicitDefEqProofs := false) (maxDischargeDepth := 20) only [go_sem, nilOk, re, rb0, rt, dq, ↓reduceIte, true_implies, false_implies]
            rw [ea]
            have zob : Z ob = none ∧ ¬ F ob := (o1 ob J.ao.1).2
            refine (RTell_all (tg := tg) lI step hrest hok hmid (z1.old o3) (fun i hi => ⟨by have := lA1 i hi; omega, (o1 i (J.sub i hi)).2⟩) (fun i hi => by have := (hF i hi).1; have := ho.size; omega) hI3 ge3 gb3 J3'.gy J3'.go ⟨by omega, by omega, hbo⟩ J.ao.2 zob).mono ?_
            rintro w m6 ⟨A2, c1, c2, hw⟩
            have z6 := c1.size
            have c26 : ChgS (fun i => A' i ∨ B i) m2 m6 := ⟨by omega, fun i hi hna => by
              rw [c1.get i (by omega) (by rintro (h | h); exact hna (.inl (J.sub i h)); exact hna (.inl (h ▸ J.ao.1))), o3.get hi]⟩
            have n26 : NewS (fun i => A' i ∨ B i) m2 m6 A2 := fun i hi => ⟨(c2 i hi).1, by
              rcases (c2 i hi).2 with h | h
              · exact .inl (.inl (J.sub i h))
              · exact .inr (by omega)⟩
            have nA2 : ∀ i, i < m3.size → ¬ A1 i → ¬ A2 i := fun i hi h1 h => by
              rcases (c2 i h).2 with h | h
              · exact h1 h
              · omega
            have g6 : ∀ i, i < m3.size → ¬ A1 i → i ≠ ob → m6.get i = m3.get i := fun i hi h1 h2 => c1.get i hi (by rintro (h | h); exact h1 h; exact h2 h)
            rcases hw with ⟨rfl, ham, go6, hI6⟩ | ⟨rfl, hd⟩
            · have ge6 : m6.get eb = _ := (g6 eb (by omega) J.ae.2 (by omega)).trans ge3
              have le6 := getM_lt ge6
              have nem : ¬ eb = m6.size := by omega
              obtain ⟨A3, Aq, k1, k2, k3⟩ := reset m6 A2 _ _ _ hI6 ((g6 yb (by omega) J.ay.2 (by omega)).trans J3'.gy) ((g6 tb (by omega) J.at_.2 (by omega)).trans J3'.gt) ge6 go6 (nA2 _ (by omega) J.ay.2) (nA2 _ (by omega) J.ae.2) (nA2 _ (by omega) J.ao.2) (nA2 _ (by omega) J.at_.2) c26 n26
              rw [hX] at k1 k2 k3
              simp (decide := true) (implicitDefEqProofs := false) (maxDischargeDepth := 20) only [go_sem, ge6, le6, nem, st1', ↓reduceIte, true_implies, false_implies]
              refine ⟨A3, Aq, en0 rxs, fun x hx => ?_, k1, k2, k3, rfl⟩
              rcases List.mem_append.1 hx with hx | hx
              · exact hok x hx
              · rw [List.mem_singleton.1 hx]; exact ham
            · simp (decide := true) (implicitDefEqProofs := false) (maxDischargeDepth := 20) only [go_sem, st1', ↓reduceIte, true_implies, false_implies]
              exact ⟨A2, c26, n26, A2, by rw [hN]; exact hd, fun i hi => hi⟩
    · rintro m' A' z' o' - ⟨hok, A1, hI, J⟩ c1 c2
      rw [show n = xss.length from hxl.symm, List.take_length] at hI J hok
      have hlt : ∀ i, A' i → i < m'.size := fun i hi => (o' i hi).1
      have lA1 : ∀ i, A1 i → i < m'.size := fun i hi => hlt i (J.sub i hi)
      have rt := get_at0 J.gt
      have c1s := c1.size
      have hos := ho.size
      -- what is left, seen from ahead of the boxes
      have outC : ∀ i, i < m.size → ¬ (A i ∨ F i) → m'.get i = m.get i := fun i hi hna => by
        rw [c1.get i (by omega) (by
          rintro ((h | h) | h)
          · exact hna (.inl h)
          · omega
          · exact hna (.inr h)), ho.get hi]
      have outA : ∀ i, A' i → A i ∨ m.size ≤ i := fun i hi => by
        rcases (c2 i hi).2 with (h | h) | h
        · exact .inl h
        · exact .inr (by omega)
        · exact .inr (by omega)
      simp (decide := true) (implicitDefEqProofs := false) (maxDischargeDepth := 20) only [go_sem, rt, ↓reduceIte, true_implies, false_implies]
      rw [ea]
      cases hcur : (stE xss).2 with
      | none =>
        rw [hcur] at J
        have he : (stE xss).1 = [] := stE_none hcur
        have ge : m'.get eb = some (.cells false true [.pointer none]) := J.ge
        have go := J.go
        rw [he] at go hI
        have go : m'.get ob = some (.cells false true [.bool false]) := go
        refine (RTell_nil ge).mono ?_
        rintro w m6 ⟨rfl, o6⟩
        have ro6 := get_at0 ((o6.get (getM_lt go)).trans go)
        have el : N = 0 := by rw [hN]; unfold entL; rw [hcur, he]; rfl
        simp (decide := true) (implicitDefEqProofs := false) (maxDischargeDepth := 20) only [go_sem, ro6, el, ↓reduceIte, true_implies, false_implies]
        have o6s := o6.size
        exact ⟨A1, ⟨by omega, fun i hi hna => by rw [o6.get (by omega), outC i hi hna]⟩, fun i hi => ⟨by have := lA1 i hi; omega, outA i (J.sub i hi)⟩, .inl ⟨trivial, lI _ m' m6 A1 hI (fun i hi => o6.get (lA1 i hi)) o6s⟩⟩
      | some g =>
        rw [hcur] at J
        obtain ⟨b, tg, ge3, gb3, hAb, nAb, hbe, hbo, hby, hbt⟩ := J.ge
        have hrest : entL xss = (stE xss).1 ++ g :: [] := by unfold entL; rw [hcur]; rfl
        have hmid := hb g (by rw [hrest]; simp)
        have leb := hlt _ J.ae.1
        have lob := hlt _ J.ao.1
        have lyb := hlt _ J.ay.1
        have zob : Z ob = none ∧ ¬ F ob := (o' ob J.ao.1).2
        refine (RTell_all (tg := tg) lI step hrest hok hmid z' (fun i hi => ⟨lA1 i hi, (o' i (J.sub i hi)).2⟩) (fun i hi => by have := (hF i hi).1; omega) hI ge3 gb3 J.gy J.go ⟨by omega, by omega, hbo⟩ J.ao.2 zob).mono ?_
        rintro w m6 ⟨A2, d1, d2, hw⟩
        have z6 := d1.size
        have fin : ChgS (fun i => A i ∨ F i) m m6 ∧ NewS A m m6 A2 := by
          refine ⟨⟨by omega, fun i hi hna => ?_⟩, fun i hi => ⟨(d2 i hi).1, ?_⟩⟩
          · have nA : ∀ x, A' x → i = x → False := fun x hx e => by
              subst e
              rcases outA i hx with h | h
              · exact hna (.inl h)
              · omega
            rw [d1.get i (by omega) (fun e => e.elim (fun h => nA i (J.sub i h) rfl) fun h => nA ob J.ao.1 h), outC i hi hna]
          · rcases (d2 i hi).2 with h | h
            · exact outA i (J.sub i h)
            · exact .inr (by omega)
        rcases hw with ⟨rfl, ham, go6, hI6⟩ | ⟨rfl, hd⟩
        · have hbal : ∀ x ∈ (stE xss).1 ++ [g], x.am = 0 := fun x hx => by
            rcases List.mem_append.1 hx with hx | hx
            · exact hok x hx
            · rw [List.mem_singleton.1 hx]; exact ham
          have hcut : cutN false (entL xss) = outN false ((stE xss).1 ++ [g]) ++ cutN (ovsN false ((stE xss).1 ++ [g])) [] := by
            rw [hrest, ← cutN_pre _ _ _ hbal, List.append_nil]
          have ro6 := get_at0 go6
          cases hov : ovsN false ((stE xss).1 ++ [g]) with
          | false =>
            rw [hov] at ro6 hcut
            have el : N = (outN false ((stE xss).1 ++ [g])).length := by rw [hN, hcut]; simp [cutN]
            simp (decide := true) (implicitDefEqProofs := false) (maxDischargeDepth := 20) only [go_sem, ro6, ↓reduceIte, true_implies, false_implies]
            exact ⟨A2, fin.1, fin.2, .inl ⟨trivial, by rw [el]; exact hI6⟩⟩
          | true =>
            rw [hov] at ro6 hcut
            have hat : (cutN false (entL xss))[(outN false ((stE xss).1 ++ [g])).length]? = some (.inr 3) := by rw [hcut]; simp [cutN]
            have el : N = (outN false ((stE xss).1 ++ [g])).length + 1 := by rw [hN, hcut]; simp [cutN]
            have gy6 : m6.get yb = some (.cells false true [.func yf ya yc]) := (d1.get yb lyb (by rintro (h | h); exact J.ay.2 h; omega)).trans J.gy
            have ry6 := get_at0 gy6
            simp (decide := true) (implicitDefEqProofs := false) (maxDischargeDepth := 20) only [go_sem, ro6, ry6, ↓reduceIte, true_implies, false_implies]
            have zm6 : Frozen Z m6 := fun i c hi => by
              rw [d1.get i (z'.lt hi) (by
                rintro (h | h)
                · have := (o' i (J.sub i h)).2.1; rw [this] at hi; cases hi
                · rw [h, zob.1] at hi; cases hi)]
              exact z' i c hi
            refine CallF.step ((step _ _ m6 A2 none' (by rw [← hN]; omega) zm6 (fun i hi => ⟨(d2 i hi).1, ?_⟩) (fun i hi => hi.elim) (fun i hi e => e) (fun i hi => by have := (hF i hi).1; omega) trivial hI6 (.inr ⟨3, hat, rfl, fun i h => h⟩)).mono ?_)
            · rcases (d2 i hi).2 with h | h
              · exact (o' i (J.sub i h)).2
              · exact hZF i (by omega)
            rintro w m7 ⟨A3, e1, e2, hw⟩
            have z7 := e1.size
            simp (decide := true) (implicitDefEqProofs := false) (maxDischargeDepth := 20) only [go_sem, ↓reduceIte, true_implies, false_implies]
            refine ⟨A3, ⟨by omega, fun i hi hna => ?_⟩, fun i hi => ⟨(e2 i hi).1, ?_⟩, ?_⟩
            · rw [e1.get i (by omega) (by
                rintro (h | h)
                · rcases (fin.2 i h).2 with h | h
                  · exact hna (.inl h)
                  · omega
                · exact h), fin.1.get i hi hna]
            · rcases (e2 i hi).2 with (h | h) | h
              · exact (fin.2 i h).2
              · exact h.elim
              · exact .inr (by omega)
            · rcases hw with ⟨rfl, hI7⟩ | ⟨rfl, hD⟩
              · exact .inl ⟨trivial, by rw [el]; exact hI7⟩
              · exact .inr ⟨_, by omega, trivial, hD⟩
        · simp (decide := true) (implicitDefEqProofs := false) (maxDischargeDepth := 20) only [go_sem, ↓reduceIte, true_implies, false_implies]
          refine ⟨A2, fin.1, fin.2, ?_⟩
          rw [← hN] at hd
          rcases hd with ⟨j, hj, hD⟩ | hI6
          · exact .inr ⟨j, hj, trivial, hD⟩
          · exact .inl ⟨trivial, hI6⟩
    · rintro k x m' A' hk z' o' - hx ⟨rfl, A1, hD, hsub⟩ c1 c2
      simp (decide := true) (implicitDefEqProofs := false) (maxDischargeDepth := 20) only [go_sem, ↓reduceIte, true_implies, false_implies]
      refine ⟨A1, ⟨by have := c1.size; have := ho.size; omega, fun i hi hna => ?_⟩, fun i hi => ?_, hD.elim (fun ⟨j, hj, h⟩ => .inr ⟨j, hj, trivial, h⟩) fun h => .inl ⟨trivial, h⟩⟩
      · rw [c1.get i (by omega) (by
          rintro ((h | h) | h)
          · exact hna (.inl h)
          · omega
          · exact hna (.inr h)), ho.get hi]
      · have := c2 i (hsub i hi)
        refine ⟨this.1, ?_⟩
        rcases this.2 with (h | h) | h
        · exact .inl h
        · exact .inr (by omega)
        · exact .inr (by omega)

end Go.Proofs.Ytjmppooebppecaa.W
