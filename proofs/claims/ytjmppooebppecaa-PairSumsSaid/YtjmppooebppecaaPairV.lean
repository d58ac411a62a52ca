/-
  PairSums, the plain law: what is left has the sum of what there was, group by group. PairSums: an array of sums; a line. PairSums: the lines. PairSums: what is left.
-/
import Derived.Test.YtjmppooebppecaaPairE
import Derived.Test.YtjmppooebppecaaPairC
import Derived.Test.YtjmppooebppecaaPairK
import Derived.Test.YtjmppooebppecaaBook
namespace Go.Proofs.Ytjmppooebppecaa.W
open Go.Abs
set_option linter.unusedSimpArgs false
set_option linter.unusedVariables false


/-! ### PairP -/

def gsum (f : List Int → Int) : List (List Int) → Int
  | [] => 0
  | r :: l => f r + gsum f l
theorem gsum_append (f : List Int → Int) : ∀ a b, gsum f (a ++ b) = gsum f a + gsum f b
  | [], b => by simp [gsum]
  | r :: a, b => by simp only [List.cons_append, gsum, gsum_append f a b]; omega
theorem gsum_perm (f : List Int → Int) {a b : List (List Int)} (h : a.Perm b) : gsum f a = gsum f b := by
  induction h with
  | nil => rfl
  | cons x _ ih => simp only [gsum, ih]
  | swap x y l => simp only [gsum]; omega
  | trans _ _ h1 h2 => exact h1.trans h2
def osum (f : List Int → Int) : List ORow → Int
  | [] => 0
  | none :: l => osum f l
  | some r :: l => f r + osum f l
theorem osum_append (f : List Int → Int) : ∀ a b, osum f (a ++ b) = osum f a + osum f b
  | [], b => by simp [osum]
  | none :: a, b => by simp only [List.cons_append, osum, osum_append f a b]
  | some r :: a, b => by simp only [List.cons_append, osum, osum_append f a b]; omega
theorem osum_some (f : List Int → Int) : ∀ a, osum f (a.map some) = gsum f a
  | [] => rfl
  | r :: a => by simp only [List.map_cons, osum, gsum, osum_some f a]

def fI (g : Int) (r : List Int) : Int := if r.getD 8 0 = g then r.getD 9 0 else 0
def fO (g : Int) (r : List Int) : Int := if r.getD 2 0 = g then r.getD 3 0 else 0
def aloneI (r : List Int) : Bool := r.getD 5 0 == 0

/-- A line at work. -/
structure LnOk (r : List Int) : Prop where
  e : r.getD 7 0 = 1000 * r.getD 1 0
  g : 1 ≤ r.getD 8 0 ∧ r.getD 8 0 ≤ 3
  n : -1125899906842624 ≤ r.getD 9 0 ∧ r.getD 9 0 ≤ 1125899906842624
/-- A row that is told. -/
structure OutOk (r : List Int) : Prop where
  len : r.length = 4
  g : 1 ≤ r.getD 2 0 ∧ r.getD 2 0 ≤ 3
  e : r.getD 1 0 = 1000 * r.getD 0 0

structure SdOk (s : Sd) : Prop where
  p : 0 < s.n → s.p = 1000 * s.e
  z : s.n = 0 → s.s = 0
  b : -(1125899906842624 * (s.n : Int)) ≤ s.s ∧ s.s ≤ 1125899906842624 * (s.n : Int)
theorem sd0_ok : SdOk sd0 := ⟨fun h => by simp [sd0] at h, fun _ => rfl, by decide⟩
theorem sdAdd_ok {s : Sd} {r : List Int} (h : SdOk s) (hr : LnOk r) : SdOk (sdAdd s r) := by
  have h1 := h.b
  have h2 := hr.n
  refine ⟨fun _ => hr.e, fun h => by simp [sdAdd] at h, ?_⟩
  show -(1125899906842624 * ((s.n + 1 : Nat) : Int)) ≤ s.s + r.getD 9 0 ∧ s.s + r.getD 9 0 ≤ 1125899906842624 * ((s.n + 1 : Nat) : Int)
  omega

structure BoOk (b : Bo) : Prop where
  lo : SdOk b.lo
  hi : SdOk b.hi
  g : 1 ≤ b.key.getD 2 0 ∧ b.key.getD 2 0 ≤ 3

theorem can_sum (x y : Int) : canP x y + canQ x y = x + y := by
  unfold canP canQ
  split
  · rfl
  · split <;> omega
theorem can_z (x y : Int) (h : x = 0 ∨ y = 0) : canP x y = x ∧ canQ x y = y := by
  have e : sg 0 0 = 0 := by decide
  have : 0 ≤ sg x 0 * sg y 0 := by rcases h with rfl | rfl <;> rw [e] <;> simp
  exact ⟨by unfold canP; exact if_pos this, by unfold canQ; exact if_pos this⟩
theorem can_le (x y : Int) {b : Int} (hx : -b ≤ x ∧ x ≤ b) (hy : -b ≤ y ∧ y ≤ b) : (-(2 * b) ≤ canP x y ∧ canP x y ≤ 2 * b) ∧ (-(2 * b) ≤ canQ x y ∧ canQ x y ≤ 2 * b) := by
  constructor
  · unfold canP; split
    · omega
    · split <;> omega
  · unfold canQ; split
    · omega
    · split <;> omega

/-- What a pair under way has of a group. -/
def bsum (g : Int) : Option Bo → Int
  | none => 0
  | some b => if b.key.getD 2 0 = g then b.lo.s + b.hi.s else 0
def bn : Option Bo → Nat
  | none => 0
  | some b => b.lo.n + b.hi.n

theorem tell_ok {b : Bo} (h : BoOk b) (hn : b.lo.n + b.hi.n ≤ 25) : boOk b ∧ (∀ r ∈ boRows b, OutOk r) ∧ (∀ g, gsum (fO g) (boRows b) = bsum g (some b)) ∧ (boRows b).length ≤ b.lo.n + b.hi.n := by
  obtain ⟨key, lo, hi⟩ := b
  obtain ⟨le, lp, ls, ln⟩ := lo
  obtain ⟨he, hp, hs, hh⟩ := hi
  obtain ⟨⟨a1, a2, a3⟩, ⟨b1, b2, b3⟩, g1⟩ := h
  simp only at a1 a2 a3 b1 b2 b3 g1 hn
  have c1 := can_le ls hs (b := 28147497671065600) (by omega) (by omega)
  have c2 := can_sum ls hs
  have c3 := can_z ls hs
  unfold boOk boRows bsum
  simp only
  obtain ⟨P, hP⟩ : ∃ P, P = canP ls hs := ⟨_, rfl⟩
  obtain ⟨Q, hQ⟩ : ∃ Q, Q = canQ ls hs := ⟨_, rfl⟩
  rw [← hP, ← hQ] at c1 c2 c3 ⊢
  refine ⟨⟨by unfold fitsI; omega, by unfold fitsI; omega⟩, fun r hr => ?_, fun g => ?_, ?_⟩
  · rcases List.mem_append.1 hr with hr | hr
    · split at hr
      · rename_i h0
        rw [List.mem_singleton.1 hr]
        exact ⟨rfl, g1, a1 h0⟩
      · cases hr
    · split at hr
      · rename_i h0
        rw [List.mem_singleton.1 hr]
        exact ⟨rfl, g1, b1 h0⟩
      · cases hr
  · rw [gsum_append]
    have e : ∀ x y z, fO g [x, y, key.getD 2 0, z] = if key.getD 2 0 = g then z else 0 := fun _ _ _ => rfl
    by_cases h1 : 0 < ln <;> by_cases h2 : 0 < hh
    · rw [if_pos h1, if_pos h2]
      simp only [gsum, e]
      split <;> omega
    · rw [if_pos h1, if_neg h2]
      have h3 := b2 (by omega)
      have h4 := c3 (.inr h3)
      simp only [gsum, e]
      split <;> omega
    · rw [if_neg h1, if_pos h2]
      have h3 := a2 (by omega)
      have h4 := c3 (.inl h3)
      simp only [gsum, e]
      split <;> omega
    · rw [if_neg h1, if_neg h2]
      have h3 := a2 (by omega)
      have h4 := b2 (by omega)
      simp only [gsum]
      split <;> omega
  · rw [List.length_append]
    split <;> split <;> simp <;> omega

structure InvP (st : PSt) (rs : List (List Int)) : Prop where
  live : st.dead = false
  out : ∀ o ∈ st.out, ∃ r, o = some r ∧ OutOk r
  cur : ∀ b, st.cur = some b → BoOk b
  sum : ∀ g, osum (fO g) st.out + bsum g st.cur = gsum (fI g) rs
  lo : rs.countP aloneI ≤ st.out.length
  hi : st.out.length + bn st.cur ≤ rs.length

theorem tellO_some {b : Bo} (h : boOk b) : tellO (some b) = (boRows b).map some := by
  unfold tellO
  simp only
  exact if_pos h
/-- A pair is told. -/
theorem InvP.tell {st : PSt} {rs : List (List Int)} (h : InvP st rs) (hl : rs.length ≤ 25) : InvP (tellS st) rs := by
  have hi := h.hi
  cases hc : st.cur with
  | none =>
    have e : tellS st = ⟨st.out ++ [], none, false⟩ := by
      unfold tellS
      rw [hc]
      rfl
    rw [e, List.append_nil]
    have hs := h.sum
    rw [hc] at hs hi
    exact ⟨rfl, h.out, fun b hb => (by cases hb), hs, h.lo, hi⟩
  | some b =>
    have hs := h.sum
    rw [hc] at hs hi
    obtain ⟨h1, h2, h3, h4⟩ := tell_ok (h.cur b hc) (by simp only [bn] at hi; omega)
    have e : tellS st = ⟨st.out ++ (boRows b).map some, none, false⟩ := by
      unfold tellS
      rw [hc, tellO_some h1]
      have : decide (curOk (some b)) = true := decide_eq_true h1
      rw [this]
      rfl
    rw [e]
    refine ⟨rfl, fun o ho => ?_, fun b hb => (by cases hb), fun g => ?_, ?_, ?_⟩
    · rcases List.mem_append.1 ho with ho | ho
      · exact h.out o ho
      · obtain ⟨r, hr, rfl⟩ := List.mem_map.1 ho
        exact ⟨r, rfl, h2 r hr⟩
    · have := hs g
      show osum (fO g) (st.out ++ (boRows b).map some) + 0 = _
      rw [osum_append, osum_some, h3 g]
      omega
    · have := h.lo
      show _ ≤ (st.out ++ (boRows b).map some).length
      rw [List.length_append]
      omega
    · show (st.out ++ (boRows b).map some).length + 0 ≤ _
      rw [List.length_append, List.length_map]
      simp only [bn] at hi
      omega

theorem InvP.A {st : PSt} {rs : List (List Int)} (h : InvP st rs) (hl : rs.length ≤ 25) (r : List Int) : InvP (partA st r) rs ∧ ∀ b, (partA st r).cur = some b → b.key = keyL r := by
  unfold partA
  split
  · rename_i hc
    exact ⟨h, fun b hb => by rw [hc] at hb; cases hb⟩
  · rename_i b hc
    split
    · rename_i hk
      exact ⟨h, fun b' hb => by rw [hc] at hb; cases hb; exact hk⟩
    · exact ⟨h.tell hl, fun b' hb => by cases hb⟩

theorem keyL_2 (r : List Int) : (keyL r).getD 2 0 = r.getD 8 0 := by unfold keyL; split <;> rfl

theorem InvP.B {st : PSt} {rs : List (List Int)} (h : InvP st rs) (hl : rs.length ≤ 25) {r : List Int} (hr : LnOk r) (hk : ∀ b, st.cur = some b → b.key = keyL r) : InvP (partB st r) (rs ++ [r]) := by
  unfold partB
  have gs : ∀ g, gsum (fI g) (rs ++ [r]) = gsum (fI g) rs + fI g r := fun g => by rw [gsum_append]; simp [gsum]
  by_cases h5 : r.getD 5 0 = 0
  · rw [if_pos h5]
    have T := h.tell hl
    rw [if_neg (by rw [T.live]; exact Bool.noConfusion)]
    have hs := T.sum
    have hlo := T.lo
    have hhi := T.hi
    refine ⟨rfl, fun o ho => ?_, fun b hb => (by cases hb), fun g => ?_, ?_, ?_⟩
    · rcases List.mem_append.1 ho with ho | ho
      · exact T.out o ho
      · rw [List.mem_singleton.1 ho]
        exact ⟨_, rfl, rfl, hr.g, hr.e⟩
    · have := hs g
      have z : bsum g (tellS st).cur = 0 := rfl
      have e : fO g (aloneL r) = fI g r := rfl
      show osum (fO g) ((tellS st).out ++ [some (aloneL r)]) + 0 = _
      rw [osum_append, gs]
      simp only [osum, e]
      omega
    · show _ ≤ ((tellS st).out ++ [some (aloneL r)]).length
      rw [List.length_append, List.countP_append]
      have : [r].countP aloneI ≤ 1 := List.countP_le_length
      simp only [List.length_singleton]
      omega
    · show ((tellS st).out ++ [some (aloneL r)]).length + 0 ≤ _
      simp only [List.length_append, List.length_singleton]
      omega
  · rw [if_neg h5]
    have hs := h.sum
    have hlo := h.lo
    have hhi := h.hi
    have hB : BoOk (st.cur.getD ⟨keyL r, sd0, sd0⟩) ∧ (st.cur.getD ⟨keyL r, sd0, sd0⟩).key = keyL r ∧ (∀ g, bsum g (some (st.cur.getD ⟨keyL r, sd0, sd0⟩)) = bsum g st.cur) ∧ bn (some (st.cur.getD ⟨keyL r, sd0, sd0⟩)) = bn st.cur := by
      cases hc : st.cur with
      | none => exact ⟨⟨sd0_ok, sd0_ok, by rw [show (Option.getD none (⟨keyL r, sd0, sd0⟩ : Bo)).key = keyL r from rfl, keyL_2]; exact hr.g⟩, rfl, fun g => by simp [bsum, sd0], rfl⟩
      | some b => exact ⟨h.cur b hc, hk b hc, fun g => rfl, rfl⟩
    generalize st.cur.getD ⟨keyL r, sd0, sd0⟩ = b at hB
    obtain ⟨h1, h2, h3, h4⟩ := hB
    have e2 : b.key.getD 2 0 = r.getD 8 0 := by rw [h2, keyL_2]
    have e5 : aloneI r = false := by unfold aloneI; simpa using h5
    have hA : BoOk (addB b r) ∧ (∀ g, bsum g (some (addB b r)) = bsum g (some b) + fI g r) ∧ bn (some (addB b r)) = bn (some b) + 1 := by
      unfold addB
      split
      · refine ⟨⟨sdAdd_ok h1.lo hr, h1.hi, h1.g⟩, fun g => ?_, ?_⟩
        · simp only [bsum, sdAdd, fI, e2]
          split <;> omega
        · simp only [bn, sdAdd]; omega
      · refine ⟨⟨h1.lo, sdAdd_ok h1.hi hr, h1.g⟩, fun g => ?_, ?_⟩
        · simp only [bsum, sdAdd, fI, e2]
          split <;> omega
        · simp only [bn, sdAdd]; omega
    refine ⟨rfl, h.out, fun b' hb => by cases hb; exact hA.1, fun g => ?_, ?_, ?_⟩
    · have := hs g
      show osum (fO g) st.out + bsum g (some (addB b r)) = _
      rw [gs, hA.2.1 g, h3 g]
      omega
    · show _ ≤ st.out.length
      rw [List.countP_append, List.countP_cons, e5]
      simp only [List.countP_nil]
      simpa using hlo
    · show st.out.length + bn (some (addB b r)) ≤ _
      rw [hA.2.2, h4, List.length_append]
      simp only [List.length_singleton]
      omega

theorem inv_fold : ∀ (rs pre : List (List Int)) (st : PSt), InvP st pre → (∀ r ∈ rs, LnOk r) → pre.length + rs.length ≤ 25 → InvP (rs.foldl stepP st) (pre ++ rs)
  | [], pre, st, h, _, _ => by rw [List.append_nil]; exact h
  | r :: rs, pre, st, h, hr, hl => by
    simp only [List.length_cons] at hl
    have hA := h.A (by omega) r
    have hB := hA.1.B (by omega) (hr r List.mem_cons_self) hA.2
    have e : stepP st r = partB (partA st r) r := by
      unfold stepP
      rw [if_neg (by rw [h.live]; exact Bool.noConfusion), if_neg (by rw [hA.1.live]; exact Bool.noConfusion)]
    rw [List.foldl_cons, e, show pre ++ r :: rs = (pre ++ [r]) ++ rs by simp]
    exact inv_fold rs _ _ hB (fun x hx => hr x (List.mem_cons_of_mem _ hx)) (by simp only [List.length_append, List.length_singleton]; omega)

theorem all_some : ∀ (l : List ORow), (∀ o ∈ l, ∃ r, o = some r ∧ OutOk r) → ∃ os : List (List Int), l = os.map some ∧ ∀ r ∈ os, OutOk r
  | [], _ => ⟨[], rfl, fun r h => by cases h⟩
  | o :: l, h => by
    obtain ⟨r, rfl, hr⟩ := h o List.mem_cons_self
    obtain ⟨os, rfl, ho⟩ := all_some l fun x hx => h x (List.mem_cons_of_mem _ hx)
    exact ⟨r :: os, rfl, fun x hx => by
      rcases List.mem_cons.1 hx with rfl | hx
      · exact hr
      · exact ho x hx⟩

/-- What is left of lines at work. -/
theorem parts_sums {rs : List (List Int)} (h : ∀ r ∈ rs, LnOk r) (hl : rs.length ≤ 25) :
    ∃ os : List (List Int), partsO rs = os.map some ∧ (∀ r ∈ os, OutOk r) ∧ (∀ g, gsum (fO g) os = gsum (fI g) rs) ∧ rs.countP aloneI ≤ os.length ∧ os.length ≤ rs.length := by
  have h0 : InvP ⟨[], none, false⟩ [] := ⟨rfl, fun o ho => (by cases ho), fun b hb => (by cases hb), fun g => rfl, Nat.le_refl _, Nat.le_refl _⟩
  have I := (inv_fold rs [] _ h0 h (by simpa using hl)).tell (by simpa using hl)
  have L := inv_fold rs [] _ h0 h (by simpa using hl)
  have e : partsO rs = (tellS (stP rs)).out := by
    unfold partsO finP
    rw [if_neg (by rw [show (stP rs).dead = false from L.live]; exact Bool.noConfusion)]
    rfl
  rw [List.nil_append] at I
  obtain ⟨os, ho, hk⟩ := all_some _ I.out
  have hs := I.sum
  have hlo := I.lo
  have hhi := I.hi
  rw [ho] at hs hlo hhi
  refine ⟨os, e.trans ho, hk, fun g => ?_, by simpa using hlo, ?_⟩
  · have := hs g
    rw [osum_some] at this
    have z : bsum g (tellS (rs.foldl stepP ⟨[], none, false⟩)).cur = 0 := rfl
    omega
  · rw [List.length_map] at hhi
    omega


/-! ### PairQ -/

theorem seven (z : List Int) (h : z.length = 7) : ∃ e p a b d n w, z = [e, p, a, b, d, n, w] := by
  match z, h with
  | [e, p, a, b, d, n, w], _ => exact ⟨e, p, a, b, d, n, w, rfl⟩

theorem two_puts (P : Mem → Prop) (m : Mem) (b : Nat) (tg : Bool) (xs ys : List Value) (hb : b < m.size) (h : ∀ m', m'.get b = some (.cells false tg ys) → (∀ i, i ≠ b → m'.get i = m.get i) → m'.size = m.size → P m') :
    P ((m.put b (some (.cells false tg xs))).put b (some (.cells false tg ys))) :=
  h _ (by rw [getM_put, if_pos ⟨rfl, by simpa using hb⟩]) (fun i hi => by rw [getM_put, if_neg (fun e => hi e.1), getM_put, if_neg (fun e => hi e.1)]) (by simp)

/-- Four sums. -/
def arrC (s : Nat → Int) : List Value := [wHi (s 0), wLo (s 0), wHi (s 1), wLo (s 1), wHi (s 2), wLo (s 2), wHi (s 3), wLo (s 3)]
def addS (s : Nat → Int) (g : Nat) (n : Int) : Nat → Int := fun i => if i = g then s i + n else s i
section
variable {m : Mem} {b : Nat} {tg : Bool}
theorem arr_rows {s : Nat → Int} (h : m.get b = some (.cells false tg (arrC s))) {g : Nat} (hg : g < 4) : m.rows b (g * 2) 2 = some [wHi (s g), wLo (s g)] := by
  unfold Mem.rows
  rw [h]
  have : g = 0 ∨ g = 1 ∨ g = 2 ∨ g = 3 := by omega
  rcases this with rfl | rfl | rfl | rfl <;> rfl
set_option maxRecDepth 100000 in
theorem SumWideA {s : Nat → Int} {g : Nat} (hgt : m.get b = some (.cells false tg (arrC s))) (hg : g < 4) : CallQ E F_money_Sum_Wide [.pointer (some ⟨b, g * 2, none⟩)].toArray m fun w m' => w = W (s g) ∧ Old m m' := by
  refine .enter fn_money_Sum_Wide (by simp) ?_
  have hr := arr_rows hgt hg
  have hl := getM_lt hgt
  have hne : ¬ b = m.size := by omega
  simp only [wHi, wLo] at hr
  simp (decide := true) (implicitDefEqProofs := false) (maxDischargeDepth := 20) only [go_sem, ↓reduceIte, nilOk, hr, hl, hne, W]

theorem rowsA1 {v0 v1 v2 v3 v4 v5 v6 v7 : Value} (h : m.get b = some (.cells false tg [v0, v1, v2, v3, v4, v5, v6, v7])) : m.rows b 2 2 = some [v2, v3] := by
  unfold Mem.rows; rw [h]; rfl
set_option maxRecDepth 100000 in
set_option maxHeartbeats 4000000 in
theorem SumAddA1 {v0 v1 v4 v5 v6 v7 : Value} {x n : Int} (hg : m.get b = some (.cells false tg [v0, v1, wHi x, wLo x, v4, v5, v6, v7])) (hn : -9223372036854775808 ≤ n) (hn' : n < 9223372036854775808) {K : Value → Mem → Prop}
    (hK : ∀ m', Upd m m' b → m'.get b = some (.cells false tg [v0, v1, wHi (x + n), wLo (x + n), v4, v5, v6, v7]) → K (.tuple #[]) m') :
    CallQ E F_money_Sum_Add [.pointer (some ⟨b, 2, none⟩), .int .i64 n].toArray m K := by
  refine .enter fn_money_Sum_Add (by simp) ?_
  have hl := getM_lt hg
  have hr := rowsA1 hg
  have o1 := Of_W n hn hn'
  have a1 := Add_ans x n
  simp only [W] at o1 a1
  simp only [wHi, wLo] at hr hg
  simp (decide := true) (implicitDefEqProofs := false) (maxDischargeDepth := 20) only [go_sem, ↓reduceIte, nilOk, hr, hg, hl, o1.eq, a1.eq]
  exact hK _ (Upd.put (by simp (decide := true) (maxDischargeDepth := 20) only [go_sem]) _ _) (by simp (decide := true) (maxDischargeDepth := 20) only [go_sem, hl]; rfl)

theorem rowsA2 {v0 v1 v2 v3 v4 v5 v6 v7 : Value} (h : m.get b = some (.cells false tg [v0, v1, v2, v3, v4, v5, v6, v7])) : m.rows b 4 2 = some [v4, v5] := by
  unfold Mem.rows; rw [h]; rfl
set_option maxRecDepth 100000 in
set_option maxHeartbeats 4000000 in
theorem SumAddA2 {v0 v1 v2 v3 v6 v7 : Value} {x n : Int} (hg : m.get b = some (.cells false tg [v0, v1, v2, v3, wHi x, wLo x, v6, v7])) (hn : -9223372036854775808 ≤ n) (hn' : n < 9223372036854775808) {K : Value → Mem → Prop}
    (hK : ∀ m', Upd m m' b → m'.get b = some (.cells false tg [v0, v1, v2, v3, wHi (x + n), wLo (x + n), v6, v7]) → K (.tuple #[]) m') :
    CallQ E F_money_Sum_Add [.pointer (some ⟨b, 4, none⟩), .int .i64 n].toArray m K := by
  refine .enter fn_money_Sum_Add (by simp) ?_
  have hl := getM_lt hg
  have hr := rowsA2 hg
  have o1 := Of_W n hn hn'
  have a1 := Add_ans x n
  simp only [W] at o1 a1
  simp only [wHi, wLo] at hr hg
  simp (decide := true) (implicitDefEqProofs := false) (maxDischargeDepth := 20) only [go_sem, ↓reduceIte, nilOk, hr, hg, hl, o1.eq, a1.eq]
  exact hK _ (Upd.put (by simp (decide := true) (maxDischargeDepth := 20) only [go_sem]) _ _) (by simp (decide := true) (maxDischargeDepth := 20) only [go_sem, hl]; rfl)

theorem rowsA3 {v0 v1 v2 v3 v4 v5 v6 v7 : Value} (h : m.get b = some (.cells false tg [v0, v1, v2, v3, v4, v5, v6, v7])) : m.rows b 6 2 = some [v6, v7] := by
  unfold Mem.rows; rw [h]; rfl
set_option maxRecDepth 100000 in
set_option maxHeartbeats 4000000 in
theorem SumAddA3 {v0 v1 v2 v3 v4 v5 : Value} {x n : Int} (hg : m.get b = some (.cells false tg [v0, v1, v2, v3, v4, v5, wHi x, wLo x])) (hn : -9223372036854775808 ≤ n) (hn' : n < 9223372036854775808) {K : Value → Mem → Prop}
    (hK : ∀ m', Upd m m' b → m'.get b = some (.cells false tg [v0, v1, v2, v3, v4, v5, wHi (x + n), wLo (x + n)]) → K (.tuple #[]) m') :
    CallQ E F_money_Sum_Add [.pointer (some ⟨b, 6, none⟩), .int .i64 n].toArray m K := by
  refine .enter fn_money_Sum_Add (by simp) ?_
  have hl := getM_lt hg
  have hr := rowsA3 hg
  have o1 := Of_W n hn hn'
  have a1 := Add_ans x n
  simp only [W] at o1 a1
  simp only [wHi, wLo] at hr hg
  simp (decide := true) (implicitDefEqProofs := false) (maxDischargeDepth := 20) only [go_sem, ↓reduceIte, nilOk, hr, hg, hl, o1.eq, a1.eq]
  exact hK _ (Upd.put (by simp (decide := true) (maxDischargeDepth := 20) only [go_sem]) _ _) (by simp (decide := true) (maxDischargeDepth := 20) only [go_sem, hl]; rfl)

theorem SumAddA {s : Nat → Int} {g : Nat} {n : Int} (hgt : m.get b = some (.cells false tg (arrC s))) (hg : 1 ≤ g ∧ g ≤ 3) (hn : -9223372036854775808 ≤ n) (hn' : n < 9223372036854775808) {K : Value → Mem → Prop}
    (hK : ∀ m', Upd m m' b → m'.get b = some (.cells false tg (arrC (addS s g n))) → K (.tuple #[]) m') :
    CallQ E F_money_Sum_Add [.pointer (some ⟨b, g * 2, none⟩), .int .i64 n].toArray m K := by
  have : g = 1 ∨ g = 2 ∨ g = 3 := by omega
  rcases this with rfl | rfl | rfl
  · exact SumAddA1 hgt hn hn' hK
  · exact SumAddA2 hgt hn hn' hK
  · exact SumAddA3 hgt hn hn' hK
end

theorem line_ok (e p a n : Int) (he : 1 ≤ e ∧ e ≤ 4) (ha : 1 ≤ a ∧ a ≤ 3) (hn : -1125899906842624 ≤ n ∧ n ≤ 1125899906842624) : LnOk (lineL e p a n) := ⟨rfl, ha, hn⟩

set_option maxRecDepth 100000 in
set_option maxHeartbeats 4000000 in
theorem line3_at {m : Mem} (e p a b d n w : Int) (he : -9223372036854775808 ≤ e ∧ e < 9223372036854775808) (hp : -9223372036854775808 ≤ p ∧ p < 9223372036854775808) (ha : -9223372036854775808 ≤ a ∧ a < 9223372036854775808) :
    CallQ E F_sheaflaw18_line #[.agg #[.int .i64 e, .int .i64 p, .int .i64 a, .int .i64 b, .int .i64 d, .int .i64 n, .int .i64 w]] m fun v m' => ∃ b e1 p1 a1, v = .slice (some ⟨b, 0, none⟩) 10 10 ∧ m.size ≤ b ∧ m'.get b = some (.cells false true ((lineL e1 p1 a1 n).map (.int .i64))) ∧ (1 ≤ e1 ∧ e1 ≤ 4 ∧ 0 ≤ p1 ∧ p1 ≤ 4 ∧ p1 ≠ e1 ∧ 1 ≤ a1 ∧ a1 ≤ 3) ∧ Old m m' := by
  have k1 := Within_ans e 1 4 he.1 he.2 (by decide) (by decide) (by decide) (by decide)
  have k2 := Within_ans p 0 4 hp.1 hp.2 (by decide) (by decide) (by decide) (by decide)
  have k3 := Within_ans a 1 3 ha.1 ha.2 (by decide) (by decide) (by decide) (by decide)
  refine CallQ.enter (args := [.agg #[.int .i64 e, .int .i64 p, .int .i64 a, .int .i64 b, .int .i64 d, .int .i64 n, .int .i64 w]]) fn_sheaflaw18_line (by simp) ?_
  obtain ⟨E1, hE⟩ : ∃ x, x = 1 + e % (4 - 1 + 1) := ⟨_, rfl⟩
  obtain ⟨P1, hP⟩ : ∃ x, x = 0 + p % (4 - 0 + 1) := ⟨_, rfl⟩
  obtain ⟨A1, hA⟩ : ∃ x, x = 1 + a % (3 - 1 + 1) := ⟨_, rfl⟩
  rw [← hE] at k1
  rw [← hP] at k2
  rw [← hA] at k3
  have w1 : IntKind.wrap .i64 (1000 * E1) = 1000 * E1 := wrap_i64_id _ (by omega) (by omega)
  by_cases h : P1 = E1
  · have d1 : (P1 == E1) = true := by simpa using h
    simp (decide := true) (implicitDefEqProofs := false) (maxDischargeDepth := 20) only [go_sem, k1.eq, k2.eq, k3.eq, d1, w1, ↓reduceIte, true_implies, false_implies]
    refine ⟨_, E1, 0, A1, rfl, ?_, ?_, ?_⟩
    · exact (Old.ansM (.ansM (.ansM (.push (.refl m) _)))).size
    · rw [if_pos rfl]; rfl
    · omega
  · have d1 : (P1 == E1) = false := by simpa using h
    simp (decide := true) (implicitDefEqProofs := false) (maxDischargeDepth := 20) only [go_sem, k1.eq, k2.eq, k3.eq, d1, w1, ↓reduceIte, true_implies, false_implies]
    refine ⟨_, E1, P1, A1, rfl, ?_, ?_, ?_⟩
    · exact (Old.ansM (.ansM (.ansM (.push (.refl m) _)))).size
    · rw [if_pos rfl]; rfl
    · omega


/-! ### PairR -/

theorem one_box (P : Mem → Prop) (m : Mem) (x w : List Value) (h : ∀ m1, m1.get m.size = some (.cells false true w) → Old m m1 → m1.size = m.size + 1 → P m1) :
    P ((m.push (.cells false true x)).put m.size (some (.cells false true w))) :=
  h _ (by rw [getM_put, if_pos ⟨rfl, by rw [size_push]; omega⟩]) (.put (.push (.refl m) _) _ _ (Nat.le_refl _)) (by rw [size_put, size_push])

/-- Lines at work, and the sums of their groups. -/
structure LnJ (m0 m : Mem) (wb : Nat) (a : Option Addr) (es : List HRow) : Prop where
  vec : Vec m0.size m 1 a es.length (es.map HRow.v)
  row : ∀ e ∈ es, e.At m
  n10 : ∀ e ∈ es, e.n = 10
  ok : ∀ e ∈ es, LnOk e.xs
  blk : ∀ e ∈ es, ∃ b, e.ad = some ⟨b, 0, none⟩ ∧ m0.size ≤ b ∧ b < m.size ∧ ∀ y, a = some y → b ≠ y.block
  was : m.get wb = some (.cells false true (arrC fun g => gsum (fI (g : Int)) (es.map HRow.xs)))
  size : m0.size ≤ m.size
  keep : ∀ i, i < m0.size → i ≠ wb → m.get i = m0.get i

set_option maxRecDepth 100000 in
set_option maxHeartbeats 8000000 in
theorem PairSums_lines {m0 : Mem} {t : Fr} {a0 : Option Addr} {l0 c0 wb : Nat} {zs : List (List Int)} (hs : SlA m0 7 a0 l0 c0 ((zs.map fun z => z.map (.int .i64)).flatten)) (hl : zs.length = l0) (hz : ∀ z ∈ zs, z.length = 7 ∧ ∀ x ∈ z, -9223372036854775808 ≤ x ∧ x < 9223372036854775808)
    (hab : ∀ b, a0 = some b → zs ≠ [] → b.block ≠ wb) (gW : m0.get wb = some (.cells false true (arrC fun _ => 0)))
    (t0 : t 0 = .slice a0 l0 c0) (t3 : t 3 = .slice none 0 0) (t4 : t 4 = ptr wb) (t6 : t 6 = vI 0) (t7 : t 7 = vI 0) {K : Post3}
    (hK : ∀ t' m' a es, Agree (writes c_sheaflaw18_PairSums_13) t t' → es.length ≤ 25 → t' 3 = .slice a es.length es.length → t' 6 = vI (((es.map HRow.xs).countP aloneI : Nat) : Int) → LnJ m0 m' wb a es → K .normal t' m') :
    wpM E F_sheaflaw18_PairSums 125 none c_sheaflaw18_PairSums_13 K t m0 := by
  refine wpM_cut (fun t' m' => ∃ a es, es.length ≤ 25 ∧ t' 3 = .slice a es.length es.length ∧ t' 6 = vI (((es.map HRow.xs).countP aloneI : Nat) : Int) ∧ LnJ m0 m' wb a es) ?_ fun t' m' ha ⟨a, es, h1, h2, h3, h4⟩ => hK t' m' a es ha h1 h2 h3 h4
  simp only [c_sheaflaw18_PairSums_13_at, wpM_block, c_sheaflaw18_PairSums_12_at]
  have lw := getM_lt gW
  refine wpM_loopA (fun j t' m' => ∃ k a es, k ≤ min l0 25 ∧ j = min l0 25 - k ∧ es.length = k ∧ t' 7 = vI (k : Nat) ∧ t' 3 = .slice a es.length es.length ∧ t' 6 = vI (((es.map HRow.xs).countP aloneI : Nat) : Int) ∧ LnJ m0 m' wb a es) (min l0 25)
    ⟨0, none, [], by omega, rfl, rfl, t7, t3, t6, ⟨.nil _ _ _, fun e h => by simp at h, fun e h => by simp at h, fun e h => by simp at h, fun e h => by simp at h, gW, Nat.le_refl _, fun _ _ _ => rfl⟩⟩ ?_
  rintro j t' m' ha ⟨k, a, es, hk, rfl, hel, e7, e3, e6, H⟩
  have e0 := (ha 0 (by decide +kernel)).trans t0
  have e4 := (ha 4 (by decide +kernel)).trans t4
  have hcl : (es.map HRow.xs).countP aloneI ≤ 25 := by
    have : (es.map HRow.xs).countP aloneI ≤ (es.map HRow.xs).length := List.countP_le_length
    rw [List.length_map] at this
    omega
  obtain ⟨al, hal⟩ : ∃ al, al = (es.map HRow.xs).countP aloneI := ⟨_, rfl⟩
  rw [← hal] at e6 hcl
  by_cases hlt : k < min l0 25
  · have d1 : decide ((k : Int) < (l0 : Int)) = true := by simp; omega
    have d2 : decide ((k : Int) < 25) = true := by simp; omega
    have w1 : IntKind.wrap .i64 ((k : Int) + 1) = ((k + 1 : Nat) : Int) := by rw [wrap_i64_id _ (by omega) (by omega)]; omega
    have w2 : IntKind.wrap .i64 ((al : Int) + 1) = ((al + 1 : Nat) : Int) := by rw [wrap_i64_id _ (by omega) (by omega)]; omega
    have z0 : (0 : Int) ≤ (k : Int) := by omega
    have z1 : (k : Int) < (l0 : Int) := by omega
    have hzne : zs ≠ [] := fun h => by rw [h] at hl; simp at hl; omega
    have hS : SlA m' 7 a0 l0 c0 ((zs.map fun z => z.map (.int .i64)).flatten) := hs.keep fun x hx hne => H.keep _ ((hs.rows x hx hne).lt) (hab x hx hzne)
    obtain ⟨ab, ao, asp, rfl⟩ := hS.addr (by omega)
    have hrow := hS.srow (fun z hz' => (hz z hz').1) (by omega) (show k < zs.length by omega)
    have hzk := hz (zs[k]'(by omega)) (List.getElem_mem _)
    generalize zs[k]'(by omega) = z at hrow hzk
    obtain ⟨e, p, a1, b1, d, n, w, rfl⟩ := seven z hzk.1
    have hb := hzk.2
    simp only [List.map_cons, List.map_nil] at hrow
    have he := hb e (by simp)
    have hp := hb p (by simp)
    have ha1 := hb a1 (by simp)
    have hn := hb n (by simp)
    simp (decide := true) (implicitDefEqProofs := false) (maxDischargeDepth := 20) only [go_sem, e0, e3, e4, e6, e7, d1, d2, z0, z1, hrow, ↓reduceIte, Int.toNat_natCast, true_implies, false_implies]
    refine one_box (fun mm => CallQ E _ _ mm _) m' _ _ fun m1 g1 o1 s1 => ?_
    obtain ⟨qb, hqb⟩ : ∃ b, b = m'.size := ⟨_, rfl⟩
    rw [← hqb] at g1 ⊢
    refine ((Within_ans n (-1125899906842624) 1125899906842624 hn.1 hn.2 (by decide) (by decide) (by decide) (by decide)) m1).mono ?_
    rintro v m2 ⟨rfl, o2⟩
    obtain ⟨N, hN⟩ : ∃ N, N = -1125899906842624 + n % (1125899906842624 - -1125899906842624 + 1) := ⟨_, rfl⟩
    have hNb : -1125899906842624 ≤ N ∧ N ≤ 1125899906842624 := by
      rw [show (1125899906842624 - -1125899906842624 + 1 : Int) = 2251799813685249 from rfl] at hN
      omega
    rw [← hN]
    clear hN
    have g2 := (o2.get (getM_lt g1)).trans g1
    have l2 := getM_lt g2
    have s2 := o2.size
    simp (decide := true) (implicitDefEqProofs := false) (maxDischargeDepth := 20) only [go_sem, g2, l2, ↓reduceIte, true_implies, false_implies]
    obtain ⟨m3, hm3⟩ : ∃ m3, m3 = m2.put qb (some (.cells false true [.int .i64 e, .int .i64 p, .int .i64 a1, .int .i64 b1, .int .i64 d, .int .i64 N, .int .i64 w])) := ⟨_, rfl⟩
    have o3 : Old m' m3 := by rw [hm3]; exact .put (o1.trans o2) _ _ (by omega)
    have s3 := o3.size
    rw [← hm3]
    clear hm3
    refine (line3_at e p a1 b1 d N w he hp ha1).mono ?_
    rintro v m4 ⟨rb, e1, p1, A, rfl, hrb, g4, hf, o4⟩
    have o04 := o3.trans o4
    obtain ⟨g, rfl⟩ : ∃ g : Nat, (g : Int) = A := ⟨A.toNat, by omega⟩
    have V := H.vec.old o04
    have lrb := getM_lt g4
    have s04 := o04.size
    simp (decide := true) (implicitDefEqProofs := false) (maxDischargeDepth := 20) only [go_sem, e3, ↓reduceIte, true_implies, false_implies]
    have szH := H.size
    refine V.appendQ rfl (by omega) rfl (by decide) (by decide +kernel) (by decide +kernel) rfl (by omega) fun m5 b5 s5 v5 k5 hb5 => ?_
    have g5 : ∀ i, i < m4.size → (∀ x, a = some x → i ≠ x.block) → m5.get i = m4.get i := fun i hi hne => k5.2 i hi hne
    have hax : ∀ x, a = some x → m0.size ≤ x.block ∧ x.block < m'.size := fun x hx => ⟨(H.vec.blk x hx).1, H.vec.lt hx⟩
    have gr5 := (g5 rb lrb fun x hx e => by have := hax x hx; omega).trans g4
    have r8 : m5.at rb (Int.toNat 8) = some (.int .i64 (g : Int)) := by unfold Mem.at; rw [gr5]; rfl
    have r9 : m5.at rb (Int.toNat 9) = some (.int .i64 N) := by unfold Mem.at; rw [gr5]; rfl
    have gz : (0 : Int) ≤ (g : Int) ∧ (g : Int) < 4 := by omega
    simp (decide := true) (implicitDefEqProofs := false) (maxDischargeDepth := 20) only [go_sem, e4, e3, r8, r9, gz.1, gz.2, Int.toNat_natCast, ↓reduceIte, true_implies, false_implies]
    refine ⟨by omega, ?_⟩
    have hwb : wb < m'.size := by omega
    have gw5 := (g5 wb (by omega) fun x hx e => by have := hax x hx; omega).trans ((o04.get hwb).trans H.was)
    refine SumAddA gw5 (by omega) (by omega) (by omega) fun m6 u6 gw6 => ?_
    have s5' := k5.1
    have s6 := u6.size
    have l5 : b5 < m5.size := v5.lt rfl
    have g6 : ∀ i, i < m'.size → i ≠ wb → (∀ x, a = some x → i ≠ x.block) → m6.get i = m'.get i := fun i hi h1 h2 => by rw [u6.get i (by omega) h1, g5 i (by omega) h2, o04.get hi]
    have gr6 := (u6.get rb (by omega) (by omega)).trans gr5
    have r5 : m6.at rb (Int.toNat 5) = some (.int .i64 p1) := by unfold Mem.at; rw [gr6]; rfl
    have v6 := v5.keep fun x hx => by
      cases hx
      exact u6.get b5 l5 (by omega)
    obtain ⟨row, hrow'⟩ : ∃ r, r = lineL e1 p1 (g : Int) N := ⟨_, rfl⟩
    have rok : LnOk row := by rw [hrow']; exact line_ok _ _ _ _ (by omega) (by omega) (by omega)
    have rat : (⟨some ⟨rb, 0, none⟩, 10, 10, row⟩ : HRow).At m6 := by
      rw [hrow']
      refine ⟨.new gr6 rfl rfl, rfl, fun x hx => ?_⟩
      simp only [lineL, List.mem_cons, List.not_mem_nil, or_false] at hx
      omega
    have eS : (addS (fun g => gsum (fI (g : Int)) (es.map HRow.xs)) g N) = fun i : Nat => gsum (fI (i : Int)) ((es ++ [(⟨some ⟨rb, 0, none⟩, 10, 10, row⟩ : HRow)]).map HRow.xs) := by
      funext i
      have e2 : fI (i : Int) row = if (g : Int) = (i : Int) then N else 0 := by rw [hrow']; rfl
      simp only [addS, List.map_append, List.map_cons, List.map_nil, gsum_append, gsum, e2]
      by_cases h : i = g
      · subst h; simp
      · rw [if_neg h, if_neg (by omega)]; omega
    have LJ : LnJ m0 m6 wb (some ⟨b5, 0, s5⟩) (es ++ [⟨some ⟨rb, 0, none⟩, 10, 10, row⟩]) := by
      refine ⟨by rw [List.length_append, List.map_append]; exact v6, fun x hx => ?_, fun x hx => ?_, fun x hx => ?_, fun x hx => ?_, by rw [← eS]; exact gw6, by omega, fun i hi hne => ?_⟩
      · rcases List.mem_append.1 hx with hx | hx
        · obtain ⟨b, hb1, hb2, hb3, hb4⟩ := H.blk x hx
          exact (H.row x hx).keep fun y hy _ => by
            rw [hb1] at hy; cases hy
            exact g6 b hb3 (by omega) hb4
        · rw [List.mem_singleton.1 hx]; exact rat
      · rcases List.mem_append.1 hx with hx | hx
        · exact H.n10 x hx
        · rw [List.mem_singleton.1 hx]
      · rcases List.mem_append.1 hx with hx | hx
        · exact H.ok x hx
        · rw [List.mem_singleton.1 hx]; exact rok
      · rcases List.mem_append.1 hx with hx | hx
        · obtain ⟨b, hb1, hb2, hb3, hb4⟩ := H.blk x hx
          exact ⟨b, hb1, hb2, by omega, fun y hy => by cases hy; show b ≠ b5; omega⟩
        · rw [List.mem_singleton.1 hx]
          exact ⟨rb, rfl, by omega, by omega, fun y hy => by cases hy; show rb ≠ b5; omega⟩
      · rw [g6 i (by omega) hne fun x hx e => by have := hax x hx; omega, H.keep i hi hne]
    have eC : ((es ++ [(⟨some ⟨rb, 0, none⟩, 10, 10, row⟩ : HRow)]).map HRow.xs).countP aloneI = al + if p1 = 0 then 1 else 0 := by
      have e2 : aloneI row = (p1 == 0) := by rw [hrow']; rfl
      rw [List.map_append, List.countP_append, ← hal]
      simp only [List.map_cons, List.map_nil, List.countP_cons, List.countP_nil, e2]
      simp
    have eL : (es ++ [(⟨some ⟨rb, 0, none⟩, 10, 10, row⟩ : HRow)]).length = es.length + 1 := by simp
    by_cases hp1 : p1 = 0
    · have d3 : (p1 == 0) = true := by simpa using hp1
      rw [if_pos hp1] at eC
      simp (decide := true) (implicitDefEqProofs := false) (maxDischargeDepth := 20) only [go_sem, e4, e3, e6, e7, r5, d3, w1, w2, Int.toNat_natCast, ↓reduceIte, true_implies, false_implies]
      exact ⟨_, by omega, k + 1, some ⟨b5, 0, s5⟩, es ++ [⟨some ⟨rb, 0, none⟩, 10, 10, row⟩], by omega, rfl, by omega, rfl, by rw [eL], by rw [eC], LJ⟩
    · have d3 : (p1 == 0) = false := by simpa using hp1
      rw [if_neg hp1] at eC
      simp (decide := true) (implicitDefEqProofs := false) (maxDischargeDepth := 20) only [go_sem, e4, e3, e6, e7, r5, d3, w1, w2, Int.toNat_natCast, ↓reduceIte, true_implies, false_implies]
      exact ⟨_, by omega, k + 1, some ⟨b5, 0, s5⟩, es ++ [⟨some ⟨rb, 0, none⟩, 10, 10, row⟩], by omega, rfl, by omega, rfl, by rw [eL], by rw [eC]; rfl, LJ⟩
  · rw [hal] at e6
    by_cases h1 : k < l0
    · have d1 : decide ((k : Int) < (l0 : Int)) = true := by simp; omega
      have d2 : decide ((k : Int) < 25) = false := by simp; omega
      simp (decide := true) (implicitDefEqProofs := false) (maxDischargeDepth := 20) only [go_sem, e0, e7, d1, d2, ↓reduceIte, true_implies, false_implies]
      exact ⟨a, es, by omega, e3, e6, H⟩
    · have d1 : decide ((k : Int) < (l0 : Int)) = false := by simp; omega
      simp (decide := true) (implicitDefEqProofs := false) (maxDischargeDepth := 20) only [go_sem, e0, e7, d1, ↓reduceIte, true_implies, false_implies]
      exact ⟨a, es, by omega, e3, e6, H⟩


/-! ### PairS -/

theorem arr_at {m : Mem} {b : Nat} {tg : Bool} {s : Nat → Int} (h : m.get b = some (.cells false tg (arrC s))) {j : Nat} {v : Value} (ha : m.at b j = some v) : j % 2 = 0 ∧ (∃ x, v = wHi x) ∨ j % 2 = 1 ∧ ∃ x, v = wLo x := by
  unfold Mem.at at ha
  rw [h] at ha
  replace ha : (arrC s)[j]? = some v := ha
  have hj : j < 8 := (List.getElem?_eq_some_iff.1 ha).1
  have : j = 0 ∨ j = 1 ∨ j = 2 ∨ j = 3 ∨ j = 4 ∨ j = 5 ∨ j = 6 ∨ j = 7 := by omega
  rcases this with rfl | rfl | rfl | rfl | rfl | rfl | rfl | rfl
  · exact .inl ⟨rfl, _, (Option.some.inj ha).symm⟩
  · exact .inr ⟨rfl, _, (Option.some.inj ha).symm⟩
  · exact .inl ⟨rfl, _, (Option.some.inj ha).symm⟩
  · exact .inr ⟨rfl, _, (Option.some.inj ha).symm⟩
  · exact .inl ⟨rfl, _, (Option.some.inj ha).symm⟩
  · exact .inr ⟨rfl, _, (Option.some.inj ha).symm⟩
  · exact .inl ⟨rfl, _, (Option.some.inj ha).symm⟩
  · exact .inr ⟨rfl, _, (Option.some.inj ha).symm⟩
/-- A row doesn't lie in an array of sums. -/
theorem arr_row {m : Mem} {b : Nat} {tg : Bool} {s : Nat → Int} (h : m.get b = some (.cells false tg (arrC s))) {a : Option Addr} {n c : Nat} {xs : List Int} (hs : SlA m 1 a n c (xs.map (.int .i64))) (hn : 2 ≤ n) {x : Addr} (hx : a = some x) : x.block ≠ b := by
  intro e
  obtain ⟨xb, xo, xsp⟩ := x
  subst hx
  simp only at e
  subst e
  have h0 := arr_at h (hs.at_map (show 0 < n by omega))
  have h1 := arr_at h (hs.at_map (show 1 < n by omega))
  rcases h0 with ⟨p0, _⟩ | ⟨_, x, h0⟩
  · rcases h1 with ⟨p1, _⟩ | ⟨_, x, h1⟩
    · omega
    · cases h1
  · cases h0
theorem arr_rows' {m : Mem} {b : Nat} {tg : Bool} {s : Nat → Int} (h : m.get b = some (.cells false tg (arrC s))) {a : Option Addr} {n c : Nat} {rs : List HRow} (hs : SlA m 1 a n c (rs.map HRow.v)) (hn : 0 < n) {x : Addr} (hx : a = some x) : x.block ≠ b := by
  intro e
  obtain ⟨xb, xo, xsp⟩ := x
  subst hx
  simp only at e
  subst e
  rcases arr_at h (hs.at_map hn) with ⟨_, x, h0⟩ | ⟨_, x, h0⟩ <;> cases h0

set_option maxRecDepth 100000 in
set_option maxHeartbeats 8000000 in
theorem PairSums_is {m0 : Mem} {t : Fr} {a : Option Addr} {n c ib : Nat} {rs : List HRow} (hs : SlA m0 1 a n c (rs.map HRow.v)) (hr : ∀ r ∈ rs, r.At m0) (ok : ∀ r ∈ rs, OutOk r.xs) (hn : n ≤ 1000) (gI : m0.get ib = some (.cells false true (arrC fun _ => 0)))
    (t73 : t 73 = .slice a n c) (t74 : t 74 = vI (n : Nat)) (t75 : t 75 = vI 0) (t5 : t 5 = ptr ib) {K : Post3}
    (hK : ∀ t' m', Agree (writes c_sheaflaw18_PairSums_29) t t' → m'.get ib = some (.cells false true (arrC fun g => gsum (fO (g : Int)) (rs.map HRow.xs))) → m0.size ≤ m'.size → (∀ i, i < m0.size → i ≠ ib → m'.get i = m0.get i) → K .normal t' m') :
    wpM E F_sheaflaw18_PairSums 125 none c_sheaflaw18_PairSums_29 K t m0 := by
  refine wpM_cut (fun t' m' => m'.get ib = some (.cells false true (arrC fun g => gsum (fO (g : Int)) (rs.map HRow.xs))) ∧ m0.size ≤ m'.size ∧ (∀ i, i < m0.size → i ≠ ib → m'.get i = m0.get i)) ?_ fun t' m' ha ⟨h1, h2, h3⟩ => hK t' m' ha h1 h2 h3
  have hl : rs.length = n := by have := hs.len; simpa using this
  have li := getM_lt gI
  have r4 : ∀ r ∈ rs, r.n = 4 := fun r hr' => by rw [← (hr r hr').len]; exact (ok r hr').len
  have na : ∀ x, a = some x → 0 < n → x.block ≠ ib := fun x hx h0 => arr_rows' gI hs h0 hx
  have nr : ∀ r ∈ rs, ∀ x, r.ad = some x → x.block ≠ ib := fun r hr' x hx => arr_row gI (hr r hr').sl (by rw [r4 r hr']; omega) hx
  simp only [c_sheaflaw18_PairSums_29_at, wpM_block, c_sheaflaw18_PairSums_28_at]
  refine wpM_loopA (fun j t' m' => ∃ k, k ≤ n ∧ j = n - k ∧ t' 75 = vI (k : Nat) ∧ m'.get ib = some (.cells false true (arrC fun g => gsum (fO (g : Int)) ((rs.take k).map HRow.xs))) ∧ m0.size ≤ m'.size ∧ (∀ i, i < m0.size → i ≠ ib → m'.get i = m0.get i)) n
    ⟨0, by omega, rfl, t75, gI, Nat.le_refl _, fun _ _ _ => rfl⟩ ?_
  rintro j t' m' ha ⟨k, hk, rfl, e75, G, sz, kp⟩
  have e73 := (ha 73 (by decide +kernel)).trans t73
  have e74 := (ha 74 (by decide +kernel)).trans t74
  have e5 := (ha 5 (by decide +kernel)).trans t5
  by_cases hlt : k < n
  · have d1 : decide ((k : Int) < (n : Int)) = true := by simp; omega
    have w1 : IntKind.wrap .i64 ((k : Int) + 1) = ((k + 1 : Nat) : Int) := by rw [wrap_i64_id _ (by omega) (by omega)]; omega
    have z0 : (0 : Int) ≤ (k : Int) := by omega
    have z1 : (k : Int) < (n : Int) := by omega
    have hS := hs.keep fun x hx hne => kp _ ((hs.rows x hx hne).lt) (na x hx (by omega))
    obtain ⟨ab, ao, asp, rfl⟩ := hS.addr (by omega)
    have r0 : m'.at ab (ao + k) = some (HRow.v (rs[k]'(by omega))) := hS.at_map hlt
    have hmem : rs[k]'(by omega) ∈ rs := List.getElem_mem _
    have hAt : (rs[k]'(by omega)).At m' := (hr _ hmem).keep fun x hx hne => kp _ (((hr _ hmem).sl.rows x hx (by simpa using hne)).lt) (nr _ hmem x hx)
    have hok := ok _ hmem
    have hn4 := r4 _ hmem
    have etk : (rs.take (k + 1)).map HRow.xs = (rs.take k).map HRow.xs ++ [(rs[k]'(by omega)).xs] := by rw [List.take_succ_eq_append_getElem (by omega), List.map_append]; rfl
    generalize rs[k]'(by omega) = r at *
    obtain ⟨rad, rn, rc, rxs⟩ := r
    simp only at hn4 hok etk
    subst hn4
    have hsl : SlA m' 1 rad 4 rc (rxs.map (.int .i64)) := hAt.sl
    have hbd : ∀ x ∈ rxs, -9223372036854775808 ≤ x ∧ x < 9223372036854775808 := hAt.bd
    have hlen := hok.len
    obtain ⟨x0, x1, x2, x3, rfl⟩ : ∃ x0 x1 x2 x3, rxs = [x0, x1, x2, x3] := by
      match rxs, hlen with
      | [a, b, c, d], _ => exact ⟨a, b, c, d, rfl⟩
    have hg : 1 ≤ x2 ∧ x2 ≤ 3 := hok.g
    have he : x1 = 1000 * x0 := hok.e
    have hb1 := hbd x1 (by simp)
    have hb3 := hbd x3 (by simp)
    obtain ⟨g, rfl⟩ : ∃ g : Nat, (g : Int) = x2 := ⟨x2.toNat, by omega⟩
    obtain ⟨rb, ro, rs', hra⟩ := hsl.addr (by omega)
    subst hra
    have r1 : m'.at ab (ao + k) = some (.slice (some ⟨rb, ro, rs'⟩) 4 rc) := r0
    have q0 : m'.at rb (ro + Int.toNat 0) = some (.int .i64 x0) := hsl.at_map (show 0 < 4 by omega)
    have q0' : m'.at rb ro = some (.int .i64 x0) := q0
    have q1 : m'.at rb (ro + Int.toNat 1) = some (.int .i64 x1) := hsl.at_map (show 1 < 4 by omega)
    have q2 : m'.at rb (ro + Int.toNat 2) = some (.int .i64 (g : Int)) := hsl.at_map (show 2 < 4 by omega)
    have q3 : m'.at rb (ro + Int.toNat 3) = some (.int .i64 x3) := hsl.at_map (show 3 < 4 by omega)
    have d2 : decide ((g : Int) < 1) = false := by simp; omega
    have d3 : decide ((g : Int) > 3) = false := by simp; omega
    have w2 : IntKind.wrap .i64 (1000 * x0) = x1 := by rw [wrap_i64_id _ (by omega) (by omega)]; omega
    have d4 : (x1 != x1) = false := by simp
    have gz : (0 : Int) ≤ (g : Int) ∧ (g : Int) < 4 := by omega
    simp (decide := true) (implicitDefEqProofs := false) (maxDischargeDepth := 20) only [go_sem, e73, e74, e75, e5, d1, z0, z1, r1, q0, q0', q1, q2, q3, d2, d3, d4, w2, gz.1, gz.2, ↓reduceIte, Int.toNat_natCast, true_implies, false_implies]
    refine ⟨by omega, ?_⟩
    refine SumAddA G (by omega) hb3.1 hb3.2 fun m6 u6 gw6 => ?_
    have eS : (addS (fun g => gsum (fO (g : Int)) ((rs.take k).map HRow.xs)) g x3) = fun i : Nat => gsum (fO (i : Int)) ((rs.take (k + 1)).map HRow.xs) := by
      funext i
      have e2 : fO (i : Int) [x0, x1, (g : Int), x3] = if (g : Int) = (i : Int) then x3 else 0 := rfl
      rw [etk]
      simp only [addS, gsum_append, gsum, e2]
      by_cases h : i = g
      · subst h; simp
      · rw [if_neg h, if_neg (by omega)]; omega
    rw [eS] at gw6
    have s6 := u6.size
    simp (decide := true) (implicitDefEqProofs := false) (maxDischargeDepth := 20) only [go_sem, e75, w1, ↓reduceIte, true_implies, false_implies]
    exact ⟨n - (k + 1), by omega, k + 1, by omega, rfl, rfl, gw6, by omega, fun i hi hne => by rw [u6.get i (by omega) hne, kp i hi hne]⟩
  · have d1 : decide ((k : Int) < (n : Int)) = false := by simp; omega
    rw [List.take_of_length_le (by omega)] at G
    simp (decide := true) (implicitDefEqProofs := false) (maxDischargeDepth := 20) only [go_sem, e73, e74, e75, d1, ↓reduceIte, true_implies, false_implies]
    exact ⟨G, sz, kp⟩

/-! ### group by group -/

set_option maxRecDepth 100000 in
set_option maxHeartbeats 8000000 in
theorem PairSums_same {m0 : Mem} {t : Fr} {wb ib : Nat} {s : Nat → Int} (gW : m0.get wb = some (.cells false true (arrC s))) (gI : m0.get ib = some (.cells false true (arrC s)))
    (t113 : t 113 = vI 0) (t4 : t 4 = ptr wb) (t5 : t 5 = ptr ib) {K : Post3}
    (hK : ∀ t' m', Agree (writes c_sheaflaw18_PairSums_41) t t' → Old m0 m' → K .normal t' m') :
    wpM E F_sheaflaw18_PairSums 125 none c_sheaflaw18_PairSums_41 K t m0 := by
  refine wpM_cut (fun t' m' => Old m0 m') ?_ fun t' m' ha h => hK t' m' ha h
  simp only [c_sheaflaw18_PairSums_41_at, wpM_block, c_sheaflaw18_PairSums_40_at]
  refine wpM_loopA (fun j t' m' => ∃ k : Nat, k ≤ 4 ∧ j = 4 - k ∧ t' 113 = vI (k : Nat) ∧ Old m0 m') 4 ⟨0, by omega, rfl, t113, .refl m0⟩ ?_
  rintro j t' m' ha ⟨k, hk, rfl, e113, o⟩
  have e4 := (ha 4 (by decide +kernel)).trans t4
  have e5 := (ha 5 (by decide +kernel)).trans t5
  by_cases hlt : k < 4
  · have d1 : decide ((k : Int) < 4) = true := by simp; omega
    have w1 : IntKind.wrap .i64 ((k : Int) + 1) = ((k + 1 : Nat) : Int) := by rw [wrap_i64_id _ (by omega) (by omega)]; omega
    have z0 : (0 : Int) ≤ (k : Int) := by omega
    have z1 : (k : Int) < ((4 : Nat) : Int) := by omega
    have G := (o.get (getM_lt gW)).trans gW
    have vP : (IntKind.wrap .i64 (s k / 18446744073709551616) == IntKind.wrap .i64 (s k / 18446744073709551616) && s k % 18446744073709551616 == s k % 18446744073709551616) = true := by simp
    simp (decide := true) (implicitDefEqProofs := false) (maxDischargeDepth := 20) only [go_sem, e4, e5, e113, d1, z0, z1, ↓reduceIte, Int.toNat_natCast, true_implies, false_implies]
    refine (SumWideA G hlt).mono ?_
    rintro w m1 ⟨rfl, o1⟩
    have o01 := o.trans o1
    have G1 := (o01.get (getM_lt gI)).trans gI
    simp (decide := true) (implicitDefEqProofs := false) (maxDischargeDepth := 20) only [go_sem, e4, e5, e113, z0, z1, ↓reduceIte, Int.toNat_natCast, true_implies, false_implies]
    refine (SumWideA G1 hlt).mono ?_
    rintro w m2 ⟨rfl, o2⟩
    simp (decide := true) (implicitDefEqProofs := false) (maxDischargeDepth := 20) only [go_sem, W, vP, Bool.not_true, e113, w1, ↓reduceIte, true_implies, false_implies]
    exact ⟨4 - (k + 1), by omega, k + 1, by omega, rfl, rfl, o01.trans o2⟩
  · have d1 : decide ((k : Int) < 4) = false := by simp; omega
    simp (decide := true) (implicitDefEqProofs := false) (maxDischargeDepth := 20) only [go_sem, e113, d1, ↓reduceIte, true_implies, false_implies]
    exact o

theorem arr_boxes (P : Mem → Prop) (m : Mem) (h : ∀ m1, m1.get m.size = some (.cells false true (arrC fun _ => 0)) → m1.get (m.size + 1) = some (.cells false true (arrC fun _ => 0)) → Old m m1 → m1.size = m.size + 2 → P m1) :
    P ((m.push (.cells false true [.int .i64 0, .int .u64 0, .int .i64 0, .int .u64 0, .int .i64 0, .int .u64 0, .int .i64 0, .int .u64 0])).push (.cells false true [.int .i64 0, .int .u64 0, .int .i64 0, .int .u64 0, .int .i64 0, .int .u64 0, .int .i64 0, .int .u64 0])) := by
  refine h _ ?_ ?_ (.push (.push (.refl m) _) _) (by simp only [size_push])
  all_goals simp only [getM_push, size_push]
  · rw [if_neg (by omega), if_pos trivial]; rfl
  · rw [if_pos trivial]; rfl

theorem map_getD_perm (ls : List HRow) {n : Nat} (hn : ls.length = n) {idxs : List Nat} (h : idxs.Perm (List.range n)) : (idxs.map fun i => ls.getD i noRow).Perm ls := by
  refine (h.map _).trans ?_
  have : (List.range n).map (fun i => ls.getD i noRow) = ls := by
    refine List.ext_getElem (by simp [hn]) fun i h1 h2 => ?_
    simp [List.getD_eq_getElem?_getD, h2]
  rw [this]

set_option maxRecDepth 100000 in
set_option maxHeartbeats 8000000 in
theorem PairSums_law (m : Mem) (hro : ∀ i c, m.get i = some c → c.writable = false)
    (a0 : Option Addr) (l0 c0 : Nat) (zs : List (List Int)) (hs0 : SlA m 7 a0 l0 c0 ((zs.map fun z => z.map (.int .i64)).flatten)) (hl0 : zs.length = l0) (hz0 : ∀ z ∈ zs, z.length = 7 ∧ ∀ x ∈ z, -9223372036854775808 ≤ x ∧ x < 9223372036854775808) :
    CallQ E F_sheaflaw18_PairSums [.slice a0 l0 c0].toArray m fun v _ => v = .bool true := by
  refine .enter fn_sheaflaw18_PairSums (by simp) ?_
  have lt0 : ∀ b, a0 = some b → zs ≠ [] → b.block < m.size := fun b hb hne => (hs0.rows b hb fun e => by
    have := flat_len (fun z hz => (hz0 z hz).1)
    rw [e, List.length_nil] at this
    cases zs with
    | nil => exact hne rfl
    | cons z zs => simp only [List.length_cons] at this; omega).lt
  simp (decide := true) (implicitDefEqProofs := false) (maxDischargeDepth := 20) only [go_sem, ↓reduceIte, true_implies, false_implies]
  refine arr_boxes (fun mm => wpM E _ _ _ _ _ _ mm) m fun m1 gW gI o1 s1 => ?_
  obtain ⟨wb, hwb⟩ : ∃ b, b = m.size := ⟨_, rfl⟩
  obtain ⟨ib, hib⟩ : ∃ b, b = m.size + 1 := ⟨_, rfl⟩
  rw [← hib] at gI ⊢
  rw [← hwb] at gW ⊢
  refine PairSums_lines (hs0.old o1) hl0 hz0 (fun b hb hne => by have := lt0 b hb hne; omega) gW (by simp (decide := true) only [go_sem, ↓reduceIte]) (by simp (decide := true) only [go_sem, ↓reduceIte]) (by simp (decide := true) only [go_sem, ↓reduceIte]) (by simp (decide := true) only [go_sem, ↓reduceIte]) (by simp (decide := true) only [go_sem, ↓reduceIte]) fun t2 m2 a es hag hel e3 e6 L => ?_
  have e4 := hag 4 (by decide +kernel)
  have e5 := hag 5 (by decide +kernel)
  simp (decide := true) only [go_sem, ↓reduceIte] at e4 e5
  clear hag
  simp (decide := true) (implicitDefEqProofs := false) (maxDischargeDepth := 20) only [go_sem, e3, ↓reduceIte, true_implies, false_implies]
  refine PartsF_at L.vec.sl L.row L.n10 (by omega) fun idxs w m3 hp hsrt hres o3 => ?_
  have gI2 := (L.keep ib (getM_lt gI) (by omega)).trans gI
  have P1 : (inL (idxs.map fun i => es.getD i noRow)).Perm es := (inL_perm _).trans (map_getD_perm es rfl hp)
  have P2 := P1.map HRow.xs
  have hok : ∀ r ∈ (inL (idxs.map fun i => es.getD i noRow)).map HRow.xs, LnOk r := fun r hr => by
    obtain ⟨x, hx, rfl⟩ := List.mem_map.1 (P2.mem_iff.1 hr)
    exact L.ok x hx
  obtain ⟨ou, hou, ho1, ho2, ho3, ho4⟩ := parts_sums hok (by rw [P2.length_eq, List.length_map]; exact hel)
  rw [P2.countP_eq] at ho3
  rw [P2.length_eq, List.length_map] at ho4
  rw [hou] at hres
  rcases hres with ⟨ao, os, hos, rfl, SO, hro'⟩ | ⟨hno, _⟩
  · have hxs : os.map HRow.xs = ou := by
      have e1 : os.map (fun r => some r.xs) = (os.map HRow.xs).map some := by rw [List.map_map]; rfl
      rw [e1] at hos
      exact ((List.map_inj_right (fun x y h => Option.some.inj h)).1 hos).symm
    have hol : os.length = ou.length := by rw [← hxs, List.length_map]
    rw [← hol] at ho3 ho4
    have c1 : decide (((os.length : Nat) : Int) < (((es.map HRow.xs).countP aloneI : Nat) : Int)) = false := decide_eq_false_iff_not.2 (by omega)
    have c2 : decide (((os.length : Nat) : Int) > ((es.length : Nat) : Int)) = false := by simp; omega
    simp (decide := true) (implicitDefEqProofs := false) (maxDischargeDepth := 20) only [go_sem, e3, e4, e5, e6, c1, c2, ↓reduceIte, true_implies, false_implies]
    have gI3 := (o3.get (getM_lt gI2)).trans gI2
    have gW3 := (o3.get (getM_lt L.was)).trans L.was
    refine PairSums_is SO hro' (fun r hr => ho1 _ (by rw [← hxs]; exact List.mem_map.2 ⟨r, hr, rfl⟩)) (by omega) gI3 (by simp (decide := true) only [go_sem, ↓reduceIte]) (by simp (decide := true) only [go_sem, ↓reduceIte]) (by simp (decide := true) only [go_sem, ↓reduceIte]) (by simp (decide := true) only [go_sem, e5, ↓reduceIte]) fun t4 m4 hag gI4 s4 k4 => ?_
    have f4 := hag 4 (by decide +kernel)
    have f5 := hag 5 (by decide +kernel)
    simp (decide := true) only [go_sem, e4, e5, ↓reduceIte] at f4 f5
    clear hag
    have gW4 := (k4 wb (getM_lt gW3) (by omega)).trans gW3
    have eS : (fun g : Nat => gsum (fO (g : Int)) (os.map HRow.xs)) = fun g : Nat => gsum (fI (g : Int)) (es.map HRow.xs) := by
      funext g
      rw [hxs, ho2, gsum_perm _ P2]
    rw [eS] at gI4
    simp (decide := true) (implicitDefEqProofs := false) (maxDischargeDepth := 20) only [go_sem, f4, f5, ↓reduceIte, true_implies, false_implies]
    refine PairSums_same gW4 gI4 (by simp (decide := true) only [go_sem, ↓reduceIte]) (by simp (decide := true) only [go_sem, f4, ↓reduceIte]) (by simp (decide := true) only [go_sem, f5, ↓reduceIte]) fun t5 m5 hag o5 => ?_
    simp (decide := true) (implicitDefEqProofs := false) (maxDischargeDepth := 20) only [go_sem, ↓reduceIte, true_implies, false_implies]
  · simp at hno

end Go.Proofs.Ytjmppooebppecaa.W
