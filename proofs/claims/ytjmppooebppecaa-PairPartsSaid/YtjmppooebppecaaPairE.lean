/-
  Sides of a pair in memory. What is left of a pair. pair.Parts: what is told of a pair. pair.Parts as an iterator: what it tells. pair.Parts as an iterator. pair.Parts as an iterator: the whole.
-/
import Derived.Test.YtjmppooebppecaaSumP
import Derived.Test.YtjmppooebppecaaPairC
import Derived.Test.YtjmppooebppecaaPairA
import Derived.Test.YtjmppooebppecaaValR
namespace Go.Proofs.Ytjmppooebppecaa.W
open Go.Abs
set_option linter.unusedSimpArgs false
set_option linter.unusedVariables false


/-! ### PairE -/

/-- What an entity has. -/
structure Sd where
  e : Int
  p : Int
  s : Int
  n : Nat
def sd0 : Sd := ⟨0, 0, 0, 0⟩
def sdAdd (s : Sd) (r : List Int) : Sd := ⟨r.getD 1 0, r.getD 7 0, s.s + r.getD 9 0, s.n + 1⟩
def wHi (x : Int) : Value := .int .i64 (IntKind.wrap .i64 (x / 18446744073709551616))
def wLo (x : Int) : Value := .int .u64 (x % 18446744073709551616)
def sdC (s : Sd) : List Value := [vI s.e, vI s.p, wHi s.s, wLo s.s, vI (s.n : Nat)]
def bothC (kv : Value) (lo hi : Sd) : List Value := [kv, vI lo.e, vI lo.p, wHi lo.s, wLo lo.s, vI (lo.n : Nat), vI hi.e, vI hi.p, wHi hi.s, wLo hi.s, vI (hi.n : Nat)]

section
variable {m : Mem} {b : Nat} {tg : Bool} {v0 v1 v2 v3 v4 v5 v6 v7 v8 v9 v10 : Value}
theorem rows3 (h : m.get b = some (.cells false tg [v0, v1, v2, v3, v4, v5, v6, v7, v8, v9, v10])) : m.rows b 3 2 = some [v3, v4] := by
  unfold Mem.rows; rw [h]; rfl
theorem rows8 (h : m.get b = some (.cells false tg [v0, v1, v2, v3, v4, v5, v6, v7, v8, v9, v10])) : m.rows b 8 2 = some [v8, v9] := by
  unfold Mem.rows; rw [h]; rfl

set_option maxRecDepth 100000 in
set_option maxHeartbeats 4000000 in
theorem SumAddL {x n : Int} (hg : m.get b = some (.cells false tg [v0, v1, v2, wHi x, wLo x, v5, v6, v7, v8, v9, v10])) (hn : -9223372036854775808 ≤ n) (hn' : n < 9223372036854775808) {K : Value → Mem → Prop}
    (hK : ∀ m', Upd m m' b → m'.get b = some (.cells false tg [v0, v1, v2, wHi (x + n), wLo (x + n), v5, v6, v7, v8, v9, v10]) → K (.tuple #[]) m') :
    CallQ E F_money_Sum_Add [.pointer (some ⟨b, 3, none⟩), .int .i64 n].toArray m K := by
  refine .enter fn_money_Sum_Add (by simp) ?_
  have hl := getM_lt hg
  have hr := rows3 hg
  have o1 := Of_W n hn hn'
  have a1 := Add_ans x n
  simp only [W] at o1 a1
  simp only [wHi, wLo] at hr hg
  simp (decide := true) (implicitDefEqProofs := false) (maxDischargeDepth := 20) only [go_sem, ↓reduceIte, nilOk, hr, hg, hl, o1.eq, a1.eq]
  exact hK _ (Upd.put (by simp (decide := true) (maxDischargeDepth := 20) only [go_sem]) _ _) (by simp (decide := true) (maxDischargeDepth := 20) only [go_sem, hl]; rfl)
set_option maxRecDepth 100000 in
theorem SumWideL {x : Int} (hg : m.get b = some (.cells false tg [v0, v1, v2, wHi x, wLo x, v5, v6, v7, v8, v9, v10])) : CallQ E F_money_Sum_Wide [.pointer (some ⟨b, 3, none⟩)].toArray m fun w m' => w = W x ∧ Old m m' := by
  refine .enter fn_money_Sum_Wide (by simp) ?_
  have hl := getM_lt hg
  have hr := rows3 hg
  have hne : ¬ b = m.size := by omega
  simp only [wHi, wLo] at hr hg
  simp (decide := true) (implicitDefEqProofs := false) (maxDischargeDepth := 20) only [go_sem, ↓reduceIte, nilOk, hr, hg, hl, hne, W]
set_option maxRecDepth 100000 in
set_option maxHeartbeats 8000000 in
theorem SideAddL {e p x : Int} {q : Nat} {a : Option Addr} {c : Nat} {xs : List Int} (hg : m.get b = some (.cells false tg [v0, vI e, vI p, wHi x, wLo x, vI (q : Nat), v6, v7, v8, v9, v10])) (h : SlA m 1 a 10 c (xs.map (.int .i64))) (hxs : ∀ x ∈ xs, -9223372036854775808 ≤ x ∧ x < 9223372036854775808) (hq : q ≤ 1000000) (hab : ∀ y, a = some y → y.block ≠ b) {K : Value → Mem → Prop}
    (hK : ∀ m', Upd m m' b → m'.get b = some (.cells false tg [v0, vI (xs.getD 1 0), vI (xs.getD 7 0), wHi (x + xs.getD 9 0), wLo (x + xs.getD 9 0), vI ((q + 1 : Nat) : Int), v6, v7, v8, v9, v10]) → K (.tuple #[]) m') :
    CallQ E F_pair_side_add [.pointer (some ⟨b, 1, none⟩), .slice a 10 c].toArray m K := by
  refine .enter fn_pair_side_add (by simp) ?_
  have hlen : xs.length = 10 := by have := h.len; simpa using this
  have h9 : -9223372036854775808 ≤ xs.getD 9 0 ∧ xs.getD 9 0 < 9223372036854775808 := hxs _ (by simp [List.getD_eq_getElem?_getD, hlen])
  have hab' : ∀ b', a = some b' → xs.map (Value.int .i64) ≠ [] → b'.block ≠ b := fun b' hb _ => hab b' hb
  simp (decide := true) (implicitDefEqProofs := false) (maxDischargeDepth := 20) only [go_sem, ↓reduceIte, true_implies, false_implies]
  refine (at_at h 1 (by decide)).mono ?_
  rintro w m1 ⟨rfl, o1⟩
  simp (decide := true) (implicitDefEqProofs := false) (maxDischargeDepth := 20) only [go_sem, ↓reduceIte, true_implies, false_implies]
  refine (at_at (h.old o1) 7 (by decide)).mono ?_
  rintro w m2 ⟨rfl, o2⟩
  have o02 := o1.trans o2
  have g2 := (o02.get (getM_lt hg)).trans hg
  have l2 := getM_lt g2
  simp only [wHi, wLo] at g2
  simp (decide := true) (implicitDefEqProofs := false) (maxDischargeDepth := 20) only [go_sem, ↓reduceIte, nilOk, g2, l2, true_implies, false_implies]
  obtain ⟨m3, hm3⟩ : ∃ m3, m3 = (m2.put b (some (.cells false tg [v0, vI (xs.getD 1 0), vI p, wHi x, wLo x, vI (q : Nat), v6, v7, v8, v9, v10]))).put b (some (.cells false tg [v0, vI (xs.getD 1 0), vI (xs.getD 7 0), wHi x, wLo x, vI (q : Nat), v6, v7, v8, v9, v10])) := ⟨_, rfl⟩
  simp only [wHi, wLo] at hm3
  rw [← hm3]
  have s3 : m3.size = m2.size := by rw [hm3, size_put, size_put]
  have u3 : ∀ i, i ≠ b → m3.get i = m2.get i := fun i hi => by rw [hm3, getM_put, if_neg (fun e => hi e.1), getM_put, if_neg (fun e => hi e.1)]
  have g3 : m3.get b = some (.cells false tg [v0, vI (xs.getD 1 0), vI (xs.getD 7 0), wHi x, wLo x, vI (q : Nat), v6, v7, v8, v9, v10]) := by rw [hm3, getM_put, if_pos ⟨rfl, by rw [size_put]; exact l2⟩]; rfl
  have h3 : SlA m3 1 a 10 c (xs.map (.int .i64)) := (h.old o02).keep fun b' hb hx => u3 _ (hab' b' hb hx)
  refine (at_at h3 9 (by decide)).mono ?_
  rintro w m4 ⟨rfl, o4⟩
  have g4 := (o4.get (getM_lt g3)).trans g3
  simp (decide := true) (implicitDefEqProofs := false) (maxDischargeDepth := 20) only [go_sem, ↓reduceIte, nilOk, true_implies, false_implies]
  refine SumAddL g4 h9.1 h9.2 fun m5 u5 g5 => ?_
  have r5 : m5.at b 5 = some (vI (q : Nat)) := by unfold Mem.at; rw [g5]; rfl
  have w5 : IntKind.wrap .i64 ((q : Int) + 1) = ((q + 1 : Nat) : Int) := by rw [wrap_i64_id _ (by omega) (by omega)]; omega
  have l5 := getM_lt g5
  simp only [wHi, wLo] at g5
  simp (decide := true) (implicitDefEqProofs := false) (maxDischargeDepth := 20) only [go_sem, ↓reduceIte, nilOk, g5, r5, w5, l5, true_implies, false_implies]
  refine hK _ ⟨?_, fun i hi hne => ?_⟩ ?_
  · rw [size_put]; have := u5.size; have := o4.size; have := o02.size; omega
  · have := o4.size
    have := o02.size
    rw [getM_put, if_neg (fun e => hne e.1), u5.get i (by omega) hne, o4.get (by omega), u3 i hne, o02.get hi]
  · rw [getM_put, if_pos ⟨rfl, l5⟩]
    rfl

set_option maxRecDepth 100000 in
set_option maxHeartbeats 4000000 in
theorem SumAddH {x n : Int} (hg : m.get b = some (.cells false tg [v0, v1, v2, v3, v4, v5, v6, v7, wHi x, wLo x, v10])) (hn : -9223372036854775808 ≤ n) (hn' : n < 9223372036854775808) {K : Value → Mem → Prop}
    (hK : ∀ m', Upd m m' b → m'.get b = some (.cells false tg [v0, v1, v2, v3, v4, v5, v6, v7, wHi (x + n), wLo (x + n), v10]) → K (.tuple #[]) m') :
    CallQ E F_money_Sum_Add [.pointer (some ⟨b, 8, none⟩), .int .i64 n].toArray m K := by
  refine .enter fn_money_Sum_Add (by simp) ?_
  have hl := getM_lt hg
  have hr := rows8 hg
  have o1 := Of_W n hn hn'
  have a1 := Add_ans x n
  simp only [W] at o1 a1
  simp only [wHi, wLo] at hr hg
  simp (decide := true) (implicitDefEqProofs := false) (maxDischargeDepth := 20) only [go_sem, ↓reduceIte, nilOk, hr, hg, hl, o1.eq, a1.eq]
  exact hK _ (Upd.put (by simp (decide := true) (maxDischargeDepth := 20) only [go_sem]) _ _) (by simp (decide := true) (maxDischargeDepth := 20) only [go_sem, hl]; rfl)
set_option maxRecDepth 100000 in
theorem SumWideH {x : Int} (hg : m.get b = some (.cells false tg [v0, v1, v2, v3, v4, v5, v6, v7, wHi x, wLo x, v10])) : CallQ E F_money_Sum_Wide [.pointer (some ⟨b, 8, none⟩)].toArray m fun w m' => w = W x ∧ Old m m' := by
  refine .enter fn_money_Sum_Wide (by simp) ?_
  have hl := getM_lt hg
  have hr := rows8 hg
  have hne : ¬ b = m.size := by omega
  simp only [wHi, wLo] at hr hg
  simp (decide := true) (implicitDefEqProofs := false) (maxDischargeDepth := 20) only [go_sem, ↓reduceIte, nilOk, hr, hg, hl, hne, W]
set_option maxRecDepth 100000 in
set_option maxHeartbeats 8000000 in
theorem SideAddH {e p x : Int} {q : Nat} {a : Option Addr} {c : Nat} {xs : List Int} (hg : m.get b = some (.cells false tg [v0, v1, v2, v3, v4, v5, vI e, vI p, wHi x, wLo x, vI (q : Nat)])) (h : SlA m 1 a 10 c (xs.map (.int .i64))) (hxs : ∀ x ∈ xs, -9223372036854775808 ≤ x ∧ x < 9223372036854775808) (hq : q ≤ 1000000) (hab : ∀ y, a = some y → y.block ≠ b) {K : Value → Mem → Prop}
    (hK : ∀ m', Upd m m' b → m'.get b = some (.cells false tg [v0, v1, v2, v3, v4, v5, vI (xs.getD 1 0), vI (xs.getD 7 0), wHi (x + xs.getD 9 0), wLo (x + xs.getD 9 0), vI ((q + 1 : Nat) : Int)]) → K (.tuple #[]) m') :
    CallQ E F_pair_side_add [.pointer (some ⟨b, 6, none⟩), .slice a 10 c].toArray m K := by
  refine .enter fn_pair_side_add (by simp) ?_
  have hlen : xs.length = 10 := by have := h.len; simpa using this
  have h9 : -9223372036854775808 ≤ xs.getD 9 0 ∧ xs.getD 9 0 < 9223372036854775808 := hxs _ (by simp [List.getD_eq_getElem?_getD, hlen])
  have hab' : ∀ b', a = some b' → xs.map (Value.int .i64) ≠ [] → b'.block ≠ b := fun b' hb _ => hab b' hb
  simp (decide := true) (implicitDefEqProofs := false) (maxDischargeDepth := 20) only [go_sem, ↓reduceIte, true_implies, false_implies]
  refine (at_at h 1 (by decide)).mono ?_
  rintro w m1 ⟨rfl, o1⟩
  simp (decide := true) (implicitDefEqProofs := false) (maxDischargeDepth := 20) only [go_sem, ↓reduceIte, true_implies, false_implies]
  refine (at_at (h.old o1) 7 (by decide)).mono ?_
  rintro w m2 ⟨rfl, o2⟩
  have o02 := o1.trans o2
  have g2 := (o02.get (getM_lt hg)).trans hg
  have l2 := getM_lt g2
  simp only [wHi, wLo] at g2
  simp (decide := true) (implicitDefEqProofs := false) (maxDischargeDepth := 20) only [go_sem, ↓reduceIte, nilOk, g2, l2, true_implies, false_implies]
  obtain ⟨m3, hm3⟩ : ∃ m3, m3 = (m2.put b (some (.cells false tg [v0, v1, v2, v3, v4, v5, vI (xs.getD 1 0), vI p, wHi x, wLo x, vI (q : Nat)]))).put b (some (.cells false tg [v0, v1, v2, v3, v4, v5, vI (xs.getD 1 0), vI (xs.getD 7 0), wHi x, wLo x, vI (q : Nat)])) := ⟨_, rfl⟩
  simp only [wHi, wLo] at hm3
  rw [← hm3]
  have s3 : m3.size = m2.size := by rw [hm3, size_put, size_put]
  have u3 : ∀ i, i ≠ b → m3.get i = m2.get i := fun i hi => by rw [hm3, getM_put, if_neg (fun e => hi e.1), getM_put, if_neg (fun e => hi e.1)]
  have g3 : m3.get b = some (.cells false tg [v0, v1, v2, v3, v4, v5, vI (xs.getD 1 0), vI (xs.getD 7 0), wHi x, wLo x, vI (q : Nat)]) := by rw [hm3, getM_put, if_pos ⟨rfl, by rw [size_put]; exact l2⟩]; rfl
  have h3 : SlA m3 1 a 10 c (xs.map (.int .i64)) := (h.old o02).keep fun b' hb hx => u3 _ (hab' b' hb hx)
  refine (at_at h3 9 (by decide)).mono ?_
  rintro w m4 ⟨rfl, o4⟩
  have g4 := (o4.get (getM_lt g3)).trans g3
  simp (decide := true) (implicitDefEqProofs := false) (maxDischargeDepth := 20) only [go_sem, ↓reduceIte, nilOk, true_implies, false_implies]
  refine SumAddH g4 h9.1 h9.2 fun m5 u5 g5 => ?_
  have r5 : m5.at b 10 = some (vI (q : Nat)) := by unfold Mem.at; rw [g5]; rfl
  have w5 : IntKind.wrap .i64 ((q : Int) + 1) = ((q + 1 : Nat) : Int) := by rw [wrap_i64_id _ (by omega) (by omega)]; omega
  have l5 := getM_lt g5
  simp only [wHi, wLo] at g5
  simp (decide := true) (implicitDefEqProofs := false) (maxDischargeDepth := 20) only [go_sem, ↓reduceIte, nilOk, g5, r5, w5, l5, true_implies, false_implies]
  refine hK _ ⟨?_, fun i hi hne => ?_⟩ ?_
  · rw [size_put]; have := u5.size; have := o4.size; have := o02.size; omega
  · have := o4.size
    have := o02.size
    rw [getM_put, if_neg (fun e => hne e.1), u5.get i (by omega) hne, o4.get (by omega), u3 i hne, o02.get hi]
  · rw [getM_put, if_pos ⟨rfl, l5⟩]
    rfl

end


/-! ### PairF -/

/-- A row in a block of its own. -/
def rowH (p : Nat × List Int) : HRow := ⟨some ⟨p.1, 0, none⟩, p.2.length, p.2.length, p.2⟩
/-- Rows in blocks of their own, one behind the other. -/
structure Own2 (B : Nat) (m : Mem) (ps : List (Nat × List Int)) : Prop where
  get : ∀ p ∈ ps, m.get p.1 = some (.cells false true (p.2.map (.int .i64)))
  bd : ∀ p ∈ ps, ∀ x ∈ p.2, -9223372036854775808 ≤ x ∧ x < 9223372036854775808
  lo : ∀ p ∈ ps, B ≤ p.1
  dis : (ps.map Prod.fst).Nodup
theorem Own2.at_ {B : Nat} {m : Mem} {ps : List (Nat × List Int)} (h : Own2 B m ps) : ∀ p ∈ ps, (rowH p).At m := fun p hp => ⟨.new (h.get p hp) (by simp [rowH]) rfl, rfl, h.bd p hp⟩
theorem Own2.lt {B : Nat} {m : Mem} {ps : List (Nat × List Int)} (h : Own2 B m ps) : ∀ p ∈ ps, p.1 < m.size := fun p hp => getM_lt (h.get p hp)
theorem Own2.keep {B : Nat} {m m' : Mem} {ps : List (Nat × List Int)} (h : Own2 B m ps) (k : ∀ p ∈ ps, m'.get p.1 = m.get p.1) : Own2 B m' ps := ⟨fun p hp => (k p hp).trans (h.get p hp), h.bd, h.lo, h.dis⟩
theorem Own2.old {B : Nat} {m m' : Mem} {ps : List (Nat × List Int)} (h : Own2 B m ps) (k : Old m m') : Own2 B m' ps := h.keep fun p hp => k.get (h.lt p hp)
theorem Own2.nil (B : Nat) (m : Mem) : Own2 B m [] := ⟨fun p h => by simp at h, fun p h => by simp at h, fun p h => by simp at h, by simp⟩
theorem Own2.snoc {B : Nat} {m : Mem} {ps : List (Nat × List Int)} (h : Own2 B m ps) {b : Nat} {xs : List Int} (g : m.get b = some (.cells false true (xs.map (.int .i64)))) (hx : ∀ x ∈ xs, -9223372036854775808 ≤ x ∧ x < 9223372036854775808) (hb : B ≤ b) (hn : ∀ p ∈ ps, p.1 ≠ b) : Own2 B m (ps ++ [(b, xs)]) := by
  refine ⟨fun p hp => ?_, fun p hp => ?_, fun p hp => ?_, ?_⟩
  · rcases List.mem_append.1 hp with hp | hp
    · exact h.get p hp
    · rw [List.mem_singleton.1 hp]; exact g
  · rcases List.mem_append.1 hp with hp | hp
    · exact h.bd p hp
    · rw [List.mem_singleton.1 hp]; exact hx
  · rcases List.mem_append.1 hp with hp | hp
    · exact h.lo p hp
    · rw [List.mem_singleton.1 hp]; exact hb
  · rw [List.map_append, List.nodup_append]
    refine ⟨h.dis, by simp, fun x hx y hy => ?_⟩
    obtain ⟨q, hq, rfl⟩ := List.mem_map.1 hx
    simp at hy
    rw [hy]
    exact hn q hq

def fitsI (x : Int) : Prop := -9223372036854775808 ≤ x ∧ x < 9223372036854775808
instance (x : Int) : Decidable (fitsI x) := inferInstanceAs (Decidable (_ ∧ _))
/-- Both sides of a pair. -/
structure Bo where
  key : List Int
  lo : Sd
  hi : Sd
def boOk (b : Bo) : Prop := fitsI (canP b.lo.s b.hi.s) ∧ fitsI (canQ b.lo.s b.hi.s)
instance (b : Bo) : Decidable (boOk b) := inferInstanceAs (Decidable (_ ∧ _))
def boRows (b : Bo) : List (List Int) :=
  (if 0 < b.lo.n then [[b.lo.e, b.lo.p, b.key.getD 2 0, canP b.lo.s b.hi.s]] else []) ++ (if 0 < b.hi.n then [[b.hi.e, b.hi.p, b.key.getD 2 0, canQ b.lo.s b.hi.s]] else [])
def wideI (x : Int) : Prop := -85070591730234615865843651857942052864 ≤ x ∧ x < 85070591730234615865843651857942052864
def sdBd (s : Sd) : Prop := fitsI s.e ∧ fitsI s.p ∧ wideI s.s ∧ s.n ≤ 1000000
theorem can_bd {x y : Int} (hx : wideI x) (hy : wideI y) : (-170141183460469231731687303715884105728 ≤ canP x y ∧ canP x y < 170141183460469231731687303715884105728) ∧ (-170141183460469231731687303715884105728 ≤ canQ x y ∧ canQ x y < 170141183460469231731687303715884105728) := by
  unfold wideI at hx hy
  constructor
  · unfold canP; split
    · omega
    · split <;> omega
  · unfold canQ; split
    · omega
    · split <;> omega

theorem rows_of {m : Mem} {b : Nat} {ro tg : Bool} {cs : List Value} (h : m.get b = some (.cells ro tg cs)) : m.rows b 0 cs.length = some cs := by
  unfold Mem.rows
  rw [h]
  simp [blk_rows]
theorem two_boxes (P : Mem → Prop) (m : Mem) (l0 l1 w0 w1 : List Value) (h : ∀ m', m'.get m.size = some (.cells false true w0) → m'.get (m.size + 1) = some (.cells false true w1) → Old m m' → m'.size = m.size + 2 → P m') :
    P ((((m.push (.cells false true l0)).push (.cells false true l1)).put m.size (some (.cells false true w0))).put (m.size + 1) (some (.cells false true w1))) := by
  refine h _ ?_ ?_ (.of_get (by simp [size_put, size_push]; omega) fun i hi => ?_) (by simp)
  all_goals simp only [getM_put, getM_push, size_put, size_push]
  · rw [if_neg (by omega), if_pos (by simp <;> omega)]
  · rw [if_pos (by simp <;> omega)]
  · rw [if_neg (by omega), if_neg (by omega), if_neg (by omega), if_neg (by omega)]

set_option maxRecDepth 100000 in
set_option maxHeartbeats 8000000 in
theorem BRows_at {m : Mem} {b : Nat} {tg : Bool} {ka : Option Addr} {kc : Nat} {bo : Bo} (hg : m.get b = some (.cells false tg (bothC (.slice ka 3 kc) bo.lo bo.hi))) (hk : SlA m 1 ka 3 kc (bo.key.map (.int .i64))) (hkb : ∀ x ∈ bo.key, fitsI x) (hlo : sdBd bo.lo) (hhi : sdBd bo.hi) {K : Value → Mem → Prop}
    (hK : boOk bo → ∀ ao ps m', Vec m.size m' 1 ao ps.length ((ps.map rowH).map HRow.v) → Own2 m.size m' ps → (∀ p ∈ ps, ∀ y, ao = some y → p.1 ≠ y.block) → ps.map Prod.snd = boRows bo → Old m m' → K (.tuple #[.slice ao ps.length ps.length, .bool true]) m')
    (hK' : ¬ boOk bo → ∀ m', Old m m' → K (.tuple #[.slice none 0 0, .bool false]) m') :
    CallQ E F_pair_both_rows [.pointer (some ⟨b, 0, none⟩)].toArray m K := by
  refine .enter fn_pair_both_rows (by simp) ?_
  obtain ⟨key, lo, hi⟩ := bo
  obtain ⟨le, lp, ls, ln⟩ := lo
  obtain ⟨he, hp, hs, hn⟩ := hi
  obtain ⟨bl1, bl2, bl3, bl4⟩ := hlo
  obtain ⟨bh1, bh2, bh3, bh4⟩ := hhi
  simp only at bl1 bl2 bl3 bl4 bh1 bh2 bh3 bh4 hk hkb
  simp only [bothC] at hg
  have cb := can_bd bl3 bh3
  have hkl : key.length = 3 := by have := hk.len; simpa using this
  have gl := getM_lt hg
  simp (decide := true) (implicitDefEqProofs := false) (maxDischargeDepth := 20) only [go_sem, nilOk, ↓reduceIte, true_implies, false_implies]
  refine (SumWideL hg).mono ?_
  rintro w m1 ⟨rfl, o1⟩
  simp (decide := true) (implicitDefEqProofs := false) (maxDischargeDepth := 20) only [go_sem, nilOk, ↓reduceIte, true_implies, false_implies]
  refine (SumWideH ((o1.get gl).trans hg)).mono ?_
  rintro w m2 ⟨rfl, o2⟩
  have o02 := o1.trans o2
  simp (decide := true) (implicitDefEqProofs := false) (maxDischargeDepth := 20) only [go_sem, nilOk, ↓reduceIte, true_implies, false_implies]
  unfold wideI at bl3 bh3
  refine ((Cancel_ans ls hs bl3.1 bl3.2 bh3.1 bh3.2) m2).mono ?_
  rintro w m3 ⟨rfl, o3⟩
  have o03 := o02.trans o3
  unfold boOk boRows at hK
  unfold boOk at hK'
  simp only at hK hK'
  obtain ⟨P, hP⟩ : ∃ P, P = canP ls hs := ⟨_, rfl⟩
  obtain ⟨Q, hQ⟩ : ∃ Q, Q = canQ ls hs := ⟨_, rfl⟩
  rw [← hP, ← hQ] at cb hK ⊢
  rw [← hP, ← hQ] at hK'
  have i1 := Int_intA P cb.1.1 cb.1.2
  have i2 := Int_intA Q cb.2.1 cb.2.2
  simp only [W] at i1 i2
  simp (decide := true) (implicitDefEqProofs := false) (maxDischargeDepth := 20) only [go_sem, nilOk, W, ↓reduceIte, true_implies, false_implies]
  refine two_boxes (fun mm => CallQ E _ _ mm _) m3 _ _ _ _ fun m4 g4 g5 o34 s4 => ?_
  have o04 := o03.trans o34
  refine (i1 m4).mono ?_
  rintro w m5 ⟨rfl, o45⟩
  have r5 := rows_of ((o45.get (getM_lt g5)).trans g5)
  simp only [List.length_cons, List.length_nil, Nat.zero_add] at r5
  have o05 := o04.trans o45
  by_cases f1 : fitsI P
  · have e1 : intA P = .tuple #[.int .i64 P, .bool true] := by unfold intA; exact if_pos f1
    rw [e1]
    simp (decide := true) (implicitDefEqProofs := false) (maxDischargeDepth := 20) only [go_sem, r5, ↓reduceIte, true_implies, false_implies]
    refine (i2 m5).mono ?_
    rintro w m6 ⟨rfl, o56⟩
    have o06 := o05.trans o56
    by_cases f2 : fitsI Q
    · have e2 : intA Q = .tuple #[.int .i64 Q, .bool true] := by unfold intA; exact if_pos f2
      rw [e2]
      have hK := hK ⟨f1, f2⟩
      clear hK' i1 i2 cb hP hQ o45 o34 o3 o2 o1 r5 g4 g5 s4 e1 e2
      have fx : ∀ m7, Old m6 m7 → m7.at b 0 = some (.slice ka 3 kc) ∧ m7.at b 1 = some (vI le) ∧ m7.at b 2 = some (vI lp) ∧ m7.at b 5 = some (vI (ln : Nat)) ∧ m7.at b 6 = some (vI he) ∧ m7.at b 7 = some (vI hp) ∧ m7.at b 10 = some (vI (hn : Nat)) := fun m7 o67 => by
        have g7 := ((o06.trans o67).get gl).trans hg
        unfold Mem.at
        rw [g7]
        exact ⟨rfl, rfl, rfl, rfl, rfl, rfl, rfl⟩
      obtain ⟨kb, ko, ksp, rfl⟩ := hk.addr (by omega)
      have kx : ∀ m7, Old m6 m7 → m7.at kb (ko + Int.toNat 2) = some (.int .i64 (key.getD 2 0)) := fun m7 o67 => by
        have := (hk.old (o06.trans o67)).at_map (show 2 < 3 by omega)
        rw [show key.getD 2 0 = key[2]'(by omega) by simp [List.getD_eq_getElem?_getD, List.getElem?_eq_getElem (show 2 < key.length by omega)]]
        exact this
      have k2 : fitsI (key.getD 2 0) := hkb _ (by simp [List.getD_eq_getElem?_getD, hkl])
      have part2 : ∀ (m7 : Mem) (ao : Option Addr) (ps : List (Nat × List Int)) (t : Fr), Old m6 m7 → ps.length ≤ 1 → Vec m.size m7 1 ao ps.length ((ps.map rowH).map HRow.v) → Own2 m.size m7 ps → (∀ p ∈ ps, ∀ y, ao = some y → p.1 ≠ y.block) → ps.map Prod.snd = (if 0 < ln then [[le, lp, key.getD 2 0, P]] else []) → t 10 = .slice ao ps.length ps.length → t 0 = .pointer (some ⟨b, 0, none⟩) → t 8 = .int .i64 Q →
          wpM E F_pair_both_rows 96 none c_pair_both_rows_8 (retK (ResK E [.tmp 2, .tmp 3] K)) t m7 := by
        intro m7 ao ps t o67 hpl V O hdis hps e10 e0 e8
        obtain ⟨r0, r1, r2, r5, r6, r7, r10⟩ := fx m7 o67
        have rk := kx m7 o67
        by_cases h0 : 0 < hn
        · have d1 : decide (((hn : Nat) : Int) > 0) = true := by simp; omega
          simp (decide := true) (implicitDefEqProofs := false) (maxDischargeDepth := 20) only [go_sem, nilOk, e10, e0, e8, r0, r6, r7, r10, rk, d1, ↓reduceIte, true_implies, false_implies]
          obtain ⟨rb, hrb⟩ : ∃ b, b = m7.size := ⟨_, rfl⟩
          obtain ⟨mp, hmp⟩ : ∃ mp, mp = m7.push (.cells false true [.int .i64 he, .int .i64 hp, .int .i64 (key.getD 2 0), .int .i64 Q]) := ⟨_, rfl⟩
          have sp : mp.size = m7.size + 1 := by rw [hmp, size_push]
          have op : Old m7 mp := by rw [hmp]; exact .push (.refl m7) _
          have gr : mp.get rb = some (.cells false true (([he, hp, key.getD 2 0, Q] : List Int).map (.int .i64))) := by rw [hmp, hrb, getM_push, if_pos rfl]; rfl
          rw [← hrb, ← hmp]
          have s07 := (o06.trans o67).size
          refine (V.old op).appendQ (by omega) (by omega) rfl (by decide) (by decide +kernel) (by decide +kernel) rfl (by omega) fun m8 b8 s8 v8 k8 hb8 => ?_
          have eps : (ps ++ [(rb, [he, hp, key.getD 2 0, Q])]).length = ps.length + 1 := by simp
          simp (decide := true) (implicitDefEqProofs := false) (maxDischargeDepth := 20) only [go_sem, ↓reduceIte, true_implies, false_implies]
          rw [← eps]
          have g8 : ∀ i, i < m7.size → (∀ y, ao = some y → i ≠ y.block) → m8.get i = m7.get i := fun i hi hne => by rw [k8.2 i (by omega) hne, op.get hi]
          refine hK _ (ps ++ [(rb, [he, hp, key.getD 2 0, Q])]) m8 ?_ ?_ ?_ ?_ ?_
          · rw [eps, List.map_append, List.map_append]
            exact v8
          · refine (O.keep fun p hp => g8 _ (O.lt p hp) (hdis p hp)).snoc ?_ ?_ (by omega) fun p hp => by have := O.lt p hp; omega
            · rw [k8.2 rb (getM_lt gr) fun y hy e => by have := V.lt hy; omega]
              exact gr
            · intro x hx
              simp only [List.mem_cons, List.not_mem_nil, or_false] at hx
              rcases hx with rfl | rfl | rfl | rfl
              · exact bh1
              · exact bh2
              · exact k2
              · exact f2
          · intro p hp y hy
            cases hy
            rcases List.mem_append.1 hp with hp | hp
            · have := O.lt p hp; show p.1 ≠ b8; omega
            · rw [List.mem_singleton.1 hp]; show rb ≠ b8; omega
          · rw [List.map_append, hps, if_pos h0]
            rfl
          · refine .of_get (by have := k8.1; omega) fun i hi => ?_
            rw [g8 i (by omega) (fun y hy e => by have := (V.blk y hy).1; omega), (o06.trans o67).get hi]
        · have d1 : decide (((hn : Nat) : Int) > 0) = false := by simp; omega
          simp (decide := true) (implicitDefEqProofs := false) (maxDischargeDepth := 20) only [go_sem, nilOk, e10, e0, e8, r0, r6, r7, r10, rk, d1, ↓reduceIte, true_implies, false_implies]
          exact hK ao ps m7 V O hdis (by rw [hps, if_neg h0, List.append_nil]) (o06.trans o67)
      generalize hc8 : c_pair_both_rows_8 = c8 at part2
      have hc : c_pair_both_rows_8 = c8 := hc8
      obtain ⟨r0, r1, r2, r5, r6, r7, r10⟩ := fx m6 (.refl m6)
      have rk := kx m6 (.refl m6)
      have s06 := o06.size
      by_cases h0 : 0 < ln
      · have d1 : decide (((ln : Nat) : Int) > 0) = true := by simp; omega
        simp (decide := true) (implicitDefEqProofs := false) (maxDischargeDepth := 20) only [go_sem, nilOk, r0, r1, r2, r5, rk, d1, hc, ↓reduceIte, true_implies, false_implies]
        obtain ⟨rb, hrb⟩ : ∃ b, b = m6.size := ⟨_, rfl⟩
        obtain ⟨mp, hmp⟩ : ∃ mp, mp = m6.push (.cells false true [.int .i64 le, .int .i64 lp, .int .i64 (key.getD 2 0), .int .i64 P]) := ⟨_, rfl⟩
        have sp : mp.size = m6.size + 1 := by rw [hmp, size_push]
        have op : Old m6 mp := by rw [hmp]; exact .push (.refl m6) _
        have gr : mp.get rb = some (.cells false true (([le, lp, key.getD 2 0, P] : List Int).map (.int .i64))) := by rw [hmp, hrb, getM_push, if_pos rfl]; rfl
        rw [← hrb, ← hmp]
        refine (Vec.nil m.size mp 1).appendQ (by omega) (by omega) rfl (by decide) (by decide +kernel) (by decide +kernel) rfl (by omega) fun m8 b8 s8 v8 k8 hb8 => ?_
        simp (decide := true) (implicitDefEqProofs := false) (maxDischargeDepth := 20) only [go_sem, hc, ↓reduceIte, true_implies, false_implies]
        have g8 : ∀ i, i < mp.size → m8.get i = mp.get i := fun i hi => k8.2 i hi fun y hy => by cases hy
        have gr8 := (g8 rb (getM_lt gr)).trans gr
        have s8' := k8.1
        refine part2 m8 (some ⟨b8, 0, s8⟩) [(rb, [le, lp, key.getD 2 0, P])] _ (.of_get (by omega) fun i hi => by rw [g8 i (by omega), op.get hi]) (by simp) v8 ((Own2.nil m.size m8).snoc gr8 ?_ (by omega) fun p hp => by cases hp) (fun p hp y hy => ?_) (by rw [if_pos h0]; rfl)
          (by simp (decide := true) only [go_sem, ↓reduceIte]) (by simp (decide := true) only [go_sem, ↓reduceIte]) (by simp (decide := true) only [go_sem, ↓reduceIte])
        · intro x hx
          simp only [List.mem_cons, List.not_mem_nil, or_false] at hx
          rcases hx with rfl | rfl | rfl | rfl
          · exact bl1
          · exact bl2
          · exact k2
          · exact f1
        · cases hy
          rw [List.mem_singleton.1 hp]
          show rb ≠ b8
          omega
      · have d1 : decide (((ln : Nat) : Int) > 0) = false := by simp; omega
        simp (decide := true) (implicitDefEqProofs := false) (maxDischargeDepth := 20) only [go_sem, nilOk, r0, r1, r2, r5, rk, d1, hc, ↓reduceIte, true_implies, false_implies]
        exact part2 m6 none [] _ (.refl m6) (by simp) (.nil _ _ _) (.nil _ _) (fun p hp => by cases hp) (by rw [if_neg h0]; rfl) (by simp (decide := true) only [go_sem, ↓reduceIte]) (by simp (decide := true) only [go_sem, ↓reduceIte]) (by simp (decide := true) only [go_sem, ↓reduceIte])
    · have e2 : intA Q = .tuple #[.int .i64 0, .bool false] := by unfold intA; exact if_neg f2
      rw [e2]
      simp (decide := true) (implicitDefEqProofs := false) (maxDischargeDepth := 20) only [go_sem, ↓reduceIte, true_implies, false_implies]
      exact hK' (fun h => f2 h.2) m6 o06
  · have e1 : intA P = .tuple #[.int .i64 0, .bool false] := by unfold intA; exact if_neg f1
    rw [e1]
    simp (decide := true) (implicitDefEqProofs := false) (maxDischargeDepth := 20) only [go_sem, r5, ↓reduceIte, true_implies, false_implies]
    refine (i2 m5).mono ?_
    rintro w m6 ⟨rfl, o56⟩
    have o06 := o05.trans o56
    unfold intA
    split
    · simp (decide := true) (implicitDefEqProofs := false) (maxDischargeDepth := 20) only [go_sem, ↓reduceIte, true_implies, false_implies]
      exact hK' (fun h => f1 h.1) m6 o06
    · simp (decide := true) (implicitDefEqProofs := false) (maxDischargeDepth := 20) only [go_sem, ↓reduceIte, true_implies, false_implies]
      exact hK' (fun h => f1 h.1) m6 o06


/-! ### PairG -/

/-- What is told of a pair. -/
def tellO (cur : Option Bo) : List (Option (List Int)) := match cur with
  | none => []
  | some b => if boOk b then (boRows b).map some else [none]
def curOk (cur : Option Bo) : Prop := match cur with
  | none => True
  | some b => boOk b
/-- What is handed over: a row of its own, or nothing. -/
def partEl (outs : List (Option (List Int))) : Nat → List Value → Mem → Set' → Prop := fun k vs m B =>
  (∃ r b, outs[k]? = some (some r) ∧ vs = [.slice (some ⟨b, 0, none⟩) r.length r.length, .bool true] ∧ m.get b = some (.cells false true (r.map (.int .i64))) ∧ (∀ x ∈ r, fitsI x) ∧ ∀ i, B i ↔ i = b) ∨
  (outs[k]? = some none ∧ vs = [.slice none 0 0, .bool false] ∧ ∀ i, ¬ B i)
theorem partEl_loc (outs : List (Option (List Int))) (k : Nat) (vs : List Value) : LocP (partEl outs k vs) := by
  rintro m m' A (⟨r, b, h1, h2, h3, h3', h4⟩ | h) hk hs
  · exact .inl ⟨r, b, h1, h2, (hk _ ((h4 _).2 rfl)).trans h3, h3', h4⟩
  · exact .inr h

/-- One who takes what is told. -/
structure Cons (Z : Nat → Option Blk) (F : Set') (y : Value) (n : Nat) (El : Nat → List Value → Mem → Set' → Prop) (I D : Nat → Mem → Set' → Prop) : Prop where
  lI : ∀ k, LocP (I k)
  lD : ∀ k, LocP (D k)
  step : ∀ k vs m A B, k < n → Frozen Z m → OwnS Z F m A → OwnS Z F m B → (∀ i, A i → ¬ B i) → (∀ i, F i → i < m.size) → I k m A → El k vs m B →
      CallF E y vs m fun w m' => ∃ A', ChgS (fun i => A i ∨ B i) m m' ∧ NewS (fun i => A i ∨ B i) m m' A' ∧ (w = .bool true ∧ I (k + 1) m' A' ∨ w = .bool false ∧ D k m' A')

/-- What a round of telling comes to. -/
def Told (I D : Nat → Mem → Set' → Prop) (bb j : Nat) (cur : Option Bo) (m : Mem) (A : Set') (w : Value) (m' : Mem) : Prop :=
  ∃ A2, ChgS (fun i => A i ∨ i = bb) m m' ∧ NewS A m m' A2 ∧ m'.get bb = some (.cells false true [.pointer none]) ∧
    (w = .bool true ∧ curOk cur ∧ I (j + (tellO cur).length) m' A2 ∨ w = .bool false ∧ ((∃ i, i < (tellO cur).length ∧ D (j + i) m' A2) ∨ ¬ curOk cur ∧ I (j + (tellO cur).length) m' A2))

/-- The pair that is under way, in memory. -/
def CurAt (m : Mem) (bb : Nat) : Option Bo → Prop
  | none => m.get bb = some (.cells false true [.pointer none])
  | some bo => ∃ b ka kc, m.get bb = some (.cells false true [.pointer (some ⟨b, 0, none⟩)]) ∧ b ≠ bb ∧ m.get b = some (.cells false true (bothC (.slice ka 3 kc) bo.lo bo.hi)) ∧ SlA m 1 ka 3 kc (bo.key.map (.int .i64)) ∧ (∀ x ∈ bo.key, fitsI x) ∧ sdBd bo.lo ∧ sdBd bo.hi

set_option maxRecDepth 100000 in
set_option maxHeartbeats 8000000 in
theorem Tell_at {Z : Nat → Option Blk} {F : Set'} {yf : Fn} {ya yc : Array Value} {n : Nat} {I D : Nat → Mem → Set' → Prop} {outs : List (Option (List Int))} (C : Cons Z F (.func yf ya yc) n (partEl outs) I D) (hn : outs.length = n) {m : Mem} {A : Set'} {bb yb j : Nat} {cur : Option Bo}
    (z : Frozen Z m) (o : OwnS Z F m A) (hF : ∀ i, F i → i < m.size) (hI : I j m A) (hbb : ¬ A bb ∧ Z bb = none) (gy : m.get yb = some (.cells false true [.func yf ya yc])) (hyb : ¬ A yb ∧ yb ≠ bb)
    (hat : ∀ i x, (tellO cur)[i]? = some x → outs[j + i]? = some x)
    (hc : CurAt m bb cur) :
    CallQ E F_pair_Parts_1_1 [ptr bb, ptr yb].toArray m (Told I D bb j cur m A) := by
  refine .enter fn_pair_Parts_1_1 (by simp) ?_
  have lyb := getM_lt gy
  cases cur with
  | none =>
    have gb : m.get bb = some (.cells false true [.pointer none]) := hc
    have rb := get_at0 gb
    simp (decide := true) (implicitDefEqProofs := false) (maxDischargeDepth := 20) only [go_sem, rb, ↓reduceIte, true_implies, false_implies]
    exact ⟨A, .refl _ _, fun i hi => ⟨(o i hi).1, .inl hi⟩, gb, .inl ⟨rfl, trivial, hI⟩⟩
  | some bo =>
    obtain ⟨b, ka, kc, gb, hbne, gbo, hk, hkb, hlo, hhi⟩ := hc
    have lbb := getM_lt gb
    have rb := get_at0 gb
    simp (decide := true) (implicitDefEqProofs := false) (maxDischargeDepth := 20) only [go_sem, rb, ↓reduceIte, true_implies, false_implies]
    -- the cell of the pair is emptied, the rows are there
    have base : ∀ m1, Old m m1 → ∃ m2, m2 = m1.put bb (some (.cells false true [.pointer none])) ∧ m2.size = m1.size ∧ (∀ i, i ≠ bb → m2.get i = m1.get i) ∧ m2.get bb = some (.cells false true [.pointer none]) ∧ m2.get yb = some (.cells false true [.func yf ya yc]) ∧ Frozen Z m2 ∧ OwnS Z F m2 A ∧ I j m2 A := fun m1 o1 => by
      have g1 := (o1.get lbb).trans gb
      have u : ∀ i, i ≠ bb → (m1.put bb (some (.cells false true [.pointer none]))).get i = m1.get i := fun i hi => by rw [getM_put, if_neg (fun e => hi e.1)]
      have s1 := o1.size
      refine ⟨_, rfl, size_put _ _ _, u, by rw [getM_put, if_pos ⟨rfl, getM_lt g1⟩], (u yb hyb.2).trans ((o1.get lyb).trans gy), fun i c hi => ?_, fun i hi => ⟨by rw [size_put]; exact Nat.lt_of_lt_of_le (o i hi).1 s1, (o i hi).2⟩, C.lI _ m _ A hI (fun i hi => ?_) (by rw [size_put]; exact s1)⟩
      · rw [u i (fun e => by rw [e, hbb.2] at hi; cases hi), o1.get (z.lt hi)]
        exact z i c hi
      · rw [u i (fun e => hbb.1 (e ▸ hi)), o1.get (o i hi).1]
    refine BRows_at gbo hk hkb hlo hhi (fun hok ao ps m1 V O hdis hps o1 => ?_) (fun hok m1 o1 => ?_)
    · obtain ⟨m2, hm2, s2, u2, gb2, gy2, z2, ow2, hI2⟩ := base m1 o1
      have g1 := (o1.get lbb).trans gb
      have eT : tellO (some bo) = (boRows bo).map some := by unfold tellO; exact if_pos hok
      have hpl : ps.length ≤ 2 := by
        have h1 : ps.length = (boRows bo).length := by rw [← hps, List.length_map]
        rw [h1]
        unfold boRows
        rw [List.length_append]
        split <;> split <;> simp
      have eL : (tellO (some bo)).length = ps.length := by rw [eT, List.length_map, ← hps, List.length_map]
      have hat' : ∀ i (h : i < ps.length), outs[j + i]? = some (some ps[i].2) := fun i h => hat i _ (by rw [eT, ← hps]; simp [h])
      have l1 := getM_lt g1
      have V2 : Vec m.size m2 1 ao ps.length ((ps.map rowH).map HRow.v) := V.keep fun x hx => u2 _ (by have := (V.blk x hx).1; omega)
      have O2 : Own2 m.size m2 ps := O.keep fun p hp => u2 _ (by have := O.lo p hp; omega)
      have rdp : ps.length ≤ 1000000 := by omega
      simp (decide := true) (implicitDefEqProofs := false) (maxDischargeDepth := 20) only [go_sem, g1, l1, ← hm2, ↓reduceIte, true_implies, false_implies]
      simp only [c_pair_Parts_1_1_17_at, wpM_block, c_pair_Parts_1_1_16_at]
      have s1 := o1.size
      refine wpM_loopA (fun q t' m' => ∃ i A', i ≤ ps.length ∧ q = ps.length - i ∧ t' 20 = .int .i64 (i : Nat) ∧ I (j + i) m' A' ∧ ChgS (fun x => A x ∨ x = bb ∨ ∃ p ∈ ps, x = p.1) m m' ∧ NewS A m m' A' ∧ m2.size ≤ m'.size ∧ (∀ x, x < m2.size → ¬ A x → (∀ p ∈ ps.take i, x ≠ p.1) → m'.get x = m2.get x ∧ ¬ A' x)) ps.length
        ⟨0, A, by omega, rfl, by simp (decide := true) only [go_sem, ↓reduceIte]; try rfl, hI2, ⟨by omega, fun x hx hna => by rw [u2 x (fun e => hna (.inr (.inl e))), o1.get hx]⟩, fun x hx => ⟨by have := (o x hx).1; omega, .inl hx⟩, Nat.le_refl _, fun x hx hna _ => ⟨rfl, hna⟩⟩ ?_
      rintro q t' m' ha ⟨i, A', hi, rfl, e20, hIi, cg, nw, sz, fr⟩
      have a1 := ha 1 (by decide +kernel)
      have a18 := ha 18 (by decide +kernel)
      have a19 := ha 19 (by decide +kernel)
      simp (decide := true) only [go_sem, ↓reduceIte] at a1 a18 a19
      have hpn : ∀ p ∈ ps, ¬ A p.1 ∧ p.1 < m2.size := fun p hp => ⟨fun h => by have := (o _ h).1; have := O.lo p hp; omega, by rw [s2]; exact O.lt p hp⟩
      have bbf := fr bb (by omega) hbb.1 fun p hp => by have := O.lo p (List.mem_of_mem_take hp); omega
      have ybf := fr yb (by omega) hyb.1 fun p hp => by have := O.lo p (List.mem_of_mem_take hp); omega
      have csz := cg.size
      by_cases hlt : i < ps.length
      · have d1 : decide ((i : Int) < ((ps.length : Nat) : Int)) = true := by simp; omega
        have w1 : IntKind.wrap .i64 ((i : Int) + 1) = ((i + 1 : Nat) : Int) := by rw [wrap_i64_id _ (by omega) (by omega)]; omega
        have z0 : (0 : Int) ≤ (i : Int) := by omega
        have z1 : (i : Int) < ((ps.length : Nat) : Int) := by omega
        have S : SlA m' 1 ao ps.length ps.length ((ps.map rowH).map HRow.v) := V2.sl.keep fun x hx _ => (fr x.block (V2.lt hx) (fun h => by have := (o _ h).1; have := (V2.blk x hx).1; omega) fun p hp => fun e => hdis p (List.mem_of_mem_take hp) x hx e.symm).1
        obtain ⟨ab, ao', asp, rfl⟩ := S.addr (by omega)
        have r := S.at_map (show i < ps.length by omega)
        have hmem : ps[i] ∈ ps := List.getElem_mem hlt
        have hr : m'.at ab (ao' + i) = some (.slice (some ⟨ps[i].1, 0, none⟩) ps[i].2.length ps[i].2.length) := by rw [r]; simp [rowH, HRow.v]
        have hfi := fr ps[i].1 (hpn _ hmem).2 (hpn _ hmem).1 fun p hp e => by
          obtain ⟨q, hq, hq'⟩ := List.getElem_of_mem hp
          rw [List.length_take] at hq
          rw [List.getElem_take] at hq'
          have := List.pairwise_iff_getElem.1 O.dis q i (by simp; omega) (by simpa using hlt) (by omega)
          apply this
          simp [hq', e]
        have gi : m'.get ps[i].1 = some (.cells false true (ps[i].2.map (.int .i64))) := hfi.1.trans (O2.get _ hmem)
        have zf : Frozen Z m' := z.chg cg fun x hx => by
          rcases hx with hx | hx | ⟨p, hp, rfl⟩
          · exact (o x hx).2.1
          · rw [hx]; exact hbb.2
          · exact z.free (O.lo p hp)
        have ow' : OwnS Z F m' A' := fun x hx => by
          rcases (nw x hx).2 with h | h
          · exact ⟨(nw x hx).1, (o x h).2⟩
          · exact ⟨(nw x hx).1, z.free h, fun f => by have := hF x f; omega⟩
        have ry := get_at0 (ybf.1.trans gy2)
        have hat1 := hat' i hlt
        have hbd := O2.bd _ hmem
        have hlo' := O.lo _ hmem
        have hdisj : ∀ p ∈ ps.take (i + 1), p ∈ ps.take i ∨ p = ps[i] := fun p hp => by
          rw [List.take_succ_eq_append_getElem hlt] at hp
          rcases List.mem_append.1 hp with hp | hp
          · exact .inl hp
          · exact .inr (List.mem_singleton.1 hp)
        have hsub : ∀ p ∈ ps.take i, p ∈ ps.take (i + 1) := fun p hp => by rw [List.take_succ_eq_append_getElem hlt]; exact List.mem_append.2 (.inl hp)
        have hin1 : ps[i] ∈ ps.take (i + 1) := by rw [List.take_succ_eq_append_getElem hlt]; exact List.mem_append.2 (.inr (List.mem_singleton.2 rfl))
        generalize ps[i] = pp at *
        obtain ⟨pb, pr⟩ := pp
        simp only at hr gi hbd hat1 hfi hlo'
        have lpb := getM_lt gi
        simp (decide := true) (implicitDefEqProofs := false) (maxDischargeDepth := 20) only [go_sem, a1, a18, a19, e20, d1, z0, z1, hr, ry, ↓reduceIte, Int.toNat_natCast, true_implies, false_implies]
        refine CallF.step ((C.step (j + i) _ m' A' (fun x => x = pb) (by rw [← hn]; exact (List.getElem?_eq_some_iff.1 hat1).1) zf ow' (fun x hx => by rw [hx]; exact ⟨lpb, z.free hlo', fun f => by have := hF _ f; omega⟩) (fun x hx e => hfi.2 (e ▸ hx)) (fun x hx => by have := hF x hx; omega) hIi (.inl ⟨pr, pb, hat1, rfl, gi, hbd, fun _ => Iff.rfl⟩)).mono ?_)
        rintro w m4 ⟨A3, k1, k2, hw⟩
        have k1s := k1.size
        have cg' : ChgS (fun x => A x ∨ x = bb ∨ ∃ p ∈ ps, x = p.1) m m4 := ⟨by omega, fun x hx hna => by
          rw [k1.get x (by omega) (by
            rintro (h | h)
            · exact (nw x h).2.elim (fun h => hna (.inl h)) fun h => by omega
            · exact hna (.inr (.inr ⟨_, hmem, h⟩))), cg.get x hx hna]⟩
        have nw' : NewS A m m4 A3 := fun x hx => ⟨(k2 x hx).1, by
          rcases (k2 x hx).2 with (h | h) | h
          · exact (nw x h).2
          · exact .inr (by omega)
          · exact .inr (by omega)⟩
        have fr' : ∀ x, x < m2.size → ¬ A x → (∀ p ∈ ps.take (i + 1), x ≠ p.1) → m4.get x = m2.get x ∧ ¬ A3 x := fun x hx hna hp => by
          obtain ⟨h1, h2⟩ := fr x hx hna fun p hp' => hp p (hsub p hp')
          have h3 : x ≠ pb := hp _ hin1
          refine ⟨by rw [k1.get x (by omega) (by rintro (h | h); exact h2 h; exact h3 h), h1], fun h => ?_⟩
          rcases (k2 x h).2 with (h | h) | h
          · exact h2 h
          · exact h3 h
          · omega
        rcases hw with ⟨rfl, hI4⟩ | ⟨rfl, hD⟩
        · simp (decide := true) (implicitDefEqProofs := false) (maxDischargeDepth := 20) only [go_sem, a1, a18, a19, e20, w1, ↓reduceIte, true_implies, false_implies]
          exact ⟨ps.length - (i + 1), by omega, i + 1, A3, by omega, rfl, rfl, by rw [← Nat.add_assoc]; exact hI4, cg', nw', by omega, fr'⟩
        · have bbf' := fr' bb (by omega) hbb.1 fun p hp => by have := O.lo p (List.mem_of_mem_take hp); omega
          simp (decide := true) (implicitDefEqProofs := false) (maxDischargeDepth := 20) only [go_sem, ↓reduceIte, true_implies, false_implies]
          exact ⟨A3, ⟨cg'.size, fun x hx hna => cg'.get x hx (by
            rintro (h | h | ⟨p, hp, rfl⟩)
            · exact hna (.inl h)
            · exact hna (.inr h)
            · have := O.lo p hp; omega)⟩, nw', bbf'.1.trans gb2, .inr ⟨rfl, .inl ⟨i, by rw [eL]; exact hlt, hD⟩⟩⟩
      · have d1 : decide ((i : Int) < ((ps.length : Nat) : Int)) = false := by simp; omega
        have hin : i = ps.length := by omega
        subst hin
        simp (decide := true) (implicitDefEqProofs := false) (maxDischargeDepth := 20) only [go_sem, a1, a18, a19, e20, d1, ↓reduceIte, true_implies, false_implies]
        exact ⟨A', ⟨cg.size, fun x hx hna => cg.get x hx (by
            rintro (h | h | ⟨p, hp, rfl⟩)
            · exact hna (.inl h)
            · exact hna (.inr h)
            · have := O.lo p hp; omega)⟩, nw, bbf.1.trans gb2, .inl ⟨rfl, hok, by rw [eL]; exact hIi⟩⟩
    · obtain ⟨m2, hm2, s2, u2, gb2, gy2, z2, ow2, hI2⟩ := base m1 o1
      have g1 := (o1.get lbb).trans gb
      have l1 := getM_lt g1
      have eT : tellO (some bo) = [none] := by unfold tellO; exact if_neg hok
      have s1 := o1.size
      have ry := get_at0 gy2
      have hat0 := hat 0 none (by rw [eT]; rfl)
      simp (decide := true) (implicitDefEqProofs := false) (maxDischargeDepth := 20) only [go_sem, g1, l1, ← hm2, ry, ↓reduceIte, true_implies, false_implies]
      refine CallF.step ((C.step j _ m2 A none' (by rw [← hn]; exact (List.getElem?_eq_some_iff.1 hat0).1) z2 ow2 (fun x hx => hx.elim) (fun x hx e => e) (fun x hx => by have := hF x hx; omega) hI2 (.inr ⟨hat0, rfl, fun x h => h⟩)).mono ?_)
      rintro w m4 ⟨A3, k1, k2, hw⟩
      have k1s := k1.size
      simp (decide := true) (implicitDefEqProofs := false) (maxDischargeDepth := 20) only [go_sem, ↓reduceIte, true_implies, false_implies]
      refine ⟨A3, ⟨by omega, fun x hx hna => by
          rw [k1.get x (by omega) (by rintro (h | h); exact hna (.inl h); exact h), u2 x (fun e => hna (.inr e)), o1.get hx]⟩, fun x hx => ⟨(k2 x hx).1, ?_⟩, ?_, .inr ⟨rfl, ?_⟩⟩
      · rcases (k2 x hx).2 with (h | h) | h
        · exact .inl h
        · exact h.elim
        · exact .inr (by omega)
      · rw [k1.get bb (by omega) (by rintro (h | h); exact hbb.1 h; exact h)]
        exact gb2
      · rw [eT]
        rcases hw with ⟨-, hI4⟩ | ⟨-, hD⟩
        · exact .inr ⟨hok, hI4⟩
        · exact .inl ⟨0, by simp, hD⟩


/-! ### PairH -/

abbrev ORow := Option (List Int)
structure PSt where
  out : List ORow
  cur : Option Bo
  dead : Bool
def aloneL (r : List Int) : List Int := [r.getD 1 0, r.getD 7 0, r.getD 8 0, r.getD 9 0]
instance (c : Option Bo) : Decidable (curOk c) := match c with
  | none => isTrue trivial
  | some b => inferInstanceAs (Decidable (boOk b))
def tellS (st : PSt) : PSt := ⟨st.out ++ tellO st.cur, none, !decide (curOk st.cur)⟩
def addB (b : Bo) (r : List Int) : Bo := if r.getD 1 0 = b.key.getD 0 0 then ⟨b.key, sdAdd b.lo r, b.hi⟩ else ⟨b.key, b.lo, sdAdd b.hi r⟩
/-- The pair that is left behind. -/
def partA (st : PSt) (r : List Int) : PSt := match st.cur with
  | none => st
  | some b => if b.key = keyL r then st else tellS st
/-- The row itself. -/
def partB (st : PSt) (r : List Int) : PSt :=
  if r.getD 5 0 = 0 then (if (tellS st).dead then tellS st else ⟨(tellS st).out ++ [some (aloneL r)], none, false⟩)
  else ⟨st.out, some (addB (st.cur.getD ⟨keyL r, sd0, sd0⟩) r), false⟩
def stepP (st : PSt) (r : List Int) : PSt := if st.dead then st else if (partA st r).dead then partA st r else partB (partA st r) r
def stP (rs : List (List Int)) : PSt := rs.foldl stepP ⟨[], none, false⟩
def finP (st : PSt) : List ORow := if st.dead then st.out else st.out ++ tellO st.cur
def partsO (rs : List (List Int)) : List ORow := finP (stP rs)

theorem stP_snoc (rs : List (List Int)) (r : List Int) : stP (rs ++ [r]) = stepP (stP rs) r := by unfold stP; rw [List.foldl_append]; rfl
theorem partA_out (st : PSt) (r : List Int) : ∃ t, (partA st r).out = st.out ++ t := by
  unfold partA
  split
  · exact ⟨[], by simp⟩
  · split
    · exact ⟨[], by simp⟩
    · exact ⟨_, rfl⟩
theorem partB_out (st : PSt) (r : List Int) : ∃ t, (partB st r).out = st.out ++ t := by
  unfold partB
  split
  · split
    · exact ⟨_, rfl⟩
    · exact ⟨tellO st.cur ++ [some (aloneL r)], by unfold tellS; simp⟩
  · exact ⟨[], by simp⟩
theorem stepP_out (st : PSt) (r : List Int) : ∃ t, (stepP st r).out = st.out ++ t := by
  unfold stepP
  split
  · exact ⟨[], by simp⟩
  · split
    · exact partA_out st r
    · obtain ⟨t, ht⟩ := partA_out st r
      obtain ⟨t', ht'⟩ := partB_out (partA st r) r
      exact ⟨t ++ t', by rw [ht', ht, List.append_assoc]⟩
theorem foldl_out : ∀ (l : List (List Int)) (st : PSt), ∃ t, (l.foldl stepP st).out = st.out ++ t
  | [], st => ⟨[], by simp⟩
  | r :: l, st => by
    obtain ⟨t, ht⟩ := stepP_out st r
    obtain ⟨t', ht'⟩ := foldl_out l (stepP st r)
    exact ⟨t ++ t', by rw [List.foldl_cons, ht', ht, List.append_assoc]⟩
theorem foldl_dead : ∀ (l : List (List Int)) (st : PSt), st.dead = true → l.foldl stepP st = st
  | [], _, _ => rfl
  | r :: l, st, h => by
    have e : stepP st r = st := by unfold stepP; rw [if_pos h]
    rw [List.foldl_cons, e, foldl_dead l st h]
theorem partsO_grow (rs : List (List Int)) (k : Nat) : ∃ t, partsO rs = (stP (rs.take k)).out ++ t := by
  obtain ⟨t, ht⟩ := foldl_out (rs.drop k) (stP (rs.take k))
  have e : stP rs = (rs.drop k).foldl stepP (stP (rs.take k)) := by unfold stP; rw [← List.foldl_append, List.take_append_drop]
  unfold partsO finP
  split
  · exact ⟨t, by rw [e, ht]⟩
  · exact ⟨t ++ tellO (stP rs).cur, by rw [e, ht, List.append_assoc, ← e]⟩
theorem partsO_dead (rs : List (List Int)) (k : Nat) (h : (stP (rs.take k)).dead = true) : partsO rs = (stP (rs.take k)).out := by
  have e : stP rs = (rs.drop k).foldl stepP (stP (rs.take k)) := by unfold stP; rw [← List.foldl_append, List.take_append_drop]
  rw [foldl_dead _ _ h] at e
  unfold partsO finP
  rw [e, if_pos h]

/-- The sides stay within bounds. -/
def okSd (k : Nat) (s : Sd) : Prop := fitsI s.e ∧ fitsI s.p ∧ (-(9223372036854775808 * k) ≤ s.s ∧ s.s ≤ 9223372036854775808 * k) ∧ s.n ≤ k
theorem okSd.bd {k : Nat} {s : Sd} (h : okSd k s) (hk : k ≤ 1000) : sdBd s := by
  obtain ⟨h1, h2, h3, h4⟩ := h
  exact ⟨h1, h2, by unfold wideI; omega, by omega⟩
theorem okSd.add {k : Nat} {s : Sd} (h : okSd k s) {r : List Int} (hr : ∀ x ∈ r, fitsI x) (hl : r.length = 10) : okSd (k + 1) (sdAdd s r) := by
  obtain ⟨h1, h2, h3, h4⟩ := h
  have g : ∀ i, i < 10 → fitsI (r.getD i 0) := fun i hi => hr _ (by rw [List.getD_eq_getElem?_getD, List.getElem?_eq_getElem (show i < r.length by omega)]; exact List.getElem_mem _)
  have g9 := g 9 (by omega)
  unfold fitsI at g9
  refine ⟨g 1 (by omega), g 7 (by omega), ?_, by show s.n + 1 ≤ k + 1; omega⟩
  show -(9223372036854775808 * ((k + 1 : Nat) : Int)) ≤ s.s + r.getD 9 0 ∧ s.s + r.getD 9 0 ≤ 9223372036854775808 * ((k + 1 : Nat) : Int)
  omega
theorem okSd.mono {k k' : Nat} {s : Sd} (h : okSd k s) (hk : k ≤ k') : okSd k' s := by
  obtain ⟨h1, h2, h3, h4⟩ := h
  exact ⟨h1, h2, by omega, by omega⟩
theorem okSd.zero (k : Nat) : okSd k sd0 := ⟨by unfold fitsI sd0; simp, by unfold fitsI sd0; simp, by simp [sd0]; omega, Nat.zero_le _⟩
theorem keyL_fits {r : List Int} (hr : ∀ x ∈ r, fitsI x) (hl : r.length = 10) : ∀ x ∈ keyL r, fitsI x := by
  have g : ∀ i, i < 10 → fitsI (r.getD i 0) := fun i hi => hr _ (by rw [List.getD_eq_getElem?_getD, List.getElem?_eq_getElem (show i < r.length by omega)]; exact List.getElem_mem _)
  have g1 := g 1 (by omega)
  have g5 := g 5 (by omega)
  have g8 := g 8 (by omega)
  unfold fitsI at *
  intro x hx
  unfold keyL at hx
  split at hx
  · simp only [List.mem_cons, List.not_mem_nil, or_false] at hx
    rcases hx with rfl | rfl | rfl
    · exact g1
    · omega
    · exact g8
  · simp only [List.mem_cons, List.not_mem_nil, or_false] at hx
    rcases hx with rfl | rfl | rfl
    · omega
    · omega
    · exact g8
theorem keyL_len (r : List Int) : (keyL r).length = 3 := by unfold keyL; split <;> rfl

/-- The boxes of a pair that is under way. -/
structure PJ (yb bb tb : Nat) (y : Value) (kk : Nat) (cur : Option Bo) (m : Mem) (A1 A : Set') : Prop where
  gy : m.get yb = some (.cells false true [y])
  gt : m.get tb = some (.cells false true [.func (.func F_pair_Parts_1_1) #[] #[ptr bb, ptr yb]])
  gb : match cur with
    | none => m.get bb = some (.cells false true [.pointer none])
    | some bo => ∃ b ka kc, m.get bb = some (.cells false true [.pointer (some ⟨b, 0, none⟩)]) ∧ b ≠ bb ∧ m.get b = some (.cells false true (bothC (.slice ka 3 kc) bo.lo bo.hi)) ∧ SlA m 1 ka 3 kc (bo.key.map (.int .i64)) ∧ (∀ x ∈ bo.key, fitsI x) ∧ okSd kk bo.lo ∧ okSd kk bo.hi ∧
        (A b ∧ ¬ A1 b ∧ b ≠ yb ∧ b ≠ tb) ∧ ∀ x, ka = some x → A x.block ∧ ¬ A1 x.block ∧ x.block ≠ yb ∧ x.block ≠ tb ∧ x.block ≠ bb ∧ x.block ≠ b
  ay : A yb ∧ ¬ A1 yb
  ab : A bb ∧ ¬ A1 bb
  at_ : A tb ∧ ¬ A1 tb
  sub : ∀ i, A1 i → A i
theorem PJ.loc {yb bb tb : Nat} {y : Value} {kk : Nat} {cur : Option Bo} {m m' : Mem} {A1 A : Set'} (h : PJ yb bb tb y kk cur m A1 A) (hk : ∀ i, A i → m'.get i = m.get i) : PJ yb bb tb y kk cur m' A1 A where
  gy := (hk _ h.ay.1).trans h.gy
  gt := (hk _ h.at_.1).trans h.gt
  gb := by
    have := h.gb
    cases cur with
    | none => exact (hk _ h.ab.1).trans this
    | some bo =>
      obtain ⟨b, ka, kc, h1, h2, h3, h4, h5, h6, h7, h8, h9⟩ := this
      exact ⟨b, ka, kc, (hk _ h.ab.1).trans h1, h2, (hk _ h8.1).trans h3, h4.keep fun x hx _ => hk _ (h9 x hx).1, h5, h6, h7, h8, h9⟩
  ay := h.ay
  ab := h.ab
  at_ := h.at_
  sub := h.sub
theorem PJ.more {yb bb tb : Nat} {y : Value} {kk k' : Nat} {cur : Option Bo} {m : Mem} {A1 A : Set'} (h : PJ yb bb tb y kk cur m A1 A) (hk : kk ≤ k') : PJ yb bb tb y k' cur m A1 A where
  gy := h.gy
  gt := h.gt
  gb := by
    have := h.gb
    cases cur with
    | none => exact this
    | some bo =>
      obtain ⟨b, ka, kc, h1, h2, h3, h4, h5, h6, h7, h8, h9⟩ := this
      exact ⟨b, ka, kc, h1, h2, h3, h4, h5, h6.mono hk, h7.mono hk, h8, h9⟩
  ay := h.ay
  ab := h.ab
  at_ := h.at_
  sub := h.sub

/-- A row that stays is in no block that may go. -/
theorem row_ne {Z : Nat → Option Blk} {r : HRow} (hr : ∀ m, Frozen Z m → r.At m) {m : Mem} (z : Frozen Z m) {b : Nat} (hb : Z b = none) (hx : r.xs ≠ []) : ∀ y, r.ad = some y → y.block ≠ b := fun y hy e => by
  have z' : Frozen Z (m.put b none) := fun i c hi => by
    rw [getM_put, if_neg (fun e => by rw [e.1, hb] at hi; cases hi)]
    exact z i c hi
  obtain ⟨ro, tg, cs, g, _⟩ := ((hr _ z').sl.rows y hy (by simpa using hx)).blk
  rw [e, getM_put] at g
  split at g
  · cases g
  · rename_i h
    have hl : m.get b = none := by
      cases hq : m.get b with
      | none => rfl
      | some c => exact (h ⟨rfl, getM_lt hq⟩).elim
    rw [hl] at g
    cases g

set_option maxRecDepth 100000 in
theorem Parts_at {m : Mem} {sf : Fn} {sa sb : Array Value} : CallQ E F_pair_Parts [.func sf sa sb].toArray m fun w m' => ∃ b1, w = .func (.func F_pair_Parts_1) #[] #[ptr b1] ∧ cap1 m' b1 (.func sf sa sb) ∧ m.size ≤ b1 ∧ Old m m' := by
  refine .enter fn_pair_Parts (by simp) ?_
  simp (decide := true) (implicitDefEqProofs := false) (maxDischargeDepth := 20) only [go_sem, ↓reduceIte, true_implies, false_implies]
  exact ⟨m.size, rfl, by unfold cap1; rw [getM_push, if_pos rfl], Nat.le_refl _⟩

theorem part_boxes (P : Mem → Prop) (m : Mem) (v0 v1 v2 w2 : Value) (h : ∀ m', m'.get m.size = some (.cells false true [v0]) → m'.get (m.size + 1) = some (.cells false true [v1]) → m'.get (m.size + (1 + 1)) = some (.cells false true [w2]) → Old m m' → m'.size = m.size + 3 → P m') :
    P ((((m.push (.cells false true [v0])).push (.cells false true [v1])).push (.cells false true [v2])).put (m.size + (1 + 1)) (some (.cells false true [w2]))) := by
  refine h _ ?_ ?_ ?_ (.of_get (by simp [size_put, size_push]; omega) fun i hi => ?_) (by simp)
  all_goals simp only [getM_put, getM_push, size_put, size_push]
  · rw [if_neg (by omega), if_neg (by omega), if_neg (by omega), if_pos trivial]
  · rw [if_neg (by omega), if_neg (by omega), if_pos trivial]
  · rw [if_pos (by simp <;> omega)]
  · rw [if_neg (by omega), if_neg (by omega), if_neg (by omega), if_neg (by omega)]


/-! ### PairI -/

theorem get_pre {outs a b c : List ORow} (h : outs = a ++ (b ++ c)) {i : Nat} {x : ORow} (hx : b[i]? = some x) : outs[a.length + i]? = some x := by
  have hi := (List.getElem?_eq_some_iff.1 hx).1
  rw [h, List.getElem?_append_right (by omega), Nat.add_sub_cancel_left, List.getElem?_append_left hi]
  exact hx

/-- Behind a round of telling that went well nothing is under way. -/
theorem PJ.told {yb bb tb kk : Nat} {y : Value} {cur : Option Bo} {m m7 : Mem} {A2 Aq A3 : Set'} (J : PJ yb bb tb y kk cur m A2 Aq) (hq : ∀ i, Aq i → i < m.size) (hne : yb ≠ bb ∧ tb ≠ bb) (c : ChgS (fun i => A2 i ∨ i = bb) m m7) (nw : NewS A2 m m7 A3) (gb : m7.get bb = some (.cells false true [.pointer none])) :
    PJ yb bb tb y kk none m7 A3 (fun i => A3 i ∨ i = yb ∨ i = bb ∨ i = tb) ∧ Trs Aq m m7 (fun i => A3 i ∨ i = yb ∨ i = bb ∨ i = tb) := by
  have csz := c.size
  have no : ∀ i, i < m.size → ¬ A2 i → ¬ A3 i := fun i hi h1 h2 => (nw i h2).2.elim h1 fun h => by omega
  have ly := hq _ J.ay.1
  have lb := hq _ J.ab.1
  have lt := hq _ J.at_.1
  refine ⟨⟨(c.get yb ly (by rintro (h | h); exact J.ay.2 h; exact hne.1 h)).trans J.gy, (c.get tb lt (by rintro (h | h); exact J.at_.2 h; exact hne.2 h)).trans J.gt, gb, ⟨.inr (.inl rfl), no _ ly J.ay.2⟩, ⟨.inr (.inr (.inl rfl)), no _ lb J.ab.2⟩, ⟨.inr (.inr (.inr rfl)), no _ lt J.at_.2⟩, fun i hi => .inl hi⟩, ⟨csz, fun i hi hna => c.get i hi ?_⟩, fun i hi => ?_⟩
  · rintro (h | h)
    · exact hna (J.sub i h)
    · exact hna (h ▸ J.ab.1)
  · rcases hi with hi | rfl | rfl | rfl
    · exact ⟨(nw i hi).1, (nw i hi).2.elim (fun h => .inl (J.sub i h)) .inr⟩
    · exact ⟨by omega, .inl J.ay.1⟩
    · exact ⟨by omega, .inl J.ab.1⟩
    · exact ⟨by omega, .inl J.at_.1⟩

def RndQ (AB : Set') (m1 : Mem) (J : Mem → Set' → Prop) (JD : Exit → Mem → Set' → Prop) : Post3 := fun x _ m2 => ∃ A', ChgS AB m1 m2 ∧ NewS AB m1 m2 A' ∧ match x with
  | .normal => J m2 A'
  | x => (x = .ret ∨ ∃ i, x = .exit i) ∧ JD x m2 A'

section body
variable {Z : Nat → Option Blk} {F : Set'} {yf : Fn} {ya yc : Array Value} {I D : Nat → Mem → Set' → Prop} {outs : List ORow} {xss : List (List Int)} {k : Nat} {row : HRow} {yb bb tb l : Nat} {A' B : Set'} {m2 : Mem} {Q : Post3}

set_option maxRecDepth 100000 in
set_option maxHeartbeats 8000000 in
/-- A row is added to the pair that is under way. -/
theorem Parts_third (z2 : Frozen Z m2) (o1 : OwnS Z F m2 A') (o2 : OwnS Z F m2 B) (hrF : ∀ m, Frozen Z m → row.At m) (hn10 : row.n = 10) (hk900 : k ≤ 900) (hne : yb ≠ bb ∧ tb ≠ bb)
    {m8 : Mem} {A2 Aq : Set'} {bo : Bo} {ka : Option Addr} {t : Fr} (hkey : bo.key = keyL row.xs) (J : PJ yb bb tb (.func yf ya yc) k (some bo) m8 A2 Aq) (T : Trs (fun i => A' i ∨ B i) m2 m8 Aq) (S : SlA m8 1 ka 3 3 ((keyL row.xs).map (.int .i64)))
    (t3 : t 3 = ptr bb) (t5 : t 5 = .slice row.ad 10 row.c) (t6 : t 6 = .slice ka 3 3) (hI : ∀ m9, (∀ i, A2 i → m9.get i = m8.get i) → m8.size ≤ m9.size → ∀ t', PJ yb bb tb (.func yf ya yc) (k + 1) (some (addB bo row.xs)) m9 A2 Aq → Trs (fun i => A' i ∨ B i) m2 m9 Aq → Q .normal t' m9) :
    wpM E F_pair_Parts_1 71 (some l) c_pair_Parts_1_10 Q t m8 := by
  have zAB : ∀ i, (A' i ∨ B i) → Z i = none := fun i hi => hi.elim (fun h => (o1 i h).2.1) fun h => (o2 i h).2.1
  have z8 : Frozen Z m8 := z2.chg T.c zAB
  have R := hrF m8 z8
  have hlen : row.xs.length = 10 := by rw [R.len, hn10]
  have hsl : SlA m8 1 row.ad 10 row.c (row.xs.map (.int .i64)) := by have := R.sl; rwa [hn10] at this
  have hbd := R.bd
  obtain ⟨b, ka0, kc0, gb, hbb, gbo, SK, hkf, hlo, hhi, hbA, hkA⟩ := J.gb
  have zq : ∀ i, Aq i → Z i = none := fun i hi => (T.n i hi).2.elim (zAB i) fun h => z2.free h
  have hab : ∀ y, row.ad = some y → y.block ≠ b := row_ne hrF z8 (zq b hbA.1) (by intro e; rw [e] at hlen; simp at hlen)
  obtain ⟨kb, ko, ksp, rfl⟩ := S.addr (by omega)
  have rk : m8.at kb (ko + Int.toNat 0) = some (.int .i64 ((keyL row.xs).getD 0 0)) := by
    have := S.at_map (show 0 < 3 by omega)
    rw [show (keyL row.xs).getD 0 0 = (keyL row.xs)[0]'(by rw [keyL_len]; omega) by simp [List.getD_eq_getElem?_getD, keyL_len]]
    exact this
  have rb := get_at0 gb
  simp (decide := true) (implicitDefEqProofs := false) (maxDischargeDepth := 20) only [go_sem, t3, t5, t6, rk, ↓reduceIte, Int.toNat_natCast, true_implies, false_implies]
  have hslg : SlA (m8.gm [kb]) 1 row.ad 10 row.c (row.xs.map (.int .i64)) := by rw [SlA.gm]; exact hsl
  refine (at_at hslg 1 (by decide)).mono ?_
  rintro w m9 ⟨rfl, o9⟩
  obtain ⟨el, rfl, -⟩ := o9.ugm
  have o9 : Old m8 (m8.ext el) := ⟨el, rfl⟩
  simp (decide := true) (implicitDefEqProofs := false) (maxDischargeDepth := 20) only [go_sem, ↓reduceIte, true_implies, false_implies]
  generalize m8.ext el = m9 at *
  have gb9 := (o9.get (getM_lt gb)).trans gb
  have gbo9 := (o9.get (getM_lt gbo)).trans gbo
  have rb9 := get_at0 gb9
  have s9 := o9.size
  have fin : ∀ (lo' hi' : Sd) (m10 : Mem) (t' : Fr), Upd m9 m10 b → m10.get b = some (.cells false true (bothC (.slice ka0 3 kc0) lo' hi')) → okSd (k + 1) lo' → okSd (k + 1) hi' → addB bo row.xs = ⟨bo.key, lo', hi'⟩ → Q .normal t' m10 := by
    intro lo' hi' m10 t' u10 g10 k1 k2 e
    have s10 := u10.size
    have lq : ∀ i, Aq i → i < m8.size := fun i hi => (T.n i hi).1
    have keep : ∀ i, i < m8.size → i ≠ b → m10.get i = m8.get i := fun i hi h => by rw [u10.get i (by omega) h, o9.get hi]
    refine hI m10 (fun i hi => keep i (lq i (J.sub i hi)) fun e => hbA.2.1 (e ▸ hi)) (by omega) t' ⟨(keep _ (lq _ J.ay.1) hbA.2.2.1.symm).trans J.gy, (keep _ (lq _ J.at_.1) hbA.2.2.2.symm).trans J.gt, ?_, J.ay, J.ab, J.at_, J.sub⟩ ⟨⟨by have := T.c.size; omega, fun i hi hna => ?_⟩, fun i hi => ⟨by have := lq i hi; omega, (T.n i hi).2⟩⟩
    · rw [e]
      exact ⟨b, ka0, kc0, (keep _ (lq _ J.ab.1) hbb.symm).trans gb, hbb, g10, SK.keep fun x hx _ => keep _ (lq _ (hkA x hx).1) (hkA x hx).2.2.2.2.2, hkf, k1, k2, hbA, hkA⟩
    · have tcs := T.c.size
      rw [keep i (by omega) (fun e => (T.n b hbA.1).2.elim (fun h => hna (e ▸ h)) fun h => by omega), T.c.get i hi hna]
  by_cases h1 : row.xs.getD 1 0 = (keyL row.xs).getD 0 0
  · have d1 : (row.xs.getD 1 0 == (keyL row.xs).getD 0 0) = true := by simpa using h1
    simp (decide := true) (implicitDefEqProofs := false) (maxDischargeDepth := 20) only [go_sem, t3, t5, t6, d1, rb9, nilOk, ↓reduceIte, true_implies, false_implies]
    refine SideAddL (q := bo.lo.n) gbo9 (hsl.old o9) hbd (by have := hlo.2.2.2; omega) hab fun m10 u10 g10 => ?_
    simp (decide := true) (implicitDefEqProofs := false) (maxDischargeDepth := 20) only [go_sem, ↓reduceIte, true_implies, false_implies]
    exact fin (sdAdd bo.lo row.xs) bo.hi m10 _ u10 g10 (hlo.add hbd hlen) (hhi.mono (by omega)) (by unfold addB; rw [hkey, if_pos h1])
  · have d1 : (row.xs.getD 1 0 == (keyL row.xs).getD 0 0) = false := by simpa using h1
    simp (decide := true) (implicitDefEqProofs := false) (maxDischargeDepth := 20) only [go_sem, t3, t5, t6, d1, rb9, nilOk, ↓reduceIte, true_implies, false_implies]
    refine SideAddH (q := bo.hi.n) gbo9 (hsl.old o9) hbd (by have := hhi.2.2.2; omega) hab fun m10 u10 g10 => ?_
    simp (decide := true) (implicitDefEqProofs := false) (maxDischargeDepth := 20) only [go_sem, ↓reduceIte, true_implies, false_implies]
    exact fin bo.lo (sdAdd bo.hi row.xs) m10 _ u10 g10 (hlo.mono (by omega)) (hhi.add hbd hlen) (by unfold addB; rw [hkey, if_neg h1])

attribute [-go_sem] c_pair_Parts_1_10_at in
set_option maxRecDepth 100000 in
set_option maxHeartbeats 16000000 in
/-- The row itself. -/
theorem Parts_second {N : Nat} (C : Cons Z F (.func yf ya yc) N (partEl outs) I D) (hn : outs.length = N) (z2 : Frozen Z m2) (o1 : OwnS Z F m2 A') (o2 : OwnS Z F m2 B) (hF : ∀ i, F i → i < m2.size) (hrF : ∀ m, Frozen Z m → row.At m) (hn10 : row.n = 10) (hk900 : k ≤ 900) (hne : yb ≠ bb ∧ tb ≠ bb)
    {m6 : Mem} {A2 Aq : Set'} {sA : PSt} {ka : Option Addr} {t : Fr} (hcur : ∀ bo, sA.cur = some bo → bo.key = keyL row.xs) (J : PJ yb bb tb (.func yf ya yc) k sA.cur m6 A2 Aq) (hI : I sA.out.length m6 A2) (T : Trs (fun i => A' i ∨ B i) m2 m6 Aq) (S : SlA m6 1 ka 3 3 ((keyL row.xs).map (.int .i64)))
    (hka : ∀ x, ka = some x → m2.size ≤ x.block ∧ x.block < m6.size ∧ ¬ A2 x.block ∧ ¬ Aq x.block) (hgrow : ∃ u, outs = (partB sA row.xs).out ++ u) (hdead : (partB sA row.xs).dead = true → outs = (partB sA row.xs).out)
    (t2 : t 2 = ptr yb) (t3 : t 3 = ptr bb) (t4 : t 4 = ptr tb) (t5 : t 5 = .slice row.ad 10 row.c) (t6 : t 6 = .slice ka 3 3)
    (hQ : ∀ t' m' A1 Aq, (partB sA row.xs).dead = false → I (partB sA row.xs).out.length m' A1 → PJ yb bb tb (.func yf ya yc) (k + 1) (partB sA row.xs).cur m' A1 Aq → Trs (fun i => A' i ∨ B i) m2 m' Aq → Q .normal t' m')
    (hR : ∀ t' m' A1 Aq, Trs (fun i => A' i ∨ B i) m2 m' Aq → (∀ i, A1 i → Aq i) → ((∃ j, j < N ∧ D j m' A1) ∨ I N m' A1) → Q .ret t' m') :
    wpM E F_pair_Parts_1 71 (some l) c_pair_Parts_1_12 (blockK 1 Q) t m6 := by
  have zAB : ∀ i, (A' i ∨ B i) → Z i = none := fun i hi => hi.elim (fun h => (o1 i h).2.1) fun h => (o2 i h).2.1
  have nFAB : ∀ i, (A' i ∨ B i) → ¬ F i := fun i hi => hi.elim (fun h => (o1 i h).2.2) fun h => (o2 i h).2.2
  have z6 : Frozen Z m6 := z2.chg T.c zAB
  have hlen : row.xs.length = 10 := by rw [(hrF m6 z6).len, hn10]
  have hsl : ∀ m, Frozen Z m → SlA m 1 row.ad 10 row.c (row.xs.map (.int .i64)) := fun m z => by have := (hrF m z).sl; rwa [hn10] at this
  have hbd := (hrF m6 z6).bd
  have tcs := T.c.size
  have lq : ∀ i, Aq i → i < m6.size := fun i hi => (T.n i hi).1
  have zq : ∀ i, Aq i → Z i = none ∧ ¬ F i := fun i hi => (T.n i hi).2.elim (fun h => ⟨zAB i h, nFAB i h⟩) fun h => ⟨z2.free h, fun f => by have := hF i f; omega⟩
  simp (decide := true) (implicitDefEqProofs := false) (maxDischargeDepth := 20) only [go_sem, t5, ↓reduceIte, true_implies, false_implies]
  refine (at_at (hsl m6 z6) 5 (by decide)).mono ?_
  rintro w m7 ⟨rfl, o67⟩
  have s67 := o67.size
  have J7 := J.loc (m' := m7) fun i hi => o67.get (lq i hi)
  have hI7 := C.lI _ m6 m7 A2 hI (fun i hi => o67.get (lq i (J.sub i hi))) s67
  have T7 : Trs (fun i => A' i ∨ B i) m2 m7 Aq := T.trans ⟨o67.chg _, fun i hi => ⟨by have := lq i hi; omega, .inl hi⟩⟩
  have z7 := z2.chg T7.c zAB
  have lq7 : ∀ i, Aq i → i < m7.size := fun i hi => (T7.n i hi).1
  by_cases h5 : row.xs.getD 5 0 = 0
  · have d5 : (row.xs.getD 5 0 == 0) = true := by simpa using h5
    have rt := get_at0 J7.gt
    have ea : (#[] ++ #[] ++ #[ptr bb, ptr yb] : Array Value) = [ptr bb, ptr yb].toArray := by simp
    simp (decide := true) (implicitDefEqProofs := false) (maxDischargeDepth := 20) only [go_sem, t2, t3, t4, t5, d5, rt, ↓reduceIte, true_implies, false_implies]
    rw [ea]
    have eB : partB sA row.xs = if (tellS sA).dead then tellS sA else ⟨(tellS sA).out ++ [some (aloneL row.xs)], none, false⟩ := by unfold partB; exact if_pos h5
    have eTd : (tellS sA).dead = !decide (curOk sA.cur) := rfl
    have eTo : (tellS sA).out = sA.out ++ tellO sA.cur := rfl
    have hat : ∀ i x, (tellO sA.cur)[i]? = some x → outs[sA.out.length + i]? = some x := fun i x hx => by
      obtain ⟨u, hu⟩ := hgrow
      rw [eB] at hu
      split at hu
      · exact get_pre (a := sA.out) (b := tellO sA.cur) (c := u) (by rw [hu, eTo, List.append_assoc]) hx
      · exact get_pre (a := sA.out) (b := tellO sA.cur) (c := [some (aloneL row.xs)] ++ u) (by rw [hu]; simp only [eTo, List.append_assoc]) hx
    refine (Tell_at C hn z7 (fun i hi => ⟨lq7 i (J.sub i hi), zq i (J.sub i hi)⟩) (fun i hi => by have := hF i hi; omega) hI7 ⟨J.ab.2, (zq _ J.ab.1).1⟩ J7.gy ⟨J.ay.2, hne.1⟩ hat ?_).mono ?_
    · have := J7.gb
      cases hcc : sA.cur with
      | none => rw [hcc] at this; exact this
      | some bo =>
        rw [hcc] at this
        obtain ⟨b, ka, kc, h1, h2, h3, h4, h5, h6, h7, h8, h9⟩ := this
        exact ⟨b, ka, kc, h1, h2, h3, h4, h5, h6.bd (by omega), h7.bd (by omega)⟩
    rintro w m8 ⟨A3, c8, nw8, gb8, hw⟩
    obtain ⟨J8, T78⟩ := J7.told lq7 hne c8 nw8 gb8
    have T8 := T7.trans T78
    have z8 := z2.chg T8.c zAB
    have s78 := c8.size
    have zq8 : ∀ i, A3 i → i < m8.size ∧ Z i = none ∧ ¬ F i := fun i hi => ⟨(nw8 i hi).1, (nw8 i hi).2.elim (fun h => zq i (J.sub i h)) fun h => ⟨z2.free (by omega), fun f => by have := hF i f; omega⟩⟩
    rcases hw with ⟨rfl, hok, hI8⟩ | ⟨rfl, hD⟩
    · have eB' : partB sA row.xs = ⟨(tellS sA).out ++ [some (aloneL row.xs)], none, false⟩ := by rw [eB, eTd]; simp [hok]
      have ry := get_at0 J8.gy
      have ly8 := getM_lt J8.gy
      simp (decide := true) (implicitDefEqProofs := false) (maxDischargeDepth := 20) only [go_sem, t2, t3, t4, t5, ry, ↓reduceIte, true_implies, false_implies]
      have hslg : ∀ m', Frozen Z m' → SlA (m'.gm [yb]) 1 row.ad 10 row.c (row.xs.map (.int .i64)) := fun m' z => by rw [SlA.gm]; exact hsl m' z
      refine (at_at (hslg m8 z8) 1 (by decide)).mono ?_
      rintro w m9 ⟨rfl, o9⟩
      obtain ⟨el, rfl, -⟩ := o9.ugm
      have o9 : Old m8 (m8.ext el) := ⟨el, rfl⟩
      simp (decide := true) (implicitDefEqProofs := false) (maxDischargeDepth := 20) only [go_sem, t5, ↓reduceIte, true_implies, false_implies]
      generalize m8.ext el = m9 at *
      refine (at_at (hslg m9 (z8.old o9)) 7 (by decide)).mono ?_
      rintro w m10 ⟨rfl, o10⟩
      obtain ⟨el, rfl, -⟩ := o10.ugm
      have o10 : Old m9 (m9.ext el) := ⟨el, rfl⟩
      simp (decide := true) (implicitDefEqProofs := false) (maxDischargeDepth := 20) only [go_sem, t5, ↓reduceIte, true_implies, false_implies]
      generalize m9.ext el = m10 at *
      have o810 := o9.trans o10
      refine (at_at (hslg m10 (z8.old o810)) 8 (by decide)).mono ?_
      rintro w m11 ⟨rfl, o11⟩
      obtain ⟨el, rfl, -⟩ := o11.ugm
      have o11 : Old m10 (m10.ext el) := ⟨el, rfl⟩
      simp (decide := true) (implicitDefEqProofs := false) (maxDischargeDepth := 20) only [go_sem, t5, ↓reduceIte, true_implies, false_implies]
      generalize m10.ext el = m11 at *
      have o811 := o810.trans o11
      refine (at_at (hslg m11 (z8.old o811)) 9 (by decide)).mono ?_
      rintro w m12 ⟨rfl, o12⟩
      obtain ⟨el, rfl, -⟩ := o12.ugm
      have o12 : Old m11 (m11.ext el) := ⟨el, rfl⟩
      simp (decide := true) (implicitDefEqProofs := false) (maxDischargeDepth := 20) only [go_sem, t5, ↓reduceIte, true_implies, false_implies]
      have q1 : m11.size + el.length = (m11.ext el).size := (size_ext _ _).symm
      rw [q1]
      clear q1
      generalize m11.ext el = m12 at *
      have o812 := o811.trans o12
      obtain ⟨rb, hrb⟩ : ∃ b, b = m12.size := ⟨_, rfl⟩
      obtain ⟨mp, hmp⟩ : ∃ mp, mp = m12.push (.cells false true [.int .i64 (row.xs.getD 1 0), .int .i64 (row.xs.getD 7 0), .int .i64 (row.xs.getD 8 0), .int .i64 (row.xs.getD 9 0)]) := ⟨_, rfl⟩
      have op : Old m8 mp := by rw [hmp]; exact o812.push _
      have gr : mp.get rb = some (.cells false true ((aloneL row.xs).map (.int .i64))) := by rw [hmp, hrb, getM_push, if_pos rfl]; rfl
      rw [← hrb, ← hmp]
      have sp : mp.size = m12.size + 1 := by rw [hmp, size_push]
      have s812 := o812.size
      have hatA : outs[sA.out.length + (tellO sA.cur).length]? = some (some (aloneL row.xs)) := by
        obtain ⟨u, hu⟩ := hgrow
        rw [eB'] at hu
        have := get_pre (outs := outs) (a := sA.out ++ tellO sA.cur) (b := [some (aloneL row.xs)]) (c := u) (i := 0) (x := some (aloneL row.xs)) (by rw [hu]; simp only [eTo, List.append_assoc]) rfl
        rw [List.length_append] at this
        exact this
      have g : ∀ i, i < 10 → fitsI (row.xs.getD i 0) := fun i hi => hbd _ (by rw [List.getD_eq_getElem?_getD, List.getElem?_eq_getElem (show i < row.xs.length by omega)]; exact List.getElem_mem _)
      have zp := z8.old op
      refine CallF.step ((C.step _ _ mp A3 (fun x => x = rb) (by rw [← hn]; exact (List.getElem?_eq_some_iff.1 hatA).1) zp (fun i hi => ⟨by have := (zq8 i hi).1; omega, (zq8 i hi).2⟩) (fun x hx => by rw [hx]; exact ⟨by omega, z8.free (by omega), fun f => by have := hF _ f; omega⟩) (fun x hx e => by have := (zq8 x hx).1; omega) (fun x hx => by have := hF x hx; omega) (C.lI _ m8 mp A3 hI8 (fun i hi => op.get (zq8 i hi).1) op.size) (.inl ⟨aloneL row.xs, rb, hatA, rfl, gr, ?_, fun _ => Iff.rfl⟩)).mono ?_)
      · intro x hx
        simp only [aloneL, List.mem_cons, List.not_mem_nil, or_false] at hx
        rcases hx with rfl | rfl | rfl | rfl
        · exact g 1 (by omega)
        · exact g 7 (by omega)
        · exact g 8 (by omega)
        · exact g 9 (by omega)
      rintro w m13 ⟨A4, c13, n13, hw⟩
      have c13s := c13.size
      have lo8 : ∀ i, i < m8.size → ¬ A3 i → m13.get i = m8.get i := fun i hi h => by rw [c13.get i (by omega) (by rintro (h' | h'); exact h h'; omega), op.get hi]
      have no8 : ∀ i, i < m8.size → ¬ A3 i → ¬ A4 i := fun i hi h h' => by
        rcases (n13 i h').2 with (e | e) | e
        · exact h e
        · omega
        · omega
      have T13 : Trs (fun i => A3 i ∨ i = yb ∨ i = bb ∨ i = tb) m8 m13 (fun i => A4 i ∨ i = yb ∨ i = bb ∨ i = tb) := ⟨⟨by omega, fun i hi hna => lo8 i hi fun h => hna (.inl h)⟩, fun i hi => by
        rcases hi with hi | hi
        · refine ⟨(n13 i hi).1, ?_⟩
          rcases (n13 i hi).2 with (e | e) | e
          · exact .inl (.inl e)
          · exact .inr (by omega)
          · exact .inr (by omega)
        · exact ⟨by have := (T78.n i (.inr hi)).1; omega, .inl (.inr hi)⟩⟩
      have T' := T8.trans T13
      have lb8 := getM_lt J8.gb
      have lt8 := getM_lt J8.gt
      rcases hw with ⟨rfl, hI13⟩ | ⟨rfl, hD⟩
      · simp (decide := true) (implicitDefEqProofs := false) (maxDischargeDepth := 20) only [go_sem, ↓reduceIte, true_implies, false_implies]
        refine hQ _ m13 A4 _ (by rw [eB']) (by rw [eB']; simp only [eTo, List.length_append, List.length_singleton]; exact hI13) ?_ T'
        rw [eB']
        exact ⟨(lo8 _ ly8 J8.ay.2).trans J8.gy, (lo8 _ lt8 J8.at_.2).trans J8.gt, (lo8 _ lb8 J8.ab.2).trans J8.gb, ⟨.inr (.inl rfl), no8 _ ly8 J8.ay.2⟩, ⟨.inr (.inr (.inl rfl)), no8 _ lb8 J8.ab.2⟩, ⟨.inr (.inr (.inr rfl)), no8 _ lt8 J8.at_.2⟩, fun i hi => .inl hi⟩
      · simp (decide := true) (implicitDefEqProofs := false) (maxDischargeDepth := 20) only [go_sem, ↓reduceIte, true_implies, false_implies]
        exact hR _ m13 A4 _ T' (fun i hi => .inl hi) (.inl ⟨_, by rw [← hn]; exact (List.getElem?_eq_some_iff.1 hatA).1, hD⟩)
    · simp (decide := true) (implicitDefEqProofs := false) (maxDischargeDepth := 20) only [go_sem, ↓reduceIte, true_implies, false_implies]
      refine hR _ m8 A3 _ T8 (fun i hi => .inl hi) ?_
      rcases hD with ⟨i, hi, hD⟩ | ⟨hok, hI8⟩
      · refine .inl ⟨_, ?_, hD⟩
        rw [← hn]
        exact (List.getElem?_eq_some_iff.1 (hat i _ (List.getElem?_eq_getElem hi))).1
      · have eB' : partB sA row.xs = tellS sA := by rw [eB, eTd]; simp [hok]
        have := hdead (by rw [eB', eTd]; simp [hok])
        rw [eB', eTo] at this
        refine .inr ?_
        rw [← hn, this, List.length_append]
        exact hI8
  · have d5 : (row.xs.getD 5 0 == 0) = false := by simpa using h5
    have eB : partB sA row.xs = ⟨sA.out, some (addB (sA.cur.getD ⟨keyL row.xs, sd0, sd0⟩) row.xs), false⟩ := by unfold partB; exact if_neg h5
    have S7 := S.old o67
    cases hcc : sA.cur with
    | some bo =>
      rw [hcc] at J7 eB
      obtain ⟨b, ka0, kc0, gb, -⟩ := J7.gb
      have rb := get_at0 gb
      simp (decide := true) (implicitDefEqProofs := false) (maxDischargeDepth := 20) only [go_sem, t2, t3, t4, t5, d5, rb, ↓reduceIte, true_implies, false_implies]
      refine Parts_third z2 o1 o2 hrF hn10 hk900 hne (hcur bo hcc) J7 T7 S7 (by simp (decide := true) only [go_sem, t3, ↓reduceIte]) (by simp (decide := true) only [go_sem, t5, ↓reduceIte]) (by simp (decide := true) only [go_sem, t6, ↓reduceIte]) fun m9 hg hs t' J9 T9 => ?_
      show Q .normal t' m9
      refine hQ t' m9 A2 Aq (by rw [eB]) ?_ (by rw [eB]; exact J9) T9
      rw [eB]
      exact C.lI _ m7 m9 A2 hI7 hg hs
    | none =>
      rw [hcc] at J7 eB
      have gb : m7.get bb = some (.cells false true [.pointer none]) := J7.gb
      have rb := get_at0 gb
      have lb := getM_lt gb
      have nb : ¬ bb = m7.size := by omega
      simp (decide := true) (implicitDefEqProofs := false) (maxDischargeDepth := 20) only [go_sem, t2, t3, t4, t5, t6, d5, rb, gb, lb, nb, ↓reduceIte, true_implies, false_implies]
      obtain ⟨m8, hm8⟩ : ∃ m8, m8 = (m7.push (.cells false true (bothC (.slice ka 3 3) sd0 sd0))).put bb (some (.cells false true [.pointer (some ⟨m7.size, 0, none⟩)])) := ⟨_, rfl⟩
      have hm8' := hm8
      have ez : bothC (.slice ka 3 3) sd0 sd0 = [.slice ka 3 3, .int .i64 0, .int .i64 0, .int .i64 0, .int .u64 0, .int .i64 0, .int .i64 0, .int .i64 0, .int .i64 0, .int .u64 0, .int .i64 0] := rfl
      rw [ez] at hm8'
      rw [← hm8']
      have s8 : m8.size = m7.size + 1 := by rw [hm8, size_put, size_push]
      have g8 : ∀ i, i < m7.size → i ≠ bb → m8.get i = m7.get i := fun i hi h => by rw [hm8, getM_put, if_neg (fun e => h e.1), getM_push, if_neg (by omega)]
      have gb8 : m8.get bb = some (.cells false true [.pointer (some ⟨m7.size, 0, none⟩)]) := by rw [hm8, getM_put, if_pos ⟨rfl, by rw [size_push]; omega⟩]
      have gn8 : m8.get m7.size = some (.cells false true (bothC (.slice ka 3 3) sd0 sd0)) := by rw [hm8, getM_put, if_neg (fun e => by omega), getM_push, if_pos rfl]
      have lA2 : ∀ i, A2 i → i < m7.size := fun i hi => lq7 i (J.sub i hi)
      have t7cs := T7.c.size
      have J8 : PJ yb bb tb (.func yf ya yc) k (some ⟨keyL row.xs, sd0, sd0⟩) m8 A2 (fun i => Aq i ∨ i = m7.size ∨ ∃ x, ka = some x ∧ i = x.block) := by
        refine ⟨(g8 _ (lq7 _ J.ay.1) hne.1).trans J7.gy, (g8 _ (lq7 _ J.at_.1) hne.2).trans J7.gt, ⟨m7.size, ka, 3, gb8, by omega, gn8, S7.keep fun x hx _ => ?_, keyL_fits hbd hlen, .zero k, .zero k, ⟨.inr (.inl rfl), fun h => by have := lA2 _ h; omega, by have := lq7 _ J.ay.1; omega, by have := lq7 _ J.at_.1; omega⟩, fun x hx => ?_⟩, ⟨.inl J.ay.1, J.ay.2⟩, ⟨.inl J.ab.1, J.ab.2⟩, ⟨.inl J.at_.1, J.at_.2⟩, fun i hi => .inl (J.sub i hi)⟩
        · have := hka x hx
          exact g8 _ (by omega) (fun e => this.2.2.2 (e ▸ J.ab.1))
        · have h := hka x hx
          exact ⟨.inr (.inr ⟨x, hx, rfl⟩), h.2.2.1, fun e => h.2.2.2 (e ▸ J.ay.1), fun e => h.2.2.2 (e ▸ J.at_.1), fun e => h.2.2.2 (e ▸ J.ab.1), by omega⟩
      have T8 : Trs (fun i => A' i ∨ B i) m2 m8 (fun i => Aq i ∨ i = m7.size ∨ ∃ x, ka = some x ∧ i = x.block) := ⟨⟨by omega, fun i hi hna => by
          rw [g8 i (by omega) (fun e => (T7.n bb J.ab.1).2.elim (fun h => hna (e ▸ h)) fun h => by omega), T7.c.get i hi hna]⟩, fun i hi => by
        rcases hi with hi | rfl | ⟨x, hx, rfl⟩
        · exact ⟨by have := lq7 i hi; omega, (T7.n i hi).2⟩
        · exact ⟨by omega, .inr (by omega)⟩
        · have h := hka x hx
          exact ⟨by omega, .inr h.1⟩⟩
      have S8 : SlA m8 1 ka 3 3 ((keyL row.xs).map (.int .i64)) := S7.keep fun x hx _ => by
        have := hka x hx
        exact g8 _ (by omega) (fun e => this.2.2.2 (e ▸ J.ab.1))
      refine Parts_third z2 o1 o2 hrF hn10 hk900 hne rfl J8 T8 S8 (by simp (decide := true) only [go_sem, t3, ↓reduceIte]) (by simp (decide := true) only [go_sem, t5, ↓reduceIte]) (by simp (decide := true) only [go_sem, t6, ↓reduceIte]) fun m9 hg hs t' J9 T9 => ?_
      show Q .normal t' m9
      refine hQ t' m9 A2 _ (by rw [eB]) ?_ (by rw [eB]; exact J9) T9
      rw [eB]
      exact C.lI _ m7 m9 A2 hI7 (fun i hi => by rw [hg i hi, g8 i (lA2 i hi) fun e => J.ab.2 (e ▸ hi)]) (by omega)
end body


/-! ### PairJ -/

attribute [-go_sem] c_pair_Parts_1_12_at in
set_option maxRecDepth 100000 in
set_option maxHeartbeats 16000000 in
theorem PartsI {Z : Nat → Option Blk} {F : Set'} {s : Value} {n : Nat} {rs : List HRow} (hs : Iter E Z F s n anyO (pureEl (rowsEl rs))) (hr : ∀ m, Frozen Z m → ∀ k, (rs.getD k noRow).At m) (hl : rs.length = n) (h10 : ∀ r ∈ rs, r.n = 10) (hn900 : n ≤ 900) {b1 : Nat} {r1 t1 : Bool} (h1 : Z b1 = some (.cells r1 t1 [s])) :
    Iter E Z F (.func (.func F_pair_Parts_1) #[] #[ptr b1]) (partsO (rs.map HRow.xs)).length anyO (partEl (partsO (rs.map HRow.xs))) where
  fn := ⟨_, _, _, rfl⟩
  locO := fun _ _ _ _ _ => trivial
  locE := partEl_loc _
  go := by
    intro y hy I D lI lD step m A z o hF own0 i0
    obtain ⟨yf, ya, yc, rfl⟩ := hy
    obtain ⟨xss, hxss⟩ : ∃ x, x = rs.map HRow.xs := ⟨_, rfl⟩
    rw [← hxss] at step ⊢
    have hxl : xss.length = n := by rw [hxss, List.length_map, hl]
    obtain ⟨outs, houts⟩ : ∃ x, x = partsO xss := ⟨_, rfl⟩
    rw [← houts] at step ⊢
    obtain ⟨N, hN⟩ : ∃ x, x = outs.length := ⟨_, rfl⟩
    rw [← hN] at step ⊢
    have C : Cons Z F (.func yf ya yc) N (partEl outs) I D := ⟨lI, lD, fun k vs m A B h1 h2 h3 h4 h5 h6 h7 h8 => step k vs m A B h1 h2 h3 h4 h5 h6 trivial h7 h8⟩
    clear step
    rw [CallF_func]
    refine ⟨by simp only [go_sem], ?_⟩
    have e : (#[] ++ [Value.func yf ya yc].toArray ++ #[ptr b1] : Array Value) = [Value.func yf ya yc, ptr b1].toArray := by simp
    rw [e]
    refine .enter fn_pair_Parts_1 (by simp) ?_
    have r1 := frozen_at z h1
    have lb1 := z.lt h1
    have n1 : ¬ b1 = m.size := by omega
    have n2 : ¬ b1 = m.size + 1 := by omega
    have n3 : ¬ b1 = m.size + (1 + 1) := by omega
    simp (decide := true) (implicitDefEqProofs := false) (maxDischargeDepth := 20) only [go_sem, r1, n1, n2, n3, ↓reduceIte, true_implies, false_implies]
    refine part_boxes (fun mm => wpM E _ _ _ _ _ _ mm) m _ _ _ _ fun m1 q0 q1 q2 ho hs1 => ?_
    obtain ⟨yb, hyb⟩ : ∃ b, b = m.size := ⟨_, rfl⟩
    obtain ⟨bb, hbb⟩ : ∃ b, b = m.size + 1 := ⟨_, rfl⟩
    obtain ⟨tb, htb⟩ : ∃ b, b = m.size + (1 + 1) := ⟨_, rfl⟩
    rw [← htb] at q2 ⊢
    rw [← hbb] at q1 q2 ⊢
    rw [← hyb] at q0 q2 ⊢
    simp only [c_pair_Parts_1_17_at, wpM_block, c_pair_Parts_1_16_at]
    have hZF : ∀ i, m.size ≤ i → Z i = none ∧ ¬ F i := fun i hi => ⟨z.free hi, fun f => by have := (hF i f).1; omega⟩
    have hne : yb ≠ bb ∧ tb ≠ bb := by omega
    have ea : (#[] ++ #[] ++ #[ptr bb, ptr yb] : Array Value) = [ptr bb, ptr yb].toArray := by simp
    refine wpM_rangeP (A := fun i => A i ∨ i = yb ∨ i = bb ∨ i = tb) hs (fun t => upd t 5 (t 9)) (by simp (decide := true) only [go_sem, ↓reduceIte]) rfl asg_pair_Parts_1_0 body_pair_Parts_1_0 (by decide) (fun K l t m h => by simp (decide := true) only [go_sem, ↓reduceIte]; exact h)
      (fun k m A => ∃ A1, (stP (xss.take k)).dead = false ∧ I (stP (xss.take k)).out.length m A1 ∧ PJ yb bb tb (.func yf ya yc) k (stP (xss.take k)).cur m A1 A)
      (fun k x m A => x = .ret ∧ ∃ A1, (∀ i, A1 i → A i) ∧ ((∃ j, j < N ∧ D j m A1) ∨ I N m A1))
      (fun k m1 m2 A' ⟨A1, h0, h1, h2⟩ hk hs => ⟨A1, h0, lI _ m1 m2 A1 h1 (fun i hi => hk i (h2.sub i hi)) hs, h2.loc hk⟩) (fun k x m1 m2 A' ⟨h1, A1, h2, h3⟩ hk hs => ⟨h1, A1, h2, h3.imp (fun ⟨j, hj, h⟩ => ⟨j, hj, lD _ m1 m2 A1 h (fun i hi => hk i (h2 i hi)) hs⟩) fun h => lI _ m1 m2 A1 h (fun i hi => hk i (h2 i hi)) hs⟩)
      (z.old ho) (fun i hi => ?_) (fun i hi => ⟨by have := (hF i hi).1; omega, (hF i hi).2⟩) trivial ⟨A, rfl, lI 0 m _ A i0 (fun i hi => ho.get (o i hi).1) ho.size, ?_⟩ ?_ ?_ ?_
    · rcases hi with hi | hi
      · exact ⟨Nat.lt_of_lt_of_le (o i hi).1 ho.size, (o i hi).2⟩
      · exact ⟨by omega, hZF i (by omega)⟩
    · have na : ∀ i, m.size ≤ i → ¬ A i := fun i hi h => by have := (o i h).1; omega
      exact ⟨q0, q2, q1, ⟨.inr (.inl rfl), na _ (by omega)⟩, ⟨.inr (.inr (.inl rfl)), na _ (by omega)⟩, ⟨.inr (.inr (.inr rfl)), na _ (by omega)⟩, fun i hi => .inl hi⟩
    · rintro k vs m2 A' B l hk z1 o1 o2 dis - ⟨A1, hdd, hI, J⟩ hel hin hms
      subst hel
      refine ⟨rfl, ?_⟩
      have hrF : ∀ m', Frozen Z m' → (rs.getD k noRow).At m' := fun m' z => hr m' z k
      have hel : rowsEl rs k = [(rs.getD k noRow).v] := rfl
      have hkm : rs.getD k noRow = rs[k]'(by omega) := by simp [List.getD_eq_getElem?_getD, show k < rs.length by omega]
      have hn10 : (rs.getD k noRow).n = 10 := by rw [hkm]; exact h10 _ (List.getElem_mem _)
      have st1 : stP (xss.take (k + 1)) = stepP (stP (xss.take k)) (rs.getD k noRow).xs := by
        rw [List.take_succ_eq_append_getElem (by omega), stP_snoc]
        congr 1
        simp only [hxss, List.getElem_map, hkm]
      obtain ⟨g1, hg1⟩ := partsO_grow xss (k + 1)
      have gd1 := partsO_dead xss (k + 1)
      rw [← houts] at hg1 gd1
      obtain ⟨st, hst⟩ : ∃ x, x = stP (xss.take k) := ⟨_, rfl⟩
      obtain ⟨st', hst'⟩ : ∃ x, x = stP (xss.take (k + 1)) := ⟨_, rfl⟩
      rw [← hst'] at hg1 gd1 st1 ⊢
      rw [← hst] at hdd hI J st1
      rw [hel]
      have hrv : (rs.getD k noRow).v = .slice (rs.getD k noRow).ad (rs.getD k noRow).n (rs.getD k noRow).c := rfl
      rw [hrv, hn10]
      generalize rs.getD k noRow = row at *
      have hlt : ∀ i, A' i → i < m2.size := fun i hi => (o1 i hi).1
      have hF2 : ∀ i, F i → i < m2.size := fun i hi => by have := (hF i hi).1; omega
      have eS : stepP st row.xs = if (partA st row.xs).dead then partA st row.xs else partB (partA st row.xs) row.xs := by unfold stepP; rw [if_neg (by rw [hdd]; exact Bool.noConfusion)]
      have zAB : ∀ i, (A' i ∨ B i) → Z i = none := fun i hi => hi.elim (fun h => (o1 i h).2.1) fun h => (o2 i h).2.1
      have hsl : ∀ m, Frozen Z m → SlA m 1 row.ad 10 row.c (row.xs.map (.int .i64)) := fun m z => by have := (hrF m z).sl; rwa [hn10] at this
      obtain ⟨Q, hQ⟩ : ∃ Q, Q = RndQ (fun i => A' i ∨ B i) m2 (fun m A => ∃ A1, st'.dead = false ∧ I st'.out.length m A1 ∧ PJ yb bb tb (.func yf ya yc) (k + 1) st'.cur m A1 A) (fun x m A => x = .ret ∧ ∃ A1, (∀ i, A1 i → A i) ∧ ((∃ j, j < N ∧ D j m A1) ∨ I N m A1)) := ⟨_, rfl⟩
      show wpM E _ _ _ _ (RndQ (fun i => A' i ∨ B i) m2 (fun m A => ∃ A1, st'.dead = false ∧ I st'.out.length m A1 ∧ PJ yb bb tb (.func yf ya yc) (k + 1) st'.cur m A1 A) (fun x m A => x = .ret ∧ ∃ A1, (∀ i, A1 i → A i) ∧ ((∃ j, j < N ∧ D j m A1) ∨ I N m A1))) _ _
      rw [← hQ]
      have qN : ∀ t' m' A1 Aq, st'.dead = false → I st'.out.length m' A1 → PJ yb bb tb (.func yf ya yc) (k + 1) st'.cur m' A1 Aq → Trs (fun i => A' i ∨ B i) m2 m' Aq → Q .normal t' m' := fun t' m' A1 Aq h1 h2 h3 T => by rw [hQ]; exact ⟨Aq, T.c, T.n, A1, h1, h2, h3⟩
      have qR : ∀ t' m' A1 Aq, Trs (fun i => A' i ∨ B i) m2 m' Aq → (∀ i, A1 i → Aq i) → ((∃ j, j < N ∧ D j m' A1) ∨ I N m' A1) → Q .ret t' m' := fun t' m' A1 Aq T h1 h2 => by rw [hQ]; exact ⟨Aq, T.c, T.n, .inl rfl, rfl, A1, h1, h2⟩
      clear hQ
      -- what is left once the pair behind is told
      have second : ∀ (m6 : Mem) (A2 Aq : Set') (ka : Option Addr) (t : Fr), (partA st row.xs).dead = false → (∀ bo, (partA st row.xs).cur = some bo → bo.key = keyL row.xs) → PJ yb bb tb (.func yf ya yc) k (partA st row.xs).cur m6 A2 Aq → I (partA st row.xs).out.length m6 A2 → Trs (fun i => A' i ∨ B i) m2 m6 Aq → SlA m6 1 ka 3 3 ((keyL row.xs).map (.int .i64)) →
          (∀ x, ka = some x → m2.size ≤ x.block ∧ x.block < m6.size ∧ ¬ A2 x.block ∧ ¬ Aq x.block) → t 2 = ptr yb → t 3 = ptr bb → t 4 = ptr tb → t 5 = .slice row.ad 10 row.c → t 6 = .slice ka 3 3 → wpM E F_pair_Parts_1 71 (some l) c_pair_Parts_1_12 (blockK 1 Q) t m6 := by
        intro m6 A2 Aq ka t hd hcur J6 hI6 T S hka e2 e3 e4 e5 e6
        have eB : st' = partB (partA st row.xs) row.xs := by rw [st1, eS, hd]; rfl
        exact Parts_second C hN.symm z1 o1 o2 hF2 hrF hn10 (by omega) hne hcur J6 hI6 T S hka ⟨g1, by rw [← eB]; exact hg1⟩ (fun h => by rw [← eB] at h ⊢; exact gd1 h) e2 e3 e4 e5 e6 (fun t' m' A1 Aq h1 h2 h3 T => by rw [← eB] at h1 h2 h3; exact qN t' m' A1 Aq h1 h2 h3 T) qR
      simp (decide := true) (implicitDefEqProofs := false) (maxDischargeDepth := 20) only [go_sem, ↓reduceIte, true_implies, false_implies]
      refine (Key_at (hsl m2 z1)).mono ?_
      rintro w m3 ⟨ka, rfl, V, o3⟩
      have J3 := J.loc (m' := m3) fun i hi => o3.get (hlt i hi)
      have hI3 := lI _ m2 m3 A1 hI (fun i hi => o3.get (hlt i (J.sub i hi))) o3.size
      have s3 := o3.size
      have lA1 : ∀ i, A1 i → i < m2.size := fun i hi => hlt i (J.sub i hi)
      have hkx : ∀ x, ka = some x → m2.size ≤ x.block ∧ x.block < m3.size := fun x hx => ⟨(V.blk x hx).1, V.lt hx⟩
      cases hcc : st.cur with
      | none =>
        have eA : partA st row.xs = st := by unfold partA; rw [hcc]
        rw [eA] at second
        rw [hcc] at J3 second
        have rb := get_at0 (show m3.get bb = some (.cells false true [.pointer none]) from J3.gb)
        simp (decide := true) (implicitDefEqProofs := false) (maxDischargeDepth := 20) only [go_sem, rb, ↓reduceIte, true_implies, false_implies]
        refine second m3 A1 A' ka _ hdd (fun bo h => by cases h) J3 hI3 ⟨o3.chg _, fun i hi => ⟨by have := hlt i hi; omega, .inl (.inl hi)⟩⟩ V.sl (fun x hx => ⟨(hkx x hx).1, (hkx x hx).2, fun h => by have := lA1 _ h; have := hkx x hx; omega, fun h => by have := hlt _ h; have := hkx x hx; omega⟩) ?_ ?_ ?_ ?_ ?_ <;> simp (decide := true) only [go_sem, ↓reduceIte]
      | some bo =>
        rw [hcc] at J3
        obtain ⟨b, ka0, kc0, gb, hbb', gbo, SK, hkf, hlo, hhi, hbA, hkA⟩ := J3.gb
        have rb := get_at0 gb
        have rbo : m3.at b 0 = some (.slice ka0 3 kc0) := get_at0 gbo
        simp (decide := true) (implicitDefEqProofs := false) (maxDischargeDepth := 20) only [go_sem, rb, rbo, nilOk, ↓reduceIte, true_implies, false_implies]
        refine (Equal_at SK V.sl (by omega)).mono ?_
        rintro w m4 ⟨rfl, o4⟩
        have o24 := o3.trans o4
        have s4 := o4.size
        have J4 := J3.loc (m' := m4) fun i hi => o4.get (by have := hlt i hi; omega)
        have hI4 := lI _ m3 m4 A1 hI3 (fun i hi => o4.get (by have := lA1 i hi; omega)) o4.size
        have T4 : Trs (fun i => A' i ∨ B i) m2 m4 A' := ⟨o24.chg _, fun i hi => ⟨by have := hlt i hi; omega, .inl (.inl hi)⟩⟩
        by_cases hk : bo.key = keyL row.xs
        · have dq : decide (bo.key = keyL row.xs) = true := by simpa using hk
          rw [dq]
          have eA : partA st row.xs = st := by unfold partA; rw [hcc]; exact if_pos hk
          rw [eA] at second
          rw [hcc] at second
          simp (decide := true) (implicitDefEqProofs := false) (maxDischargeDepth := 20) only [go_sem, ↓reduceIte, true_implies, false_implies]
          refine second m4 A1 A' ka _ hdd (fun bo' h => by cases h; exact hk) J4 hI4 T4 (V.sl.old o4) (fun x hx => ⟨(hkx x hx).1, by have := hkx x hx; omega, fun h => by have := lA1 _ h; have := hkx x hx; omega, fun h => by have := hlt _ h; have := hkx x hx; omega⟩) ?_ ?_ ?_ ?_ ?_ <;> simp (decide := true) only [go_sem, ↓reduceIte]
        · have dq : decide (bo.key = keyL row.xs) = false := by simpa using hk
          rw [dq]
          have eA : partA st row.xs = tellS st := by unfold partA; rw [hcc]; exact if_neg hk
          have eTo : (tellS st).out = st.out ++ tellO (some bo) := by unfold tellS; rw [hcc]
          have eTd : (tellS st).dead = !decide (curOk (some bo)) := by unfold tellS; simp only [hcc]
          have eTc : (tellS st).cur = none := rfl
          rw [eA] at second eS
          have rt := get_at0 J4.gt
          simp (decide := true) (implicitDefEqProofs := false) (maxDischargeDepth := 20) only [go_sem, rt, ↓reduceIte, true_implies, false_implies]
          rw [ea]
          have z4 := z1.old o24
          have hat : ∀ i x, (tellO (some bo))[i]? = some x → outs[st.out.length + i]? = some x := fun i x hx => by
            rw [st1, eS] at hg1
            split at hg1
            · exact get_pre (a := st.out) (b := tellO (some bo)) (c := g1) (by rw [hg1, eTo, List.append_assoc]) hx
            · obtain ⟨u, hu⟩ := partB_out (tellS st) row.xs
              exact get_pre (a := st.out) (b := tellO (some bo)) (c := u ++ g1) (by rw [hg1, hu, eTo]; simp only [List.append_assoc]) hx
          have hlt4 : ∀ i, A' i → i < m4.size := fun i hi => by have := hlt i hi; omega
          obtain ⟨b', ka', kc', h1', h2', h3', h4', h5', h6', h7', h8', h9'⟩ := J4.gb
          refine (Tell_at C hN.symm (cur := some bo) z4 (fun i hi => ⟨hlt4 i (J.sub i hi), (o1 i (J.sub i hi)).2⟩) (fun i hi => by have := hF2 i hi; omega) hI4 ⟨J.ab.2, (o1 _ J.ab.1).2.1⟩ J4.gy ⟨J.ay.2, hne.1⟩ hat ⟨b', ka', kc', h1', h2', h3', h4', h5', h6'.bd (by omega), h7'.bd (by omega)⟩).mono ?_
          rintro w m5 ⟨A3, c5, n5, gb5, hw⟩
          obtain ⟨J5, T45⟩ := J4.told hlt4 hne c5 n5 gb5
          have T5 := T4.trans T45
          have s5 := c5.size
          rcases hw with ⟨rfl, hok, hI5⟩ | ⟨rfl, hD⟩
          · simp (decide := true) (implicitDefEqProofs := false) (maxDischargeDepth := 20) only [go_sem, ↓reduceIte, true_implies, false_implies]
            have z5 := z1.chg T5.c zAB
            have hk3 : ∀ x, ka = some x → ¬ A3 x.block := fun x hx h => by
              have h1 := hkx x hx
              rcases (n5 _ h).2 with h2 | h2
              · have := lA1 _ h2; omega
              · omega
            refine second m5 A3 _ ka _ (by rw [eTd]; simp [hok]) (fun bo' h => by rw [eTc] at h; cases h) (by rw [eTc]; exact J5) (by rw [eTo, List.length_append]; exact hI5) T5 ((V.sl.old o4).keep fun x hx _ => ?_) (fun x hx => ⟨(hkx x hx).1, by have := hkx x hx; omega, hk3 x hx, ?_⟩) ?_ ?_ ?_ ?_ ?_
            · have h1 := hkx x hx
              exact c5.get _ (by omega) (by
                rintro (h | h)
                · have := lA1 _ h; omega
                · have := hlt _ J.ab.1; omega)
            · have h1 := hkx x hx
              have := hlt _ J.ay.1
              have := hlt _ J.ab.1
              have := hlt _ J.at_.1
              rintro (h | h)
              · exact hk3 x hx h
              · omega
            all_goals simp (decide := true) only [go_sem, ↓reduceIte]
          · simp (decide := true) (implicitDefEqProofs := false) (maxDischargeDepth := 20) only [go_sem, ↓reduceIte, true_implies, false_implies]
            refine qR _ m5 A3 _ T5 (fun i hi => .inl hi) ?_
            rcases hD with ⟨i, hi, hD⟩ | ⟨hok, hI5⟩
            · refine .inl ⟨_, ?_, hD⟩
              rw [hN]
              exact (List.getElem?_eq_some_iff.1 (hat i _ (List.getElem?_eq_getElem hi))).1
            · have eD : (tellS st).dead = true := by rw [eTd]; simp [hok]
              have e1 : st' = tellS st := by rw [st1, eS, if_pos eD]
              have := gd1 (by rw [e1]; exact eD)
              rw [e1, eTo] at this
              refine .inr ?_
              rw [hN, this, List.length_append]
              exact hI5
    · rintro m' A' z' o' - ⟨A1, hdd, hI, J⟩ c1 c2
      rw [show n = xss.length from hxl.symm, List.take_length] at hdd hI J
      have hlt : ∀ i, A' i → i < m'.size := fun i hi => (o' i hi).1
      have rt := get_at0 J.gt
      have c1s := c1.size
      have hos := ho.size
      have outN : ∀ i, A' i → A i ∨ m.size ≤ i := fun i hi => by
        rcases (c2 i hi).2 with (h | h) | h
        · exact .inl h
        · exact .inr (by omega)
        · exact .inr (by omega)
      have eO : outs = (stP xss).out ++ tellO (stP xss).cur := by rw [houts]; unfold partsO finP; rw [hdd]; rfl
      simp (decide := true) (implicitDefEqProofs := false) (maxDischargeDepth := 20) only [go_sem, rt, ↓reduceIte, true_implies, false_implies]
      rw [ea]
      refine (Tell_at C hN.symm z' (fun i hi => ⟨hlt i (J.sub i hi), (o' i (J.sub i hi)).2⟩) (fun i hi => by have := (hF i hi).1; omega) hI ⟨J.ab.2, (o' _ J.ab.1).2.1⟩ J.gy ⟨J.ay.2, hne.1⟩ (fun i x hx => get_pre (a := (stP xss).out) (b := tellO (stP xss).cur) (c := []) (by rw [eO, List.append_nil]) hx) ?_).mono ?_
      · have := J.gb
        cases hcc : (stP xss).cur with
        | none => rw [hcc] at this; exact this
        | some bo =>
          rw [hcc] at this
          obtain ⟨b, ka, kc, h1, h2, h3, h4, h5, h6, h7, h8, h9⟩ := this
          exact ⟨b, ka, kc, h1, h2, h3, h4, h5, h6.bd (by omega), h7.bd (by omega)⟩
      rintro w m5 ⟨A3, c5, n5, gb5, hw⟩
      have s5 := c5.size
      simp (decide := true) (implicitDefEqProofs := false) (maxDischargeDepth := 20) only [go_sem, ↓reduceIte, true_implies, false_implies]
      refine ⟨A3, ⟨by omega, fun i hi hna => ?_⟩, fun i hi => ⟨(n5 i hi).1, (n5 i hi).2.elim (fun h => outN i (J.sub i h)) fun h => .inr (by omega)⟩, ?_⟩
      · rw [c5.get i (by omega) (by
          rintro (h | h)
          · exact (outN i (J.sub i h)).elim (fun h => hna (.inl h)) fun h => by omega
          · omega), c1.get i (by omega) (by
          rintro ((h | h) | h)
          · exact hna (.inl h)
          · omega
          · exact hna (.inr h)), ho.get hi]
      · have eL : N = (stP xss).out.length + (tellO (stP xss).cur).length := by rw [hN, eO, List.length_append]
        rcases hw with ⟨-, -, h⟩ | ⟨-, ⟨i, hi, h⟩ | ⟨-, h⟩⟩
        · exact .inl ⟨trivial, by rw [eL]; exact h⟩
        · exact .inr ⟨_, by rw [eL]; omega, trivial, h⟩
        · exact .inl ⟨trivial, by rw [eL]; exact h⟩
    · rintro k x m' A' hk z' o' - hx ⟨rfl, A1, hsub, hD⟩ c1 c2
      have hos := ho.size
      have c1s := c1.size
      simp (decide := true) (implicitDefEqProofs := false) (maxDischargeDepth := 20) only [go_sem, ↓reduceIte, true_implies, false_implies]
      refine ⟨A1, ⟨by omega, fun i hi hna => ?_⟩, fun i hi => ⟨(o' i (hsub i hi)).1, ?_⟩, ?_⟩
      · rw [c1.get i (by omega) (by
          rintro ((h | h) | h)
          · exact hna (.inl h)
          · omega
          · exact hna (.inr h)), ho.get hi]
      · rcases (c2 i (hsub i hi)).2 with (h | h) | h
        · exact .inl h
        · exact .inr (by omega)
        · exact .inr (by omega)
      · rcases hD with ⟨j, hj, h⟩ | h
        · exact .inr ⟨j, hj, trivial, h⟩
        · exact .inl ⟨trivial, h⟩

end Go.Proofs.Ytjmppooebppecaa.W
