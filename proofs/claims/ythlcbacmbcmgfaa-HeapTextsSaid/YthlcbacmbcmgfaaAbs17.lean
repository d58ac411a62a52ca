/-
  Known calls; rows in memory; slices; loops that leave most temporaries as they are.
-/
import Derived.Test.YthlcbacmbcmgfaaAbs16
namespace Go.Abs
variable {E : Env} {m m' m0 : Mem} {K : Value → Mem → Prop}

theorem CallQ.closed {g : FuncId} {v : Value} (h : E.closed g = some v) : CallQ E g #[] m K = K v m := by
  have key : ∀ n, run E (n + 1) (.call g #[]) m = some ⟨.normal, #[v], m⟩ := fun n => by
    show stepT E (run E n) _ _ = _
    simp [stepT, h]
  refine propext ⟨fun ⟨n, t, m', h1, h2⟩ => ?_, fun k => ⟨1, #[v], m, key 0, k⟩⟩
  cases n with
  | zero => simp [run] at h1
  | succ n => rw [key n] at h1; cases h1; exact h2

/-- The blocks that a call adds. -/
noncomputable def ansL (E : Env) (g : FuncId) (args : Array Value) (m : Mem) : List (Option Blk) := Classical.epsilon fun l => ∃ v, CallQ E g args m fun w m2 => w = v ∧ m2 = m.ext l

/-- The memory behind such a call; some blocks may be kept from it for a while. -/
noncomputable def ansM (E : Env) (g : FuncId) (args : Array Value) (ids : List Nat) (m : Mem) : Mem := m.ext (ansL E g args (m.gm ids))

/-- A call that answers from this memory is a step. -/
theorem callQ_eq {g : FuncId} {args : List Value} {v : Value} {m : Mem} (h : CallQ E g args.toArray m fun w m' => w = v ∧ Old m m') (K : Value → Mem → Prop) : CallQ E g args.toArray m K = K v (ansM E g args.toArray [] m) := by
  have h0 : ∃ l, ∃ v, CallQ E g args.toArray m fun w m2 => w = v ∧ m2 = m.ext l := by
    obtain ⟨n, t, m', hr, hv, l, rfl⟩ := h
    exact ⟨l, v, n, t, _, hr, hv, rfl⟩
  obtain ⟨v2, h2⟩ : ∃ v, CallQ E g args.toArray m fun w m2 => w = v ∧ m2 = m.ext (ansL E g args.toArray m) := Classical.epsilon_spec h0
  have e : v2 = v := by
    rw [h2.det] at h
    exact h.1
  subst e
  exact h2.det K

/-- A call that answers is a step. -/
theorem Ans.eq {g : FuncId} {args : List Value} {v : Value} (h : Ans E g args v) (m : Mem) (K : Value → Mem → Prop) : CallQ E g args.toArray m K = K v (ansM E g args.toArray [] m) := by
  have h0 : ∃ l, ∃ v, CallQ E g args.toArray m fun w m2 => w = v ∧ m2 = m.ext l := by
    obtain ⟨n, t, m', hr, hv, l, rfl⟩ := h m
    exact ⟨l, v, n, t, _, hr, hv, rfl⟩
  obtain ⟨v2, h2⟩ : ∃ v, CallQ E g args.toArray m fun w m2 => w = v ∧ m2 = m.ext (ansL E g args.toArray m) := Classical.epsilon_spec h0
  have e : v2 = v := by
    have := h m
    rw [h2.det] at this
    exact this.1
  subst e
  exact h2.det K

section ansM
variable {g : FuncId} {args : Array Value} {ids : List Nat}
@[go_sem] theorem ugm_ansM : m.ugm (ansM E g args [] (m.gm ids)) ids = ansM E g args ids m := ugm_gm_ext m ids _
@[go_sem] theorem Old.ansM {m1 : Mem} (h : Old m m1) : Old m (ansM E g args ids m1) := h.ext _
theorem size_ansM : m.size ≤ (ansM E g args ids m).size := by unfold Abs.ansM; rw [size_ext]; omega
@[go_sem] theorem lt_ansM (b : Nat) (h : b < m.size) : (b < (ansM E g args ids m).size) = True := eq_true (Nat.lt_of_lt_of_le h size_ansM)
@[go_sem] theorem eq_ansM (b : Nat) (h : b < m.size) : (b = (ansM E g args ids m).size) = False := eq_false (by have := size_ansM (E := E) (g := g) (args := args) (ids := ids) (m := m); omega)
@[go_sem] theorem eq_ansM' (b : Nat) (h : b < m.size) : ((ansM E g args ids m).size = b) = False := eq_false (by have := size_ansM (E := E) (g := g) (args := args) (ids := ids) (m := m); omega)
@[go_sem] theorem le_ansM (b : Nat) (h : b ≤ m.size) : (b ≤ (ansM E g args ids m).size) = True := eq_true (Nat.le_trans h size_ansM)
@[go_sem] theorem le_size1 (b : Nat) (h : b ≤ m.size) : (b ≤ m.size + 1) = True := eq_true (by omega)
@[go_sem] theorem lt_size1 (b : Nat) (h : b < m.size) : (b < m.size + 1) = True := eq_true (by omega)
@[go_sem] theorem get_ansM (b : Nat) (h : b < m.size) : (ansM E g args ids m).get b = m.get b := get_ext _ _ _ h
end ansM

/-! ### Builtin calls -/
section builtin
variable {r : Operand → Value}
@[go_sem] theorem callV_len (x : Operand) (t : TypeId) : callV E ⟨.builtin .len, #[x], #[t]⟩ r m = val? m ((lenV E t (r x)).map fun (n : Nat) => Value.int .i64 (n : Int)) := rfl
@[go_sem] theorem callV_min2 (x y : Operand) (ts : Array TypeId) : callV E ⟨.builtin .min, #[x, y], ts⟩ r m = val? m (minmax false (r x) [r y]) := rfl
@[go_sem] theorem callV_max2 (x y : Operand) (ts : Array TypeId) : callV E ⟨.builtin .max, #[x, y], ts⟩ r m = val? m (minmax true (r x) [r y]) := rfl
@[go_sem] theorem callV_min4 (x y z u : Operand) (ts : Array TypeId) : callV E ⟨.builtin .min, #[x, y, z, u], ts⟩ r m = val? m (minmax false (r x) [r y, r z, r u]) := rfl
@[go_sem] theorem callV_append (x y : Operand) (s t : TypeId) : callV E ⟨.builtin .append, #[x, y], #[s, t]⟩ r m = val2? (appendV E m s t (r x) (r y)) := rfl
@[go_sem] theorem callV_copy (x y : Operand) (s t : TypeId) : callV E ⟨.builtin .copy, #[x, y], #[s, t]⟩ r m = val2? (copyV E m s (r x) (r y)) := rfl
@[go_sem] theorem minmax_nil (mx : Bool) (v : Value) : minmax mx v [] = some v := by cases v <;> rfl
@[go_sem] theorem minmax_min (k : IntKind) (x y : Int) (l : List Value) : minmax false (.int k x) (.int k y :: l) = minmax false (.int k (min x y)) l := by
  have e : (if y < x then y else x) = min x y := by split <;> omega
  simp [minmax, e]
@[go_sem] theorem minmax_max (k : IntKind) (x y : Int) (l : List Value) : minmax true (.int k x) (.int k y :: l) = minmax true (.int k (max x y)) l := by
  have e : (if x < y then y else x) = max x y := by split <;> omega
  simp [minmax, e]
end builtin

/-! ### Cells -/
def Blk.at : Blk → Nat → Option Value
  | .cells _ _ cs, o => cs[o]?
  | _, _ => none
def Blk.rows : Blk → Nat → Nat → Option (List Value)
  | .cells _ _ cs, o, n => if o + n ≤ cs.length then some ((cs.drop o).take n) else none
  | _, _, _ => none
def Mem.at (m : Mem) (b o : Nat) : Option Value := (m.get b).bind (·.at o)
def Mem.rows (m : Mem) (b o n : Nat) : Option (List Value) := (m.get b).bind (·.rows o n)

@[go_sem] theorem cell_at (a : Addr) : m.cell a = m.at a.block a.off := by
  unfold Mem.cell Mem.at
  cases m.get a.block with
  | none => rfl
  | some b => cases b <;> rfl
@[go_sem] theorem row_rows (a : Addr) (n : Nat) : m.row a n = m.rows a.block a.off n := by
  unfold Mem.row Mem.rows
  cases m.get a.block with
  | none => rfl
  | some b => cases b <;> rfl
@[go_sem] theorem blk_at (ro tg : Bool) (cs : List Value) (o : Nat) : (Blk.cells ro tg cs).at o = cs[o]? := rfl
@[go_sem] theorem blk_rows (ro tg : Bool) (cs : List Value) (o n : Nat) : (Blk.cells ro tg cs).rows o n = if o + n ≤ cs.length then some ((cs.drop o).take n) else none := rfl
@[go_sem] theorem at_push (c : Blk) (b o : Nat) : (m.push c).at b o = if b = m.size then c.at o else m.at b o := by
  unfold Mem.at
  rw [getM_push]
  split <;> rfl
@[go_sem] theorem rows_push (c : Blk) (b o n : Nat) : (m.push c).rows b o n = if b = m.size then c.rows o n else m.rows b o n := by
  unfold Mem.rows
  rw [getM_push]
  split <;> rfl
theorem getM_none {i : Nat} (h : ¬ i < m.size) : m.get i = none := by
  unfold Mem.get Mem.size at *
  rw [List.getElem?_eq_none (by omega)]; rfl
@[go_sem] theorem at_put (i : Nat) (c : Blk) (b o : Nat) : (m.put i (some c)).at b o = if b = i then (if i < m.size then c.at o else none) else m.at b o := by
  unfold Mem.at
  rw [getM_put]
  by_cases h : b = i
  · subst h
    by_cases h2 : b < m.size
    · simp [h2]
    · simp [h2, getM_none h2]
  · simp [h]
@[go_sem] theorem rows_put (i : Nat) (c : Blk) (b o n : Nat) : (m.put i (some c)).rows b o n = if b = i then (if i < m.size then c.rows o n else none) else m.rows b o n := by
  unfold Mem.rows
  rw [getM_put]
  by_cases h : b = i
  · subst h
    by_cases h2 : b < m.size
    · simp [h2]
    · simp [h2, getM_none h2]
  · simp [h]
@[go_sem] theorem at_putN (i b o : Nat) (h : b ≠ i) : (m.put i none).at b o = m.at b o := by
  unfold Mem.at
  rw [getM_put, if_neg (fun e => h e.1)]
@[go_sem] theorem rows_putN (i b o n : Nat) (h : b ≠ i) : (m.put i none).rows b o n = m.rows b o n := by
  unfold Mem.rows
  rw [getM_put, if_neg (fun e => h e.1)]
@[go_sem] theorem at_ext (l : List (Option Blk)) (b o : Nat) (h : b < m.size) : (m.ext l).at b o = m.at b o := by
  unfold Mem.at
  rw [get_ext m l b h]
@[go_sem] theorem rows_ext (l : List (Option Blk)) (b o n : Nat) (h : b < m.size) : (m.ext l).rows b o n = m.rows b o n := by
  unfold Mem.rows
  rw [get_ext m l b h]
@[go_sem] theorem at_ansM {g : FuncId} {args : Array Value} {ids : List Nat} (b o : Nat) (h : b < m.size) : (ansM E g args ids m).at b o = m.at b o := at_ext _ _ _ h
@[go_sem] theorem rows_ansM {g : FuncId} {args : Array Value} {ids : List Nat} (b o n : Nat) (h : b < m.size) : (ansM E g args ids m).rows b o n = m.rows b o n := rows_ext _ _ _ _ h
theorem get_gm (ids : List Nat) (i : Nat) : (m.gm ids).get i = if ids.contains i then (match m.get i with | some (.cells _ t cs) => some (.cells true t cs) | some (.map _ _) => none | b => b) else m.get i := by
  unfold Mem.gm
  split
  · rename_i h
    rw [List.isEmpty_iff.1 h]
    simp
  · exact getM_guard m ids i
@[go_sem] theorem at_gm (ids : List Nat) (b o : Nat) : (m.gm ids).at b o = m.at b o := by
  unfold Mem.at
  rw [get_gm]
  split
  · cases m.get b with
    | none => rfl
    | some c => cases c <;> rfl
  · rfl
@[go_sem] theorem rows_gm (ids : List Nat) (b o n : Nat) : (m.gm ids).rows b o n = m.rows b o n := by
  unfold Mem.rows
  rw [get_gm]
  split
  · cases m.get b with
    | none => rfl
    | some c => cases c <;> rfl
  · rfl

theorem at_lt {b o : Nat} {v : Value} (h : m.at b o = some v) : b < m.size := by
  unfold Mem.at at h
  cases hg : m.get b with
  | none => rw [hg] at h; cases h
  | some c => exact getM_lt hg
theorem rows_lt {b o n : Nat} {v : List Value} (h : m.rows b o n = some v) : b < m.size := by
  unfold Mem.rows at h
  cases hg : m.get b with
  | none => rw [hg] at h; cases h
  | some c => exact getM_lt hg

theorem Old.size (h : Old m m') : m.size ≤ m'.size := by
  obtain ⟨l, rfl⟩ := h
  rw [size_ext]; omega
theorem Old.get (h : Old m m') {i : Nat} (hi : i < m.size) : m'.get i = m.get i := by
  obtain ⟨l, rfl⟩ := h
  exact get_ext m l i hi
theorem Old.of_get (hs : m.size ≤ m'.size) (h : ∀ i, i < m.size → m'.get i = m.get i) : Old m m' := by
  refine ⟨m'.bl.drop m.size, ?_⟩
  unfold Mem.ext
  cases m' with
  | mk l =>
    congr 1
    apply List.ext_getElem?
    intro i
    unfold Mem.size Mem.get at *
    rw [List.getElem?_append]
    by_cases hi : i < m.bl.length
    · rw [if_pos hi]
      have := h i hi
      simp only at this hs ⊢
      rw [List.getElem?_eq_getElem hi, List.getElem?_eq_getElem (by omega)] at this
      rw [List.getElem?_eq_getElem hi, List.getElem?_eq_getElem (by omega)]
      simpa using this
    · rw [if_neg hi, List.getElem?_drop]
      congr 1
      omega
theorem Old.trans {m1 m2 m3 : Mem} (h : Old m1 m2) (k : Old m2 m3) : Old m1 m3 := by
  obtain ⟨l, rfl⟩ := h
  obtain ⟨l', rfl⟩ := k
  exact ⟨l ++ l', ext_ext _ _ _⟩
@[go_sem] theorem Old.ext' (l : List (Option Blk)) : Old m (m.ext l) := ⟨l, rfl⟩
theorem Old.at (h : Old m m') {b o : Nat} (hb : b < m.size) : m'.at b o = m.at b o := by
  unfold Mem.at
  rw [h.get hb]
theorem Old.rows (h : Old m m') {b o n : Nat} (hb : b < m.size) : m'.rows b o n = m.rows b o n := by
  unfold Mem.rows
  rw [h.get hb]
/-- What a kept step adds. -/
theorem Old.ugm {ids : List Nat} (h : Old (m.gm ids) m') : ∃ l, m' = (m.gm ids).ext l ∧ m.ugm m' ids = m.ext l := by
  obtain ⟨l, rfl⟩ := h
  exact ⟨l, rfl, ugm_gm_ext m ids l⟩
@[go_sem] theorem at_gm_ext (ids : List Nat) (l : List (Option Blk)) (b o : Nat) : ((m.gm ids).ext l).at b o = (m.ext l).at b o := by
  by_cases h : b < m.size
  · rw [at_ext _ _ _ (by rw [gm_size]; exact h), at_ext _ _ _ h, at_gm]
  · unfold Mem.at
    have e : ((m.gm ids).ext l).get b = (m.ext l).get b := by
      have hs := gm_size m ids
      unfold Mem.ext Mem.get Mem.size at *
      rw [List.getElem?_append_right (by omega), List.getElem?_append_right (by omega), hs]
    rw [e]
@[go_sem] theorem rows_gm_ext (ids : List Nat) (l : List (Option Blk)) (b o n : Nat) : ((m.gm ids).ext l).rows b o n = (m.ext l).rows b o n := by
  by_cases h : b < m.size
  · rw [rows_ext _ _ _ _ (by rw [gm_size]; exact h), rows_ext _ _ _ _ h, rows_gm]
  · unfold Mem.rows
    have e : ((m.gm ids).ext l).get b = (m.ext l).get b := by
      have hs := gm_size m ids
      unfold Mem.ext Mem.get Mem.size at *
      rw [List.getElem?_append_right (by omega), List.getElem?_append_right (by omega), hs]
    rw [e]

/-! ### Rows -/
def Rw (m : Mem) (b o : Nat) (xs : List Value) : Prop := m.rows b o xs.length = some xs

theorem Rw.blk {b o : Nat} {xs : List Value} (h : Rw m b o xs) : ∃ ro tg cs, m.get b = some (.cells ro tg cs) ∧ o + xs.length ≤ cs.length ∧ (cs.drop o).take xs.length = xs := by
  unfold Rw Mem.rows at h
  cases hg : m.get b with
  | none => rw [hg] at h; cases h
  | some c =>
    rw [hg] at h
    cases c with
    | cells ro tg cs =>
      simp only [Option.bind_some, blk_rows] at h
      split at h
      · rename_i hl
        exact ⟨ro, tg, cs, rfl, hl, by simpa using h⟩
      · cases h
    | loop => cases h
    | map => cases h
theorem Rw.of_blk {b o : Nat} {xs : List Value} {ro tg : Bool} {cs : List Value} (h : m.get b = some (.cells ro tg cs)) (hl : o + xs.length ≤ cs.length) (hx : (cs.drop o).take xs.length = xs) : Rw m b o xs := by
  unfold Rw Mem.rows
  rw [h]
  simp only [Option.bind_some, blk_rows, if_pos hl, hx]
theorem Rw.lt {b o : Nat} {xs : List Value} (h : Rw m b o xs) : b < m.size := rows_lt h
theorem Rw.at {b o : Nat} {xs : List Value} (h : Rw m b o xs) {i : Nat} (hi : i < xs.length) : m.at b (o + i) = some xs[i] := by
  obtain ⟨ro, tg, cs, h1, h2, h3⟩ := h.blk
  unfold Mem.at
  rw [h1]
  simp only [Option.bind_some, blk_at]
  have : ((cs.drop o).take xs.length)[i]? = xs[i]? := by rw [h3]
  rw [List.getElem?_take, if_pos hi, List.getElem?_drop] at this
  rw [this, List.getElem?_eq_getElem hi]
theorem Rw.old {b o : Nat} {xs : List Value} (h : Rw m b o xs) (k : Old m m') : Rw m' b o xs := by
  unfold Rw
  rw [k.rows h.lt]
  exact h
theorem Rw.keep {b o : Nat} {xs : List Value} (h : Rw m b o xs) (k : m'.get b = m.get b) : Rw m' b o xs := by
  unfold Rw Mem.rows
  rw [k]
  exact h
theorem Rw.gm {b o : Nat} {xs : List Value} (ids : List Nat) : Rw (m.gm ids) b o xs ↔ Rw m b o xs := by
  unfold Rw
  rw [rows_gm]
theorem Rw.gm_ext {b o : Nat} {xs : List Value} (ids : List Nat) (l : List (Option Blk)) : Rw ((m.gm ids).ext l) b o xs ↔ Rw (m.ext l) b o xs := by
  unfold Rw
  rw [rows_gm_ext]
theorem Rw.sub {b o : Nat} {xs : List Value} (h : Rw m b o xs) {i n : Nat} (hi : i + n ≤ xs.length) : Rw m b (o + i) ((xs.drop i).take n) := by
  obtain ⟨ro, tg, cs, h1, h2, h3⟩ := h.blk
  have hl : ((xs.drop i).take n).length = n := by simp; omega
  refine .of_blk h1 (by omega) ?_
  rw [hl]
  apply List.ext_getElem?
  intro j
  simp only [List.getElem?_take, List.getElem?_drop]
  by_cases hj : j < n
  · rw [if_pos hj, if_pos hj]
    have : ((cs.drop o).take xs.length)[i + j]? = xs[i + j]? := by rw [h3]
    rw [List.getElem?_take, if_pos (by omega), List.getElem?_drop] at this
    rw [← this]
    congr 1
    omega
  · rw [if_neg hj, if_neg hj]
theorem Rw.full {b : Nat} {xs : List Value} {ro tg : Bool} (h : m.get b = some (.cells ro tg xs)) : Rw m b 0 xs := .of_blk h (by omega) (by simp)

/-! ### Slices -/
structure SlA (m : Mem) (sz : Nat) (a : Option Addr) (n c : Nat) (xs : List Value) : Prop where
  len : xs.length = n * sz
  cap : n ≤ c
  loose : ∀ b, a = some b → looseOk b sz = true
  rows : ∀ b, a = some b → xs ≠ [] → Rw m b.block b.off xs
  nil : a = none → c = 0

section sl
variable {sz : Nat} {a : Option Addr} {n c : Nat} {xs : List Value}
theorem SlA.addr (h : SlA m sz a n c xs) (hn : 0 < n) : ∃ b o s, a = some ⟨b, o, s⟩ := by
  cases a with
  | none => have := h.nil rfl; have := h.cap; omega
  | some b => exact ⟨b.block, b.off, b.spot, rfl⟩
theorem SlA.keep (h : SlA m sz a n c xs) (k : ∀ b, a = some b → xs ≠ [] → m'.get b.block = m.get b.block) : SlA m' sz a n c xs :=
  ⟨h.len, h.cap, h.loose, fun b hb hx => (h.rows b hb hx).keep (k b hb hx), h.nil⟩
theorem SlA.old (h : SlA m sz a n c xs) (k : Old m m') : SlA m' sz a n c xs := h.keep fun b hb hx => k.get (h.rows b hb hx).lt
theorem SlA.gm (ids : List Nat) : SlA (m.gm ids) sz a n c xs ↔ SlA m sz a n c xs :=
  ⟨fun h => ⟨h.len, h.cap, h.loose, fun b hb hx => (Rw.gm ids).1 (h.rows b hb hx), h.nil⟩, fun h => ⟨h.len, h.cap, h.loose, fun b hb hx => (Rw.gm ids).2 (h.rows b hb hx), h.nil⟩⟩
theorem SlA.gm_ext (ids : List Nat) (l : List (Option Blk)) : SlA ((m.gm ids).ext l) sz a n c xs ↔ SlA (m.ext l) sz a n c xs :=
  ⟨fun h => ⟨h.len, h.cap, h.loose, fun b hb hx => (Rw.gm_ext ids l).1 (h.rows b hb hx), h.nil⟩, fun h => ⟨h.len, h.cap, h.loose, fun b hb hx => (Rw.gm_ext ids l).2 (h.rows b hb hx), h.nil⟩⟩
theorem SlA.lt {b : Addr} (h : SlA m sz (some b) n c xs) (hx : xs ≠ []) : b.block < m.size := (h.rows b rfl hx).lt
theorem SlA.at {b o : Nat} {s : Option Nat} (h : SlA m 1 (some ⟨b, o, s⟩) n c xs) {i : Nat} (hi : i < n) : m.at b (o + i) = some (xs[i]'(by have := h.len; omega)) :=
  (h.rows _ rfl (by intro e; have := h.len; rw [e] at this; simp at this; omega)).at (i := i) (by have := h.len; omega)
theorem SlA.at_map {α : Type} {f : α → Value} {b o : Nat} {s : Option Nat} {xs : List α} (h : SlA m 1 (some ⟨b, o, s⟩) n c (xs.map f)) {i : Nat} (hi : i < n) : m.at b (o + i) = some (f (xs[i]'(by have := h.len; simp at this; omega))) := by
  rw [h.at hi]
  simp
theorem SlA.empty (sz : Nat) : SlA m sz none 0 0 [] := ⟨by simp, Nat.le_refl _, fun _ h => (nomatch h), fun _ h => (nomatch h), fun _ => rfl⟩
theorem SlA.row {b : Addr} (h : SlA m sz (some b) n c xs) (hx : xs ≠ []) : m.rows b.block b.off (n * sz) = some xs := by
  have := h.rows b rfl hx
  unfold Rw at this
  rw [← h.len]
  exact this

/-- xs[lo:hi]. -/
theorem SlA.sub (h : SlA m sz a n c xs) {lo hi : Nat} (hl : lo ≤ hi) (hh : hi ≤ n) :
    SlA m sz (if c = lo then a else a.map fun a => ⟨a.block, a.off + lo * sz, a.spot⟩) (hi - lo) (c - lo) ((xs.drop (lo * sz)).take ((hi - lo) * sz)) := by
  have hlen := h.len
  have hb : lo * sz + (hi - lo) * sz ≤ xs.length := by
    rw [hlen, ← Nat.add_mul]
    exact Nat.mul_le_mul_right _ (by omega)
  have hcap := h.cap
  refine ⟨by simp; omega, by omega, fun b hb' => ?_, fun b hb' hx => ?_, fun hn => ?_⟩
  · split at hb'
    · exact h.loose b hb'
    · obtain ⟨a', rfl, rfl⟩ := Option.map_eq_some_iff.1 hb'
      exact h.loose a' rfl
  · have hx0 : xs ≠ [] := by rintro rfl; simp at hx
    split at hb'
    · have : hi - lo = 0 := by omega
      rw [this] at hx
      simp at hx
    · obtain ⟨a', rfl, rfl⟩ := Option.map_eq_some_iff.1 hb'
      exact (h.rows a' rfl hx0).sub hb
  · split at hn
    · have := h.nil hn; omega
    · have := h.nil (by simpa using hn); omega

/-- What append reads of it. -/
theorem SlA.appended {xt e : TypeId} (h : SlA m sz a n c xs) (hd : E.desc xt = some (.slice e)) (hsz : 0 < sz) : Abs.appended E m sz xt (.slice a n c) = some (n, xs) := by
  unfold Abs.appended
  rw [hd]
  cases a with
  | none =>
    have h1 := h.nil rfl
    have h2 := h.cap
    have h3 : n = 0 := by omega
    subst h3
    have : xs = [] := List.eq_nil_of_length_eq_zero (by have := h.len; omega)
    subst this; rfl
  | some b =>
    simp only
    by_cases hn : n = 0
    · rw [if_pos hn]
      have : xs = [] := List.eq_nil_of_length_eq_zero (by have := h.len; rw [hn] at this; omega)
      rw [this, hn]
    · rw [if_neg hn, row_rows, h.row (by
        rintro rfl
        have h4 := h.len
        have := Nat.mul_pos (Nat.pos_of_ne_zero hn) hsz
        simp at h4
        omega)]
      rfl
end sl

/-! ### Boxes -/
/-- A block that may be written. -/
def Box (m : Mem) (b : Nat) (cs : List Value) : Prop := ∃ tg, m.get b = some (.cells false tg cs)
/-- One block may have changed; more may be there. -/
structure Upd (m m' : Mem) (b : Nat) : Prop where
  size : m.size ≤ m'.size
  get : ∀ i, i < m.size → i ≠ b → m'.get i = m.get i

theorem Box.lt {b : Nat} {cs : List Value} (h : Box m b cs) : b < m.size := by
  obtain ⟨tg, h⟩ := h
  exact getM_lt h
theorem Box.rows {b : Nat} {cs : List Value} (h : Box m b cs) : m.rows b 0 cs.length = some cs := by
  obtain ⟨tg, h⟩ := h
  exact Rw.full h
theorem Box.old {b : Nat} {cs : List Value} (h : Box m b cs) (k : Old m m') : Box m' b cs := by
  obtain ⟨tg, h'⟩ := h
  exact ⟨tg, by rw [k.get (getM_lt h')]; exact h'⟩
theorem Box.upd {b c : Nat} {cs : List Value} (h : Box m b cs) (k : Upd m m' c) (hne : b ≠ c) : Box m' b cs := by
  obtain ⟨tg, h'⟩ := h
  exact ⟨tg, by rw [k.get _ (getM_lt h') hne]; exact h'⟩
theorem Old.upd (h : Old m m') (b : Nat) : Upd m m' b := ⟨h.size, fun i hi _ => h.get hi⟩
theorem Upd.refl (m : Mem) (b : Nat) : Upd m m b := ⟨Nat.le_refl _, fun _ _ _ => rfl⟩
theorem Upd.trans {m1 m2 m3 : Mem} {b : Nat} (h : Upd m1 m2 b) (k : Upd m2 m3 b) : Upd m1 m3 b :=
  ⟨Nat.le_trans h.size k.size, fun i hi hne => (k.get i (Nat.lt_of_lt_of_le hi h.size) hne).trans (h.get i hi hne)⟩
theorem Upd.put {m1 : Mem} (h : Old m m1) (b : Nat) (c : Option Blk) : Upd m (m1.put b c) b :=
  ⟨by rw [size_put]; exact h.size, fun i hi hne => by rw [getM_put, if_neg (fun e => hne e.1)]; exact h.get hi⟩
theorem Box.put {m1 : Mem} {b : Nat} {tg : Bool} {cs : List Value} (h : b < m1.size) : Box (m1.put b (some (.cells false tg cs))) b cs := ⟨tg, by rw [getM_put, if_pos ⟨rfl, h⟩]⟩
theorem SlA.upd {sz : Nat} {a : Option Addr} {n c : Nat} {xs : List Value} {b : Nat} (h : SlA m sz a n c xs) (k : Upd m m' b) (hne : ∀ x, a = some x → x.block ≠ b) : SlA m' sz a n c xs :=
  h.keep fun x hx hxs => k.get _ (h.rows x hx hxs).lt (hne x hx)

/-! ### Loops that leave most temporaries as they are -/
def Agree (ws : List Nat) (t t' : Fr) : Prop := ∀ j, ws.contains j = false → t' j = t j

def writes : MC → List Nat
  | .ops l => l.filterMap (·.d)
  | .draw l => l.filterMap (·.2.2.d)
  | .seq a b => writes a ++ writes b
  | .cond _ a b => writes a ++ writes b
  | .block _ b => writes b
  | .loop b => writes b
  | _ => []

theorem Agree.refl (ws : List Nat) (t : Fr) : Agree ws t t := fun _ _ => rfl
theorem Agree.trans {ws : List Nat} {t t1 t2 : Fr} (h : Agree ws t t1) (k : Agree ws t1 t2) : Agree ws t t2 := fun j hj => (k j hj).trans (h j hj)
theorem Agree.mono {ws ws' : List Nat} {t t' : Fr} (h : Agree ws t t') (k : ∀ j, j ∈ ws → j ∈ ws') : Agree ws' t t' := fun j hj => h j (by
  rw [Bool.eq_false_iff] at *
  intro e
  exact hj (by simpa using k j (by simpa using e)))
theorem Agree.upd {ws : List Nat} {t t' : Fr} (h : Agree ws t t') (d : Option Nat) (v : Value) (k : ∀ i, d = some i → i ∈ ws) : Agree ws t (updO t' d v) := by
  intro j hj
  cases d with
  | none => exact h j hj
  | some d =>
    show (if j = d then v else t' j) = _
    rw [if_neg (fun e => ?_)]
    · exact h j hj
    · subst e
      rw [Bool.eq_false_iff] at hj
      exact hj (by simpa using k j rfl)

section agree
variable {f : FuncId} {n : Nat} {rd : Option Nat}
theorem wpO_agree {t0 : Fr} {ws : List Nat} {L : Fr → Mem → Prop} : ∀ (l : List MO) (t : Fr) (m : Mem), Agree ws t0 t → (∀ o ∈ l, ∀ i, o.d = some i → i ∈ ws) → wpO E l L t m → wpO E l (fun t' m' => Agree ws t0 t' ∧ L t' m') t m
  | [], t, m, ha, _, h => ⟨ha, h⟩
  | o :: l, t, m, ha, hw, h => ⟨fun hg => (h.1 hg).mono fun v m' k => wpO_agree l _ _ (ha.upd o.d v (hw o (by simp))) (fun o' ho' => hw o' (by simp [ho'])) k,
      fun hg => wpO_agree l _ _ (ha.upd o.d undef (hw o (by simp))) (fun o' ho' => hw o' (by simp [ho'])) (h.2 hg)⟩
theorem wpD_agree {t0 : Fr} {ws : List Nat} {L : Fr → Mem → Prop} : ∀ (l : List (Nat × List Nat × MO)) (log : List (Nat × Nat)) (t : Fr) (m : Mem), Agree ws t0 t → (∀ o ∈ l, ∀ i, o.2.2.d = some i → i ∈ ws) → wpD E l log L t m → wpD E l log (fun t' m' => Agree ws t0 t' ∧ L t' m') t m
  | [], _, t, m, ha, _, h => ⟨ha, h⟩
  | (i, pr, o) :: l, log, t, m, ha, hw, h => ⟨fun hg => (h.1 hg).mono fun v m' k => wpD_agree l _ _ _ (ha.upd o.d v (hw (i, pr, o) (by simp))) (fun o' ho' => hw o' (by simp [ho'])) k,
      fun hg => wpD_agree l _ _ _ (ha.upd o.d undef (hw (i, pr, o) (by simp))) (fun o' ho' => hw o' (by simp [ho'])) (h.2 hg)⟩

theorem seqK_and {A : Fr → Mem → Prop} {a : Fr → Mem → Prop} {K : Post3} (x : Exit) (t : Fr) (m : Mem) (ha : A t m) (h : seqK a K x t m) : seqK (fun t m => A t m ∧ a t m) (fun x t m => A t m ∧ K x t m) x t m := by
  cases x <;> exact ⟨ha, h⟩

theorem wpM_agree : ∀ (c : MC) {ws : List Nat} {t0 : Fr} {K : Post3} (t : Fr) (m : Mem), Agree ws t0 t → (∀ i ∈ writes c, i ∈ ws) → wpM E f n rd c K t m → wpM E f n rd c (fun x t' m' => Agree ws t0 t' ∧ K x t' m') t m := by
  intro c
  induction c with
  | skip => exact fun t m ha _ h => ⟨ha, h⟩
  | ops l => exact fun t m ha hw h => wpO_agree l t m ha (fun o ho i hi => hw i (List.mem_filterMap.2 ⟨o, ho, hi⟩)) h
  | draw l => exact fun t m ha hw h => wpD_agree l [] t m ha (fun o ho i hi => hw i (List.mem_filterMap.2 ⟨o, ho, hi⟩)) h
  | seq a b iha ihb =>
    intro ws t0 K t m ha hw h
    refine wpM_mono a _ _ (fun x t' m' k => ?_) t m (iha t m ha (fun i hi => hw i (by simp [writes, hi])) h)
    obtain ⟨k1, k2⟩ := k
    cases x with
    | normal => exact ihb t' m' k1 (fun i hi => hw i (by simp [writes, hi])) k2
    | _ => exact ⟨k1, k2⟩
  | cond c a b iha ihb =>
    intro ws t0 K t m ha hw ⟨p, h1, h2, h3⟩
    exact ⟨p, h1, fun e => iha t m ha (fun i hi => hw i (by simp [writes, hi])) (h2 e), fun e => ihb t m ha (fun i hi => hw i (by simp [writes, hi])) (h3 e)⟩
  | block i b ih =>
    intro ws t0 K t m ha hw h
    refine wpM_mono b _ _ (fun x t' m' k => ?_) t m (ih t m ha hw h)
    obtain ⟨k1, k2⟩ := k
    cases x with
    | exit j =>
      simp only [blockK] at k2 ⊢
      split at k2
      · rename_i e; rw [if_pos e]; exact ⟨k1, k2⟩
      · rename_i e; rw [if_neg e]; exact ⟨k1, k2⟩
    | _ => exact ⟨k1, k2⟩
  | loop b ih =>
    intro ws t0 K t m ha hw ⟨k, h⟩
    refine ⟨k, ?_⟩
    induction k generalizing t m with
    | zero => exact h.elim
    | succ k ihk =>
      refine wpM_mono b _ _ (fun x t' m' k => ?_) t m (ih t m ha hw h)
      obtain ⟨k1, k2⟩ := k
      cases x with
      | normal => exact ihk t' m' k1 k2
      | _ => exact ⟨k1, k2⟩
  | exit i => exact fun t m ha _ h => ⟨ha, h⟩
  | ret => exact fun t m ha _ h => ⟨ha, h⟩
  | range g ps asg body =>
    intro ws t0 K t m ha hw ⟨hh, first, captured, h1, h2, h3, h4⟩
    refine ⟨hh, first, captured, h1, h2, h3, h4.mono fun v m1 ⟨st, pend, f', t', ps', asg', body', h5, h6, h7⟩ => ⟨st, pend, f', t', ps', asg', body', h5, h6, ?_⟩⟩
    cases pend with
    | none => exact ⟨ha, h7⟩
    | some pc => cases pc <;> first | exact ⟨ha, h7⟩ | exact h7.elim

/-- A loop with an invariant and a measure; what it doesn't write stays. -/
theorem wpM_loopA {b : MC} {K : Post3} {t0 : Fr} {m0 : Mem} (I : Nat → Fr → Mem → Prop) (k0 : Nat) (h0 : I k0 t0 m0)
    (h : ∀ k t m, Agree (writes b) t0 t → I k t m → wpM E f n rd b (seqK (fun t' m' => ∃ j, j < k ∧ I j t' m') K) t m) : wpM E f n rd (.loop b) K t0 m0 := by
  refine wpM_loop (fun k t m => Agree (writes b) t0 t ∧ I k t m) (fun k t m ⟨ha, hI⟩ => ?_) k0 t0 m0 ⟨.refl _ _, h0⟩
  refine wpM_mono b _ _ (fun x t' m' hk => ?_) t m (wpM_agree b t m ha (fun i hi => hi) (h k t m ha hI))
  obtain ⟨k1, k2⟩ := hk
  cases x with
  | normal =>
    obtain ⟨j, hj, hI'⟩ := k2
    exact ⟨j, hj, k1, hI'⟩
  | _ => exact k2

/-- A piece that goes through: what holds behind it. -/
theorem wpM_cut {c : MC} {K : Post3} {t : Fr} {m : Mem} (P : Fr → Mem → Prop) (h : wpM E f n rd c (fun x t' m' => x = .normal ∧ P t' m') t m) (k : ∀ t' m', Agree (writes c) t t' → P t' m' → K .normal t' m') : wpM E f n rd c K t m := by
  refine wpM_mono c _ _ (fun x t' m' hk => ?_) t m (wpM_agree c t m (.refl _ _) (fun i hi => hi) h)
  obtain ⟨k1, rfl, k2⟩ := hk
  exact k t' m' k1 k2
end agree

end Go.Abs
