/-
  Maps whose keys are ints: what an operation does to them, seen as functions.
-/
import Derived.Test.YthlcbacmbcmgfaaAbs29
namespace Go.Abs
set_option linter.unusedSimpArgs false
set_option linter.unusedVariables false
variable {E : Env} {m m' : Mem}

@[go_sem] theorem opW_makeMap (ty : TypeId) (x : Option Operand) {r : Operand → Value} : opW E (.makeMap ty x) r m = val2? (makeMapV E m ty (x.map r)) := rfl
@[go_sem] theorem opW_lookup (ty : TypeId) (x k : Operand) (ok : Bool) {r : Operand → Value} : opW E (.lookup ty x k ok) r m = val? m (lookupV E m ty (r x) (r k) ok) := rfl
@[go_sem] theorem opW_mapUpdate (ty : TypeId) (x k v : Operand) {r : Operand → Value} : opW E (.mapUpdate ty x k v) r m = (mapUpdateV E m ty (r x) (r k) (r v)).map fun m' => .val undef m' := rfl
@[go_sem] theorem opW_mapEntry (ty : TypeId) (x k : Operand) {r : Operand → Value} : opW E (.mapEntry ty x k) r m = val2? (mapEntryV E m ty (r x) (r k)) := rfl
@[go_sem] theorem opW_entryStore (ty : TypeId) (x s v : Operand) {r : Operand → Value} : opW E (.entryStore ty x s v) r m = (entryStoreV m (r x) (r s) (r v)).map fun m' => .val undef m' := rfl

section logs
variable {i : Nat} {log : List (Nat × Nat)}
@[go_sem] theorem loggedW_lookup (ty : TypeId) (x k : Operand) (ok : Bool) (r : Operand → Value) : loggedW (.lookup ty x k ok) r i log = match r x with
    | .map (some b) => (i, b) :: log
    | _ => log := by
  unfold loggedW logged loadBlock
  simp only
  cases r x with
  | map b => cases b <;> rfl
  | _ => rfl
@[go_sem] theorem loggedW_makeMap (ty : TypeId) (x : Option Operand) (r : Operand → Value) : loggedW (.makeMap ty x) r i log = log := rfl
@[go_sem] theorem loggedW_mapUpdate (ty : TypeId) (x k v : Operand) (r : Operand → Value) : loggedW (.mapUpdate ty x k v) r i log = log := rfl
@[go_sem] theorem loggedW_mapEntry (ty : TypeId) (x k : Operand) (r : Operand → Value) : loggedW (.mapEntry ty x k) r i log = log := rfl
@[go_sem] theorem loggedW_entryStore (ty : TypeId) (x s v : Operand) (r : Operand → Value) : loggedW (.entryStore ty x s v) r i log = log := rfl
@[go_sem] theorem loggedW_nilCheck (x : Operand) (r : Operand → Value) : loggedW (.nilCheck x) r i log = log := rfl
end logs

/-- What a map has at a number. -/
def mget : List MapEntry → Int → Option Value
  | [], _ => none
  | e :: r, x => match e.key with
    | .int .i64 y => if y = x then some e.val else mget r x
    | _ => mget r x

def IKeys (es : List MapEntry) : Prop := ∀ e ∈ es, ∃ y, e.key = .int .i64 y

theorem mget_cons {e : MapEntry} {y : Int} (h : e.key = .int .i64 y) (r : List MapEntry) (x : Int) : mget (e :: r) x = if y = x then some e.val else mget r x := by
  rw [mget, h]

theorem mget_snoc : ∀ (es : List MapEntry), IKeys es → ∀ (x : Int) (v : Value) (b : Nat), mget es x = none → ∀ y, mget (es ++ [{ key := .int .i64 x, val := v, born := b }]) y = if y = x then some v else mget es y
  | [], _, x, v, b, _, y => by
    show mget [_] y = _
    rw [mget_cons rfl]
    by_cases h : x = y
    · rw [if_pos h, if_pos h.symm]
    · rw [if_neg h, if_neg (Ne.symm h)]
  | e :: r, hk, x, v, b, hn, y => by
    obtain ⟨z, hz⟩ := hk e (by simp)
    rw [List.cons_append, mget_cons hz, mget_cons hz]
    rw [mget_cons hz] at hn
    by_cases h1 : z = x
    · rw [if_pos h1] at hn; cases hn
    · rw [if_neg h1] at hn
      rw [mget_snoc r (fun e he => hk e (by simp [he])) x v b hn y]
      by_cases h2 : y = x
      · subst h2
        rw [if_neg h1, if_pos rfl, if_pos rfl]
      · rw [if_neg h2, if_neg h2]

/-- Where a number is. -/
theorem mfind : ∀ (es : List MapEntry), IKeys es → ∀ (x : Int) (n : Nat),
    (mget es x = none ∧ Instr.findNow (.int .i64) (.int .i64 x) es n = some none) ∨
    ∃ i u, i < es.length ∧ mget es x = some u ∧ Instr.findNow (.int .i64) (.int .i64 x) es n = some (some (n + i, u)) ∧
      (∀ f : MapEntry → MapEntry, (∀ e, e.key = .int .i64 x → (f e).key = .int .i64 x) → ∀ y, mget (es.modify i f) y = if y = x then (es[i]?).map (fun e => (f e).val) else mget es y) ∧ (es[i]?).map (·.key) = some (.int .i64 x) ∧ (es[i]?).map (·.val) = some u
  | [], _, x, n => .inl ⟨rfl, rfl⟩
  | e :: r, hk, x, n => by
    obtain ⟨z, hz⟩ := hk e (by simp)
    rw [mget_cons hz]
    have hs : Instr.sameNow (.int .i64) (.int .i64 x) e.key = some (x == z) := by rw [hz]; rfl
    by_cases h : z = x
    · subst h
      refine .inr ⟨0, e.val, by simp, by rw [if_pos rfl], ?_, ?_, by simp [hz], by simp⟩
      · simp only [Instr.findNow, hs, beq_self_eq_true]; rfl
      · intro f hf y
        show mget (f e :: r) y = _
        rw [mget_cons (hf e hz), mget_cons hz]
        by_cases hy : y = z
        · subst hy; rw [if_pos rfl, if_pos rfl]; rfl
        · rw [if_neg (Ne.symm hy), if_neg hy, if_neg (Ne.symm hy)]
    · have hb : (x == z) = false := by simpa using fun e => h e.symm
      rw [if_neg h]
      rw [hb] at hs
      rcases mfind r (fun e he => hk e (by simp [he])) x (n + 1) with ⟨h1, h2⟩ | ⟨i, u, h1, h2, h3, h4, h5, h6⟩
      · exact .inl ⟨h1, by simp only [Instr.findNow, hs]; exact h2⟩
      · refine .inr ⟨i + 1, u, by simpa using h1, h2, ?_, ?_, by simpa using h5, by simpa using h6⟩
        · simp only [Instr.findNow, hs, h3]
          rw [show n + 1 + i = n + (i + 1) by omega]
        · intro f hf y
          show mget (e :: r.modify i f) y = _
          rw [mget_cons hz, mget_cons hz, h4 f hf y]
          by_cases hy : y = x
          · subst hy; rw [if_neg h, if_pos rfl, if_pos rfl]; simp
          · rw [if_neg hy, if_neg hy]

theorem modify_get {α : Type} (l : List α) (i j : Nat) (f : α → α) : (l.modify i f)[j]? = if i = j then (l[j]?).map f else l[j]? := by
  rw [List.getElem?_modify]
  by_cases h : i = j
  · simp [h]
  · simp [h]

/-- A map of ints. -/
structure IMapE (es : List MapEntry) (clock : Nat) (f : Int → Option Value) : Prop where
  keys : IKeys es
  lt : ∀ e ∈ es, e.born < clock
  nd : (es.map (·.born)).Nodup
  at_ : ∀ x, mget es x = f x
def IMap (m : Mem) (b : Nat) (f : Int → Option Value) : Prop := ∃ es clock, m.get b = some (.map es clock) ∧ IMapE es clock f

theorem IMap.keep {b : Nat} {f : Int → Option Value} (h : IMap m b f) (e : m'.get b = m.get b) : IMap m' b f := by
  obtain ⟨es, c, h1, h2⟩ := h
  exact ⟨es, c, e.trans h1, h2⟩
theorem IMap.blk {b : Nat} {f : Int → Option Value} (h : IMap m b f) : b < m.size := by
  obtain ⟨es, c, h1, h2⟩ := h
  exact getM_lt h1
theorem IMap.old {b : Nat} {f : Int → Option Value} (h : IMap m b f) (o : Old m m') : IMap m' b f := h.keep (o.get h.blk)
theorem IMap.ext {b : Nat} {f g : Int → Option Value} (h : IMap m b f) (e : ∀ x, f x = g x) : IMap m b g := by
  have : f = g := funext e
  exact this ▸ h
theorem IMap.new {b : Nat} (h : m.get b = some (.map [] 0)) : IMap m b fun _ => none := ⟨[], 0, h, ⟨fun e he => by simp at he, fun e he => by simp at he, by simp, fun x => rfl⟩⟩

/-- A type of maps of ints. -/
def IsIMap (E : Env) (t : TypeId) (z : Value) : Prop := ∃ kt ei, mapD E t = some (kt, .int .i64, ei) ∧ ei.zero = z

theorem makeMapV_int {t : TypeId} {z : Value} (h : IsIMap E t z) : makeMapV E m t none = some (.map (some m.size), m.push (.map [] 0)) := by
  obtain ⟨kt, ei, h1, _⟩ := h
  unfold makeMapV
  rw [h1]
theorem makeMapV_hint {t : TypeId} {z : Value} (h : IsIMap E t z) (k : IntKind) (n : Int) : makeMapV E m t (some (.int k n)) = some (.map (some m.size), m.push (.map [] 0)) := by
  obtain ⟨kt, ei, h1, _⟩ := h
  unfold makeMapV
  rw [h1]

theorem IMap.look {b : Nat} {f : Int → Option Value} (h : IMap m b f) {t : TypeId} {z : Value} (ht : IsIMap E t z) (x : Int) : lookupV E m t (.map (some b)) (.int .i64 x) false = some ((f x).getD z) := by
  obtain ⟨kt, ei, h1, rfl⟩ := ht
  obtain ⟨es, c, hg, hm⟩ := h
  unfold lookupV
  simp only [h1, entriesV, hg]
  rw [if_pos (by simp [keyD]), ← hm.at_]
  rcases mfind es hm.keys x 0 with ⟨k1, k2⟩ | ⟨i, u, _, k2, k3, _⟩
  · rw [k1, k2]; rfl
  · rw [k2, k3]; rfl
theorem IMap.look2 {b : Nat} {f : Int → Option Value} (h : IMap m b f) {t : TypeId} {z : Value} (ht : IsIMap E t z) (x : Int) : lookupV E m t (.map (some b)) (.int .i64 x) true = some (.tuple #[(f x).getD z, .bool (f x).isSome]) := by
  obtain ⟨kt, ei, h1, rfl⟩ := ht
  obtain ⟨es, c, hg, hm⟩ := h
  unfold lookupV
  simp only [h1, entriesV, hg]
  rw [if_pos (by simp [keyD]), ← hm.at_]
  rcases mfind es hm.keys x 0 with ⟨k1, k2⟩ | ⟨i, u, _, k2, k3, _⟩
  · rw [k1, k2]; rfl
  · rw [k2, k3]; rfl

def updM (f : Int → Option Value) (x : Int) (v : Value) : Int → Option Value := fun y => if y = x then some v else f y

theorem IMapE.modify {es : List MapEntry} {c : Nat} {f g : Int → Option Value} (h : IMapE es c f) {i : Nat} (u : MapEntry → MapEntry) (hb : ∀ e, (u e).born = e.born) (hk : ∀ e y, e.key = .int .i64 y → e ∈ es → es[i]? = some e → ∃ y, (u e).key = .int .i64 y) (hg : ∀ y, mget (es.modify i u) y = g y) : IMapE (es.modify i u) c g := by
  refine ⟨fun e he => ?_, fun e he => ?_, ?_, hg⟩
  · obtain ⟨j, hj⟩ := List.getElem?_of_mem he
    rw [modify_get] at hj
    split at hj
    · rename_i hij
      subst hij
      obtain ⟨e0, h0, h1⟩ := Option.map_eq_some_iff.1 hj
      obtain ⟨y, hy⟩ := h.keys e0 (List.mem_of_getElem? h0)
      rw [← h1]
      exact hk e0 y hy (List.mem_of_getElem? h0) h0
    · exact h.keys e (List.mem_of_getElem? hj)
  · obtain ⟨j, hj⟩ := List.getElem?_of_mem he
    rw [modify_get] at hj
    split at hj
    · obtain ⟨e0, h0, h1⟩ := Option.map_eq_some_iff.1 hj
      rw [← h1, hb]
      exact h.lt e0 (List.mem_of_getElem? h0)
    · exact h.lt e (List.mem_of_getElem? hj)
  · have : (es.modify i u).map (·.born) = es.map (·.born) := by
      apply List.ext_getElem?
      intro j
      rw [List.getElem?_map, List.getElem?_map, modify_get]
      cases es[j]? with
      | none => split <;> rfl
      | some e =>
        split
        · simp only [Option.map_some, hb]
        · rfl
    rw [this]
    exact h.nd
theorem IMapE.snoc {es : List MapEntry} {c : Nat} {f : Int → Option Value} (h : IMapE es c f) {x : Int} (hx : mget es x = none) (v : Value) : IMapE (es ++ [{ key := .int .i64 x, val := v, born := c }]) (c + 1) (updM f x v) := by
  refine ⟨fun e he => ?_, fun e he => ?_, ?_, fun y => ?_⟩
  · rcases List.mem_append.1 he with he | he
    · exact h.keys e he
    · rw [List.mem_singleton.1 he]; exact ⟨x, rfl⟩
  · rcases List.mem_append.1 he with he | he
    · have := h.lt e he; omega
    · rw [List.mem_singleton.1 he]; exact Nat.lt_succ_self _
  · rw [List.map_append, List.nodup_append]
    refine ⟨h.nd, by simp, fun a ha b hb => ?_⟩
    obtain ⟨e, he, rfl⟩ := List.mem_map.1 ha
    simp only [List.map_cons, List.map_nil, List.mem_singleton] at hb
    have := h.lt e he
    omega
  · rw [mget_snoc es h.keys x v c hx y, h.at_]; rfl

/-- A map is written at a number. -/
theorem IMap.upd {b : Nat} {f : Int → Option Value} (h : IMap m b f) {t : TypeId} {z : Value} (ht : IsIMap E t z) (x : Int) (v : Value) : ∃ m', mapUpdateV E m t (.map (some b)) (.int .i64 x) v = some m' ∧ IMap m' b (updM f x v) ∧ m'.size = m.size ∧ ∀ i, i ≠ b → m'.get i = m.get i := by
  have hl := h.blk
  obtain ⟨kt, ei, h1, rfl⟩ := ht
  obtain ⟨es, c, hg, hm⟩ := h
  unfold mapUpdateV
  simp only [h1, hg]
  rw [if_pos (by simp [keyD])]
  rcases mfind es hm.keys x 0 with ⟨k1, k2⟩ | ⟨i, u, hi, k2, k3, k4, k5, k6⟩
  · rw [k2]
    refine ⟨_, rfl, ⟨_, _, by rw [getM_put, if_pos ⟨rfl, hl⟩], hm.snoc k1 v⟩, by rw [size_put], fun i hi => by rw [getM_put, if_neg (fun e => hi e.1)]⟩
  · rw [k3, Nat.zero_add]
    refine ⟨_, rfl, ⟨_, _, by rw [getM_put, if_pos ⟨rfl, hl⟩], hm.modify (fun e => { e with key := .int .i64 x, val := v }) (fun _ => rfl) (fun e y _ _ _ => ⟨x, rfl⟩) fun y => ?_⟩, by rw [size_put], fun i hi => by rw [getM_put, if_neg (fun e => hi e.1)]⟩
    rw [k4 (fun e => { e with key := .int .i64 x, val := v }) (fun e _ => rfl) y, List.getElem?_eq_getElem hi]
    unfold updM
    rw [hm.at_]
    rfl

theorem findIdx_born {es : List MapEntry} : ∀ {i : Nat} {e : MapEntry}, (es.map (·.born)).Nodup → es[i]? = some e → es.findIdx? (fun a => (a.born : Int) == (e.born : Int)) = some i := by
  induction es with
  | nil => intro i e _ h; simp at h
  | cons a r ih =>
    intro i e hn he
    rw [List.map_cons, List.nodup_cons] at hn
    rw [List.findIdx?_cons]
    cases i with
    | zero =>
      simp at he
      subst he
      simp
    | succ i =>
      have he' : r[i]? = some e := by simpa using he
      have hne : ¬ a.born = e.born := fun h => hn.1 (List.mem_map.2 ⟨e, List.mem_of_getElem? he', h.symm⟩)
      have hb : ((a.born : Int) == (e.born : Int)) = false := by rw [beq_eq_false_iff_ne]; omega
      rw [hb, ih hn.2 he']
      rfl

/-- A map's entry is taken, and written at once or later. -/
theorem IMap.entry {b : Nat} {f : Int → Option Value} (h : IMap m b f) {t : TypeId} {z : Value} (ht : IsIMap E t z) (x : Int) : ∃ m' s, mapEntryV E m t (.map (some b)) (.int .i64 x) = some (.tuple #[(f x).getD z, .int .i64 s], m') ∧ IMap m' b (updM f x ((f x).getD z)) ∧ m'.size = m.size ∧ (∀ i, i ≠ b → m'.get i = m.get i) ∧
    ∀ m2 v, m2.get b = m'.get b → ∃ m3, entryStoreV m2 (.map (some b)) (.int .i64 s) v = some m3 ∧ IMap m3 b (updM f x v) ∧ m3.size = m2.size ∧ ∀ i, i ≠ b → m3.get i = m2.get i := by
  have hl := h.blk
  obtain ⟨kt, ei, h1, rfl⟩ := ht
  obtain ⟨es, c, hg, hm⟩ := h
  unfold mapEntryV
  simp only [h1, hg]
  rw [if_pos (by simp [keyD])]
  -- what the store does
  have store : ∀ {es1 : List MapEntry} {c1 : Nat} {g : Int → Option Value} {i : Nat} {e : MapEntry} (h1 : IMapE es1 c1 g) (hi : es1[i]? = some e) (hk : e.key = .int .i64 x) (hget : ∀ f : MapEntry → MapEntry, (∀ e, e.key = .int .i64 x → (f e).key = .int .i64 x) → ∀ y, mget (es1.modify i f) y = if y = x then (es1[i]?).map (fun e => (f e).val) else g y) (hgf : ∀ y, y ≠ x → g y = f y) (m2 : Mem) (v : Value), m2.get b = some (.map es1 c1) →
      ∃ m3, entryStoreV m2 (.map (some b)) (.int .i64 (e.born : Int)) v = some m3 ∧ IMap m3 b (updM f x v) ∧ m3.size = m2.size ∧ ∀ i, i ≠ b → m3.get i = m2.get i := by
    intro es1 c1 g i e hE hi hk hget hgf m2 v hm2
    have l2 := getM_lt hm2
    unfold entryStoreV
    simp only [asI, hm2]
    rw [findIdx_born hE.nd hi]
    refine ⟨_, rfl, ⟨_, _, by rw [getM_put, if_pos ⟨rfl, l2⟩], hE.modify (fun e => { e with val := v }) (fun _ => rfl) (fun e y hk _ _ => ⟨y, hk⟩) fun y => ?_⟩, by rw [size_put], fun i hi => by rw [getM_put, if_neg (fun e => hi e.1)]⟩
    rw [hget (fun e => { e with val := v }) (fun e he => he) y, hi]
    unfold updM
    by_cases hy : y = x
    · rw [if_pos hy, if_pos hy]; rfl
    · rw [if_neg hy, if_neg hy, hgf y hy]
  rcases mfind es hm.keys x 0 with ⟨k1, k2⟩ | ⟨i, u, hi, k2, k3, k4, k5, k6⟩
  · rw [k2]
    have hfx : f x = none := (hm.at_ x).symm.trans k1
    have hE := hm.snoc k1 ei.zero
    refine ⟨_, _, by rw [hfx]; rfl, ⟨_, _, by rw [getM_put, if_pos ⟨rfl, hl⟩], by rw [hfx]; exact hE⟩, by rw [size_put], fun i hi => by rw [getM_put, if_neg (fun e => hi e.1)], fun m2 v h2 => ?_⟩
    rw [getM_put, if_pos ⟨rfl, hl⟩] at h2
    have hlast : (es ++ [({ key := .int .i64 x, val := ei.zero, born := c } : MapEntry)])[es.length]? = some { key := .int .i64 x, val := ei.zero, born := c } := by simp
    refine store hE hlast rfl (fun u hu y => ?_) (fun y hy => by unfold updM; rw [if_neg hy]) m2 v h2
    have e1 : (es ++ [({ key := .int .i64 x, val := ei.zero, born := c } : MapEntry)]).modify es.length u = es ++ [u { key := .int .i64 x, val := ei.zero, born := c }] := by
      apply List.ext_getElem?
      intro j
      rw [modify_get]
      rcases Nat.lt_trichotomy j es.length with hj | hj | hj
      · rw [List.getElem?_append_left hj, List.getElem?_append_left hj, if_neg (by omega)]
      · subst hj; simp
      · rw [if_neg (by omega), List.getElem?_eq_none (by simp; omega), List.getElem?_eq_none (by simp; omega)]
    have hu' := hu { key := .int .i64 x, val := ei.zero, born := c } rfl
    rw [e1, hlast]
    simp only [Option.map_some]
    generalize u { key := .int .i64 x, val := ei.zero, born := c } = w at *
    obtain ⟨uk, uv, ub⟩ := w
    simp only at hu'
    subst hu'
    rw [mget_snoc es hm.keys x uv ub k1 y, hm.at_]
    unfold updM
    by_cases hy : y = x
    · rw [if_pos hy, if_pos hy]
    · rw [if_neg hy, if_neg hy, if_neg hy]
  · rw [k3]
    have hfx : f x = some u := (hm.at_ x).symm.trans k2
    rw [List.getElem?_eq_getElem hi] at k5 k6
    simp only [Option.map_some, Option.some.injEq] at k5 k6
    have hmod : ∀ y, mget (es.modify i fun e => { e with key := .int .i64 x }) y = updM f x u y := fun y => by
      rw [k4 _ (fun e _ => rfl) y, List.getElem?_eq_getElem hi]
      unfold updM
      rw [hm.at_]
      simp only [Option.map_some, k6]
    have hE : IMapE (es.modify i fun e => { e with key := .int .i64 x }) c (updM f x u) := hm.modify _ (fun _ => rfl) (fun e y _ _ _ => ⟨x, rfl⟩) hmod
    simp only [Nat.zero_add, List.getElem?_eq_getElem hi, Option.map_some, Option.getD_some]
    refine ⟨_, _, by rw [hfx]; rfl, ⟨_, _, by rw [getM_put, if_pos ⟨rfl, hl⟩], by rw [hfx]; exact hE⟩, by rw [size_put], fun i hi => by rw [getM_put, if_neg (fun e => hi e.1)], fun m2 v h2 => ?_⟩
    rw [getM_put, if_pos ⟨rfl, hl⟩] at h2
    have hat : (es.modify i fun e => { e with key := .int .i64 x })[i]? = some { es[i] with key := .int .i64 x } := by
      rw [modify_get, if_pos rfl, List.getElem?_eq_getElem hi]
      rfl
    refine store (e := { es[i] with key := .int .i64 x }) hE hat rfl (fun w hw y => ?_) (fun y hy => by unfold updM; rw [if_neg hy]) m2 v h2
    have e1 : (es.modify i fun e => { e with key := .int .i64 x }).modify i w = es.modify i fun e => w { e with key := .int .i64 x } := by
      apply List.ext_getElem?
      intro j
      rw [modify_get, modify_get, modify_get]
      by_cases hij : i = j
      · rw [if_pos hij, if_pos hij, if_pos hij, Option.map_map]; rfl
      · rw [if_neg hij, if_neg hij, if_neg hij]
    rw [e1, k4 _ (fun e _ => hw _ rfl) y, hat, List.getElem?_eq_getElem hi]
    by_cases hy : y = x
    · rw [if_pos hy, if_pos hy]; rfl
    · rw [if_neg hy, if_neg hy]
      unfold updM
      rw [if_neg hy, hm.at_]
end Go.Abs
