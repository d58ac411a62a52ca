/-
  What the memory's own steps do on both sides: a new block, cells that are read, cells that are written.
-/
import Derived.Test.YthlcbacmbcmgfaaAbs1
import Derived.Laws.Sem
import Derived.Laws.Cells
import Derived.Laws.World
import Derived.Laws.Entries
namespace Go.Abs
variable {C : FuncId → Code → Prop} {B : Nat}

theorem getM_lt {m : Mem} {i : Nat} {b : Blk} (h : m.get i = some b) : i < m.size := by
  unfold Mem.get at h
  rcases Nat.lt_or_ge i m.bl.length with h' | h'
  · exact h'
  · rw [List.getElem?_eq_none h'] at h
    cases h

theorem getM_push (m : Mem) (b : Blk) (i : Nat) : (m.push b).get i = if i = m.size then some b else m.get i := by
  unfold Mem.get Mem.push Mem.size
  simp only [List.getElem?_append]
  by_cases h : i < m.bl.length
  · rw [if_pos h, if_neg (by omega)]
  · rw [if_neg h]
    by_cases e : i = m.bl.length
    · subst e
      simp
    · rw [if_neg e, List.getElem?_eq_none (by simp; omega), List.getElem?_eq_none (by omega)]

theorem getM_put (m : Mem) (i : Nat) (b : Option Blk) (j : Nat) : (m.put i b).get j = if j = i ∧ i < m.size then b else m.get j := by
  unfold Mem.get Mem.put Mem.size
  simp only [List.getElem?_set]
  by_cases e : i = j
  · subst e
    by_cases h : i < m.bl.length
    · simp [h]
    · simp [h]
  · rw [if_neg e, if_neg (by omega)]

@[simp] theorem size_push (m : Mem) (b : Blk) : (m.push b).size = m.size + 1 := by simp [Mem.push, Mem.size]
@[simp] theorem size_put (m : Mem) (i : Nat) (b : Option Blk) : (m.put i b).size = m.size := by simp [Mem.put, Mem.size]

def Inj.ext (ρ : Inj) (i : Nat) (e : Ent) : Inj := fun j => if j = i then some e else ρ j

theorem Inj.le_ext {ρ : Inj} {i : Nat} (e : Ent) (h : ρ i = none) : ρ.le (ρ.ext i e) := fun j e' hj => by
  unfold Inj.ext
  split
  · rename_i k; subst k; rw [h] at hj; cases hj
  · exact hj

theorem Sim.fresh {ρ : Inj} {m : Mem} {w : World} (h : Sim C B ρ m w) (hB : m.size < B) : ρ m.size = none := by
  cases e : ρ m.size with
  | none => rfl
  | some x => have := h.dom _ _ e; omega

/-- A new block on both sides: whatever real blocks have come beside it. -/
theorem Sim.push {ρ : Inj} {m : Mem} {w w' : World} (h : Sim C B ρ m w) (hB : m.size < B) (b : Blk) (e : Ent) (hos : w'.os = w.os) (htape : w'.tape = w.tape) (hout : w'.output = w.output)
    (hold : ∀ r, r < w.heap.size → w'.heap[r]? = w.heap[r]?) (hsz : w.heap.size ≤ w'.heap.size) (he : w.heap.size ≤ e.blk) (hb : BRel C ρ w' e b) :
    Post C B ρ m w (ρ.ext m.size e) (m.push b) w' where
  le := Inj.le_ext e (h.fresh hB)
  msize := by simp
  new i e' hi := by
    unfold Inj.ext at hi
    split at hi
    · exact .inr (by simp; omega)
    · exact .inl hi
  os := hos
  tape := htape
  output := hout
  size := hsz
  frame r hr _ := hold r hr
  sim := by
    have hle : ρ.le (ρ.ext m.size e) := Inj.le_ext e (h.fresh hB)
    refine ⟨⟨fun i c hi => ?_, fun i j bi bj ei ej hi hj hne hw h1 h2 => ?_⟩, fun i e' hi => ?_⟩
    · rw [getM_push] at hi
      split at hi
      · rename_i k; subst k
        cases hi
        exact ⟨e, by simp [Inj.ext], hb.mono hle rfl⟩
      · obtain ⟨e', h1, h2⟩ := h.sim.rel i c hi
        exact ⟨e', hle _ _ h1, h2.mono hle (hold _ h2.lt)⟩
    · rw [getM_push] at hi hj
      have old : ∀ k c f, m.get k = some c → (ρ.ext m.size e) k = some f → ρ k = some f ∧ f.blk < w.heap.size := fun k c f hk hf => by
        have hlt := getM_lt hk
        have hf' : ρ k = some f := by unfold Inj.ext at hf; rwa [if_neg (by omega)] at hf
        obtain ⟨e', k1, k2⟩ := h.sim.rel k c hk
        rw [hf'] at k1; cases k1
        exact ⟨hf', k2.lt⟩
      have new : ∀ f, (ρ.ext m.size e) m.size = some f → f = e := fun f hf => by
        have := hf; simp [Inj.ext] at this; exact this.symm
      split at hi
      · rename_i k; subst k
        rw [if_neg (fun e => hne e.symm)] at hj
        obtain ⟨_, h3⟩ := old j bj ej hj h2
        rw [new _ h1]
        omega
      · split at hj
        · rename_i k; subst k
          obtain ⟨_, h3⟩ := old i bi ei hi h1
          rw [new _ h2]
          omega
        · exact h.sim.inj i j bi bj ei ej hi hj hne hw (old i bi ei hi h1).1 (old j bj ej hj h2).1
    · unfold Inj.ext at hi
      split at hi
      · rename_i k; subst k; simp
      · have := h.dom i e' hi; simp; omega
  img i b' e' hi hw hρ := by
    rw [getM_push] at hi
    split at hi
    · rename_i k; subst k
      have : e = e' := by simpa [Inj.ext] using hρ
      subst this
      exact .inl he
    · have hlt := getM_lt hi
      have hf' : ρ i = some e' := by unfold Inj.ext at hρ; rwa [if_neg (by omega)] at hρ
      exact .inr ⟨i, b', e', hi, hw, hf', rfl⟩

theorem heap_alloc_old (w : World) (o : Obj) (r : Nat) (h : r < w.heap.size) : (w.alloc o).heap[r]? = w.heap[r]? := by
  show (w.heap.push o)[r]? = _
  rw [Array.getElem?_push, if_neg (by omega)]

theorem Sim.alloc {ρ : Inj} {m : Mem} {w : World} (h : Sim C B ρ m w) (hB : m.size < B) (b : Blk) (e : Ent) (o : Obj) (he : e.blk = w.heap.size) (hb : BRel C ρ (w.alloc o) e b) :
    Post C B ρ m w (ρ.ext m.size e) (m.push b) (w.alloc o) :=
  h.push hB b e rfl rfl rfl (heap_alloc_old w o) (by simp) (by omega) hb

theorem heap_alloc_new (w : World) (o : Obj) : (w.alloc o).heap[w.heap.size]? = some o := by
  show (w.heap.push o)[w.heap.size]? = some o
  simp

/-- A new row of cells. -/
theorem Sim.alloc_cells {ρ : Inj} {m : Mem} {w : World} (h : Sim C B ρ m w) (hB : m.size < B) (tight : Bool) (es : Nat) (cs : List Value) (c : Array Value) (el : TypeId) (lim : Nat)
    (hc : ∀ (k : Nat) (v : Value), cs[k]? = some v → ∃ v', c[k]? = some v' ∧ VRel ρ v v') (hl : tight = false → lim ≤ c.size) :
    Post C B ρ m w (ρ.ext m.size ⟨w.heap.size, 0, lim, es, tight⟩) (m.push (.cells false tight cs)) (w.alloc (.cells c el)) :=
  h.alloc hB _ _ _ rfl ⟨c, el, (0, 0), heap_alloc_new w _, rfl, fun k v hk => by simpa using hc k v hk, hl, fun _ => .inl rfl⟩

theorem VRel.new (ρ : Inj) (i : Nat) (e : Ent) (o : Nat) : VRel (ρ.ext i e) (.pointer (some ⟨i, o, none⟩)) (.pointer (some ⟨e.blk, e.sh + o, none⟩)) :=
  .ptr (by simp [Inj.ext]) o

/-- A block is let go, or changes on both sides, the same block, as far as anything can tell. -/
theorem Sim.turn {ρ : Inj} {m : Mem} {w w' : World} (h : Sim C B ρ m w) {i : Nat} {b : Blk} {e : Ent} (hi : m.get i = some b) (hw : b.writable = true) (he : ρ i = some e)
    (b' : Option Blk) (hos : w'.os = w.os) (htape : w'.tape = w.tape) (hout : w'.output = w.output) (hsz : w'.heap.size = w.heap.size)
    (hold : ∀ r, r ≠ e.blk → w'.heap[r]? = w.heap[r]?) (hb : ∀ c, b' = some c → BRel C ρ w' e c) :
    Post C B ρ m w ρ (m.put i b') w' where
  le := Inj.le_refl ρ
  msize := by simp
  new _ _ h := .inl h
  os := hos
  tape := htape
  output := hout
  size := by omega
  frame r _ hf := hold r (fun k => hf i b e hi hw he k.symm)
  sim := by
    have hlt := getM_lt hi
    have cases : ∀ {j c}, (m.put i b').get j = some c → (j = i ∧ b' = some c) ∨ (j ≠ i ∧ m.get j = some c) := fun {j c} hj => by
      rw [getM_put] at hj
      split at hj
      · rename_i k; exact .inl ⟨k.1, hj⟩
      · rename_i k; exact .inr ⟨fun e => k ⟨e, hlt⟩, hj⟩
    refine ⟨⟨fun j c hj => ?_, fun j k bj bk ej ek hj hk hne hwj h1 h2 => ?_⟩, fun j e' hj => ?_⟩
    · rcases cases hj with ⟨rfl, hc⟩ | ⟨hne, hc⟩
      · exact ⟨e, he, hb c hc⟩
      · obtain ⟨e', k1, k2⟩ := h.sim.rel j c hc
        refine ⟨e', k1, k2.mono (Inj.le_refl ρ) (hold _ ?_)⟩
        exact fun k => h.sim.inj i j b c e e' hi hc (Ne.symm hne) hw he k1 k.symm
    · have live : ∀ {x c f}, (m.put i b').get x = some c → ρ x = some f → ∃ c0, m.get x = some c0 ∧ (x ≠ i → c0 = c) := fun {x c f} hx hf => by
        rcases cases hx with ⟨rfl, _⟩ | ⟨hne, hc⟩
        · exact ⟨b, hi, fun k => absurd rfl k⟩
        · exact ⟨c, hc, fun _ => rfl⟩
      obtain ⟨cj, hcj, ecj⟩ := live hj h1
      obtain ⟨ck, hck, eck⟩ := live hk h2
      by_cases hji : j = i
      · subst hji
        rw [hi] at hcj; cases hcj
        exact h.sim.inj j k b ck ej ek hi hck hne hw h1 h2
      · have := ecj hji; subst this
        exact h.sim.inj j k _ ck ej ek hcj hck hne hwj h1 h2
    · rw [size_put]; exact h.dom j e' hj
  img j c e' hj hwj hρ := by
    rw [getM_put] at hj
    split at hj
    · rename_i k
      rw [k.1] at hρ
      exact .inr ⟨i, b, e', hi, hw, hρ, rfl⟩
    · exact .inr ⟨j, c, e', hj, hwj, hρ, rfl⟩

/-! ### Cells that are read -/
theorem add_none (b o n : Nat) : (⟨b, o, none⟩ : Addr).add n = ⟨b, o + n, none⟩ := by
  unfold Addr.add
  split <;> simp_all

theorem row_rel {ρ : Inj} {m : Mem} {w : World} (h : Sim C B ρ m w) {i o n : Nat} {sp : Option Nat} {l : List Value} {e : Ent} (hr : m.row ⟨i, o, sp⟩ n = some l) (he : ρ i = some e) :
    ∃ l', l'.length = n ∧ LRel ρ l l' ∧ (∀ j v, l'[j]? = some v → w.cell? ⟨e.blk, e.sh + o + j, none⟩ = some v) := by
  unfold Mem.row at hr
  split at hr
  · rename_i ro tg cs hg
    dsimp only at hr hg
    split at hr
    · rename_i hc
      cases hr
      obtain ⟨e', he', hb⟩ := h.sim.rel i _ hg
      rw [he] at he'; cases he'
      obtain ⟨c, el, fr, hh, _, hv, _⟩ := hb
      have hlen : ((cs.drop o).take n).length = n := by simp; omega
      have key : ∀ j v, ((cs.drop o).take n)[j]? = some v → ∃ v', c[e.sh + o + j]? = some v' ∧ VRel ρ v v' := fun j v hj => by
        have hjn : j < n := by have := (List.getElem?_eq_some_iff.1 hj).1; omega
        rw [List.getElem?_take_of_lt hjn, List.getElem?_drop] at hj
        obtain ⟨v', k1, k2⟩ := hv _ _ hj
        exact ⟨v', by rw [Nat.add_assoc]; exact k1, k2⟩
      refine ⟨(List.range n).map fun j => c.getD (e.sh + o + j) undef, by simp, LRel.of_get (by simpa using hlen) fun j v v' h1 h2 => ?_, fun j v hj => ?_⟩
      · obtain ⟨u, k1, k2⟩ := key j v h1
        have hjn : j < n := by have := (List.getElem?_eq_some_iff.1 h1).1; omega
        simp [hjn, Array.getD_eq_getD_getElem?, k1] at h2
        exact h2 ▸ k2
      · have hjn : j < n := by have := (List.getElem?_eq_some_iff.1 hj).1; simpa using this
        obtain ⟨u, k1, _⟩ := key j _ (List.getElem?_eq_getElem (by omega))
        simp [hjn, Array.getD_eq_getD_getElem?, k1] at hj
        simp [World.cell?, hh, k1, hj]
    · cases hr
  · cases hr

theorem run_loadCells_rel {P : Program} {ρ : Inj} {m : Mem} {w : World} (h : Sim C B ρ m w) {i o n : Nat} {sp : Option Nat} {l : List Value} {e : Ent} (hr : m.row ⟨i, o, sp⟩ n = some l) (he : ρ i = some e) :
    ∃ l', LRel ρ l l' ∧ l'.length = n ∧ (loadCells ⟨e.blk, e.sh + o, none⟩ n).run P w = .ok l'.toArray w := by
  obtain ⟨l', h1, h2, h3⟩ := row_rel h hr he
  refine ⟨l', h2, h1, ?_⟩
  have := run_loadCells_list (P := P) w ⟨e.blk, e.sh + o, none⟩ l' fun j v hj => by rw [add_none]; exact h3 j v hj
  rwa [h1] at this

theorem cell_rel {ρ : Inj} {m : Mem} {w : World} (h : Sim C B ρ m w) {i o : Nat} {sp : Option Nat} {v : Value} {e : Ent} (hr : m.cell ⟨i, o, sp⟩ = some v) (he : ρ i = some e) :
    ∃ v', VRel ρ v v' ∧ w.cell? ⟨e.blk, e.sh + o, none⟩ = some v' := by
  unfold Mem.cell at hr
  split at hr
  · rename_i ro tg cs hg
    obtain ⟨e', he', hb⟩ := h.sim.rel i _ hg
    rw [he] at he'; cases he'
    obtain ⟨c, el, fr, hh, _, hv, _⟩ := hb
    obtain ⟨v', k1, k2⟩ := hv _ _ hr
    exact ⟨v', k2, by simp [World.cell?, hh, k1]⟩
  · cases hr

/-! ### Cells that are written -/
theorem oneCell_eq (v : Value) (h : oneCell v = true) : v.oneCell' = true := by cases v <;> first | rfl | (simp [oneCell] at h)

def World.putCells (w : World) (b : Nat) (c : Array Value) (el : TypeId) (fr : Nat × Nat) : World := w.putObj b (.cells c el fr)

theorem run_store_at {P : Program} {w : World} {b k : Nat} {c : Array Value} {el : TypeId} {fr : Nat × Nat} {v : Value} (hh : w.heap[b]? = some (.cells c el fr)) (hk : k < c.size)
    (hf : (decide (fr.1 ≤ k) && decide (k < fr.2)) = false) (hv : oneCell v = true) : (store ⟨b, k, none⟩ v).run P w = .ok () (w.putObj b (.cells (c.setIfInBounds k v) el fr)) := by
  have hcell : w.cell? ⟨b, k, none⟩ = some c[k] := by simp [World.cell?, hh, hk]
  have hfro : w.frozen? ⟨b, k, none⟩ = false := by
    obtain ⟨lo, hi⟩ := fr
    simpa [World.frozen?, hh] using hf
  have hset : w.setCell ⟨b, k, none⟩ v = w.putObj b (.cells (c.setIfInBounds k v) el fr) := by
    have hlt : b < w.heap.size := (Array.getElem?_eq_some_iff.1 hh).1
    have hbb : w.heap[b] = .cells c el fr := by simpa [hlt] using hh
    unfold World.setCell World.putObj
    congr 1
    apply Array.ext_getElem?
    intro i
    simp only [Array.getElem?_modify, Array.getElem?_setIfInBounds]
    by_cases e : b = i
    · subst e; simp [hlt, hbb]
    · simp [e]
  rw [run_store P w _ v _ (oneCell_eq v hv), hcell]
  simp [hfro, hset]

theorem unfrozen {fr : Nat × Nat} {n k : Nat} (h : fr.1 = fr.2 ∨ n ≤ fr.1) (hk : k < n) : (decide (fr.1 ≤ k) && decide (k < fr.2)) = false := by
  simp only [Bool.and_eq_false_iff, decide_eq_false_iff_not]
  omega

theorem run_storeCells_put {P : Program} {b o : Nat} {el : TypeId} {fr : Nat × Nat} : ∀ (vs : List Value) (i : Nat) (c : Array Value) (w : World), w.heap[b]? = some (.cells c el fr) →
    o + i + vs.length ≤ c.size → (∀ k, o + i ≤ k → k < o + i + vs.length → (decide (fr.1 ≤ k) && decide (k < fr.2)) = false) → (∀ v ∈ vs, oneCell v = true) →
    ∃ w', (storeCells ⟨b, o, none⟩ vs i).run P w = .ok () w' ∧ w'.heap[b]? = some (.cells (setRow c.toList (o + i) vs).toArray el fr) ∧ w'.heap.size = w.heap.size ∧ (∀ r, r ≠ b → w'.heap[r]? = w.heap[r]?) ∧
      w'.os = w.os ∧ w'.tape = w.tape ∧ w'.output = w.output
  | [], i, c, w, hh, _, _, _ => ⟨w, rfl, by simpa [setRow] using hh, rfl, fun _ _ => rfl, rfl, rfl, rfl⟩
  | v :: vs, i, c, w, hh, hl, hf, h1 => by
    have hlt : b < w.heap.size := (Array.getElem?_eq_some_iff.1 hh).1
    have hst := run_store_at (P := P) (k := o + i) hh (by simp at hl; omega) (hf _ (Nat.le_refl _) (by simp)) (h1 v (by simp))
    obtain ⟨w', k1, k2, k3, k4, k5⟩ := run_storeCells_put (P := P) (b := b) (o := o) (el := el) (fr := fr) vs (i + 1) (c.setIfInBounds (o + i) v) (w.putObj b (.cells (c.setIfInBounds (o + i) v) el fr))
      (World.putObj_heap_same hlt) (by simp at hl ⊢; omega) (fun k h2 h3 => hf k (by omega) (by simp; omega)) (fun x hx => h1 x (by simp [hx]))
    refine ⟨w', ?_, ?_, ?_, fun r hr => ?_, k5⟩
    · simp only [storeCells, add_none, Sem.run_bind, hst, Result.andThen_ok, k1]
    · simpa [setRow, Nat.add_assoc] using k2
    · simpa using k3
    · rw [k4 r hr, World.putObj_heap_other hr]

theorem setRow_get : ∀ (vs cs : List Value) (n k : Nat), n + vs.length ≤ cs.length → (setRow cs n vs)[k]? = if n ≤ k ∧ k < n + vs.length then vs[k - n]? else cs[k]?
  | [], cs, n, k, _ => by rw [if_neg (by simp)]; rfl
  | v :: vs, cs, n, k, h => by
    have h : n + (vs.length + 1) ≤ cs.length := by simpa using h
    rw [setRow, setRow_get vs (cs.set n v) (n + 1) k (by simp; omega)]
    by_cases h1 : n + 1 ≤ k ∧ k < n + 1 + vs.length
    · rw [if_pos h1, if_pos (by simp; omega)]
      obtain ⟨d, rfl⟩ : ∃ d, k = n + 1 + d := ⟨k - (n + 1), by omega⟩
      rw [show n + 1 + d - (n + 1) = d by omega, show n + 1 + d - n = d + 1 by omega]
      simp
    · rw [if_neg h1]
      by_cases h2 : k = n
      · subst h2
        rw [if_pos (by simp), List.getElem?_set_self (by omega)]
        simp
      · rw [if_neg (by simp; omega), List.getElem?_set_ne (Ne.symm h2)]

/-- Cells of a block are written on both sides. -/
theorem Sim.write {P : Program} {ρ : Inj} {m m' : Mem} {w : World} (h : Sim C B ρ m w) {i o : Nat} {sp : Option Nat} {vs vs' : List Value} {e : Ent} (hm : m.write ⟨i, o, sp⟩ vs = some m') (he : ρ i = some e) (hv : LRel ρ vs vs') :
    ∃ w', (storeCells ⟨e.blk, e.sh + o, none⟩ vs').run P w = .ok () w' ∧ Post C B ρ m w ρ m' w' := by
  unfold Mem.write at hm
  split at hm
  · rename_i tg cs hg
    split at hm
    · rename_i hc
      cases hm
      simp only [Bool.and_eq_true, decide_eq_true_eq, List.all_eq_true] at hc
      obtain ⟨hlen, h1⟩ := hc
      obtain ⟨e', he', hb⟩ := h.sim.rel i _ hg
      rw [he] at he'; cases he'
      have hb0 := hb
      obtain ⟨c, el, fr, hh, ht, hcv, hlim, hfr⟩ := hb
      have hvl := hv.length
      have h1' : ∀ v ∈ vs', oneCell v = true := fun v hx => by
        obtain ⟨k, hk, hk'⟩ := List.getElem_of_mem hx
        obtain ⟨u, k1, k2⟩ := hv.get' (i := k) (v' := v) (by simp [hk, hk'])
        rw [← k2.oneCell]
        exact h1 u (List.mem_of_getElem? k1)
      rcases Nat.eq_zero_or_pos vs.length with h0 | h0
      · have e1 : vs = [] := List.eq_nil_of_length_eq_zero h0
        have e2 : vs' = [] := List.eq_nil_of_length_eq_zero (by omega)
        subst e1; subst e2
        refine ⟨w, rfl, h.turn hg rfl he _ rfl rfl rfl rfl (fun _ _ => rfl) fun c hc => ?_⟩
        cases hc
        exact hb0
      · have hin : e.sh + o + vs'.length ≤ c.size := by
          obtain ⟨v', k1, _⟩ := hcv (o + vs.length - 1) (cs[o + vs.length - 1]'(by omega)) (by simp)
          have := (Array.getElem?_eq_some_iff.1 k1).1
          omega
        obtain ⟨w', k1, k2, k3, k4, k5, k6, k7⟩ := run_storeCells_put (P := P) (o := e.sh + o) vs' 0 c w hh (by omega) (fun k _ h3 => unfrozen (hfr rfl) (by omega)) h1'
        refine ⟨w', k1, h.turn hg rfl he _ k5 k6 k7 k3 k4 fun b hb => ?_⟩
        cases hb
        refine ⟨_, el, fr, k2, ht, fun k v hk => ?_, fun h2 => by simpa [length_setRow] using hlim h2, fun _ => by simpa [length_setRow] using hfr rfl⟩
        rw [setRow_get vs cs o k (by omega)] at hk
        simp only [Nat.add_zero, List.getElem?_toArray]
        rw [setRow_get vs' c.toList (e.sh + o) (e.sh + k) (by simpa using hin)]
        split at hk
        · rename_i hr
          rw [if_pos (by omega), show e.sh + k - (e.sh + o) = k - o by omega]
          exact hv.get hk
        · rename_i hr
          rw [if_neg (by omega)]
          simpa using hcv k v hk
    · cases hm
  · cases hm

end Go.Abs
