/-
  The relation between abstract and real values, rows and memories.
-/
import Derived.Test.YthlcbacmbcmgfaaAbs0
namespace Go.Abs
variable {C : FuncId → Code → Prop} {B : Nat}

/-- Where an abstract block lies: the real block, the cell at which it begins; for a block that appends made: the cells that slices of it may reach, and the cells of an element. -/
structure Ent where
  blk : Nat
  sh : Nat
  lim : Nat
  es : Nat
  tight : Bool

abbrev Inj := Nat → Option Ent

inductive FRel (ρ : Inj) : Fn → Fn → Prop
  | func (f : FuncId) : FRel ρ (.func f) (.func f)
  | yield {l : Nat} {e : Ent} (h : ρ l = some e) (hs : e.sh = 0) : FRel ρ (.yield l) (.yield e.blk)

inductive VRel (ρ : Inj) : Value → Value → Prop
  | bool (b : Bool) : VRel ρ (.bool b) (.bool b)
  | int (k : IntKind) (n : Int) : VRel ρ (.int k n) (.int k n)
  | string (s : ByteArray) : VRel ρ (.string s) (.string s)
  | ptrNil : VRel ρ (.pointer none) (.pointer none)
  | ptr {i : Nat} {e : Ent} (h : ρ i = some e) (o : Nat) : VRel ρ (.pointer (some ⟨i, o, none⟩)) (.pointer (some ⟨e.blk, e.sh + o, none⟩))
  | slNil (n c : Nat) : VRel ρ (.slice none n c) (.slice none n c)
  | sl {i : Nat} {e : Ent} (h : ρ i = some e) (o o' n c c' : Nat) (ho : 0 < c → o' = e.sh + o) (hn : n ≤ c) (hc : c ≤ c') (ht : e.tight = true → c = c') (hl : e.tight = false → o' + c' * e.es ≤ e.lim) :
      VRel ρ (.slice (some ⟨i, o, if e.tight then none else some e.es⟩) n c) (.slice (some ⟨e.blk, o', none⟩) n c')
  | slOdd {i : Nat} {e : Ent} (h : ρ i = some e) (ht : e.tight = true) (o : Nat) (a' : Addr) : VRel ρ (.slice (some ⟨i, o, none⟩) 0 0) (.slice (some a') 0 0)
  | nilFunc : VRel ρ .nilFunc .nilFunc
  | mapNil : VRel ρ (.map none) (.map none)
  | map {i : Nat} {e : Ent} (h : ρ i = some e) (hs : e.sh = 0) : VRel ρ (.map (some i)) (.map (some e.blk))
  | func {fn fn' : Fn} {a a' b b' : Array Value} (hf : FRel ρ fn fn') (ha : a.size = a'.size) (hav : ∀ (i : Nat) (h : i < a.size) (h' : i < a'.size), VRel ρ a[i] a'[i])
      (hb : b.size = b'.size) (hbv : ∀ (i : Nat) (h : i < b.size) (h' : i < b'.size), VRel ρ b[i] b'[i]) : VRel ρ (.func fn a b) (.func fn' a' b')
  | agg {a a' : Array Value} (ha : a.size = a'.size) (hav : ∀ (i : Nat) (h : i < a.size) (h' : i < a'.size), VRel ρ a[i] a'[i]) : VRel ρ (.agg a) (.agg a')
  | tuple {a a' : Array Value} (ha : a.size = a'.size) (hav : ∀ (i : Nat) (h : i < a.size) (h' : i < a'.size), VRel ρ a[i] a'[i]) : VRel ρ (.tuple a) (.tuple a')

/-- More blocks are known, the old ones where they were. -/
def Inj.le (ρ ρ' : Inj) : Prop := ∀ i e, ρ i = some e → ρ' i = some e

theorem Inj.le_refl (ρ : Inj) : ρ.le ρ := fun _ _ h => h
theorem Inj.le_trans {a b c : Inj} (h : a.le b) (k : b.le c) : a.le c := fun i e x => k i e (h i e x)

theorem FRel.mono {ρ ρ' : Inj} (h : ρ.le ρ') {a b : Fn} (r : FRel ρ a b) : FRel ρ' a b := by
  cases r with
  | func f => exact .func f
  | yield e hs => exact .yield (h _ _ e) hs

theorem VRel.mono {ρ ρ' : Inj} (h : ρ.le ρ') {a b : Value} (r : VRel ρ a b) : VRel ρ' a b := by
  induction r with
  | bool b => exact .bool b
  | int k n => exact .int k n
  | string s => exact .string s
  | ptrNil => exact .ptrNil
  | ptr e o => exact .ptr (h _ _ e) o
  | slNil n c => exact .slNil n c
  | sl e o o' n c c' ho hn hc ht hl => exact .sl (h _ _ e) o o' n c c' ho hn hc ht hl
  | slOdd e ht o a' => exact .slOdd (h _ _ e) ht o a'
  | nilFunc => exact .nilFunc
  | mapNil => exact .mapNil
  | map e hs => exact .map (h _ _ e) hs
  | func hf ha _ hb _ iha ihb => exact .func (hf.mono h) ha iha hb ihb
  | agg ha _ ih => exact .agg ha ih
  | tuple ha _ ih => exact .tuple ha ih

/-! ### Rows -/
inductive LRel (ρ : Inj) : List Value → List Value → Prop
  | nil : LRel ρ [] []
  | cons {a b : Value} {l m : List Value} (h : VRel ρ a b) (t : LRel ρ l m) : LRel ρ (a :: l) (b :: m)

def ARel (ρ : Inj) (a b : Array Value) : Prop := LRel ρ a.toList b.toList

section rows
variable {ρ ρ' : Inj}

theorem LRel.mono (h : ρ.le ρ') {l m : List Value} (r : LRel ρ l m) : LRel ρ' l m := by
  induction r with
  | nil => exact .nil
  | cons v _ ih => exact .cons (v.mono h) ih

theorem LRel.length {l m : List Value} (r : LRel ρ l m) : l.length = m.length := by
  induction r with
  | nil => rfl
  | cons _ _ ih => simp [ih]

theorem LRel.get {l m : List Value} (r : LRel ρ l m) : ∀ {i : Nat} {v : Value}, l[i]? = some v → ∃ v', m[i]? = some v' ∧ VRel ρ v v' := by
  induction r with
  | nil => intro i v h; simp at h
  | cons hv _ ih =>
    intro i v h
    cases i with
    | zero => simp at h; subst h; exact ⟨_, by simp, hv⟩
    | succ i => simp at h; simpa using ih h

theorem LRel.get' {l m : List Value} (r : LRel ρ l m) {i : Nat} {v' : Value} (h : m[i]? = some v') : ∃ v, l[i]? = some v ∧ VRel ρ v v' := by
  have hl := r.length
  have hi : i < l.length := by
    have := (List.getElem?_eq_some_iff.1 h).1
    omega
  obtain ⟨v'', h1, h2⟩ := r.get (i := i) (v := l[i]) (by simp [hi])
  rw [h] at h1
  cases h1
  exact ⟨_, by simp [hi], h2⟩

theorem LRel.of_get : ∀ {l m : List Value}, l.length = m.length → (∀ (i : Nat) (v v' : Value), l[i]? = some v → m[i]? = some v' → VRel ρ v v') → LRel ρ l m
  | [], [], _, _ => .nil
  | a :: l, b :: m, h, k => .cons (k 0 a b rfl rfl) (LRel.of_get (by simpa using h) fun i v v' h1 h2 => k (i + 1) v v' (by simpa using h1) (by simpa using h2))

theorem LRel.append {a b c d : List Value} (h : LRel ρ a b) (k : LRel ρ c d) : LRel ρ (a ++ c) (b ++ d) := by
  induction h with
  | nil => exact k
  | cons v _ ih => exact .cons v ih

theorem LRel.take {a b : List Value} (h : LRel ρ a b) : ∀ (n : Nat), LRel ρ (a.take n) (b.take n) := by
  induction h with
  | nil => intro n; simp; exact .nil
  | cons v _ ih => intro n; cases n with
    | zero => simp; exact .nil
    | succ n => simp; exact .cons v (ih n)

theorem LRel.drop {a b : List Value} (h : LRel ρ a b) : ∀ (n : Nat), LRel ρ (a.drop n) (b.drop n) := by
  induction h with
  | nil => intro n; simp; exact .nil
  | cons v t ih => intro n; cases n with
    | zero => simp; exact .cons v t
    | succ n => simpa using ih n

theorem LRel.set {a b : List Value} (h : LRel ρ a b) {x y : Value} (hv : VRel ρ x y) : ∀ (n : Nat), LRel ρ (a.set n x) (b.set n y) := by
  induction h with
  | nil => intro n; simp; exact .nil
  | cons v t ih => intro n; cases n with
    | zero => simp; exact .cons hv t
    | succ n => simp; exact .cons v (ih n)

theorem LRel.replicate {x y : Value} (hv : VRel ρ x y) : ∀ (n : Nat), LRel ρ (List.replicate n x) (List.replicate n y)
  | 0 => .nil
  | n + 1 => by simp [List.replicate_succ]; exact .cons hv (LRel.replicate hv n)

theorem LRel.map {α : Type} {f g : α → Value} : ∀ {l : List α}, (∀ x ∈ l, VRel ρ (f x) (g x)) → LRel ρ (l.map f) (l.map g)
  | [], _ => .nil
  | x :: l, h => .cons (h x (by simp)) (LRel.map fun y hy => h y (by simp [hy]))

theorem LRel.refl_of {l : List Value} (h : ∀ x ∈ l, VRel ρ x x) : LRel ρ l l := by
  have := LRel.map (ρ := ρ) (f := id) (g := id) (l := l) (by simpa using h)
  simpa using this

theorem ARel.mono (h : ρ.le ρ') {a b : Array Value} (r : ARel ρ a b) : ARel ρ' a b := LRel.mono h r
theorem ARel.size {a b : Array Value} (r : ARel ρ a b) : a.size = b.size := by simpa using LRel.length r

theorem ARel.get {a b : Array Value} (r : ARel ρ a b) {i : Nat} {v : Value} (h : a[i]? = some v) : ∃ v', b[i]? = some v' ∧ VRel ρ v v' := by
  obtain ⟨v', h1, h2⟩ := LRel.get r (i := i) (v := v) (by simpa using h)
  exact ⟨v', by simpa using h1, h2⟩

theorem ARel.append {a b c d : Array Value} (h : ARel ρ a b) (k : ARel ρ c d) : ARel ρ (a ++ c) (b ++ d) := by
  unfold ARel at *
  simpa using LRel.append h k

theorem ARel.set {a b : Array Value} (h : ARel ρ a b) {x y : Value} (hv : VRel ρ x y) (n : Nat) : ARel ρ (a.setIfInBounds n x) (b.setIfInBounds n y) := by
  unfold ARel at *
  simpa using LRel.set h hv n

theorem VRel.undef : VRel ρ undef undef := .tuple rfl fun i h => by simp at h

theorem ARel.getD {a b : Array Value} (r : ARel ρ a b) (i : Nat) : VRel ρ (a.getD i undef) (b.getD i undef) := by
  have hs := r.size
  rw [Array.getD_eq_getD_getElem?, Array.getD_eq_getD_getElem?]
  cases h : a[i]? with
  | some v =>
    obtain ⟨v', h1, h2⟩ := r.get h
    rw [h1]
    exact h2
  | none =>
    have h' : b[i]? = none := by
      rw [Array.getElem?_eq_none_iff] at *
      omega
    rw [h']
    exact .undef

theorem ARel.replicate (n : Nat) : ARel ρ (Array.replicate n undef) (Array.replicate n undef) := by
  unfold ARel
  simpa using LRel.replicate VRel.undef n

theorem VRel.agg_of {a b : Array Value} (h : ARel ρ a b) : VRel ρ (.agg a) (.agg b) :=
  .agg h.size fun i hi hi' => by
    obtain ⟨v', h1, h2⟩ := h.get (i := i) (v := a[i]) (by simp [hi])
    have e : b[i] = v' := by simpa [hi'] using h1
    exact e ▸ h2

theorem VRel.tuple_of {a b : Array Value} (h : ARel ρ a b) : VRel ρ (.tuple a) (.tuple b) :=
  .tuple h.size fun i hi hi' => by
    obtain ⟨v', h1, h2⟩ := h.get (i := i) (v := a[i]) (by simp [hi])
    have e : b[i] = v' := by simpa [hi'] using h1
    exact e ▸ h2

theorem VRel.func_of {f f' : Fn} {a b c d : Array Value} (hf : FRel ρ f f') (h : ARel ρ a b) (k : ARel ρ c d) : VRel ρ (.func f a c) (.func f' b d) :=
  .func hf h.size (fun i hi hi' => by
    obtain ⟨v', h1, h2⟩ := h.get (i := i) (v := a[i]) (by simp [hi])
    have e : b[i] = v' := by simpa [hi'] using h1
    exact e ▸ h2) k.size fun i hi hi' => by
    obtain ⟨v', h1, h2⟩ := k.get (i := i) (v := c[i]) (by simp [hi])
    have e : d[i] = v' := by simpa [hi'] using h1
    exact e ▸ h2

theorem ARel.of_pointwise {a a' : Array Value} (ha : a.size = a'.size) (hav : ∀ (i : Nat) (h : i < a.size) (h' : i < a'.size), VRel ρ a[i] a'[i]) : ARel ρ a a' :=
  LRel.of_get (by simpa using ha) fun i v v' h1 h2 => by
    obtain ⟨k1, e1⟩ := List.getElem?_eq_some_iff.1 h1
    obtain ⟨k2, e2⟩ := List.getElem?_eq_some_iff.1 h2
    have := hav i (by simpa using k1) (by simpa using k2)
    simp only [Array.getElem_toList] at e1 e2
    rw [e1, e2] at this
    exact this

theorem VRel.agg_inv {a : Array Value} {v : Value} (h : VRel ρ (.agg a) v) : ∃ b, v = .agg b ∧ ARel ρ a b := by
  cases h with
  | agg ha hav => exact ⟨_, rfl, .of_pointwise ha hav⟩

theorem VRel.tuple_inv {a : Array Value} {v : Value} (h : VRel ρ (.tuple a) v) : ∃ b, v = .tuple b ∧ ARel ρ a b := by
  cases h with
  | tuple ha hav => exact ⟨_, rfl, .of_pointwise ha hav⟩

theorem VRel.func_inv {f : Fn} {a b : Array Value} {v : Value} (h : VRel ρ (.func f a b) v) : ∃ f' a' b', v = .func f' a' b' ∧ FRel ρ f f' ∧ ARel ρ a a' ∧ ARel ρ b b' := by
  cases h with
  | func hf ha hav hb hbv => exact ⟨_, _, _, rfl, hf, .of_pointwise ha hav, .of_pointwise hb hbv⟩

theorem VRel.cells {a b : Value} (h : VRel ρ a b) : ARel ρ a.cells b.cells := by
  cases h with
  | agg ha hav => exact .of_pointwise ha hav
  | bool b => exact .cons (.bool b) .nil
  | int k n => exact .cons (.int k n) .nil
  | string s => exact .cons (.string s) .nil
  | ptrNil => exact .cons .ptrNil .nil
  | ptr e o => exact .cons (.ptr e o) .nil
  | slNil n c => exact .cons (.slNil n c) .nil
  | sl e o o' n c c' ho hn hc ht hl => exact .cons (.sl e o o' n c c' ho hn hc ht hl) .nil
  | slOdd e ht o a' => exact .cons (.slOdd e ht o a') .nil
  | nilFunc => exact .cons .nilFunc .nil
  | mapNil => exact .cons .mapNil .nil
  | map e hs => exact .cons (.map e hs) .nil
  | func hf ha hav hb hbv => exact .cons (.func hf ha hav hb hbv) .nil
  | tuple ha hav => exact .cons (.tuple ha hav) .nil

theorem VRel.oneCell {a b : Value} (h : VRel ρ a b) : Abs.oneCell a = Abs.oneCell b := by cases h <;> rfl

theorem LRel.setRow {vs vs' : List Value} (h : LRel ρ vs vs') : ∀ {a b : List Value} (_ : LRel ρ a b) (n : Nat), LRel ρ (setRow a n vs) (setRow b n vs') := by
  induction h with
  | nil => intro a b k n; exact k
  | cons v _ ih => intro a b k n; exact ih (k.set v n) (n + 1)

end rows

theorem length_setRow : ∀ (vs cs : List Value) (n : Nat), (setRow cs n vs).length = cs.length
  | [], _, _ => rfl
  | v :: vs, cs, n => by simp [setRow, length_setRow vs]

/-! ### Memories -/
def Blk.writable : Blk → Bool
  | .cells ro _ _ => !ro
  | .loop .. => true
  | .map .. => true

/-- A key is one and the same on both sides. -/
def keyOk : Value → Bool
  | .int _ _ | .string _ | .bool _ => true
  | _ => false

/-- Entries of a map. -/
inductive MRel (ρ : Inj) : List MapEntry → List MapEntry → Prop
  | nil : MRel ρ [] []
  | cons {a b : MapEntry} {l m : List MapEntry} (hk : a.key = b.key) (ho : keyOk a.key = true) (hb : a.born = b.born) (h : VRel ρ a.val b.val) (t : MRel ρ l m) : MRel ρ (a :: l) (b :: m)
theorem MRel.mono {ρ ρ' : Inj} (h : ρ.le ρ') {l m : List MapEntry} (r : MRel ρ l m) : MRel ρ' l m := by
  induction r with
  | nil => exact .nil
  | cons hk ho hb v _ ih => exact .cons hk ho hb (v.mono h) ih

def BRel (C : FuncId → Code → Prop) (ρ : Inj) (w : World) (e : Ent) : Blk → Prop
  | .cells ro tight cs => ∃ c el fr, w.heap[e.blk]? = some (.cells c el fr) ∧ e.tight = tight ∧
      (∀ k v, cs[k]? = some v → ∃ v', c[e.sh + k]? = some v' ∧ VRel ρ v v') ∧ (tight = false → e.lim ≤ c.size) ∧
      (ro = false → fr.1 = fr.2 ∨ c.size ≤ fr.1)
  | .loop st pend f t ps asg body => e.sh = 0 ∧ C f asg ∧ C f body ∧ ∃ fn tmps dfr, w.heap[e.blk]? = some (.loop { state := st, pending := pend, fn := fn, tmps, params := ps, assign := asg, body, defers := dfr }) ∧ ARel ρ t tmps
  | .map es clock => e.sh = 0 ∧ ∃ es', w.heap[e.blk]? = some (.map es' clock) ∧ MRel ρ es es'.toList

structure GSim (C : FuncId → Code → Prop) (ρ : Inj) (g : Nat → Option Blk) (w : World) : Prop where
  rel : ∀ i b, g i = some b → ∃ e, ρ i = some e ∧ BRel C ρ w e b
  inj : ∀ i j bi bj ei ej, g i = some bi → g j = some bj → i ≠ j → bi.writable = true → ρ i = some ei → ρ j = some ej → ei.blk ≠ ej.blk

structure Sim (C : FuncId → Code → Prop) (B : Nat) (ρ : Inj) (m : Mem) (w : World) : Prop where
  sim : GSim C ρ m.get w
  dom : ∀ i e, ρ i = some e → i < m.size ∨ B ≤ i

/-- What a step leaves of the world. -/
structure Post (C : FuncId → Code → Prop) (B : Nat) (ρ : Inj) (m : Mem) (w : World) (ρ' : Inj) (m' : Mem) (w' : World) : Prop where
  le : ρ.le ρ'
  msize : m.size ≤ m'.size
  new : ∀ i e, ρ' i = some e → ρ i = some e ∨ (m.size ≤ i ∧ i < m'.size)
  sim : Sim C B ρ' m' w'
  os : w'.os = w.os
  tape : w'.tape = w.tape
  output : w'.output = w.output
  size : w.heap.size ≤ w'.heap.size
  frame : ∀ r, r < w.heap.size → (∀ i b e, m.get i = some b → b.writable = true → ρ i = some e → e.blk ≠ r) → w'.heap[r]? = w.heap[r]?
  img : ∀ i b e, m'.get i = some b → b.writable = true → ρ' i = some e → w.heap.size ≤ e.blk ∨ ∃ j c f, m.get j = some c ∧ c.writable = true ∧ ρ j = some f ∧ f.blk = e.blk

theorem BRel.lt {ρ : Inj} {w : World} {e : Ent} {b : Blk} (h : BRel C ρ w e b) : e.blk < w.heap.size := by
  cases b with
  | cells ro tight cs => obtain ⟨c, el, fr, h, _⟩ := h; exact (Array.getElem?_eq_some_iff.1 h).1
  | loop st pend f t ps asg body => obtain ⟨_, _, _, fn, tmps, dfr, h, _⟩ := h; exact (Array.getElem?_eq_some_iff.1 h).1
  | map es clock => obtain ⟨_, es', h, _⟩ := h; exact (Array.getElem?_eq_some_iff.1 h).1

theorem BRel.mono {ρ ρ' : Inj} {w w' : World} {e : Ent} {b : Blk} (hl : ρ.le ρ') (hw : w'.heap[e.blk]? = w.heap[e.blk]?) (h : BRel C ρ w e b) : BRel C ρ' w' e b := by
  cases b with
  | cells ro tight cs =>
    obtain ⟨c, el, fr, h, ht, hv, r⟩ := h
    refine ⟨c, el, fr, hw.trans h, ht, fun k v hk => ?_, r⟩
    obtain ⟨v', h1, h2⟩ := hv k v hk
    exact ⟨v', h1, h2.mono hl⟩
  | loop st pend f t ps asg body =>
    obtain ⟨hs, c1, c2, fn, tmps, dfr, h, ht⟩ := h
    exact ⟨hs, c1, c2, fn, tmps, dfr, hw.trans h, ht.mono hl⟩
  | map es clock =>
    obtain ⟨hs, es', h, ht⟩ := h
    exact ⟨hs, es', hw.trans h, ht.mono hl⟩

theorem Post.refl {ρ : Inj} {m : Mem} {w : World} (h : Sim C B ρ m w) : Post C B ρ m w ρ m w where
  le := Inj.le_refl ρ
  msize := Nat.le_refl _
  new _ _ h := .inl h
  sim := h
  os := rfl
  tape := rfl
  output := rfl
  size := Nat.le_refl _
  frame _ _ _ := rfl
  img i b e hi hb he := .inr ⟨i, b, e, hi, hb, he, rfl⟩

theorem Post.trans {ρ ρ' ρ'' : Inj} {m m' m'' : Mem} {w w' w'' : World} (h : Post C B ρ m w ρ' m' w') (k : Post C B ρ' m' w' ρ'' m'' w'') : Post C B ρ m w ρ'' m'' w'' where
  le := Inj.le_trans h.le k.le
  msize := Nat.le_trans h.msize k.msize
  new i e hi := by
    have h1 := h.msize
    have h2 := k.msize
    rcases k.new i e hi with h3 | h3
    · rcases h.new i e h3 with h4 | h4
      · exact .inl h4
      · exact .inr (by omega)
    · exact .inr (by omega)
  sim := k.sim
  os := k.os.trans h.os
  tape := k.tape.trans h.tape
  output := k.output.trans h.output
  size := Nat.le_trans h.size k.size
  frame r hr hf := by
    rw [k.frame r (Nat.lt_of_lt_of_le hr h.size), h.frame r hr hf]
    intro i b e hi hb he e1
    rcases h.img i b e hi hb he with h1 | ⟨j, c, f, hj, hc, hf', e2⟩
    · omega
    · exact hf j c f hj hc hf' (e2.trans e1)
  img i b e hi hb he := by
    rcases k.img i b e hi hb he with h1 | ⟨j, c, f, hj, hc, hf, e2⟩
    · exact .inl (Nat.le_trans h.size h1)
    · rcases h.img j c f hj hc hf with h1 | ⟨j', c', f', hj', hc', hf', e3⟩
      · exact .inl (e2 ▸ h1)
      · exact .inr ⟨j', c', f', hj', hc', hf', e3.trans e2⟩

/-- A draw turns nothing that anything here speaks of. -/
theorem Post.drew {ρ : Inj} {m : Mem} {w : World} (h : Sim C B ρ m w) (n : Nat) : Post C B ρ m w ρ m { w with drawn := n } where
  le := Inj.le_refl ρ
  msize := Nat.le_refl _
  new _ _ h := .inl h
  sim := ⟨⟨fun i b hb => by obtain ⟨e, he, hr⟩ := h.sim.rel i b hb; exact ⟨e, he, hr.mono (Inj.le_refl ρ) rfl⟩, h.sim.inj⟩, h.dom⟩
  os := rfl
  tape := rfl
  output := rfl
  size := Nat.le_refl _
  frame _ _ _ := rfl
  img i b e hi hb he := .inr ⟨i, b, e, hi, hb, he, rfl⟩

end Go.Abs
