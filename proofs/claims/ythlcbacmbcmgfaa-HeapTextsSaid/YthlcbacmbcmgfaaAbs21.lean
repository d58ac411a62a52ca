/-
  Operations on slices.
-/
import Derived.Test.YthlcbacmbcmgfaaAbs20
namespace Go.Abs
variable {E : Env} {m m' : Mem} {sz : Nat} {a : Option Addr} {n c : Nat} {xs : List Value}

/-- Slices of a type whose elements take so many cells. -/
def isSl (E : Env) (t : TypeId) (sz : Nat) : Bool :=
  match E.desc t with
  | some (.slice e) => match E.ti e with
    | some i => i.size == sz && decide (i.bytes ≤ 64)
    | none => false
  | _ => false
attribute [go_sem] isSl
@[go_sem] theorem beq_nat (a b : Nat) : (a == b) = decide (a = b) := by
  by_cases h : a = b <;> simp [h]

theorem isSl_spec {t : TypeId} (h : isSl E t sz = true) : ∃ e i, E.desc t = some (.slice e) ∧ E.ti e = some i ∧ i.size = sz ∧ i.bytes ≤ 64 := by
  unfold isSl at h
  split at h
  · rename_i e he
    split at h
    · rename_i i hi
      simp only [Bool.and_eq_true, beq_iff_eq, decide_eq_true_eq] at h
      exact ⟨e, i, he, hi, h.1, h.2⟩
    · cases h
  · cases h

theorem SlA.all (h : SlA m sz a n c xs) : a.all (looseOk · sz) = true := by
  cases a with
  | none => rfl
  | some b => exact h.loose b rfl

theorem bound_nat (k : IntKind) (d y i : Nat) (h : i ≤ y) : bound (some (.int k (i : Int))) d y = some i := by
  simp [bound, asI, h]
theorem bound_none (d y : Nat) : bound none d y = some d := rfl

theorem map_off (a : Option Addr) : (a.map fun a => (⟨a.block, a.off + 0 * sz, a.spot⟩ : Addr)) = a := by
  cases a <;> simp

/-- xs[:h] -/
theorem SlA.sliceTo (h : SlA m sz a n c xs) {k : IntKind} {hi : Nat} (hh : hi ≤ n) : (∀ t, isSl E t sz = true → sliceV E t (.slice a n c) none (some (.int k (hi : Int))) = some (.slice a hi c)) ∧ SlA m sz a hi c (xs.take (hi * sz)) := by
  have hc := h.cap
  refine ⟨fun t ht => ?_, ?_⟩
  · obtain ⟨e, i, h1, h2, h3, _⟩ := isSl_spec ht
    unfold sliceV
    simp only [h1, h2, bound_nat k n c hi (by omega), bound_none, h3, h.all, if_true, Option.map_some]
    simp [map_off]
  · have := h.sub (Nat.zero_le hi) hh
    simpa [map_off] using this

/-- xs[l:] -/
theorem SlA.sliceFrom (h : SlA m sz a n c xs) {k : IntKind} {lo : Nat} (hl : lo ≤ n) : (∀ t, isSl E t sz = true → sliceV E t (.slice a n c) (some (.int k (lo : Int))) none = some (.slice (if c = lo then a else a.map fun a => ⟨a.block, a.off + lo * sz, a.spot⟩) (n - lo) (c - lo))) ∧
    SlA m sz (if c = lo then a else a.map fun a => ⟨a.block, a.off + lo * sz, a.spot⟩) (n - lo) (c - lo) (xs.drop (lo * sz)) := by
  have hc := h.cap
  refine ⟨fun t ht => ?_, ?_⟩
  · obtain ⟨e, i, h1, h2, h3, _⟩ := isSl_spec ht
    unfold sliceV
    simp only [h1, h2, bound_none, h3, h.all, if_true, Option.map_some, bound_nat k 0 n lo hl]
  · have := h.sub hl (Nat.le_refl n)
    rwa [List.take_of_length_le (by rw [List.length_drop, h.len, Nat.sub_mul]; omega)] at this

/-- xs[l:h] -/
theorem SlA.sliceBoth (h : SlA m sz a n c xs) {k k' : IntKind} {lo hi : Nat} (hl : lo ≤ hi) (hh : hi ≤ n) : (∀ t, isSl E t sz = true → sliceV E t (.slice a n c) (some (.int k (lo : Int))) (some (.int k' (hi : Int))) = some (.slice (if c = lo then a else a.map fun a => ⟨a.block, a.off + lo * sz, a.spot⟩) (hi - lo) (c - lo))) ∧
    SlA m sz (if c = lo then a else a.map fun a => ⟨a.block, a.off + lo * sz, a.spot⟩) (hi - lo) (c - lo) ((xs.drop (lo * sz)).take ((hi - lo) * sz)) := by
  have hc := h.cap
  refine ⟨fun t ht => ?_, h.sub hl hh⟩
  obtain ⟨e, i, h1, h2, h3, _⟩ := isSl_spec ht
  unfold sliceV
  simp only [h1, h2, bound_nat k' n c hi (by omega), h3, h.all, if_true, Option.map_some, bound_nat k 0 hi lo hl]

section keep
variable {g : FuncId} {args : Array Value} {ids : List Nat} {b b' : Nat} {cs : List Value}
theorem SlA.put (h : SlA m sz a n c xs) (o : Option Blk) (hne : ∀ x, a = some x → x.block ≠ b) : SlA (m.put b o) sz a n c xs :=
  h.keep fun x hx _ => by rw [getM_put, if_neg (fun e => hne x hx e.1)]
theorem SlA.ansM (h : SlA m sz a n c xs) : SlA (Abs.ansM E g args ids m) sz a n c xs := h.old (.ansM (.refl m))
theorem SlA.push (h : SlA m sz a n c xs) (o : Blk) : SlA (m.push o) sz a n c xs := h.old (.push (.refl m) o)
theorem Box.putO (h : Box m b cs) (o : Option Blk) (hne : b ≠ b') : Box (m.put b' o) b cs := by
  obtain ⟨tg, h⟩ := h
  exact ⟨tg, by rw [getM_put, if_neg (fun e => hne e.1)]; exact h⟩
theorem Box.ansM (h : Box m b cs) : Box (Abs.ansM E g args ids m) b cs := h.old (.ansM (.refl m))
theorem Box.push (h : Box m b cs) (o : Blk) : Box (m.push o) b cs := h.old (.push (.refl m) o)
theorem Box.new (m : Mem) (tg : Bool) (cs : List Value) : Box (m.push (.cells false tg cs)) m.size cs := ⟨tg, by rw [getM_push, if_pos rfl]⟩
end keep

theorem SlA.new {m : Mem} {ro tg : Bool} {cs : List Value} {n b : Nat} {s : Option Nat} (hg : m.get b = some (.cells ro tg cs)) (hl : cs.length = n * sz) (hs : looseOk ⟨b, 0, s⟩ sz = true) : SlA m sz (some ⟨b, 0, s⟩) n n cs :=
  ⟨hl, Nat.le_refl _, fun b' hb => by cases hb; exact hs, fun b' hb _ => by cases hb; exact Rw.full hg, fun h => by cases h⟩

/-- A slice of a block that may be let go. -/
structure Own (m : Mem) (sz : Nat) (a : Option Addr) (n : Nat) : Prop where
  blk : ∀ b, a = some b → ∃ ro tg cs, m.get b.block = some (.cells ro tg cs) ∧ (tg = true ∨ ro = false) ∧ b.off + n * sz ≤ cs.length

/-- append that makes a new block. -/
theorem append_new {k : Nat} (h : SlA m sz a n c xs) (hc : c < n + k) (ho : Own m sz a n) {st xt : TypeId} {x : Value} {ys : List Value} (hx : appended E m sz xt x = some (k, ys)) (hy : ys.length = k * sz) (ht : isSl E st sz = true) (h1 : ys.all oneCell = true) (hb : n + k ≤ 1073741824)
    {K : Value → Mem → Prop}
    (hK : ∀ m', m'.size = m.size + 1 → m'.get m.size = some (.cells false false (xs ++ ys)) → (∀ i, i < m.size → (∀ b, a = some b → i ≠ b.block) → m'.get i = m.get i) → SlA m' sz (some ⟨m.size, 0, some sz⟩) (n + k) (n + k) (xs ++ ys) → K (.slice (some ⟨m.size, 0, some sz⟩) (n + k) (n + k)) m') :
    StepQ E (val2? (appendV E m st xt (.slice a n c) x)) K := by
  obtain ⟨e, i, d1, d2, d3, d4⟩ := isSl_spec ht
  have fin : ∀ m1 : Mem, m1.size = m.size → (∀ i, i < m.size → (∀ b, a = some b → i ≠ b.block) → m1.get i = m.get i) → K (.slice (some ⟨m.size, 0, some sz⟩) (n + k) (n + k)) (m1.push (.cells false false (xs ++ ys))) := by
    intro m1 hs hg
    have hl : (xs ++ ys).length = (n + k) * sz := by rw [List.length_append, h.len, hy, Nat.add_mul]
    refine hK _ (by rw [size_push, hs]) (by rw [getM_push, if_pos hs.symm]) (fun i hi hne => by rw [getM_push, if_neg (by omega)]; exact hg i hi hne) ⟨hl, Nat.le_refl _, fun b hb => ?_, fun b hb _ => ?_, fun h => by cases h⟩
    · cases hb; simp [looseOk]
    · cases hb
      exact Rw.full (by rw [getM_push, if_pos hs.symm])
  have b1 : (n + k) * i.bytes ≤ roomMost := by
    have := Nat.mul_le_mul hb d4
    exact Nat.le_trans this (by decide)
  have b2 : n + k ≤ roomMost := Nat.le_trans hb (by decide)
  unfold appendV
  simp only [d1, d2, d3, hx]
  rw [if_neg (by omega), if_pos ⟨b1, b2⟩]
  cases a with
  | none =>
    have hc0 := h.nil rfl
    have hn0 := h.cap
    have : n = 0 := by omega
    subst this
    have hx0 : xs = [] := List.eq_nil_of_length_eq_zero (by have := h.len; simpa using this)
    subst hx0
    simp only [if_true, val2?_some, StepQ_val]
    have := fin m rfl fun i _ _ => rfl
    simpa using this
  | some b =>
    obtain ⟨ro, tg, cs, g1, g2, g3⟩ := ho.blk b rfl
    have hrow : m.row b (n * sz) = some xs := by
      rw [row_rows]
      by_cases hxs : xs = []
      · have hl := h.len
        rw [hxs] at hl
        simp only [List.length_nil] at hl
        rw [← hl, hxs]
        unfold Mem.rows
        rw [g1]
        simp only [Option.bind_some, blk_rows]
        rw [if_pos (by omega)]
        simp
      · exact h.row hxs
    have hfree : (looseOk b sz && (Blk.cells ro tg cs).free && ((Blk.cells ro tg cs).isTight || ys.all oneCell)) = true := by
      rw [h.loose b rfl, h1]
      rcases g2 with g2 | g2 <;> simp [Blk.free, g2]
    simp only [hrow, g1, hfree, if_true, val2?_some, StepQ_val]
    refine fin _ ?_ ?_
    · split <;> simp
    · intro i hi hne
      split
      · rfl
      · rw [getM_put, if_neg (fun e => hne b rfl e.1)]

theorem setRow_eq : ∀ (ys cs : List Value) (o : Nat), o + ys.length ≤ cs.length → setRow cs o ys = cs.take o ++ ys ++ cs.drop (o + ys.length)
  | [], cs, o, _ => by simp [setRow]
  | y :: ys, cs, o, h => by
    simp only [List.length_cons] at h
    rw [setRow, setRow_eq ys (cs.set o y) (o + 1) (by simp; omega)]
    rw [List.take_succ_eq_append_getElem (by simp; omega), List.getElem_set_self, List.take_set_of_le (by omega), List.drop_set_of_lt (by omega)]
    simp [Nat.add_assoc, Nat.add_comm 1]

/-- append into the room behind. -/
theorem append_in {b o k : Nat} {s : Option Nat} {tg : Bool} {cs : List Value} (hl : looseOk ⟨b, o, s⟩ sz = true) (hg : m.get b = some (.cells false tg cs)) (hc : n + k ≤ c) {st xt : TypeId} {x : Value} {ys : List Value} (hx : appended E m sz xt x = some (k, ys)) (hy : ys.length = k * sz) (ht : isSl E st sz = true)
    (h1 : ys.all oneCell = true) (hfit : o + n * sz + k * sz ≤ cs.length) {K : Value → Mem → Prop}
    (hK : ∀ m', Upd m m' b → m'.size = m.size → m'.get b = some (.cells false tg (cs.take (o + n * sz) ++ ys ++ cs.drop (o + n * sz + ys.length))) → K (.slice (some ⟨b, o, s⟩) (n + k) c) m') :
    StepQ E (val2? (appendV E m st xt (.slice (some ⟨b, o, s⟩) n c) x)) K := by
  obtain ⟨e, i, d1, d2, d3, d4⟩ := isSl_spec ht
  unfold appendV
  simp only [d1, d2, d3, hx]
  rw [if_pos hc]
  cases ys with
  | nil =>
    refine hK m (.refl _ _) rfl ?_
    rw [hg]
    simp
  | cons y ys =>
    have hw : m.write ⟨b, o + n * sz, s⟩ (y :: ys) = some (m.put b (some (.cells false tg (setRow cs (o + n * sz) (y :: ys))))) := by
      unfold Mem.write
      simp only [hg]
      rw [if_pos]
      rw [Bool.and_eq_true, decide_eq_true_eq]
      exact ⟨by rw [hy]; exact hfit, h1⟩
    simp only [hw, Option.map_some, val2?_some, StepQ_val]
    refine hK _ (.put (.refl m) _ _) (by simp) ?_
    rw [getM_put, if_pos ⟨rfl, getM_lt hg⟩, setRow_eq _ _ _ (by rw [hy]; exact hfit)]

attribute [go_sem] Nat.mul_one Nat.one_mul Nat.zero_mul decide_true decide_false List.length_set Bool.false_eq_true
@[go_sem] theorem zeroRow_0 (v : Value) : zeroRow [v] 0 = [] := rfl
@[go_sem] theorem zeroRow_1 (v : Value) : zeroRow [v] 1 = [v] := rfl
@[go_sem] theorem zeroRow_2 (v : Value) : zeroRow [v] 2 = [v, v] := rfl
@[go_sem] theorem zeroRow_3 (v : Value) : zeroRow [v] 3 = [v, v, v] := rfl
@[go_sem] theorem zeroRow_4 (v : Value) : zeroRow [v] 4 = [v, v, v, v] := rfl
@[go_sem] theorem zeroRow_5 (v : Value) : zeroRow [v] 5 = [v, v, v, v, v] := rfl
@[go_sem] theorem zeroRow_6 (v : Value) : zeroRow [v] 6 = [v, v, v, v, v, v] := rfl
theorem zeroRow_n (v : Value) (n : Nat) : zeroRow [v] n = List.replicate n v := rfl

/-- The zero cells of a slice's elements. -/
def zeroOf (E : Env) (t : TypeId) : List Value :=
  match E.desc t with
  | some (.slice e) => match E.ti e with
    | some i => i.zero.cells.toList
    | none => []
  | _ => []
attribute [go_sem] zeroOf

theorem SlA.appended' {xt : TypeId} (h : SlA m sz a n c xs) (ht : isSl E xt sz = true) (hsz : 0 < sz) : Abs.appended E m sz xt (.slice a n c) = some (n, xs) := by
  obtain ⟨e, i, d1, _⟩ := isSl_spec ht
  exact h.appended d1 hsz

theorem StepQ_make {t : TypeId} {l c : Nat} {k k' : IntKind} (ht : isSl E t 1 = true) {z : Value} (hz : zeroOf E t = [z]) (hlc : l ≤ c) (hc : c ≤ 1073741824) {K : Value → Mem → Prop}
    (hK : K (.slice (some ⟨m.size, 0, none⟩) l c) (m.push (.cells false true (List.replicate c z)))) : StepQ E (val2? (makeV E m t (.int k (l : Int)) (.int k' (c : Int)))) K := by
  obtain ⟨e, i, d1, d2, d3, d4⟩ := isSl_spec ht
  have b1 : ((c : Int)) * i.bytes ≤ roomMost := by
    have h1 := Nat.mul_le_mul hc d4
    have h2 : ((c * i.bytes : Nat) : Int) ≤ ((1073741824 * 64 : Nat) : Int) := Int.ofNat_le.2 h1
    rw [Int.natCast_mul] at h2
    exact Int.le_trans h2 (by decide)
  have b2 : ((c : Int)) ≤ roomMost := by
    have : ((c : Int)) ≤ 1073741824 := by omega
    exact Int.le_trans this (by decide)
  unfold makeV
  simp only [d1, d2, asI]
  have hz' : i.zero.cells.toList = [z] := by
    unfold zeroOf at hz
    simpa only [d1, d2] using hz
  rw [if_pos ⟨by omega, by omega, b2, b1⟩, hz']
  simp only [zeroRow_n, Int.toNat_natCast, val2?_some, StepQ_val]
  exact hK

/-- append([]T{}, x...) -/
theorem append_copy {n : Nat} {st xt : TypeId} {x : Value} {ys : List Value} (hx : appended E (m.push (.cells false true [])) sz xt x = some (n, ys)) (hy : ys.length = n * sz) (ht : isSl E st sz = true) (h1 : ys.all oneCell = true) (hb : n ≤ 1073741824)
    {K : Value → Mem → Prop} (hK : ∀ m' b s, Old m m' → m.size ≤ b → Box m' b ys → SlA m' sz (some ⟨b, 0, s⟩) n n ys → K (.slice (some ⟨b, 0, s⟩) n n) m') :
    StepQ E (val2? (appendV E (m.push (.cells false true [])) st xt (.slice (some ⟨m.size, 0, none⟩) 0 0) x)) K := by
  have g0 : (m.push (.cells false true [])).get m.size = some (.cells false true []) := by rw [getM_push, if_pos rfl]
  have s0 : SlA (m.push (.cells false true [])) sz (some ⟨m.size, 0, none⟩) 0 0 [] := SlA.new g0 (by simp) rfl
  rcases Nat.eq_zero_or_pos n with h0 | h0
  · subst h0
    have : ys = [] := List.eq_nil_of_length_eq_zero (by simpa using hy)
    subst this
    refine append_in (sz := sz) (k := 0) rfl g0 (Nat.le_refl _) hx hy ht h1 (by simp) fun m' u z g => ?_
    simp only [List.take_nil, List.append_nil, List.drop_nil] at g
    refine hK m' m.size none ?_ (Nat.le_refl _) ⟨true, g⟩ (SlA.new g (by simp) rfl)
    refine .of_get (by rw [z, size_push]; omega) fun i hi => ?_
    rw [u.get i (by rw [size_push]; omega) (by omega), getM_push, if_neg (by omega)]
  · refine append_new s0 (by omega) ⟨fun b hb => by cases hb; exact ⟨false, true, [], g0, .inl rfl, by simp⟩⟩ hx hy ht h1 (by omega) fun m' z g u s => ?_
    simp only [Nat.zero_add, List.nil_append] at s g ⊢
    rw [size_push] at z g s ⊢
    refine hK m' (m.size + 1) (some sz) ?_ (by omega) ⟨false, g⟩ s
    refine .of_get (by omega) fun i hi => ?_
    rw [u i (by rw [size_push]; omega) (fun b hb => by cases hb; simp only; omega), getM_push, if_neg (by omega)]

theorem append_copy' {n B : Nat} (hB : m.size = B) {st xt : TypeId} {x : Value} {ys : List Value} (hx : appended E (m.push (.cells false true [])) sz xt x = some (n, ys)) (hy : ys.length = n * sz) (ht : isSl E st sz = true) (h1 : ys.all oneCell = true) (hb : n ≤ 1073741824)
    {K : Value → Mem → Prop} (hK : ∀ m' b s, Old m m' → m.size ≤ b → Box m' b ys → SlA m' sz (some ⟨b, 0, s⟩) n n ys → K (.slice (some ⟨b, 0, s⟩) n n) m') :
    StepQ E (val2? (appendV E (m.push (.cells false true [])) st xt (.slice (some ⟨B, 0, none⟩) 0 0) x)) K := by
  subst hB
  exact append_copy hx hy ht h1 hb hK
end Go.Abs
