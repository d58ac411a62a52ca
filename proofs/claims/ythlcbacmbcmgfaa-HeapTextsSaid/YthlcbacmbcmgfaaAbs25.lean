/-
  A function's own boxes beside its consumer's blocks.
-/
import Derived.Test.YthlcbacmbcmgfaaAbs24
namespace Go.Abs
variable {E : Env}

/-- Q of some blocks, and boxes beside them. -/
def WithP (P : List (Nat × Blk)) (Q : Mem → Set' → Prop) : Mem → Set' → Prop := fun m A => ∃ A1, Q m A1 ∧ (∀ p ∈ P, m.get p.1 = some p.2 ∧ ¬ A1 p.1) ∧ ∀ i, A i ↔ A1 i ∨ ∃ p ∈ P, i = p.1

theorem WithP.loc {P : List (Nat × Blk)} {Q : Mem → Set' → Prop} (h : LocP Q) : LocP (WithP P Q) := by
  rintro m m' A ⟨A1, h1, h2, h3⟩ hk hs
  exact ⟨A1, h m m' A1 h1 (fun i hi => hk i ((h3 i).2 (.inl hi))) hs, fun p hp => ⟨by rw [hk p.1 ((h3 p.1).2 (.inr ⟨p, hp, rfl⟩))]; exact (h2 p hp).1, (h2 p hp).2⟩, h3⟩

section
variable {Z : Nat → Option Blk} {F : Set'} {P P' : List (Nat × Blk)} {A A1 A2 B : Set'} {m m1 m2 : Mem} {Q Q' : Mem → Set' → Prop}

/-- What is behind a yield. -/
theorem priv_step (hP : ∀ p ∈ P, m.get p.1 = some p.2 ∧ ¬ A1 p.1) (hA : ∀ i, A i ↔ A1 i ∨ ∃ p ∈ P, i = p.1) (dis : ∀ i, A i → ¬ B i) (c1 : ChgS (fun i => A1 i ∨ B i) m m2) (c2 : NewS (fun i => A1 i ∨ B i) m m2 A2) :
    ChgS (fun i => A i ∨ B i) m m2 ∧ NewS (fun i => A i ∨ B i) m m2 (fun i => A2 i ∨ ∃ p ∈ P, i = p.1) ∧ (∀ p ∈ P, m2.get p.1 = some p.2 ∧ ¬ A2 p.1) := by
  have hlt : ∀ p ∈ P, p.1 < m.size := fun p hp => getM_lt (hP p hp).1
  have hB : ∀ p ∈ P, ¬ B p.1 := fun p hp => dis _ ((hA _).2 (.inr ⟨p, hp, rfl⟩))
  refine ⟨c1.mono fun i hi => hi.imp (fun e => (hA i).2 (.inl e)) id, fun i hi => ?_, fun p hp => ⟨?_, fun e => ?_⟩⟩
  · rcases hi with hi | ⟨p, hp, rfl⟩
    · exact ⟨(c2 i hi).1, (c2 i hi).2.imp (fun e => e.imp (fun e => (hA i).2 (.inl e)) id) id⟩
    · exact ⟨Nat.lt_of_lt_of_le (hlt p hp) c1.size, .inl (.inl ((hA _).2 (.inr ⟨p, hp, rfl⟩)))⟩
  · rw [c1.get _ (hlt p hp) fun e => e.elim (hP p hp).2 (hB p hp)]
    exact (hP p hp).1
  · rcases (c2 _ e).2 with (e | e) | e
    · exact (hP p hp).2 e
    · exact hB p hp e
    · have := hlt p hp; omega

/-- The consumer's blocks with own boxes are there, and nobody else's. -/
theorem priv_own (o : OwnS Z F m A) (hs : m.size ≤ m1.size) (z : Frozen Z m) (hF : ∀ i, F i → i < m.size) (hP : ∀ p ∈ P, m.size ≤ p.1 ∧ p.1 < m1.size) : OwnS Z F m1 (fun i => A i ∨ ∃ p ∈ P, i = p.1) := by
  rintro i (hi | ⟨p, hp, rfl⟩)
  · exact ⟨Nat.lt_of_lt_of_le (o i hi).1 hs, (o i hi).2⟩
  · have := hP p hp
    exact ⟨this.2, z.free this.1, fun h => by have := hF _ h; omega⟩

/-- Entering with own boxes. -/
theorem priv_in (hQ : Q m1 A) (o : OwnS Z F m A) (hP : ∀ p ∈ P, m.size ≤ p.1 ∧ m1.get p.1 = some p.2) : WithP P Q m1 (fun i => A i ∨ ∃ p ∈ P, i = p.1) :=
  ⟨A, hQ, fun p hp => ⟨(hP p hp).2, fun e => by have := (o _ e).1; have := (hP p hp).1; omega⟩, fun _ => Iff.rfl⟩

/-- What is left, seen from ahead of the boxes. -/
theorem priv_out (o : OwnS Z F m A) (h : Old m m1) (hP : ∀ p ∈ P, m.size ≤ p.1) (c1 : ChgS (fun i => (A i ∨ ∃ p ∈ P, i = p.1) ∨ F i) m1 m2) (c2 : NewS (fun i => A i ∨ ∃ p ∈ P, i = p.1) m1 m2 A2) (hA : ∀ i, A2 i ↔ A1 i ∨ ∃ p ∈ P', i = p.1) :
    ChgS (fun i => A i ∨ F i) m m2 ∧ NewS A m m2 A1 := by
  refine ⟨⟨Nat.le_trans h.size c1.size, fun i hi hne => ?_⟩, fun i hi => ?_⟩
  · rw [c1.get i (Nat.lt_of_lt_of_le hi h.size) (by
      rintro ((e | ⟨p, hp, rfl⟩) | e)
      · exact hne (.inl e)
      · have := hP p hp; omega
      · exact hne (.inr e)), h.get hi]
  · have := c2 i ((hA i).2 (.inl hi))
    refine ⟨this.1, ?_⟩
    rcases this.2 with (e | ⟨p, hp, rfl⟩) | e
    · exact .inl e
    · exact .inr (hP p hp)
    · exact .inr (Nat.le_trans h.size e)
end

/-- From blocks A at m to blocks A' at m'. -/
structure Trs (A : Set') (m m' : Mem) (A' : Set') : Prop where
  c : ChgS A m m'
  n : NewS A m m' A'

section
variable {Z : Nat → Option Blk} {F : Set'} {P P' : List (Nat × Blk)} {A A1 A2 B : Set'} {m m1 m2 : Mem} {Q Q' : Mem → Set' → Prop}
theorem Trs.refl (h : ∀ i, A i → i < m.size) : Trs A m m A := ⟨.refl _ _, fun i hi => ⟨h i hi, .inl hi⟩⟩
theorem Trs.old (h : Trs A m m1 A1) (k : Old m1 m2) : Trs A m m2 A1 := ⟨⟨Nat.le_trans h.c.size k.size, fun i hi ha => (k.get (Nat.lt_of_lt_of_le hi h.c.size)).trans (h.c.get i hi ha)⟩, fun i hi => ⟨Nat.lt_of_lt_of_le (h.n i hi).1 k.size, (h.n i hi).2⟩⟩
theorem Trs.trans (h : Trs A m m1 A1) (k : Trs A1 m1 m2 A2) : Trs A m m2 A2 where
  c := ⟨Nat.le_trans h.c.size k.c.size, fun i hi ha => (k.c.get i (Nat.lt_of_lt_of_le hi h.c.size) fun e => (h.n i e).2.elim ha fun e => by omega).trans (h.c.get i hi ha)⟩
  n := fun i hi => ⟨(k.n i hi).1, (k.n i hi).2.elim (fun e => (h.n i e).2) fun e => .inr (Nat.le_trans h.c.size e)⟩
/-- With what a yield brings. -/
theorem Trs.with (h : Trs A m m1 A1) (hB : ∀ i, B i → i < m1.size) : Trs (fun i => A i ∨ B i) m m1 (fun i => A1 i ∨ B i) :=
  ⟨h.c.mono fun _ => .inl, fun i hi => hi.elim (fun e => ⟨(h.n i e).1, (h.n i e).2.imp .inl id⟩) fun e => ⟨hB i e, .inl (.inr e)⟩⟩
theorem Trs.mono (h : Trs A m m1 A1) (k : ∀ i, A i → B i) : Trs B m m1 A1 := ⟨h.c.mono k, fun i hi => ⟨(h.n i hi).1, (h.n i hi).2.imp (k i) id⟩⟩
theorem Trs.less (h : Trs A m m1 A1) (k : ∀ i, A2 i → A1 i) : Trs A m m1 A2 := ⟨h.c, fun i hi => h.n i (k i hi)⟩
theorem Trs.own (h : Trs A m m1 A1) (o : OwnS Z F m A) (z : Frozen Z m) (hF : ∀ i, F i → i < m.size) : OwnS Z F m1 A1 := fun i hi => ⟨(h.n i hi).1, (h.n i hi).2.elim (fun e => (o i e).2) fun e => ⟨z.free e, fun f => by have := hF i f; omega⟩⟩

/-- Own boxes change, others come. -/
theorem WithP.change (hl : LocP Q) (hQ : Q m A1) (hn : ∀ p ∈ P, ¬ A1 p.1) (hA : ∀ i, A i ↔ A1 i ∨ ∃ p ∈ P, i = p.1) (hlt : ∀ i, A i → i < m.size) (hs : m.size ≤ m1.size) (c : ∀ i, i < m.size → (∀ p ∈ P, i ≠ p.1) → m1.get i = m.get i)
    (hP' : ∀ p ∈ P', m1.get p.1 = some p.2 ∧ ((∃ q ∈ P, q.1 = p.1) ∨ m.size ≤ p.1)) :
    Q m1 A1 ∧ (∀ p ∈ P', m1.get p.1 = some p.2 ∧ ¬ A1 p.1) ∧ Trs A m m1 (fun i => A1 i ∨ ∃ p ∈ P', i = p.1) := by
  have hA1 : ∀ i, A1 i → i < m.size := fun i hi => hlt i ((hA i).2 (.inl hi))
  refine ⟨hl m m1 A1 hQ (fun i hi => c i (hA1 i hi) fun p hp e => hn p hp (e ▸ hi)) hs, fun p hp => ⟨(hP' p hp).1, fun e => ?_⟩, ⟨⟨hs, fun i hi hna => c i hi fun p hp e => hna ((hA i).2 (.inr ⟨p, hp, e⟩))⟩, fun i hi => ?_⟩⟩
  · rcases (hP' p hp).2 with ⟨q, hq, eq⟩ | h
    · exact hn q hq (eq ▸ e)
    · have := hA1 _ e; omega
  · rcases hi with hi | ⟨p, hp, rfl⟩
    · exact ⟨Nat.lt_of_lt_of_le (hA1 i hi) hs, .inl ((hA i).2 (.inl hi))⟩
    · refine ⟨getM_lt (hP' p hp).1, ?_⟩
      rcases (hP' p hp).2 with ⟨q, hq, eq⟩ | h
      · exact .inl ((hA _).2 (.inr ⟨q, hq, eq.symm⟩))
      · exact .inr h

/-- What an iterator's consumer owes at each yield. -/
def StepOk (E : Env) (Z : Nat → Option Blk) (F : Set') (n : Nat) (Own : Nat → Mem → Prop) (El : Nat → List Value → Mem → Set' → Prop) (y : Value) (I D : Nat → Mem → Set' → Prop) : Prop :=
  ∀ k vs m A B, k < n → Frozen Z m → OwnS Z F m A → OwnS Z F m B → (∀ i, A i → ¬ B i) → (∀ i, F i → i < m.size) → Own (k + 1) m → I k m A → El k vs m B →
      CallF E y vs m fun w m' => ∃ A', ChgS (fun i => A i ∨ B i) m m' ∧ NewS (fun i => A i ∨ B i) m m' A' ∧ (w = .bool true ∧ I (k + 1) m' A' ∨ w = .bool false ∧ D k m' A')

/-- A yield, own boxes beside. -/
theorem StepOk.yield {n : Nat} {Own : Nat → Mem → Prop} {El : Nat → List Value → Mem → Set' → Prop} {y : Value} {I D : Nat → Mem → Set' → Prop} (step : StepOk E Z F n Own El y I D) {k : Nat} {vs : List Value} (hk : k < n) (z : Frozen Z m)
    (o : OwnS Z F m A) (oB : OwnS Z F m B) (dis : ∀ i, A i → ¬ B i) (hF : ∀ i, F i → i < m.size) (ow : Own (k + 1) m) (hI : I k m A1) (hP : ∀ p ∈ P, m.get p.1 = some p.2 ∧ ¬ A1 p.1) (hA : ∀ i, A i ↔ A1 i ∨ ∃ p ∈ P, i = p.1) (el : El k vs m B) :
    CallF E y vs m fun w m' => ∃ A2, Trs (fun i => A i ∨ B i) m m' (fun i => A2 i ∨ ∃ p ∈ P, i = p.1) ∧ (∀ p ∈ P, m'.get p.1 = some p.2 ∧ ¬ A2 p.1) ∧ (w = .bool true ∧ I (k + 1) m' A2 ∨ w = .bool false ∧ D k m' A2) := by
  refine (step k vs m A1 B hk z (fun i hi => o i ((hA i).2 (.inl hi))) oB (fun i hi => dis i ((hA i).2 (.inl hi))) hF ow hI el).mono ?_
  rintro w m' ⟨A2, c1, c2, hw⟩
  obtain ⟨p1, p2, p3⟩ := priv_step hP hA dis c1 c2
  exact ⟨A2, ⟨p1, p2⟩, p3, hw⟩
end

theorem Frozen.old {Z : Nat → Option Blk} {m m' : Mem} (z : Frozen Z m) (h : Old m m') : Frozen Z m' := fun i b hi => (h.get (z.lt hi)).trans (z i b hi)
theorem Frozen.gm {Z : Nat → Option Blk} {m : Mem} (z : Frozen Z m) (ids : List Nat) (h : ∀ i ∈ ids, Z i = none) : Frozen Z (m.gm ids) := fun i b hi => by
  rw [get_gm, if_neg]
  · exact z i b hi
  · intro e
    rw [h i (by simpa using e)] at hi
    cases hi
theorem Frozen.put {Z : Nat → Option Blk} {m : Mem} (z : Frozen Z m) {i : Nat} (hi : Z i = none) (b : Option Blk) : Frozen Z (m.put i b) := fun j c hj => by
  rw [getM_put, if_neg (fun e => by rw [e.1, hi] at hj; cases hj)]
  exact z j c hj
theorem frozen_at {Z : Nat → Option Blk} {m : Mem} (z : Frozen Z m) {b : Nat} {ro tg : Bool} {v : Value} {r : List Value} (h : Z b = some (.cells ro tg (v :: r))) : m.at b 0 = some v := by
  unfold Mem.at
  rw [z b _ h]
  rfl
theorem get_at0 {m : Mem} {b : Nat} {ro tg : Bool} {v : Value} {r : List Value} (h : m.get b = some (.cells ro tg (v :: r))) : m.at b 0 = some v := by
  unfold Mem.at
  rw [h]
  rfl

/-! ### All that is there stays -/
theorem old_of_chg {m m' : Mem} (h : ChgS none' m m') : Old m m' := .of_get h.size fun i hi => h.get i hi fun e => e
theorem frozen_self (m : Mem) : Frozen m.get m := fun _ _ h => h
theorem SlA.froz {m m' : Mem} {sz : Nat} {a : Option Addr} {n c : Nat} {xs : List Value} (h : SlA m sz a n c xs) (z : Frozen m.get m') : SlA m' sz a n c xs := h.keep fun b hb hx => by
  obtain ⟨ro, tg, cs, g, _⟩ := (h.rows b hb hx).blk
  rw [g]
  exact z _ _ g
@[go_sem] theorem binV_strN (ty : TypeId) (x y : ByteArray) : binV E .neq ty (.string x) (.string y) = some (.bool !(x.toList == y.toList)) := rfl
@[go_sem] theorem bytesOf_cons (n : Int) (r : List Value) : bytesOf (.int .u8 n :: r) = (bytesOf r).map (UInt8.ofNat n.toNat :: ·) := rfl

/-! ### Held against nil -/
def isPtr (E : Env) (t : TypeId) : Bool := match E.desc t with
  | some (.pointer _) => true
  | _ => false
def isFn (E : Env) (t : TypeId) : Bool := match E.desc t with
  | some (.func _ _ _) => true
  | _ => false
def isSlc (E : Env) (t : TypeId) : Bool := match E.desc t with
  | some (.slice _) => true
  | _ => false
attribute [go_sem] isPtr isFn isSlc
theorem isPtr_spec {t : TypeId} (h : isPtr E t = true) : ∃ e, E.desc t = some (.pointer e) := by
  unfold isPtr at h
  split at h
  · rename_i e he; exact ⟨e, he⟩
  · cases h
theorem isFn_spec {t : TypeId} (h : isFn E t = true) : ∃ a b c, E.desc t = some (.func a b c) := by
  unfold isFn at h
  split at h
  · rename_i a b c he; exact ⟨a, b, c, he⟩
  · cases h
theorem isSlc_spec {t : TypeId} (h : isSlc E t = true) : ∃ e, E.desc t = some (.slice e) := by
  unfold isSlc at h
  split at h
  · rename_i e he; exact ⟨e, he⟩
  · cases h
@[go_sem] theorem ptr_nil (t : TypeId) (a : Addr) (h : isPtr E t = true) : binV E .eql t (.pointer (some a)) (.pointer none) = some (.bool false) := by
  obtain ⟨e, he⟩ := isPtr_spec h
  simp [binV, eqV, he]
@[go_sem] theorem ptr_nil' (t : TypeId) (a : Addr) (h : isPtr E t = true) : binV E .neq t (.pointer (some a)) (.pointer none) = some (.bool true) := by
  obtain ⟨e, he⟩ := isPtr_spec h
  simp [binV, eqV, he]
@[go_sem] theorem nil_nil (t : TypeId) (h : isPtr E t = true) : binV E .eql t (.pointer none) (.pointer none) = some (.bool true) := by
  obtain ⟨e, he⟩ := isPtr_spec h
  simp [binV, eqV, he]
@[go_sem] theorem nil_nil' (t : TypeId) (h : isPtr E t = true) : binV E .neq t (.pointer none) (.pointer none) = some (.bool false) := by
  obtain ⟨e, he⟩ := isPtr_spec h
  simp [binV, eqV, he]
@[go_sem] theorem fn_nil (t : TypeId) (f : Fn) (a b : Array Value) (h : isFn E t = true) : binV E .eql t (.func f a b) .nilFunc = some (.bool false) := by
  obtain ⟨_, _, _, he⟩ := isFn_spec h
  simp [binV, eqV, he]
@[go_sem] theorem sl_nil (t : TypeId) (a : Addr) (n c : Nat) (h : isSlc E t = true) : binV E .eql t (.slice (some a) n c) (.slice none 0 0) = some (.bool false) := by
  obtain ⟨e, he⟩ := isSlc_spec h
  simp [binV, eqV, he]
@[go_sem] theorem sl_nil0 (t : TypeId) (n c : Nat) (h : isSlc E t = true) : binV E .eql t (.slice none n c) (.slice none 0 0) = some (.bool true) := by
  obtain ⟨e, he⟩ := isSlc_spec h
  simp [binV, eqV, he]

/-- What may be written behind a call that was kept from some blocks. -/
theorem get_ugm {m : Mem} {ids : List Nat} {l : List (Option Blk)} {b : Nat} {tg : Bool} {cs : List Value} (h : ((m.gm ids).ext l).get b = some (.cells false tg cs)) : (m.ext l).get b = some (.cells false tg cs) := by
  by_cases hb : b < m.size
  · rw [get_ext _ _ _ (by rw [gm_size]; exact hb), get_gm] at h
    rw [get_ext _ _ _ hb]
    split at h
    · cases hq : m.get b with
      | none => rw [hq] at h; cases h
      | some c =>
        rw [hq] at h
        cases c with
        | cells ro t cs => simp at h
        | loop => simp at h
        | map => simp at h
    · exact h
  · have e : ((m.gm ids).ext l).get b = (m.ext l).get b := by
      unfold Mem.ext Mem.get
      have hs : (m.gm ids).bl.length = m.bl.length := gm_size m ids
      have hb' : ¬ b < m.bl.length := hb
      simp only
      rw [List.getElem?_append_right (by omega), List.getElem?_append_right (by omega), hs]
    rw [← e]
    exact h

/-- All blocks but these. -/
def butL (m : Mem) (l : List Nat) : Nat → Option Blk := fun i => if l.contains i then none else m.get i
theorem butL_frozen (m : Mem) (l : List Nat) : Frozen (butL m l) m := fun i b h => by
  unfold butL at h
  split at h
  · cases h
  · exact h
theorem butL_at {m : Mem} {l : List Nat} {i : Nat} {b : Blk} (h : m.get i = some b) (hi : i ∉ l) : butL m l i = some b := by unfold butL; rw [if_neg (by simpa using hi)]; exact h
theorem butL_no {m : Mem} {l : List Nat} {i : Nat} (hi : i ∈ l) : butL m l i = none := by unfold butL; rw [if_pos (by simpa using hi)]
theorem SlA.butS {m m0 m' : Mem} {sz : Nat} {l : List Nat} {a : Option Addr} {n k : Nat} {xs : List Value} (h : SlA m0 sz a n k xs) (o : Old m0 m) (z : Frozen (butL m l) m') (hc : ∀ c ∈ l, m0.size ≤ c) : SlA m' sz a n k xs := h.keep fun b hb hx => by
  obtain ⟨ro, tg, cs, g, _⟩ := (h.rows b hb hx).blk
  have hl := getM_lt g
  rw [g]
  exact z _ _ (butL_at ((o.get hl).trans g) fun e => by have := hc _ e; omega)
end Go.Abs
