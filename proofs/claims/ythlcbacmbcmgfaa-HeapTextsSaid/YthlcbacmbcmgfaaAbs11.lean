/-
  A region whose order is open: whatever order is drawn comes to what the executor's own order comes to.
-/
import Derived.Test.YthlcbacmbcmgfaaAbs10
namespace Go.Abs
variable {C : FuncId → Code → Prop} {P : Program} {E : Env}

section region
variable {f : FuncId} {id : Nat} {ops : Array Oper} {b : Array Nat} {l : List Nat} {T : Nat → Array Value} {M : Nat → Mem} {G : Nat → List (Nat × Nat)} {V : Nat → Value}
variable (ok : DOk E f id ops b l) (tr : Trace C P E f id ops l T M G V)
include ok tr

theorem tr_at {k : Nat} (hk : k < ops.size) : ops[at' l k]? = some (opAt ops l k) ∧ T (k + 1) = putT (T k) (opAt ops l k).dst (V k) ∧
    DPos C P E f id ops (at' l k) (opAt ops l k) (T k) (M k) (G k) (V k) (M (k + 1)) (G (k + 1)) := by
  obtain ⟨o, h1, h2⟩ := tr.step k _ (ok.get hk)
  have : opAt ops l k = o := getD_of h1
  rw [this]
  exact ⟨h1, h2⟩

theorem tr_keeps {j k : Nat} (hk : k ≤ ops.size) (hj : j ≤ k) : Keeps (M j) (M k) := by
  induction k with
  | zero => have : j = 0 := by omega
            subst this; exact Keeps.refl _
  | succ k ih =>
    rcases Nat.lt_or_ge j (k + 1) with h | h
    · exact (ih (by omega) (by omega)).trans (tr_at ok tr (k := k) (by omega)).2.2.keeps
    · have : j = k + 1 := by omega
      subst this; exact Keeps.refl _

/-- A light operation: skipped, or it runs where the executor ran it. -/
theorem tr_light {k : Nat} (hk : k < ops.size) (hc : cls E (opAt ops l k) ≠ .H) :
    (Region.wanted (opAt ops l k) (yielded ops (T k)) = false ∧ V k = undef ∧ M (k + 1) = M k) ∨
    (Region.wanted (opAt ops l k) (yielded ops (T k)) = true ∧ opV E (opAt ops l k) (ev (T k)) (M k) = some (.val (V k) (M (k + 1))) ∧ LocalOf E (opAt ops l k) (ev (T k)) (M k) (V k) (M (k + 1))) := by
  obtain ⟨h1, h2, h3⟩ := tr_at ok tr hk
  rcases h3 with ⟨k1, k2, k3, _⟩ | ⟨k1, _, k2⟩
  · exact .inl ⟨k1, k2, k3⟩
  · refine .inr ⟨k1, ?_⟩
    have hg : guarded E f id (at' l k) (G k) = [] := by
      unfold guarded
      rw [ok.prot _ _ h1 hc]
      rfl
    rw [hg] at k2
    have hgm : ∀ m : Mem, m.gm [] = m := fun m => rfl
    cases k2 with
    | val h e =>
      rw [hgm] at h
      have e : M (k + 1) = _ := e
      subst e
      obtain ⟨v, m1, e1, e2⟩ := opV_local h hc
      cases e1
      exact ⟨h, e2⟩
    | enter h _ _ _ =>
      obtain ⟨v, m1, e1, e2⟩ := opV_local h hc
      cases e1
    | round h _ _ _ =>
      obtain ⟨v, m1, e1, e2⟩ := opV_local h hc
      cases e1

/-- What a light operation does to the memory. -/
theorem tr_mem {k : Nat} (hk : k < ops.size) (hc : cls E (opAt ops l k) ≠ .H) :
    M (k + 1) = M k ∨ (cls E (opAt ops l k) = .A ∧ ∃ c : Blk, c.writable = true ∧ M (k + 1) = (M k).push c) := by
  rcases tr_light ok tr hk hc with ⟨_, _, h⟩ | ⟨_, _, h⟩
  · exact .inl h
  · rcases h with ⟨_, h, _⟩ | ⟨h1, c, h2, h3, _⟩
    · exact .inl h
    · exact .inr ⟨h1, c, h2, h3⟩

theorem tr_seg {j k : Nat} (hk : k ≤ ops.size) (hj : j ≤ k) (hl : ∀ q, j ≤ q → q < k → cls E (opAt ops l q) ≠ .H) {i : Nat} (hi : i < (M j).size) : (M k).get i = (M j).get i := by
  induction k with
  | zero => have : j = 0 := by omega
            subst this; rfl
  | succ k ih =>
    rcases Nat.lt_or_ge j (k + 1) with h | h
    · have e := ih (by omega) (by omega) fun q h1 h2 => hl q h1 (by omega)
      rcases tr_mem ok tr (k := k) (by omega) (hl k (by omega) (by omega)) with h1 | ⟨_, c, _, h1⟩
      · rw [h1, e]
      · have := (tr_keeps ok tr (k := k) (by omega) (show j ≤ k by omega)).size
        rw [h1, getM_push, if_neg (by omega), e]
    · have : j = k + 1 := by omega
      subst this; rfl

/-- The log bears what a load read. -/
theorem tr_log {k : Nat} (hk : k < ops.size) (hw : Region.wanted (opAt ops l k) (yielded ops (T k)) = true) {i : Nat} (hi : loadBlock (opAt ops l k) (ev (T k)) = some i) :
    ∀ h, k < h → h ≤ ops.size → (G h).find? (fun e => e.1 == at' l k) = some (at' l k, i) := by
  intro h
  induction h with
  | zero => intro h1; omega
  | succ h ih =>
    intro h1 h2
    obtain ⟨_, _, h3⟩ := tr_at ok tr (k := h) (by omega)
    by_cases e : k = h
    · subst e
      rcases h3 with ⟨k1, _⟩ | ⟨_, k2, _⟩
      · rw [hw] at k1; cases k1
      · rw [k2]
        simp [logged, hi]
    · have ih := ih (by omega) (by omega)
      rcases h3 with ⟨_, _, _, k2⟩ | ⟨_, k2, _⟩
      · rw [k2]; exact ih
      · rw [k2]
        unfold logged
        split
        · have hne : at' l h ≠ at' l k := fun e' => e (ok.inj (by omega) hk e').symm
          rw [List.find?_cons_of_neg (by simpa using hne)]
          exact ih
        · exact ih

/-! ### The state of a drawn run -/
omit ok tr in
def View (M : Nat → Mem) (n : Nat) (S : Nat → Bool) (p : Nat) (i : Nat) (c : Blk) : Prop :=
  (M p).get i = some c ∨ ∃ k, p ≤ k ∧ k < n ∧ S k = true ∧ i = (M k).size ∧ (M k).size < (M (k + 1)).size ∧ (M (k + 1)).get i = some c

omit ok tr in
def Extra (M : Nat → Mem) (n : Nat) (S : Nat → Bool) (p : Nat) (i : Nat) : Prop :=
  ∃ k, p ≤ k ∧ k < n ∧ S k = true ∧ i = (M k).size ∧ (M k).size < (M (k + 1)).size

structure DInv (C : FuncId → Code → Prop) (E : Env) (ops : Array Oper) (b : Array Nat) (l : List Nat) (T : Nat → Array Value) (M : Nat → Mem) (V : Nat → Value)
    (B : Nat) (ρ0 : Inj) (w0 : World) (ds : List Deferred) (S : Nat → Bool) (p : Nat) (ρ : Inj) (a : Act) (w : World) : Prop where
  pn : p ≤ ops.size
  hv : ∀ k, k < ops.size → cls E (opAt ops l k) = .H → (S k = true ↔ k < p)
  al : ∀ k, k < p → cls E (opAt ops l k) = .A → S k = true
  ld : ∀ k, k < p → S k = false → cls E (opAt ops l k) ≠ .H → Region.wanted (opAt ops l k) (yielded ops (T k)) = true → ∀ i, loadBlock (opAt ops l k) (ev (T k)) = some i → ∀ c, (M k).get i = some c → (M p).get i = some c
  closed : ∀ k, k < ops.size → S k = true → ∀ j, j < ops.size → bef b l j k = true → S j = true
  dom : ∀ i e, ρ i = some e → i < (M p).size ∨ Extra M ops.size S p i ∨ B ≤ i
  rel : ∀ i c, View M ops.size S p i c → ∃ e, ρ i = some e ∧ BRel C ρ w e c
  inj : ∀ i j bi bj ei ej, View M ops.size S p i bi → View M ops.size S p j bj → i ≠ j → bi.writable = true → ρ i = some ei → ρ j = some ej → ei.blk ≠ ej.blk
  tm : ARel ρ (TSf ops.size (fun k => (opAt ops l k).dst) V (T 0) S) a.tmps
  df : a.defers = ds
  le : ρ0.le ρ
  new : ∀ i e, ρ i = some e → ρ0 i = some e ∨ ((M 0).size ≤ i ∧ i < (M ops.size).size)
  os : w.os = w0.os
  tape : w.tape = w0.tape
  output : w.output = w0.output
  size : w0.heap.size ≤ w.heap.size
  frame : ∀ r, r < w0.heap.size → (∀ i c e, (M 0).get i = some c → c.writable = true → ρ0 i = some e → e.blk ≠ r) → w.heap[r]? = w0.heap[r]?
  img : ∀ i c e, View M ops.size S p i c → c.writable = true → ρ i = some e → w0.heap.size ≤ e.blk ∨ ∃ j d f, (M 0).get j = some d ∧ d.writable = true ∧ ρ0 j = some f ∧ f.blk = e.blk

variable {B : Nat} {ρ0 : Inj} {w0 : World} {ds : List Deferred} {S : Nat → Bool} {p : Nat} {ρ : Inj} {a : Act} {w : World}

theorem DInv.adv (h : DInv C E ops b l T M V B ρ0 w0 ds S p ρ a w) (hp : p < ops.size) (hc : cls E (opAt ops l p) ≠ .H) (ha : cls E (opAt ops l p) = .A → S p = true) : DInv C E ops b l T M V B ρ0 w0 ds S (p + 1) ρ a w := by
  have hm := tr_mem ok tr hp hc
  have hsz : (M p).size ≤ (M (p + 1)).size := (tr_at ok tr hp).2.2.keeps.size
  have view : ∀ i c, View M ops.size S (p + 1) i c → View M ops.size S p i c := by
    intro i c hv
    rcases hv with hv | ⟨k, h1, h2⟩
    · rcases hm with h1 | ⟨h1, d, h2, h3⟩
      · rw [h1] at hv; exact .inl hv
      · have hv0 := hv
        rw [h3, getM_push] at hv
        split at hv
        · rename_i e
          exact .inr ⟨p, Nat.le_refl _, hp, ha h1, e, by rw [h3]; simp, hv0⟩
        · exact .inl hv
    · exact .inr ⟨k, by omega, h2⟩
  have keep : ∀ i c, (M p).get i = some c → (M (p + 1)).get i = some c := by
    intro i c hi
    have := getM_lt hi
    rw [tr_seg ok tr (j := p) (k := p + 1) (by omega) (by omega) (fun q h1 h2 => by have : q = p := by omega
                                                                                    subst this; exact hc) this]
    exact hi
  refine { h with pn := hp, hv := ?_, al := ?_, ld := ?_, dom := ?_, rel := fun i c hv => h.rel i c (view i c hv), inj := fun i j bi bj ei ej hi hj => h.inj i j bi bj ei ej (view _ _ hi) (view _ _ hj), img := fun i c e hv => h.img i c e (view _ _ hv) }
  · intro k hk hh
    rw [h.hv k hk hh]
    have : k ≠ p := fun e => by subst e; exact hc hh
    omega
  · intro k hk hh
    by_cases e : k = p
    · subst e; exact ha hh
    · exact h.al k (by omega) hh
  · intro k hk h1 h2 h3 i h4 c h5
    by_cases e : k = p
    · subst e; exact keep i c h5
    · exact keep i c (h.ld k (by omega) h1 h2 h3 i h4 c h5)
  · intro i e he
    rcases h.dom i e he with h1 | ⟨k, h1, h2, h3, h4, h5⟩ | h1
    · exact .inl (by omega)
    · by_cases e : k = p
      · subst e; exact .inl (by omega)
      · exact .inr (.inl ⟨k, by omega, h2, h3, h4, h5⟩)
    · exact .inr (.inr h1)

theorem DInv.advTo (h : DInv C E ops b l T M V B ρ0 w0 ds S p ρ a w) {q : Nat} (hq : q ≤ ops.size) (hpq : p ≤ q) (hc : ∀ k, p ≤ k → k < q → (∀ r, p ≤ r → r < k → cls E (opAt ops l r) ≠ .H) → cls E (opAt ops l k) ≠ .H ∧ (cls E (opAt ops l k) = .A → S k = true)) :
    DInv C E ops b l T M V B ρ0 w0 ds S q ρ a w ∧ ∀ k, p ≤ k → k < q → cls E (opAt ops l k) ≠ .H := by
  induction q with
  | zero => have : p = 0 := by omega
            subst this; exact ⟨h, fun k _ h2 => by omega⟩
  | succ q ih =>
    by_cases e : p = q + 1
    · subst e; exact ⟨h, fun k _ h2 => by omega⟩
    · obtain ⟨h1, h2⟩ := ih (by omega) (by omega) fun k h1 h2 => hc k h1 (by omega)
      obtain ⟨h3, h4⟩ := hc q (by omega) (by omega) fun r h3 h4 => h2 r h3 h4
      refine ⟨h1.adv ok tr (by omega) h3 h4, fun k h5 h6 => ?_⟩
      by_cases e : k = q
      · subst e; exact h3
      · exact h2 k h5 (by omega)

/-- All is done. -/
theorem DInv.final (h : DInv C E ops b l T M V B ρ0 w0 ds S p ρ a w) (hs : ∀ k, k < ops.size → S k = true) :
    Post C B ρ0 (M 0) w0 ρ (M ops.size) w ∧ ARel ρ (T ops.size) a.tmps ∧ a.defers = ds := by
  obtain ⟨h, _⟩ := h.advTo ok tr (Nat.le_refl _) h.pn fun k h1 h2 _ => ⟨fun e => by
    have := (h.hv k h2 e).1 (hs k h2)
    omega, fun _ => hs k h2⟩
  refine ⟨⟨h.le, (tr_keeps ok tr (Nat.le_refl _) (Nat.zero_le _)).size, h.new, ⟨⟨fun i c hc => h.rel i c (.inl hc), fun i j bi bj ei ej hi hj => h.inj i j bi bj ei ej (.inl hi) (.inl hj)⟩, fun i e he => ?_⟩,
    h.os, h.tape, h.output, h.size, h.frame, fun i c e hc => h.img i c e (.inl hc)⟩, ?_, h.df⟩
  · rcases h.dom i e he with h1 | ⟨k, h1, h2, _⟩ | h1
    · exact .inl h1
    · omega
    · exact .inr h1
  · have hT := TSf_lt (n := ops.size) (d := fun k => (opAt ops l k).dst) (V := V) (T := T) (fun k hk => (tr_at ok tr hk).2.1) (Nat.le_refl _)
    have h1 := h.tm
    have e : TSf ops.size (fun k => (opAt ops l k).dst) V (T 0) S = TSf ops.size (fun k => (opAt ops l k).dst) V (T 0) (fun j => decide (j < ops.size)) := by
      apply Array.ext_getElem?
      intro x
      exact TSf_at fun k hk _ => by rw [hs k hk]; simp [hk]
    rw [e, hT] at h1
    exact h1

/-- An operation that may be taken now finds in its temporaries what the executor found there. -/
theorem DInv.looks (h : DInv C E ops b l T M V B ρ0 w0 ds S p ρ a w) {k : Nat} (hk : k < ops.size) (hS : S k = false) (hr : ∀ j, j < ops.size → bef b l j k = true → S j = true) {x : Nat} (hx : x ∈ (opAt ops l k).looksAt ops) :
    (TSf ops.size (fun k => (opAt ops l k).dst) V (T 0) S)[x]? = (T k)[x]? := by
  rw [← TSf_lt (n := ops.size) (d := fun k => (opAt ops l k).dst) (V := V) (T := T) (fun k hk => (tr_at ok tr hk).2.1) (Nat.le_of_lt hk)]
  refine TSf_at fun j hj hd => ?_
  rcases Nat.lt_trichotomy j k with h1 | h1 | h1
  · have hp := ok.pair k j hk h1
    simp only [pairOk, Bool.and_eq_true, Bool.or_eq_true] at hp
    rcases hp.2 with h2 | h2
    · rw [hr j hj h2]; simp [h1]
    · exact absurd hx ((Oper.apart_spec h2.1).1 x hd)
  · subst h1; rw [hS]; simp
  · have hp := ok.pair j k hj h1
    simp only [pairOk, Bool.and_eq_true, Bool.or_eq_true] at hp
    rcases hp.2 with h2 | h2
    · have : S j = false := by
        cases e : S j with
        | false => rfl
        | true => have := h.closed j hj e k hk h2; rw [hS] at this; cases this
      rw [this]; simp; omega
    · exact absurd hx ((Oper.apart_spec h2.1).2.2 x hd)

theorem DInv.put (h : DInv C E ops b l T M V B ρ0 w0 ds S p ρ a w) {k : Nat} (hk : k < ops.size) (hS : S k = false) (hr : ∀ j, j < ops.size → bef b l j k = true → S j = true) :
    TSf ops.size (fun k => (opAt ops l k).dst) V (T 0) (fun j => S j || j == k) = putT (TSf ops.size (fun k => (opAt ops l k).dst) V (T 0) S) (opAt ops l k).dst (V k) := by
  apply Array.ext_getElem?
  intro x
  have hT := fun k hk => (tr_at ok tr (k := k) hk).2.1
  rw [putT_get]
  have hsz : (TSf ops.size (fun k => (opAt ops l k).dst) V (T 0) S).size = (T 0).size := fold_size _ _ _ _ _
  by_cases hd : (opAt ops l k).dst = some x
  · have e : (TSf ops.size (fun k => (opAt ops l k).dst) V (T 0) (fun j => S j || j == k))[x]? = (T (k + 1))[x]? := by
      rw [← TSf_lt (n := ops.size) (d := fun k => (opAt ops l k).dst) (V := V) (T := T) hT (show k + 1 ≤ ops.size by omega)]
      refine TSf_at fun j hj hd' => ?_
      rcases Nat.lt_trichotomy j k with h1 | h1 | h1
      · have hp := ok.pair k j hk h1
        simp only [pairOk, Bool.and_eq_true, Bool.or_eq_true] at hp
        rcases hp.2 with h2 | h2
        · rw [hr j hj h2]; simp; omega
        · exact absurd hd ((Oper.apart_spec h2.1).2.1 x hd')
      · subst h1; simp
      · have hp := ok.pair j k hj h1
        simp only [pairOk, Bool.and_eq_true, Bool.or_eq_true] at hp
        rcases hp.2 with h2 | h2
        · have : S j = false := by
            cases e : S j with
            | false => rfl
            | true => have := h.closed j hj e k hk h2; rw [hS] at this; cases this
          rw [this]
          have e1 : (j == k) = false := by simp; omega
          rw [e1]; simp; omega
        · exact absurd hd' ((Oper.apart_spec h2.1).2.1 x hd)
    rw [e, hT k hk, putT_get]
    have hsz2 : (T k).size = (T 0).size := by
      rw [← TSf_lt (n := ops.size) (d := fun k => (opAt ops l k).dst) (V := V) (T := T) hT (Nat.le_of_lt hk)]
      exact fold_size _ _ _ _ _
    rw [hsz, hsz2]
    by_cases h1 : x < (T 0).size
    · simp [hd, h1]
    · simp only [hd, h1, and_false, if_false]
      rw [Array.getElem?_eq_none (by omega), Array.getElem?_eq_none (by omega)]
  · rw [if_neg (fun e => hd e.1)]
    refine TSf_at fun j hj hd' => ?_
    have : j ≠ k := fun e => by subst e; exact hd hd'
    simp [this]

/-- One more operation has run. -/
theorem DInv.grow (h : DInv C E ops b l T M V B ρ0 w0 ds S p ρ a w) {k p' : Nat} (hk : k < ops.size) (hS : S k = false) (hr : ∀ j, j < ops.size → bef b l j k = true → S j = true)
    (hp : (p' = p ∧ cls E (opAt ops l k) ≠ .H) ∨ (p = k ∧ p' = k + 1 ∧ cls E (opAt ops l k) = .H)) {mm mm' : Mem} {B' : Nat} {ρ' : Inj} {w' : World} {v' : Value}
    (hpost : Post C B' ρ mm w ρ' mm' w') (hv : VRel ρ' (V k) v')
    (hsub : ∀ i c, mm.get i = some c → c.writable = true → ∃ d, View M ops.size S p i d ∧ d.writable = true)
    (hview : ∀ i c, View M ops.size (fun j => S j || j == k) p' i c → mm'.get i = some c ∨ (View M ops.size S p i c ∧ ∀ j d, mm.get j = some d → d.writable = true → j ≠ i))
    (hro : ∀ j c, mm'.get j = some c → c.writable = false → ∃ d, View M ops.size S p j d)
    (hnew : ∀ i e, ρ' i = some e → ρ i = none → (M 0).size ≤ i ∧ i < (M ops.size).size ∧ (i < (M p').size ∨ Extra M ops.size (fun j => S j || j == k) p' i))
    (hld : p = k → p' = k + 1 → ∀ q, q < k → S q = false → cls E (opAt ops l q) ≠ .H → Region.wanted (opAt ops l q) (yielded ops (T q)) = true → ∀ i, loadBlock (opAt ops l q) (ev (T q)) = some i → ∀ c, (M q).get i = some c → (M (k + 1)).get i = some c) :
    DInv C E ops b l T M V B ρ0 w0 ds (fun j => S j || j == k) p' ρ' (a.put (opAt ops l k).dst v') w' := by
  have hpp : p ≤ p' ∧ p' ≤ ops.size := by
    have := h.pn
    rcases hp with h1 | h1 <;> omega
  have or_false' : ∀ q, (S q || q == k) = false → S q = false ∧ q ≠ k := by
    intro q hq
    cases e : S q with
    | true => rw [e] at hq; simp at hq
    | false => rw [e] at hq; exact ⟨rfl, by simpa using hq⟩
  have old : ∀ i e, ρ i = some e → ρ' i = some e := hpost.le
  have relOld : ∀ i c, View M ops.size S p i c → (∀ j d, mm.get j = some d → d.writable = true → j ≠ i) → ∃ e, ρ i = some e ∧ ρ' i = some e ∧ BRel C ρ w e c ∧ BRel C ρ' w' e c := by
    intro i c hvw hj
    obtain ⟨e, he, hb⟩ := h.rel i c hvw
    refine ⟨e, he, old i e he, hb, hb.mono hpost.le (hpost.frame _ hb.lt fun j d g hd hw hg => ?_)⟩
    obtain ⟨d', hd', hw'⟩ := hsub j d hd hw
    exact h.inj j i d' c g e hd' hvw (hj j d hd hw) hw' hg he
  -- a block that the step made or turned lies apart from one that it did not see
  have apart1 : ∀ i j ci cj ei ej, mm'.get i = some ci → ci.writable = true → ρ' i = some ei → View M ops.size S p j cj → (∀ q d, mm.get q = some d → d.writable = true → q ≠ j) → ρ j = some ej → ei.blk ≠ ej.blk := by
    intro i j ci cj ei ej h1 h2 h3 h4 h5 h6
    obtain ⟨e, he, hb⟩ := h.rel j cj h4
    rw [h6] at he; cases he
    rcases hpost.img i ci ei h1 h2 h3 with h7 | ⟨q, d, g, h7, h8, h9, h10⟩
    · have := hb.lt; omega
    · obtain ⟨d', hd', hw'⟩ := hsub q d h7 h8
      rw [← h10]
      exact h.inj q j d' cj g ej hd' h4 (h5 q d h7 h8) hw' h9 h6
  refine { pn := hpp.2, hv := ?_, al := ?_, ld := ?_, closed := ?_, dom := ?_, rel := ?_, inj := ?_, tm := ?_, df := (put_defers _ _ _).trans h.df, le := Inj.le_trans h.le hpost.le, new := ?_, os := hpost.os.trans h.os, tape := hpost.tape.trans h.tape, output := hpost.output.trans h.output, size := Nat.le_trans h.size hpost.size, frame := ?_, img := ?_ }
  · intro q hq hh
    have h0 := h.hv q hq hh
    rcases hp with ⟨h1, h2⟩ | ⟨h1, h2, h3⟩
    · have : q ≠ k := fun e => by subst e; exact h2 hh
      have e : (q == k) = false := by simpa using this
      rw [e, Bool.or_false, h1]
      exact h0
    · by_cases e : q = k
      · subst e; simp; omega
      · have e' : (q == k) = false := by simpa using e
        rw [e', Bool.or_false, h0]
        omega
  · intro q hq hh
    rcases hp with ⟨h1, h2⟩ | ⟨h1, h2, h3⟩
    · rw [h.al q (by omega) hh]; rfl
    · by_cases e : q = k
      · subst e; simp
      · rw [h.al q (by omega) hh]; rfl
  · intro q hq h1 h2 h3 i h4 c h5
    obtain ⟨h6, h7⟩ := or_false' q h1
    rcases hp with ⟨h8, h9⟩ | ⟨h8, h9, h10⟩
    · rw [h8]; exact h.ld q (by omega) h6 h2 h3 i h4 c h5
    · rw [h9]; exact hld h8 h9 q (by omega) h6 h2 h3 i h4 c h5
  · intro q hq h1 j hj h2
    by_cases e : q = k
    · subst e; rw [hr j hj h2]; rfl
    · have e' : (q == k) = false := by simpa using e
      rw [e', Bool.or_false] at h1
      rw [h.closed q hq h1 j hj h2]; rfl
  · intro i e he
    cases hi : ρ i with
    | none =>
      rcases (hnew i e he hi).2.2 with h1 | h1
      · exact .inl h1
      · exact .inr (.inl h1)
    | some e' =>
      have hsz := (tr_keeps ok tr hpp.2 hpp.1).size
      rcases h.dom i e' hi with h1 | ⟨q, h1, h2, h3, h4, h5⟩ | h1
      · exact .inl (by omega)
      · refine .inr (.inl ⟨q, ?_, h2, by simp [h3], h4, h5⟩)
        rcases hp with h8 | ⟨h8, h9, h10⟩
        · omega
        · have : q ≠ k := fun e => by subst e; rw [hS] at h3; cases h3
          omega
      · exact .inr (.inr h1)
  · intro i c hvw
    rcases hview i c hvw with h1 | ⟨h1, h2⟩
    · exact hpost.sim.sim.rel i c h1
    · obtain ⟨e, _, he, _, hb⟩ := relOld i c h1 h2
      exact ⟨e, he, hb⟩
  · intro i j bi bj ei ej hi hj hne hw hei hej
    rcases hview i bi hi with h1 | ⟨h1, h2⟩
    · rcases hview j bj hj with h3 | ⟨h3, h4⟩
      · exact hpost.sim.sim.inj i j bi bj ei ej h1 h3 hne hw hei hej
      · obtain ⟨e, he, he', _, _⟩ := relOld j bj h3 h4
        rw [hej] at he'; cases he'
        exact apart1 i j bi bj ei ej h1 hw hei h3 h4 he
    · obtain ⟨e, he, he', _, _⟩ := relOld i bi h1 h2
      rw [hei] at he'; cases he'
      rcases hview j bj hj with h3 | ⟨h3, h4⟩
      · cases hwj : bj.writable with
        | true => exact (apart1 j i bj bi ej ei h3 hwj hej h1 h2 he).symm
        | false =>
          obtain ⟨d, hd⟩ := hro j bj h3 hwj
          obtain ⟨e2, he2, _⟩ := h.rel j d hd
          have := old j e2 he2
          rw [hej] at this; cases this
          exact h.inj i j bi d ei ej h1 hd hne hw he he2
      · obtain ⟨e2, he2, he2', _, _⟩ := relOld j bj h3 h4
        rw [hej] at he2'; cases he2'
        exact h.inj i j bi bj ei ej h1 h3 hne hw he he2
  · rw [h.put ok tr hk hS hr]
    exact putT_rel (h.tm.mono hpost.le) hv _
  · intro i e he
    cases hi : ρ i with
    | none => have := hnew i e he hi; exact .inr ⟨this.1, this.2.1⟩
    | some e' =>
      have := old i e' hi
      rw [he] at this; cases this
      exact h.new i e hi
  · intro r hr' hf
    rw [hpost.frame r (Nat.lt_of_lt_of_le hr' h.size), h.frame r hr' hf]
    intro i c e hc hw he e1
    obtain ⟨d, hd, hdw⟩ := hsub i c hc hw
    rcases h.img i d e hd hdw he with h1 | ⟨j, d', g, h1, h2, h3, h4⟩
    · omega
    · exact hf j d' g h1 h2 h3 (h4.trans e1)
  · intro i c e hvw hw he
    rcases hview i c hvw with h1 | ⟨h1, h2⟩
    · rcases hpost.img i c e h1 hw he with h3 | ⟨j, d, g, h3, h4, h5, h6⟩
      · exact .inl (Nat.le_trans h.size h3)
      · obtain ⟨d', hd', hw'⟩ := hsub j d h3 h4
        rcases h.img j d' g hd' hw' h5 with h7 | ⟨q, d2, g2, h7, h8, h9, h10⟩
        · exact .inl (h6 ▸ h7)
        · exact .inr ⟨q, d2, g2, h7, h8, h9, h10.trans h6⟩
    · obtain ⟨e2, he2, he2', _, _⟩ := relOld i c h1 h2
      rw [he] at he2'; cases he2'
      exact h.img i c e h1 hw he2

end region
end Go.Abs
