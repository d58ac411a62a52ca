/-
  A region whose order is open: what is asked of its text; its trace in the executor's own order.
-/
import Derived.Test.YthlcbacmbcmgfaaAbs9
namespace Go.Abs
variable {C : FuncId → Code → Prop} {B : Nat} {P : Program} {E : Env}

/-! ### The check -/
def at' (l : List Nat) (k : Nat) : Nat := l.getD k 0
def opAt (ops : Array Oper) (l : List Nat) (k : Nat) : Oper := ops.getD (at' l k) default
def bef (b : Array Nat) (l : List Nat) (j k : Nat) : Bool := (b.getD (at' l k) 0).testBit (at' l j)

def clsOk (before kept : Bool) : Cls → Cls → Bool
  | .H, .H | .H, .L | .A, .H => before
  | .L, .H => before || kept
  | _, _ => true

def pairOk (E : Env) (f : FuncId) (id : Nat) (ops : Array Oper) (b : Array Nat) (l : List Nat) (j k : Nat) : Bool :=
  !bef b l k j && (bef b l j k || ((opAt ops l j).apart ops (opAt ops l k) && clsOk false ((E.prot f id (at' l k)).contains (at' l j)) (cls E (opAt ops l j)) (cls E (opAt ops l k))))

def opnOk (E : Env) (f : FuncId) (id : Nat) (ops : Array Oper) (b : Array Nat) (i : Nat) (o : Oper) : Bool :=
  o.after.toList.all (fun e => !Region.binds .any e || (decide (e.on < ops.size) && (b.getD i 0).testBit e.on)) &&
  (List.range ops.size).all (fun x => !(b.getD i 0).testBit x || o.after.toList.any fun e => Region.binds .any e && (e.on == x || (b.getD e.on 0).testBit x)) &&
  !(b.getD i 0).testBit i &&
  (decide (cls E o = .H) || (E.prot f id i).isEmpty)

def drawOkWith (E : Env) (f : FuncId) (id : Nat) (ops : Array Oper) (b : Array Nat) (l : List Nat) : Bool :=
  l.length == ops.size && (List.range ops.size).all (fun i => l.contains i) && decide l.Nodup &&
  (List.range ops.size).all (fun i => opnOk E f id ops b i (ops.getD i default)) &&
  (List.range ops.size).all fun k => (List.range k).all fun j => pairOk E f id ops b l j k

def drawOk (E : Env) (f : FuncId) (id : Nat) (ops : Array Oper) : Bool :=
  drawOkWith E f id ops (Region.before ops) ((E.ord f id).getD (List.range ops.size))

structure DOk (E : Env) (f : FuncId) (id : Nat) (ops : Array Oper) (b : Array Nat) (l : List Nat) : Prop where
  len : l.length = ops.size
  all : ∀ i, i < ops.size → i ∈ l
  nd : l.Nodup
  edge : ∀ i o, ops[i]? = some o → ∀ e ∈ o.after.toList, Region.binds .any e = true → e.on < ops.size ∧ (b.getD i 0).testBit e.on = true
  clo : ∀ i o x, ops[i]? = some o → x < ops.size → (b.getD i 0).testBit x = true → ∃ e ∈ o.after.toList, Region.binds .any e = true ∧ (e.on = x ∨ (b.getD e.on 0).testBit x = true)
  irr : ∀ i, i < ops.size → (b.getD i 0).testBit i = false
  prot : ∀ i o, ops[i]? = some o → cls E o ≠ .H → E.prot f id i = []
  pair : ∀ k j, k < ops.size → j < k → pairOk E f id ops b l j k = true

theorem getD_of {α : Type} [Inhabited α] {a : Array α} {i : Nat} {x : α} (h : a[i]? = some x) : a.getD i default = x := by
  rw [Array.getD_eq_getD_getElem?, h]; rfl

theorem DOk.of {f : FuncId} {id : Nat} {ops : Array Oper} {b : Array Nat} {l : List Nat} (h : drawOkWith E f id ops b l = true) : DOk E f id ops b l := by
  simp only [drawOkWith, Bool.and_eq_true, List.all_eq_true, List.mem_range, beq_iff_eq, decide_eq_true_eq, List.contains_iff_mem] at h
  obtain ⟨⟨⟨⟨h1, h2⟩, h3⟩, h4⟩, h5⟩ := h
  have lt : ∀ {i : Nat} {o : Oper}, ops[i]? = some o → i < ops.size := fun h => (Array.getElem?_eq_some_iff.1 h).1
  refine ⟨h1, h2, h3, fun i o ho e he hb => ?_, fun i o x ho hx hb => ?_, fun i hi => ?_, fun i o ho hc => ?_, fun k j hk hj => h5 k hk j hj⟩
  · have := h4 i (lt ho)
    rw [getD_of ho] at this
    simp only [opnOk, Bool.and_eq_true, List.all_eq_true] at this
    have := this.1.1.1 e he
    simpa [hb] using this
  · have := h4 i (lt ho)
    rw [getD_of ho] at this
    simp only [opnOk, Bool.and_eq_true, List.all_eq_true, List.mem_range] at this
    have := this.1.1.2 x hx
    rw [hb] at this
    simp only [Bool.not_true, Bool.false_or, List.any_eq_true, Bool.and_eq_true, Bool.or_eq_true, beq_iff_eq] at this
    exact this
  · have := h4 i hi
    simp only [opnOk, Bool.and_eq_true] at this
    simpa using this.1.2
  · have := h4 i (lt ho)
    rw [getD_of ho] at this
    simp only [opnOk, Bool.and_eq_true] at this
    have := this.2
    simpa [hc] using this

section pos
variable {f : FuncId} {id : Nat} {ops : Array Oper} {b : Array Nat} {l : List Nat} (ok : DOk E f id ops b l)
include ok

theorem DOk.get {k : Nat} (hk : k < ops.size) : l[k]? = some (at' l k) := by
  have : k < l.length := by rw [ok.len]; exact hk
  simp [at', List.getD_eq_getElem?_getD, this]

theorem DOk.pos {i : Nat} (hi : i < ops.size) : ∃ k, k < ops.size ∧ at' l k = i := by
  obtain ⟨k, hk, e⟩ := List.mem_iff_getElem.1 (ok.all i hi)
  rw [ok.len] at hk
  refine ⟨k, hk, ?_⟩
  have := ok.get hk
  rw [List.getElem?_eq_getElem (by rw [ok.len]; exact hk), e] at this
  exact (Option.some.inj this).symm

theorem DOk.inj {j k : Nat} (hj : j < ops.size) (hk : k < ops.size) (h : at' l j = at' l k) : j = k := by
  have h1 := ok.get hj
  have h2 := ok.get hk
  rw [List.getElem?_eq_getElem (by rw [ok.len]; exact hj)] at h1
  rw [List.getElem?_eq_getElem (by rw [ok.len]; exact hk)] at h2
  have e : l[j]'(by rw [ok.len]; exact hj) = l[k]'(by rw [ok.len]; exact hk) := (Option.some.inj h1).trans (h.trans (Option.some.inj h2).symm)
  exact (List.getElem_inj (h₀ := by rw [ok.len]; exact hj) (h₁ := by rw [ok.len]; exact hk) ok.nd).1 e

end pos

/-! ### Temporaries -/
def putIf (S : Nat → Bool) (d : Nat → Option Tmp) (V : Nat → Value) (t : Array Value) (k : Nat) : Array Value := if S k then putT t (d k) (V k) else t

def TSf (n : Nat) (d : Nat → Option Tmp) (V : Nat → Value) (T0 : Array Value) (S : Nat → Bool) : Array Value := (List.range n).foldl (putIf S d V) T0

theorem size_putT (t : Array Value) (d : Option Tmp) (v : Value) : (putT t d v).size = t.size := by cases d <;> simp [putT]

theorem putT_get (t : Array Value) (d : Option Tmp) (v : Value) (x : Nat) : (putT t d v)[x]? = if d = some x ∧ x < t.size then some v else t[x]? := by
  cases d with
  | none => simp [putT]
  | some d =>
    simp only [putT, Array.getElem?_setIfInBounds, Option.some.injEq]
    by_cases h : d = x
    · subst h
      by_cases h2 : d < t.size
      · simp [h2]
      · simp [h2]
    · simp [h]

theorem fold_size (S : Nat → Bool) (d : Nat → Option Tmp) (V : Nat → Value) : ∀ (L : List Nat) (t : Array Value), (L.foldl (putIf S d V) t).size = t.size
  | [], _ => rfl
  | k :: L, t => by
    rw [List.foldl_cons, fold_size S d V L]
    unfold putIf
    split
    · exact size_putT _ _ _
    · rfl

theorem fold_at {S S' : Nat → Bool} {d : Nat → Option Tmp} {V : Nat → Value} {x : Nat} : ∀ (L : List Nat) (_ : ∀ k ∈ L, d k = some x → S k = S' k) (t t' : Array Value), t.size = t'.size → t[x]? = t'[x]? → (L.foldl (putIf S d V) t)[x]? = (L.foldl (putIf S' d V) t')[x]?
  | [], _, _, _, _, h => h
  | k :: L, hL, t, t', hs, h => by
    rw [List.foldl_cons, List.foldl_cons]
    refine fold_at L (fun j hj => hL j (by simp [hj])) _ _ ?_ ?_
    · unfold putIf
      split <;> split <;> simp [size_putT, hs]
    · unfold putIf
      by_cases hd : d k = some x
      · rw [hL k (by simp) hd]
        split
        · rw [putT_get, putT_get, hs, h]
        · exact h
      · split <;> split <;> simp [putT_get, hd, h]

theorem TSf_at {n : Nat} {d : Nat → Option Tmp} {V : Nat → Value} {T0 : Array Value} {S S' : Nat → Bool} {x : Nat} (h : ∀ k, k < n → d k = some x → S k = S' k) : (TSf n d V T0 S)[x]? = (TSf n d V T0 S')[x]? :=
  fold_at _ (fun k hk => h k (List.mem_range.1 hk)) _ _ rfl rfl

theorem TSf_lt {n : Nat} {d : Nat → Option Tmp} {V : Nat → Value} {T : Nat → Array Value} (hT : ∀ k, k < n → T (k + 1) = putT (T k) (d k) (V k)) {q : Nat} (hq : q ≤ n) : TSf n d V (T 0) (fun j => decide (j < q)) = T q := by
  have : ∀ k, k ≤ n → (List.range k).foldl (putIf (fun j => decide (j < q)) d V) (T 0) = T (min k q) := by
    intro k
    induction k with
    | zero => intro _; simp
    | succ k ih =>
      intro hk
      rw [List.range_succ, List.foldl_append, ih (by omega)]
      simp only [List.foldl_cons, List.foldl_nil, putIf, decide_eq_true_eq]
      split
      · rename_i h
        rw [show min k q = k by omega, show min (k + 1) q = k + 1 by omega, hT k (by omega)]
      · rename_i h
        rw [show min k q = q by omega, show min (k + 1) q = q by omega]
  unfold TSf
  rw [this n (Nat.le_refl n), show min n q = q by omega]

/-! ### The trace -/
inductive DStep (C : FuncId → Code → Prop) (P : Program) (E : Env) (ids : List Nat) (o : Oper) (t : Array Value) (m : Mem) (v : Value) (m' : Mem) : Prop
  | val {m1 : Mem} (h : opV E o (ev t) (m.gm ids) = some (.val v m1)) (e : m' = m.ugm m1 ids)
  | enter {g args m1 m2} (h : opV E o (ev t) (m.gm ids) = some (.enter g args m1)) (hs : SndCall C P g args m1 v m2) (hk : Keeps m1 m2) (e : m' = m.ugm m2 ids)
  | round {k args m1 m2} (h : opV E o (ev t) (m.gm ids) = some (.round k args m1)) (hs : SndRound C P k args m1 v m2) (hk : Keeps m1 m2) (e : m' = m.ugm m2 ids)

def DPos (C : FuncId → Code → Prop) (P : Program) (E : Env) (f : FuncId) (id : Nat) (ops : Array Oper) (i : Nat) (o : Oper) (t : Array Value) (m : Mem) (g : List (Nat × Nat)) (v : Value) (m' : Mem) (g' : List (Nat × Nat)) : Prop :=
  (Region.wanted o (yielded ops t) = false ∧ v = undef ∧ m' = m ∧ g' = g) ∨
  (Region.wanted o (yielded ops t) = true ∧ g' = logged o (ev t) i g ∧ DStep C P E (guarded E f id i g) o t m v m')

structure Trace (C : FuncId → Code → Prop) (P : Program) (E : Env) (f : FuncId) (id : Nat) (ops : Array Oper) (l : List Nat) (T : Nat → Array Value) (M : Nat → Mem) (G : Nat → List (Nat × Nat)) (V : Nat → Value) : Prop where
  step : ∀ k i, l[k]? = some i → ∃ o, ops[i]? = some o ∧ T (k + 1) = putT (T k) o.dst (V k) ∧ DPos C P E f id ops i o (T k) (M k) (G k) (V k) (M (k + 1)) (G (k + 1))

theorem Drawn.trace {f : FuncId} {id : Nat} {ops : Array Oper} {l : List Nat} {g : List (Nat × Nat)} {t t' : Array Value} {m m' : Mem} (h : Drawn C P E f id ops l g t m t' m') :
    ∃ T M G V, T 0 = t ∧ M 0 = m ∧ G 0 = g ∧ T l.length = t' ∧ M l.length = m' ∧ Trace C P E f id ops l T M G V := by
  induction h with
  | nil g t m => exact ⟨fun _ => t, fun _ => m, fun _ => g, fun _ => undef, rfl, rfl, rfl, rfl, rfl, ⟨fun k i h => by simp at h⟩⟩
  | @skip i rest g t m t' m' o ho hw h ih =>
    obtain ⟨T, M, G, V, e1, e2, e3, e4, e5, tr⟩ := ih
    refine ⟨fun k => k.casesOn t T, fun k => k.casesOn m M, fun k => k.casesOn g G, fun k => k.casesOn undef V, rfl, rfl, rfl, e4, e5, ⟨fun k j hk => ?_⟩⟩
    cases k with
    | zero => simp at hk; subst hk; exact ⟨o, ho, e1, .inl ⟨hw, rfl, e2, e3⟩⟩
    | succ k => exact tr.step k j (by simpa using hk)
  | @val i rest g t m t' m' o v m1 ho hw hv h ih =>
    obtain ⟨T, M, G, V, e1, e2, e3, e4, e5, tr⟩ := ih
    refine ⟨fun k => k.casesOn t T, fun k => k.casesOn m M, fun k => k.casesOn g G, fun k => k.casesOn v V, rfl, rfl, rfl, e4, e5, ⟨fun k j hk => ?_⟩⟩
    cases k with
    | zero => simp at hk; subst hk; exact ⟨o, ho, e1, .inr ⟨hw, e3, .val hv e2⟩⟩
    | succ k => exact tr.step k j (by simpa using hk)
  | @enter i rest g t m t' m' o gf args m1 v m2 ho hw hv hs hk h ih =>
    obtain ⟨T, M, G, V, e1, e2, e3, e4, e5, tr⟩ := ih
    refine ⟨fun k => k.casesOn t T, fun k => k.casesOn m M, fun k => k.casesOn g G, fun k => k.casesOn v V, rfl, rfl, rfl, e4, e5, ⟨fun k j hk' => ?_⟩⟩
    cases k with
    | zero => simp at hk'; subst hk'; exact ⟨o, ho, e1, .inr ⟨hw, e3, .enter hv hs hk e2⟩⟩
    | succ k => exact tr.step k j (by simpa using hk')
  | @round i rest g t m t' m' o gf args m1 v m2 ho hw hv hs hk h ih =>
    obtain ⟨T, M, G, V, e1, e2, e3, e4, e5, tr⟩ := ih
    refine ⟨fun k => k.casesOn t T, fun k => k.casesOn m M, fun k => k.casesOn g G, fun k => k.casesOn v V, rfl, rfl, rfl, e4, e5, ⟨fun k j hk' => ?_⟩⟩
    cases k with
    | zero => simp at hk'; subst hk'; exact ⟨o, ho, e1, .inr ⟨hw, e3, .round hv hs hk e2⟩⟩
    | succ k => exact tr.step k j (by simpa using hk')

theorem DStep.keeps {ids : List Nat} {o : Oper} {t : Array Value} {m m' : Mem} {v : Value} (h : DStep C P E ids o t m v m') : Keeps m m' := by
  cases h with
  | val h e => subst e; exact ugm_keeps (opV_keeps h)
  | enter h hs hk e => subst e; exact ugm_keeps ((opV_keeps h).trans hk)
  | round h hs hk e => subst e; exact ugm_keeps ((opV_keeps h).trans hk)

theorem DPos.keeps {f : FuncId} {id : Nat} {ops : Array Oper} {i : Nat} {o : Oper} {t : Array Value} {m m' : Mem} {g g' : List (Nat × Nat)} {v : Value} (h : DPos C P E f id ops i o t m g v m' g') : Keeps m m' := by
  rcases h with ⟨_, _, e, _⟩ | ⟨_, _, h⟩
  · subst e; exact Keeps.refl _
  · exact h.keeps

/-- What reads memory reads cells or a map. -/
theorem load_cells {o : Oper} {r : Operand → Value} {m : Mem} {v : Value} {m1 : Mem} (_ : LocalOf E o r m v m1) (h0 : opV E o r m = some (.val v m1)) (hA : cls E o ≠ .H) {i : Nat} (hi : loadBlock o r = some i) : cls E o = .L ∧ ((∃ ro t cs, m.get i = some (.cells ro t cs)) ∨ ∃ es c, m.get i = some (.map es c)) := by
  unfold loadBlock at hi
  split at hi
  · rename_i t a ho
    refine ⟨by simp [cls, ho], ?_⟩
    split at hi
    · rename_i ad hp
      cases hi
      simp only [opV, ho] at h0
      obtain ⟨u, hu, _⟩ := Option.map_eq_some_iff.1 h0
      unfold loadV at hu
      rw [hp] at hu
      split at hu
      · rename_i a' h1 h2
        cases h2
        split at hu
        · obtain ⟨row, hr, _⟩ := Option.map_eq_some_iff.1 hu
          unfold Mem.row at hr
          split at hr
          · rename_i e; exact .inl ⟨_, _, _, e⟩
          · cases hr
        · unfold Mem.cell at hu
          split at hu
          · rename_i e; exact .inl ⟨_, _, _, e⟩
          · cases hu
      · cases hu
    · cases hi
  · rename_i s d x ho
    split at hi
    · rename_i ad n c hp
      cases hi
      simp only [opV, ho] at h0
      obtain ⟨u, hu, _⟩ := Option.map_eq_some_iff.1 h0
      unfold convV at hu
      rw [hp] at hu
      split at hu
      · rename_i h3; cases h3
      · rename_i h3; cases h3
      · rename_i e _ _ _ _ _ _ a n' c' h1 h2 h3
        cases h3
        refine ⟨by simp [cls, ho, Env.desc, h1, h2], ?_⟩
        split at hu
        · rename_i h4; cases h4
        · rename_i h4
          cases h4
          obtain ⟨row, hr, _⟩ := Option.map_eq_some_iff.1 hu
          obtain ⟨row', hr, _⟩ := Option.bind_eq_some_iff.1 hr
          unfold Mem.row at hr
          split at hr
          · rename_i e; exact .inl ⟨_, _, _, e⟩
          · cases hr
        · cases hu
      · rename_i e _ _ _ _ _ _ _ a n' c' h1 h2 h3
        exact absurd (by simp [cls, ho, Env.desc, h1, h2]) hA
      · cases hu
    · cases hi
  · rename_i t x k ok ho
    refine ⟨by simp [cls, ho], .inr ?_⟩
    split at hi
    · rename_i b hx
      subst hi
      simp only [opV, ho] at h0
      obtain ⟨u, hu, _⟩ := Option.map_eq_some_iff.1 h0
      unfold lookupV entriesV at hu
      rw [hx] at hu
      cases hg : m.get i with
      | none => simp [hg] at hu
      | some c =>
        cases c with
        | map es c => exact ⟨es, c, rfl⟩
        | _ => simp [hg] at hu
    · cases hi
  · cases hi

end Go.Abs
