/-
  The executor is sound: control, calls, rounds. (Regions whose order is open: Abs9.)
-/
import Derived.Test.YthlcbacmbcmgfaaAbs7b
import Derived.OrdersIn
import Derived.LoopNIn
namespace Go.Abs
variable {C : FuncId → Code → Prop} {B : Nat}

def FW (rd : Option Nat) : Fence := { fn := fun _ => True, depth := none, alive := false, round := rd }

theorem FW_room (rd : Option Nat) (n : Nat) : (FW rd).room n := fun _ h => by simp [FW] at h

/-! ### What is asked of code once and for all -/
def opndOk : Operand → Bool
  | .const v => constOk v
  | .global _ => false
  | _ => true

def opOk (o : Oper) : Bool :=
  match o.op with
  | .load _ (.global _) => true
  | op => op.operands.toList.all opndOk

theorem ev_rel {ρ : Inj} {t : Array Value} {a : Act} (h : ARel ρ t a.tmps) {x : Operand} (hx : opndOk x = true) : VRel ρ (ev t x) (a.eval x) := by
  cases x with
  | tmp i => exact h.getD i
  | const v => exact .const hx
  | global g => simp [opndOk] at hx
  | func f => exact .func_of (.func f) .nil .nil

theorem putT_rel {ρ : Inj} {t : Array Value} {a : Act} (h : ARel ρ t a.tmps) {v v' : Value} (hv : VRel ρ v v') (d : Option Tmp) : ARel ρ (putT t d v) (a.put d v').tmps := by
  cases d with
  | none => exact h
  | some d => exact h.set hv d

theorem put_defers (a : Act) (d : Option Tmp) (v : Value) : (a.put d v).defers = a.defers := by cases d <;> rfl

theorem yielded_rel {ρ : Inj} {t t' : Array Value} (h : ARel ρ t t') (ops : Array Oper) : yielded ops t' = yielded ops t := by
  funext j
  unfold yielded
  cases hd : (ops[j]?).bind (·.dst) with
  | none => rfl
  | some d =>
    simp only [Option.bind_some]
    cases ht : t[d]? with
    | none =>
      have : t'[d]? = none := by
        have hs := h.size
        rw [Array.getElem?_eq_none_iff] at *
        omega
      rw [this]
    | some v =>
      obtain ⟨v', h1, h2⟩ := h.get ht
      rw [h1]
      cases h2 <;> rfl

/-! ### Marks among the deferred calls -/
def markOf (b : Nat) : Deferred := { target := .collected b, args := #[] }

structure Priv (C : FuncId → Code → Prop) (ρ : Inj) (m : Mem) (w : World) (b : Nat) : Prop where
  lt : b < w.heap.size
  at_ : w.heap[b]? = some (.deferred (some []))
  free : ∀ i c e, m.get i = some c → c.writable = true → ρ i = some e → e.blk ≠ b

theorem Priv.post {ρ ρ' : Inj} {m m' : Mem} {w w' : World} {b : Nat} (h : Priv C ρ m w b) (p : Post C B ρ m w ρ' m' w') : Priv C ρ' m' w' b where
  lt := Nat.lt_of_lt_of_le h.lt p.size
  at_ := (p.frame b h.lt h.free).trans h.at_
  free i c e hi hc he := by
    rcases p.img i c e hi hc he with h1 | ⟨j, d, f, hj, hd, hf, e1⟩
    · have := h.lt; omega
    · rw [← e1]; exact h.free j d f hj hd hf

/-- The marks that a piece of code has pushed. -/
structure Marks (C : FuncId → Code → Prop) (rd : Option Nat) (ρ' : Inj) (m' : Mem) (w w' : World) (ds ds' : List Deferred) : Prop where
  ex : ∃ bs : List Nat, ds' = bs.map markOf ++ ds ∧ bs.Nodup ∧ (∀ b ∈ bs, w.heap.size ≤ b ∧ Priv C ρ' m' w' b) ∧ (rd.isSome = true → bs = [])

theorem Marks.refl {rd : Option Nat} {ρ' : Inj} {m' : Mem} {w w' : World} (ds : List Deferred) : Marks C rd ρ' m' w w' ds ds := ⟨[], rfl, List.nodup_nil, fun b hb => by simp at hb, fun _ => rfl⟩

theorem Marks.trans {rd : Option Nat} {ρ ρ' ρ'' : Inj} {m m' m'' : Mem} {w w' w'' : World} {d d' d'' : List Deferred} (h : Marks C rd ρ' m' w w' d d') (p : Post C B ρ m w ρ' m' w') (k : Marks C rd ρ'' m'' w' w'' d' d'') (q : Post C B ρ' m' w' ρ'' m'' w'') : Marks C rd ρ'' m'' w w'' d d'' := by
  obtain ⟨bs, e1, n1, h1, r1⟩ := h.ex
  obtain ⟨cs, e2, n2, h2, r2⟩ := k.ex
  refine ⟨cs ++ bs, by rw [e2, e1]; simp, ?_, ?_, fun h => by rw [r1 h, r2 h]; rfl⟩
  · rw [List.nodup_append]
    refine ⟨n2, n1, fun a ha b hb e => ?_⟩
    have h3 := (h2 a ha).1
    have h4 := (h1 b hb).2.lt
    omega
  · intro b hb
    rcases List.mem_append.1 hb with hb | hb
    · obtain ⟨h3, h4⟩ := h2 b hb
      exact ⟨Nat.le_trans p.size h3, h4⟩
    · obtain ⟨h3, h4⟩ := h1 b hb
      exact ⟨h3, h4.post q⟩

theorem Marks.mono {rd : Option Nat} {ρ ρ' ρ'' : Inj} {m m' m'' : Mem} {w w' w'' : World} {d d' : List Deferred} (h : Marks C rd ρ' m' w w' d d') (p : Post C B ρ m w ρ' m' w') (q : Post C B ρ' m' w' ρ'' m'' w'') : Marks C rd ρ'' m'' w w'' d d' :=
  h.trans p (Marks.refl (w := w') (w' := w'') d') q

/-- Which real loop's round the frame is, if any. -/
def RdRel (ρ : Inj) (rd rdr : Option Nat) : Prop :=
  match rd with
  | none => rdr = none
  | some l => ∃ e, ρ l = some e ∧ rdr = some e.blk

theorem RdRel.mono {ρ ρ' : Inj} {rd rdr : Option Nat} (h : RdRel ρ rd rdr) (hl : ρ.le ρ') : RdRel ρ' rd rdr := by
  cases rd with
  | none => exact h
  | some l => obtain ⟨e, h1, h2⟩ := h; exact ⟨e, hl _ _ h1, h2⟩

theorem RdRel.some_iff {ρ : Inj} {rd rdr : Option Nat} (h : RdRel ρ rd rdr) : rdr.isSome = rd.isSome := by
  cases rd with
  | none => rw [show rdr = none from h]
  | some l => obtain ⟨e, _, h2⟩ := h; rw [h2]; rfl

/-! ### Soundness, task by task -/
section snd
variable (C : FuncId → Code → Prop) (P : Program) (E : Env)

def SndCall (f : FuncId) (args : Array Value) (m : Mem) (v : Value) (m' : Mem) : Prop :=
  ∀ B ρ w args' N R, m'.size ≤ B → Sim C B ρ m w → ARel ρ args args' → (∀ ρ' w' v', Post C B ρ m w ρ' m' w' → VRel ρ' v v' → R (.returned v') w') → CallsIn (FW none) N P f args' w R

def SndRound (l : Nat) (args : Array Value) (m : Mem) (v : Value) (m' : Mem) : Prop :=
  ∀ B ρ w e args' N R, m'.size ≤ B → Sim C B ρ m w → ρ l = some e → ARel ρ args args' → (∀ ρ' w' v', Post C B ρ m w ρ' m' w' → VRel ρ' v v' → R (.returned v') w') →
    ∃ f tmps asg body, (Instr.yield e.blk args').run P w = .ok (.round e.blk f tmps asg body) w ∧ RoundIn (FW none) N P e.blk f tmps asg body w R

/-- The steps that a region whose order is open makes in the executor's own order. -/
inductive Drawn (f : FuncId) (id : Nat) (ops : Array Oper) : List Nat → List (Nat × Nat) → Array Value → Mem → Array Value → Mem → Prop
  | nil (log t m) : Drawn f id ops [] log t m t m
  | skip {i rest log t m t' m' o} (ho : ops[i]? = some o) (hw : Region.wanted o (yielded ops t) = false) (h : Drawn f id ops rest log (putT t o.dst undef) m t' m') : Drawn f id ops (i :: rest) log t m t' m'
  | val {i rest log t m t' m' o v m1} (ho : ops[i]? = some o) (hw : Region.wanted o (yielded ops t) = true) (hv : opV E o (ev t) (m.gm (guarded E f id i log)) = some (.val v m1))
      (h : Drawn f id ops rest (logged o (ev t) i log) (putT t o.dst v) (m.ugm m1 (guarded E f id i log)) t' m') : Drawn f id ops (i :: rest) log t m t' m'
  | enter {i rest log t m t' m' o g args m1 v m2} (ho : ops[i]? = some o) (hw : Region.wanted o (yielded ops t) = true) (hv : opV E o (ev t) (m.gm (guarded E f id i log)) = some (.enter g args m1))
      (hs : SndCall C P g args m1 v m2) (hk : Keeps m1 m2) (h : Drawn f id ops rest (logged o (ev t) i log) (putT t o.dst v) (m.ugm m2 (guarded E f id i log)) t' m') : Drawn f id ops (i :: rest) log t m t' m'
  | round {i rest log t m t' m' o k args m1 v m2} (ho : ops[i]? = some o) (hw : Region.wanted o (yielded ops t) = true) (hv : opV E o (ev t) (m.gm (guarded E f id i log)) = some (.round k args m1))
      (hs : SndRound C P k args m1 v m2) (hk : Keeps m1 m2) (h : Drawn f id ops rest (logged o (ev t) i log) (putT t o.dst v) (m.ugm m2 (guarded E f id i log)) t' m') : Drawn f id ops (i :: rest) log t m t' m'

/-- A region whose order is open: what is asked of its text. -/
def DrawSound (drawOk : Env → FuncId → Nat → Array Oper → Bool) : Prop :=
  ∀ f id ops t m t' m', drawOk E f id ops = true → (∀ o ∈ ops.toList, opOk o = true) → Drawn C P E f id ops ((E.ord f id).getD (List.range ops.size)) [] t m t' m' →
    ∀ B ρ w a rdr N Q, m'.size ≤ B → Sim C B ρ m w → ARel ρ t a.tmps → (∀ ρ' w' a', Post C B ρ m w ρ' m' w' → ARel ρ' t' a'.tmps → a'.defers = a.defers → Q .normal a' w') → (Code.region id ops true).wpIn (FW rdr) N P Q a w

end snd

def codeOk (drawOk : Env → FuncId → Nat → Array Oper → Bool) (E : Env) (f : FuncId) : Code → Bool
  | .region id ops draw => ops.toList.all opOk && (!draw || drawOk E f id ops)
  | .seq a b => codeOk drawOk E f a && codeOk drawOk E f b
  | .cond c a b => opndOk c && codeOk drawOk E f a && codeOk drawOk E f b
  | .block _ b | .loop b => codeOk drawOk E f b
  | .rangeFunc g _ a b => opndOk g && codeOk drawOk E f a && codeOk drawOk E f b
  | _ => true

/-! ### One operation -/
theorem opV_notDefer {E : Env} {o : Oper} {r : Operand → Value} {m : Mem} {st : Step} (h : opV E o r m = some st) (c : Call) : o.op ≠ .defer c := by
  intro hc
  simp [opV, hc] at h

section one
variable {P : Program} {E : Env} (hE : E.Ok P) {ρ : Inj} {m : Mem} {w : World} {t : Array Value} {a : Act} {o : Oper} {N : Nat} {rdr : Option Nat} {next : Act → World → Prop} {Q : Exit → Act → World → Prop}
include hE

omit hE in
theorem opOk_runs {st : Step} (hop : opOk o = true) (h : opV E o (ev t) m = some st) : ∀ x ∈ o.op.operands.toList, opndOk x = true := by
  unfold opOk at hop
  split at hop
  · rename_i ty g ho
    exfalso
    simp only [opV, ho, ev, undef] at h
    obtain ⟨v, hv, _⟩ := Option.map_eq_some_iff.1 h
    unfold loadV at hv
    split at hv
    · rename_i h2; cases h2
    · cases hv
  · exact fun x hx => List.all_eq_true.1 hop x hx

omit hE in
theorem opnds_rel (ha : ARel ρ t a.tmps) (hop : opOk o = true) {st : Step} (h : opV E o (ev t) m = some st) : ∀ x ∈ o.op.operands.toList, VRel ρ (ev t x) (a.eval x) := fun x hx =>
  ev_rel ha (opOk_runs hop h x hx)

theorem wp_val (hs : Sim C B ρ m w) {v : Value} {m1 : Mem} (h : opV E o (ev t) m = some (.val v m1)) (hB : m.size < m1.size → m1.size ≤ B) (hr : ∀ x ∈ o.op.operands.toList, VRel ρ (ev t x) (a.eval x))
    (hk : ∀ ρ' w' v', Post C B ρ m w ρ' m1 w' → VRel ρ' v v' → next (a.put o.dst v') w') : o.wpIn (FW rdr) N P a w next Q := by
  refine ⟨fun _ _ => trivial, ?_⟩
  rw [Oper.semAt_eq _ _ _ (opV_notDefer h)]
  obtain ⟨w', ρ', v', hrun, hp, hv, _⟩ := opV_run hE hs h (fun v m' e => by cases e; exact hB) hr
  rcases hrun with hrun | ⟨hrun, rfl⟩
  · rw [hrun]; exact hk _ _ _ hp hv
  · rw [hrun]; exact hk _ _ _ hp hv

theorem wp_enter (hs : Sim C B ρ m w) {g : FuncId} {args : Array Value} {m1 m2 : Mem} {v : Value} (h : opV E o (ev t) m = some (.enter g args m1)) (hB : m2.size ≤ B) (hr : ∀ x ∈ o.op.operands.toList, VRel ρ (ev t x) (a.eval x))
    (hc : SndCall C P g args m1 v m2) (hk : ∀ ρ' w' v', Post C B ρ m w ρ' m2 w' → VRel ρ' v v' → next (a.put o.dst v') w') : o.wpIn (FW rdr) N P a w next Q := by
  refine ⟨fun _ _ => trivial, ?_⟩
  rw [Oper.semAt_eq _ _ _ (opV_notDefer h)]
  obtain ⟨rfl, args', hrun, hargs⟩ := opV_run hE hs h (fun v m' e => by cases e) hr
  rw [hrun]
  refine ⟨fun hd => by simp [FW] at hd, ?_⟩
  exact hc B ρ w args' (N - 1) _ hB hs hargs fun ρ' w' v' hp hv => hk _ _ _ hp hv

theorem wp_round (hs : Sim C B ρ m w) {l : Nat} {args : Array Value} {m1 m2 : Mem} {v : Value} (h : opV E o (ev t) m = some (.round l args m1)) (hB : m2.size ≤ B) (hr : ∀ x ∈ o.op.operands.toList, VRel ρ (ev t x) (a.eval x))
    (hc : SndRound C P l args m1 v m2) (hk : ∀ ρ' w' v', Post C B ρ m w ρ' m2 w' → VRel ρ' v v' → next (a.put o.dst v') w') : o.wpIn (FW rdr) N P a w next Q := by
  refine ⟨fun _ _ => trivial, ?_⟩
  rw [Oper.semAt_eq _ _ _ (opV_notDefer h)]
  obtain ⟨rfl, e, args', he, _, hargs, hrun⟩ := opV_run hE hs h (fun v m' e => by cases e) hr
  obtain ⟨f, tmps, asg, body, hy, hround⟩ := hc B ρ w e args' (N - 1) (fun e w' => match e with
      | .returned v => next (a.put o.dst v) w'
      | .panicked chain => Q (.panic chain) a w'
      | .outgrown => LetsOut Q) hB hs he hargs fun ρ' w' v' hp hv => hk _ _ _ hp hv
  rw [hrun, hy]
  exact ⟨fun hd => by simp [FW] at hd, RoundIn.mono (F := FW rdr) hround fun e w' he => by cases e <;> exact he⟩

end one

/-! ### All tasks -/
def Good (dk : Env → FuncId → Nat → Array Oper → Bool) (E : Env) (f : FuncId) (c : Code) : Prop := codeOk dk E f c = true

/-- A loop is walked round by round. -/
def wpC (F : Fence) (N : Nat) (P : Program) (Q : Exit → Act → World → Prop) (k : Nat) (a : Act) (w : World) : Code → Prop
  | .loop b => Code.roundsIn F N P b Q k a w
  | c => c.wpIn F N P Q a w

theorem wpC_wp {F : Fence} {N : Nat} {P : Program} {Q : Exit → Act → World → Prop} {k : Nat} {a : Act} {w : World} {c : Code} (h : wpC F N P Q k a w c) : c.wpIn F N P Q a w := by
  cases c with
  | loop b => exact wpIn_loop_rounds k h
  | _ => exact h

def Snd (dk : Env → FuncId → Nat → Array Oper → Bool) (P : Program) (E : Env) : Task → Mem → Out → Prop
  | .code rd f c t, m, o => codeOk dk E f c = true → ∃ k, ∀ B ρ w a rdr N Q, o.m.size ≤ B → RdRel ρ rd rdr → Sim (Good dk E) B ρ m w → ARel ρ t a.tmps →
      (∀ ρ' w' a', Post (Good dk E) B ρ m w ρ' o.m w' → ARel ρ' o.t a'.tmps → Marks (Good dk E) rdr ρ' o.m w w' a.defers a'.defers → Q o.x a' w') → wpC (FW rdr) N P Q k a w c
  | .ops ops l t, m, o => o.x = .normal ∧ ((∀ o ∈ ops.toList, opOk o = true) → ∀ B ρ w a rdr N Q, o.m.size ≤ B → Sim (Good dk E) B ρ m w → ARel ρ t a.tmps →
      (∀ ρ' w' a', Post (Good dk E) B ρ m w ρ' o.m w' → ARel ρ' o.t a'.tmps → a'.defers = a.defers → Q .normal a' w') → wpOpsIn (FW rdr) N P ops Q l a w)
  | .draw f id ops l log t, m, o => o.x = .normal ∧ Drawn (Good dk E) P E f id ops l log t m o.t o.m
  | .call f args, m, o => o.x = .normal ∧ SndCall (Good dk E) P f args m (o.t.getD 0 undef) o.m
  | .round l args, m, o => o.x = .normal ∧ SndRound (Good dk E) P l args m (o.t.getD 0 undef) o.m

theorem Snd.wp {dk : Env → FuncId → Nat → Array Oper → Bool} {P : Program} {E : Env} {rd : Option Nat} {f : FuncId} {c : Code} {t : Array Value} {m : Mem} {o : Out} (h : Snd dk P E (.code rd f c t) m o) (hc : codeOk dk E f c = true) :
    ∀ B ρ w a rdr N Q, o.m.size ≤ B → RdRel ρ rd rdr → Sim (Good dk E) B ρ m w → ARel ρ t a.tmps →
      (∀ ρ' w' a', Post (Good dk E) B ρ m w ρ' o.m w' → ARel ρ' o.t a'.tmps → Marks (Good dk E) rdr ρ' o.m w w' a.defers a'.defers → Q o.x a' w') → c.wpIn (FW rdr) N P Q a w := by
  obtain ⟨k, hk⟩ := h hc
  exact fun B ρ w a rdr N Q hB h1 h2 h3 h4 => wpC_wp (hk B ρ w a rdr N Q hB h1 h2 h3 h4)

theorem Sim.other {ρ : Inj} {m : Mem} {w : World} (h : Sim C B ρ m w) {b : Nat} {ds : Option (List Deferred)} (hb : w.heap[b]? = some (.deferred ds)) (ob : Obj) : Sim C B ρ m (w.putObj b ob) := by
  have ne : ∀ i c e, m.get i = some c → ρ i = some e → e.blk ≠ b := fun i c e hi he k => by
    obtain ⟨e', h1, h2⟩ := h.sim.rel i c hi
    rw [he] at h1; cases h1
    subst k
    cases c with
    | cells ro tg cs => obtain ⟨c, el, fr, h3, _⟩ := h2; rw [hb] at h3; cases h3
    | loop st pend f t ps asg body => obtain ⟨_, _, _, fn, tmps, dfr, h3, _⟩ := h2; rw [hb] at h3; cases h3
    | map es clock => obtain ⟨_, es', h3, _⟩ := h2; rw [hb] at h3; cases h3
  exact ⟨⟨fun i c hi => by
    obtain ⟨e, h1, h2⟩ := h.sim.rel i c hi
    exact ⟨e, h1, h2.mono (Inj.le_refl ρ) (World.putObj_heap_other (ne i c e hi h1))⟩, h.sim.inj⟩, h.dom⟩

theorem Post.mark {ρ ρ' : Inj} {m m' : Mem} {w w' : World} (h : Post C B ρ m w ρ' m' w') {b : Nat} (hb : w.heap.size ≤ b) (hp : Priv C ρ' m' w' b) (ob : Obj) : Post C B ρ m w ρ' m' (w'.putObj b ob) where
  le := h.le
  sim := h.sim.other hp.at_ ob
  os := h.os
  tape := h.tape
  output := h.output
  size := by simpa using h.size
  frame r hr hf := by
    rw [World.putObj_heap_other (by omega)]
    exact h.frame r hr hf
  img := h.img
  msize := h.msize
  new := h.new

theorem Priv.other {ρ : Inj} {m : Mem} {w : World} {b c : Nat} (h : Priv C ρ m w b) (hne : b ≠ c) (ob : Obj) : Priv C ρ m (w.putObj c ob) b where
  lt := by simpa using h.lt
  at_ := by rw [World.putObj_heap_other hne]; exact h.at_
  free := h.free

theorem resultOf_run {P : Program} {E : Env} (hE : E.Ok P) {ρ : Inj} {m : Mem} {w : World} (hs : Sim C B ρ m w) {t t' : Array Value} (ht : ARel ρ t t') : ∀ (rs : List ResultVar) (vs : List Value), resultsOf E m t rs = some vs →
    ∃ vs', LRel ρ vs vs' ∧ (rs.mapM fun (r : ResultVar) => (match r with
      | .tmp i => pure (t'.getD i undef)
      | .cell a ty => do loadVar ty (← asAddr (t'.getD a undef)) : Sem Value)).run P w = .ok vs' w
  | [], vs, h => by
    simp only [resultsOf, Option.some.injEq] at h
    subst h
    exact ⟨[], .nil, by simp⟩
  | r :: rs, vs, h => by
    simp only [resultsOf] at h
    split at h
    · rename_i v vs1 h1 h2
      cases h
      obtain ⟨vs', k1, k2⟩ := resultOf_run hE hs ht rs vs1 h2
      cases r with
      | tmp i =>
        simp only [resultOf, Option.some.injEq] at h1
        subst h1
        exact ⟨_ :: vs', .cons (ht.getD i) k1, by simp only [List.mapM_cons, Sem.run_bind, Sem.run_pure, Result.andThen_ok, k2]⟩
      | cell a ty =>
        obtain ⟨v', q1, q2⟩ := loadV_run hE hs h1 (ht.getD a)
        refine ⟨v' :: vs', .cons q2 k1, ?_⟩
        have hp := ht.getD a
        simp only [resultOf] at h1
        unfold loadV at h1
        split at h1
        · rename_i i ad hi hpt
          obtain ⟨b, o, sp⟩ := ad
          rw [hpt] at hp
          obtain ⟨e, he, hv, _⟩ := hp.ptr_some
          rw [hv] at q1
          simp only [Instr.loadAt, Instr.sureAddr, Sem.run_bind, Sem.run_pure, Result.andThen_ok] at q1
          have hasAddr : (asAddr (t'.getD a undef)).run P w = .ok ⟨e.blk, e.sh + o, none⟩ w := by rw [hv]; rfl
          simp only [List.mapM_cons, Sem.run_bind, hasAddr, Sem.run_pure, Result.andThen_ok, q1, k2]
        · cases h1
    · cases h

theorem bundle_rel {ρ : Inj} {vs vs' : List Value} (h : LRel ρ vs vs') : VRel ρ (bundle vs) (if k : vs'.toArray.size = 1 then vs'.toArray[0] else .tuple vs'.toArray) := by
  cases h with
  | nil => exact .tuple_of .nil
  | cons hv ht => cases ht with
    | nil => exact hv
    | cons hu hr => exact .tuple_of (.cons hv (.cons hu hr))

theorem leavesM {P : Program} {E : Env} (hE : E.Ok P) {ρ ρ' : Inj} {m m1 : Mem} {w : World} {N : Nat} {fn : Func} {t : Array Value} {tmps : Array Value} {R : Ending → World → Prop} {vs : List Value}
    (ht : ARel ρ' t tmps) (hvs : resultsOf E m1 t fn.results.toList = some vs) (hR : ∀ w' v', Post C B ρ m w ρ' m1 w' → VRel ρ' (bundle vs) v' → R (.returned v') w') :
    ∀ (bs : List Nat) (w' : World), Post C B ρ m w ρ' m1 w' → bs.Nodup → (∀ b ∈ bs, w.heap.size ≤ b ∧ Priv C ρ' m1 w' b) → LeavesInM (FW none) N P fn tmps R (bs.map markOf) .returning w'
  | [], w', hp, _, _ => by
    obtain ⟨vs', k1, k2⟩ := resultOf_run hE hp.sim ht fn.results.toList vs hvs
    refine ⟨_, ?_, hR w' _ hp (bundle_rel k1)⟩
    have hm : (fn.results.mapM fun (r : ResultVar) => (match r with
      | .tmp i => pure (tmps.getD i undef)
      | .cell a ty => do loadVar ty (← asAddr (tmps.getD a undef)) : Sem Value)).run P w' = .ok vs'.toArray w' := by
      rw [Array.mapM_eq_mapM_toList]
      simp only [Sem.run_map, k2, Result.andThen_ok]
    unfold results
    rw [Sem.run_bind]
    refine (congrArg (fun r => Result.andThen r fun (vs : Array Value) w' => Sem.run P (pure (if h : vs.size = 1 then vs[0] else .tuple vs)) w') hm).trans ?_
    simp only [Result.andThen_ok, Sem.run_pure]
  | b :: bs, w', hp, hn, hb => by
    obtain ⟨h1, h2⟩ := hb b (by simp)
    rw [List.nodup_cons] at hn
    refine ⟨by simp, .inl ⟨b, w'.putObj b (.deferred none), rfl, run_takeDeferred h2.at_, ?_⟩⟩
    refine leavesM hE ht hvs hR bs _ (hp.mark h1 h2 _) hn.2 fun c hc => ?_
    obtain ⟨h3, h4⟩ := hb c (by simp [hc])
    exact ⟨h3, h4.other (fun e => hn.1 (by rw [← e]; exact hc)) _⟩

theorem withParams_rel {ρ : Inj} : ∀ (ps : List Tmp) (l l' : List Value) (t t' : Array Value), LRel ρ l l' → ARel ρ t t' → ARel ρ (withParams t ps l) ((ps.zip l').foldl (fun t (p, a) => t.setIfInBounds p a) t')
  | [], l, l', t, t', _, ht => by simpa [withParams] using ht
  | p :: ps, l, l', t, t', hl, ht => by
    cases hl with
    | nil => simpa [withParams] using ht
    | cons hv hr => exact withParams_rel ps _ _ _ _ hr (ht.set hv p)

theorem params_fold (ps : Array Tmp) (args : Array Value) (t : Array Value) :
    (ps.zip args).foldl (fun t (p, a) => t.setIfInBounds p a) t = (ps.toList.zip args.toList).foldl (fun t (p, a) => t.setIfInBounds p a) t := by
  rw [← Array.foldl_toList, Array.toList_zip]

/-- A loop's record turns on both sides. -/
theorem Sim.loop {ρ : Inj} {m : Mem} {w : World} (h : Sim C B ρ m w) {l : Nat} {st st' : LoopState} {pend pend' : Option Code} {f : FuncId} {t : Array Value} {ps : Array Tmp} {asg body : Code} {e : Ent}
    (hg : m.get l = some (.loop st pend f t ps asg body)) (he : ρ l = some e) :
    ∃ fn tmps dfr, w.heap[e.blk]? = some (.loop { state := st, pending := pend, fn := fn, tmps, params := ps, assign := asg, body, defers := dfr }) ∧
      Post C B ρ m w ρ (m.put l (some (.loop st' pend' f t ps asg body))) (w.putObj e.blk (.loop { state := st', pending := pend', fn := fn, tmps, params := ps, assign := asg, body, defers := dfr })) := by
  obtain ⟨e', h1, h2⟩ := h.sim.rel l _ hg
  rw [he] at h1; cases h1
  obtain ⟨hsh, c1, c2, fn, tmps, dfr, hh, ht⟩ := h2
  have hlt : e.blk < w.heap.size := (Array.getElem?_eq_some_iff.1 hh).1
  refine ⟨fn, tmps, dfr, hh, h.turn hg rfl he _ rfl rfl rfl (by simp) (fun r hr => World.putObj_heap_other hr) fun c hc => ?_⟩
  cases hc
  exact ⟨hsh, c1, c2, fn, tmps, dfr, World.putObj_heap_same hlt, ht⟩

section sound
variable {dk : Env → FuncId → Nat → Array Oper → Bool} {P : Program} {E : Env} (hE : E.Ok P) (hcode : ∀ f i, E.fn f = some i → codeOk dk E f i.code = true) (hdraw : DrawSound (Good dk E) P E dk)
variable {rn : Task → Mem → Option Out} (ih : ∀ T m o, rn T m = some o → Snd dk P E T m o) (ihk : ∀ T m o, rn T m = some o → Keeps m o.m)
include hE ih ihk

theorem snd_ops {ops : Array Oper} {l : List Nat} {t : Array Value} {m : Mem} {o : Out} (h : stepT E rn (.ops ops l t) m = some o) : Snd dk P E (.ops ops l t) m o := by
  cases l with
  | nil =>
    simp only [stepT, Option.some.injEq] at h
    subst h
    exact ⟨rfl, fun _ B ρ w a rdr N Q hB hs ha hq => hq ρ w a (Post.refl hs) ha rfl⟩
  | cons i rest =>
    simp only [stepT] at h
    split at h
    · cases h
    · rename_i op hop
      have hmem : op ∈ ops.toList := by
        have := Array.mem_of_getElem? hop
        simpa using this
      split at h
      · rename_i hw
        split at h
        · rename_i v m1 hv
          obtain ⟨hx, hrest⟩ := ih _ _ _ h
          refine ⟨hx, fun hok B ρ w a rdr N Q hB hs ha hq => ?_⟩
          simp only [wpOpsIn, hop]
          rw [if_pos (by rw [yielded_rel ha]; exact hw)]
          exact wp_val hE hs hv (fun _ => Nat.le_trans (ihk _ _ _ h).size hB) (opnds_rel ha (hok op hmem) hv) fun ρ' w' v' hp hvr =>
            hrest hok B ρ' w' _ rdr N Q hB hp.sim (putT_rel (ha.mono hp.le) hvr _) fun ρ'' w'' a'' hp' ha' hd => hq _ _ _ (hp.trans hp') ha' (hd.trans (put_defers _ _ _))
        · rename_i g args m1 hv
          split at h
          · rename_i r m2 hcall
            obtain ⟨_, hc⟩ := ih _ _ _ hcall
            obtain ⟨hx, hrest⟩ := ih _ _ _ h
            refine ⟨hx, fun hok B ρ w a rdr N Q hB hs ha hq => ?_⟩
            simp only [wpOpsIn, hop]
            rw [if_pos (by rw [yielded_rel ha]; exact hw)]
            exact wp_enter hE hs hv (Nat.le_trans (ihk _ _ _ h).size hB) (opnds_rel ha (hok op hmem) hv) hc fun ρ' w' v' hp hvr =>
              hrest hok B ρ' w' _ rdr N Q hB hp.sim (putT_rel (ha.mono hp.le) hvr _) fun ρ'' w'' a'' hp' ha' hd => hq _ _ _ (hp.trans hp') ha' (hd.trans (put_defers _ _ _))
          · cases h
        · rename_i k args m1 hv
          split at h
          · rename_i r m2 hcall
            obtain ⟨_, hc⟩ := ih _ _ _ hcall
            obtain ⟨hx, hrest⟩ := ih _ _ _ h
            refine ⟨hx, fun hok B ρ w a rdr N Q hB hs ha hq => ?_⟩
            simp only [wpOpsIn, hop]
            rw [if_pos (by rw [yielded_rel ha]; exact hw)]
            exact wp_round hE hs hv (Nat.le_trans (ihk _ _ _ h).size hB) (opnds_rel ha (hok op hmem) hv) hc fun ρ' w' v' hp hvr =>
              hrest hok B ρ' w' _ rdr N Q hB hp.sim (putT_rel (ha.mono hp.le) hvr _) fun ρ'' w'' a'' hp' ha' hd => hq _ _ _ (hp.trans hp') ha' (hd.trans (put_defers _ _ _))
          · cases h
        · cases h
      · rename_i hw
        obtain ⟨hx, hrest⟩ := ih _ _ _ h
        refine ⟨hx, fun hok B ρ w a rdr N Q hB hs ha hq => ?_⟩
        simp only [wpOpsIn, hop]
        rw [if_neg (by rw [yielded_rel ha]; exact hw)]
        exact ⟨fun _ _ => trivial, hrest hok B ρ w _ rdr N Q hB hs (putT_rel ha .undef _) fun ρ'' w'' a'' hp' ha' hd => hq _ _ _ hp' ha' (hd.trans (put_defers _ _ _))⟩

omit hE in
theorem snd_draw {f : FuncId} {id : Nat} {ops : Array Oper} {l : List Nat} {log : List (Nat × Nat)} {t : Array Value} {m : Mem} {o : Out} (h : stepT E rn (.draw f id ops l log t) m = some o) :
    Snd dk P E (.draw f id ops l log t) m o := by
  cases l with
  | nil =>
    simp only [stepT, Option.some.injEq] at h
    subst h
    exact ⟨rfl, .nil _ _ _⟩
  | cons i rest =>
    simp only [stepT] at h
    split at h
    · cases h
    · rename_i op hop
      split at h
      · rename_i hw
        split at h
        · rename_i v m1 hv
          obtain ⟨hx, hrest⟩ := ih _ _ _ h
          exact ⟨hx, .val hop hw hv hrest⟩
        · rename_i g args m1 hv
          split at h
          · rename_i r m2 hcall
            obtain ⟨_, hc⟩ := ih _ _ _ hcall
            obtain ⟨hx, hrest⟩ := ih _ _ _ h
            exact ⟨hx, .enter hop hw hv hc (ihk _ _ _ hcall) hrest⟩
          · cases h
        · rename_i k args m1 hv
          split at h
          · rename_i r m2 hcall
            obtain ⟨_, hc⟩ := ih _ _ _ hcall
            obtain ⟨hx, hrest⟩ := ih _ _ _ h
            exact ⟨hx, .round hop hw hv hc (ihk _ _ _ hcall) hrest⟩
          · cases h
        · cases h
      · rename_i hw
        obtain ⟨hx, hrest⟩ := ih _ _ _ h
        exact ⟨hx, .skip hop (by simpa using hw) hrest⟩


omit hE ih ihk in
theorem Post.grown {ρ : Inj} {m : Mem} {w w' : World} (h : Sim C B ρ m w) (g : Grown w w') : Post C B ρ m w ρ m w' where
  le := Inj.le_refl ρ
  msize := Nat.le_refl _
  new _ _ h := .inl h
  sim := ⟨⟨fun i b hb => by
    obtain ⟨e, he, hr⟩ := h.sim.rel i b hb
    exact ⟨e, he, hr.mono (Inj.le_refl ρ) (g.old _ hr.lt)⟩, h.sim.inj⟩, h.dom⟩
  os := g.os
  tape := g.tape
  output := g.output
  size := g.size
  frame r hr _ := g.old r hr
  img i b e hi hb he := .inr ⟨i, b, e, hi, hb, he, rfl⟩

include hcode in
omit ihk in
theorem snd_call {f : FuncId} {args : Array Value} {m : Mem} {o : Out} (h : stepT E rn (.call f args) m = some o) : Snd dk P E (.call f args) m o := by
  simp only [stepT] at h
  split at h
  · rename_i v hv
    split at h
    · rename_i hz
      cases h
      refine ⟨rfl, fun B ρ w args' N R hB hs ha hR => ?_⟩
      obtain ⟨hc, hk⟩ := hE.closed f v hv
      have e : args' = #[] := by
        have := ha.size
        exact Array.eq_empty_of_size_eq_zero (by omega)
      subst e
      exact callsIn_wide.2 ((hk w).mono fun e w' ⟨he, hg⟩ => he ▸ hR ρ w' v (Post.grown hs hg) (.const hc))
    · cases h
  split at h
  · cases h
  · rename_i fi hfi
    split at h
    · rename_i x t m1 hrun
      have key : ∀ vs, resultsOf E m1 t fi.results.toList = some vs → (x = .normal ∨ x = .ret) → Snd dk P E (.call f args) m ⟨.normal, #[bundle vs], m1⟩ := fun vs hvs hx => by
        refine ⟨rfl, fun B ρ w args' N R hB hs ha hR => ?_⟩
        obtain ⟨fn, f1, f2, f3, f4, f5⟩ := hE.fn f fi hfi
        refine callsIn_of_wp_marks f1 f2 trivial ((ih _ _ _ hrun).wp (hcode f fi hfi) B ρ w _ none N _ hB rfl hs ?_ fun ρ' w' a' hp ha' hm => ?_)
        · have e : args'.size = args.size := ha.size.symm
          rw [f3, e]
          exact ARel.append ha (ARel.replicate _)
        · obtain ⟨bs, hb1, hb2, hb3, _⟩ := hm.ex
          have hd : a'.defers = bs.map markOf := by simpa using hb1
          have hl := leavesM (N := N) hE (fn := fn) ha' (by rw [f4]; exact hvs) (R := R) (fun w'' v' hp' hv => hR ρ' w'' v' hp' hv) bs w' hp hb2 hb3
          rw [← hd] at hl
          rcases hx with rfl | rfl
          · exact hl
          · exact hl
      split at h
      · obtain ⟨vs, hvs, rfl⟩ := Option.map_eq_some_iff.1 h
        exact key vs hvs (.inl rfl)
      · obtain ⟨vs, hvs, rfl⟩ := Option.map_eq_some_iff.1 h
        exact key vs hvs (.inr rfl)
      · cases h
    · cases h


omit hE in
theorem snd_round {l : Nat} {args : Array Value} {m : Mem} {o : Out} (h : stepT E rn (.round l args) m = some o) : Snd dk P E (.round l args) m o := by
  simp only [stepT] at h
  split at h
  · rename_i p0 f t ps asg body hg
    split at h
    · rename_i hsz
      split at h
      · rename_i t1 m1 hasg
        split at h
        · rename_i pend f' t' ps' asg' body' hg1
          split at h
          · rename_i x t2 m2 hbody
            split at h
            · rename_i st2 pend2 f2 t2' ps2 asg2 body2 hg2
              have key : ∀ (jump : Option Code) (v : Bool), v = jump.isNone → o = ⟨.normal, #[.bool v], m2.put l (some (.loop (if jump.isNone then .ready else .done) jump f2 t2' ps2 asg2 body2))⟩ →
                  (∀ e R a w', roundPost P e R x a w' = ∃ v w'', (Instr.endRound e jump).run P w' = .ok v w'' ∧ R (.returned v) w'') → Snd dk P E (.round l args) m o := by
                rintro jump _ rfl rfl hrp
                refine ⟨rfl, fun B ρ w e args' N R hB hs he ha hR => ?_⟩
                have hB2 : m2.size ≤ B := by simpa using hB
                have hB1 : m1.size ≤ B := by have := (ihk _ _ _ hbody).size; simp at this; omega
                obtain ⟨e', h1, hsh, c1, c2, fnr, tmps, dfr, hh, ht⟩ := hs.sim.rel l _ hg
                rw [he] at h1; cases h1
                refine ⟨fnr, _, asg, body, run_yield hh (by rw [← ha.size]; exact hsz), ?_⟩
                refine roundIn_of_wpIn (F := FW none) trivial ?_
                refine (ih _ _ _ hasg).wp c1 B ρ w _ (some e.blk) N _ hB1 ⟨e, he, rfl⟩ hs ?_ fun ρ1 w1 a1 hp1 ha1 hm1 => ?_
                · dsimp only
                  rw [params_fold]
                  exact withParams_rel _ _ _ _ _ ha ht
                · obtain ⟨fn1, tmps1, dfr1, hh1, hturn1⟩ := hp1.sim.loop (st' := .busy) (pend' := pend) hg1 (hp1.le _ _ he)
                  refine ⟨_, run_beginRound hh1 rfl, ?_⟩
                  refine (ih _ _ _ hbody).wp c2 B ρ1 _ a1 (some e.blk) N _ hB2 ⟨e, hp1.le _ _ he, rfl⟩ hturn1.sim ha1 fun ρ2 w2 a2 hp2 ha2 hm2 => ?_
                  obtain ⟨fn2, tmps2, dfr2, hh2, hturn2⟩ := hp2.sim.loop (st' := if jump.isNone then .ready else .done) (pend' := jump) hg2 (hp2.le _ _ (hp1.le _ _ he))
                  rw [hrp]
                  exact ⟨_, _, run_endRound jump hh2, hR _ _ _ (((hp1.trans hturn1).trans hp2).trans hturn2) (.bool _)⟩
              split at h
              · cases h
                exact key none true rfl rfl fun _ _ _ _ => rfl
              · cases h
                exact key (some .ret) false rfl rfl fun _ _ _ _ => rfl
              · cases h
                exact key (some (.exit _)) false rfl rfl fun _ _ _ _ => rfl
              · cases h
            · cases h
          · cases h
        · cases h
      · cases h
    · cases h
  · cases h


omit hE ih ihk in
theorem then_of {x : Exit} {K : Act → World → Prop} {Q : Exit → Act → World → Prop} {a : Act} {w : World} (hx : x ≠ .normal) (h : Q x a w) : Exit.then K Q x a w := by
  cases x <;> first | exact absurd rfl hx | exact h

include hdraw in
theorem snd_code {rd : Option Nat} {f : FuncId} {c : Code} {t : Array Value} {m : Mem} {o : Out} (h : stepT E rn (.code rd f c t) m = some o) : Snd dk P E (.code rd f c t) m o := by
  intro hok
  cases c with
  | skip =>
    simp only [stepT, Option.some.injEq] at h
    subst h
    exact ⟨0, fun B ρ w a rdr N Q _ _ hs ha hq => wpIn_skip (hq ρ w a (Post.refl hs) ha (Marks.refl _))⟩
  | exit id =>
    simp only [stepT, Option.some.injEq] at h
    subst h
    exact ⟨0, fun B ρ w a rdr N Q _ _ hs ha hq => wpIn_exit (hq ρ w a (Post.refl hs) ha (Marks.refl _))⟩
  | ret =>
    simp only [stepT, Option.some.injEq] at h
    subst h
    exact ⟨0, fun B ρ w a rdr N Q _ _ hs ha hq => wpIn_ret (hq ρ w a (Post.refl hs) ha (Marks.refl _))⟩
  | scope b => simp [stepT] at h
  | label l => simp [stepT] at h
  | goto l => simp [stepT] at h
  | refuse s => simp [stepT] at h
  | seq x y =>
    simp only [codeOk, Bool.and_eq_true] at hok
    simp only [stepT] at h
    split at h
    · rename_i t1 m1 hx
      refine ⟨0, fun B ρ w a rdr N Q hB hrd hs ha hq => wpIn_seq ((ih _ _ _ hx).wp hok.1 B ρ w a rdr N _ (Nat.le_trans (ihk _ _ _ h).size hB) hrd hs ha fun ρ1 w1 a1 hp1 ha1 hm1 => ?_)⟩
      exact (ih _ _ _ h).wp hok.2 B ρ1 w1 a1 rdr N _ hB (hrd.mono hp1.le) hp1.sim ha1 fun ρ2 w2 a2 hp2 ha2 hm2 => hq _ _ _ (hp1.trans hp2) ha2 (hm1.trans hp1 hm2 hp2)
    · rename_i hne
      refine ⟨0, fun B ρ w a rdr N Q hB hrd hs ha hq => wpIn_seq ((ih _ _ _ h).wp hok.1 B ρ w a rdr N _ hB hrd hs ha fun ρ1 w1 a1 hp1 ha1 hm1 => ?_)⟩
      exact then_of (fun e => hne o.t o.m (by rw [h, ← e])) (hq _ _ _ hp1 ha1 hm1)
  | cond c x y =>
    simp only [codeOk, Bool.and_eq_true] at hok
    simp only [stepT] at h
    have hc : ∀ ρ (a : Act) b, ARel ρ t a.tmps → ev t c = .bool b → a.eval c = .bool b := fun ρ a b ha hb => by
      have := ev_rel ha hok.1.1
      rw [hb] at this
      generalize a.eval c = v at this
      cases this; rfl
    split at h
    · rename_i hb
      exact ⟨0, fun B ρ w a rdr N Q hB hrd hs ha hq => wpIn_cond_true (hc ρ a true ha hb) ((ih _ _ _ h).wp hok.1.2 B ρ w a rdr N _ hB hrd hs ha hq)⟩
    · rename_i hb
      exact ⟨0, fun B ρ w a rdr N Q hB hrd hs ha hq => wpIn_cond_false (hc ρ a false ha hb) ((ih _ _ _ h).wp hok.2 B ρ w a rdr N _ hB hrd hs ha hq)⟩
    · cases h
  | block id b =>
    simp only [codeOk] at hok
    simp only [stepT] at h
    split at h
    · rename_i i t1 m1 hx
      refine ⟨0, fun B ρ w a rdr N Q hB hrd hs ha hq => wpIn_block ((ih _ _ _ hx).wp hok B ρ w a rdr N _ (by split at h <;> (cases h; exact hB)) hrd hs ha fun ρ1 w1 a1 hp1 ha1 hm1 => ?_)⟩
      simp only [Exit.inBlock]
      split at h
      · rename_i he
        cases h
        rw [if_pos he]
        exact hq _ _ _ hp1 ha1 hm1
      · rename_i he
        cases h
        rw [if_neg he]
        exact hq _ _ _ hp1 ha1 hm1
    · rename_i hne
      refine ⟨0, fun B ρ w a rdr N Q hB hrd hs ha hq => wpIn_block ((ih _ _ _ h).wp hok B ρ w a rdr N _ hB hrd hs ha fun ρ1 w1 a1 hp1 ha1 hm1 => ?_)⟩
      have := hq _ _ _ hp1 ha1 hm1
      obtain ⟨x, t1, m1⟩ := o
      cases x <;> first | exact this | exact absurd h (hne _ _ _)
  | loop b =>
    have hokb : codeOk dk E f b = true := hok
    simp only [stepT] at h
    split at h
    · rename_i t1 m1 hx
      obtain ⟨k, hk⟩ := (ih _ _ _ h) hok
      refine ⟨k + 1, fun B ρ w a rdr N Q hB hrd hs ha hq => ?_⟩
      show Code.roundsIn (FW rdr) N P b Q (k + 1) a w
      rw [roundsIn_succ]
      refine (ih _ _ _ hx).wp hokb B ρ w a rdr N _ (Nat.le_trans (ihk _ _ _ h).size hB) hrd hs ha fun ρ1 w1 a1 hp1 ha1 hm1 => ?_
      exact hk B ρ1 w1 a1 rdr N _ hB (hrd.mono hp1.le) hp1.sim ha1 fun ρ2 w2 a2 hp2 ha2 hm2 => hq _ _ _ (hp1.trans hp2) ha2 (hm1.trans hp1 hm2 hp2)
    · rename_i hne
      refine ⟨1, fun B ρ w a rdr N Q hB hrd hs ha hq => ?_⟩
      show Code.roundsIn (FW rdr) N P b Q (0 + 1) a w
      rw [roundsIn_succ]
      refine (ih _ _ _ h).wp hokb B ρ w a rdr N _ hB hrd hs ha fun ρ1 w1 a1 hp1 ha1 hm1 => ?_
      exact then_of (fun e => hne o.t o.m (by rw [h, ← e])) (hq _ _ _ hp1 ha1 hm1)
  | region id ops draw =>
    simp only [codeOk, Bool.and_eq_true, Bool.or_eq_true, Bool.not_eq_true'] at hok
    have hall : ∀ o ∈ ops.toList, opOk o = true := fun o ho => List.all_eq_true.1 hok.1 o ho
    simp only [stepT] at h
    split at h
    · rename_i hd
      subst hd
      obtain ⟨hx, htr⟩ := ih _ _ _ h
      have hdk : dk E f id ops = true := by simpa using hok.2
      refine ⟨0, fun B ρ w a rdr N Q hB hrd hs ha hq => ?_⟩
      refine hdraw f id ops t m o.t o.m hdk hall htr B ρ w a rdr N Q hB hs ha fun ρ' w' a' hp ha' hdf => ?_
      have := hq ρ' w' a' hp ha' (by rw [hdf]; exact Marks.refl _)
      rwa [hx] at this
    · rename_i hd
      have hd' : draw = false := by simpa using hd
      subst hd'
      obtain ⟨hx, hrun⟩ := ih _ _ _ h
      refine ⟨0, fun B ρ w a rdr N Q hB hrd hs ha hq => wpIn_region ?_⟩
      refine hrun hall B ρ w a rdr N Q hB hs ha fun ρ' w' a' hp ha' hdf => ?_
      have := hq ρ' w' a' hp ha' (by rw [hdf]; exact Marks.refl _)
      rwa [hx] at this
  | rangeFunc g ps asg body =>
    simp only [codeOk, Bool.and_eq_true] at hok
    obtain ⟨⟨hg, hasg⟩, hbody⟩ := hok
    simp only [stepT] at h
    split at h
    · rename_i hf first captured hev
      split at h
      · rename_i fi hfi hin
        split at h
        · rename_i t2 m1 hcall
          split at h
          · rename_i st pend f' t' ps' asg' body' hl
            split at h
            · cases h
            · rename_i hst
              obtain ⟨_, hsnd⟩ := ih _ _ _ hcall
              have key : ∀ x, o = ⟨x, t, m1.put m.size (some (.loop .exhausted pend f' t' ps' asg' body'))⟩ →
                  (∀ rdr N Q a w, (Q x a w) → (match pend with
                    | none => Q .normal a w
                    | some c => c.wpIn (FW rdr) N P Q a w)) → ∃ k, ∀ B ρ w a rdr N Q, o.m.size ≤ B → RdRel ρ rd rdr → Sim (Good dk E) B ρ m w → ARel ρ t a.tmps →
                  (∀ ρ' w' a', Post (Good dk E) B ρ m w ρ' o.m w' → ARel ρ' o.t a'.tmps → Marks (Good dk E) rdr ρ' o.m w w' a.defers a'.defers → Q o.x a' w') → wpC (FW rdr) N P Q k a w (.rangeFunc g ps asg body) := by
                rintro x rfl hx
                refine ⟨0, fun B ρ w a rdr N Q hB hrd hs ha hq => wpIn_rangeFunc fun fn _ => ?_⟩
                have hB1 : m1.size ≤ B := by simpa using hB
                have hB0 : m.size < B := by have := (ihk _ _ _ hcall).size; simp at this; omega
                have hgv := ev_rel ha hg
                rw [hev] at hgv
                obtain ⟨fn', first', captured', hgr, hfr, hfirst, hcap⟩ := hgv.func_inv
                cases hfr
                -- the record
                have hrec : ∃ (l : Nat) (bs : List Nat) (dfr : Nat) (w1 : World), (Instr.enterLoop fn a.tmps ps asg body (FW rdr).round).run P w = .ok (l, bs.map markOf) w1 ∧
                    Post (Good dk E) B ρ m w (ρ.ext m.size ⟨l, 0, 0, 0, true⟩) (m.push (.loop .ready none f t ps asg body)) w1 ∧
                    bs.Nodup ∧ (∀ b ∈ bs, w.heap.size ≤ b ∧ Priv (Good dk E) (ρ.ext m.size ⟨l, 0, 0, 0, true⟩) (m.push (.loop .ready none f t ps asg body)) w1 b) ∧ (rdr.isSome = true → bs = []) := by
                  cases rd with
                  | none =>
                    have e : rdr = none := hrd
                    subst e
                    refine ⟨w.heap.size + 1, [w.heap.size], w.heap.size, _, run_enterLoop_outer fn a.tmps ps asg body, ?_, by simp, fun b hb => ?_, fun h => by simp at h⟩
                    · refine hs.push hB0 _ _ rfl rfl rfl (fun r hr => ?_) (by simp; omega) (by simp) ?_
                      · rw [heap_alloc_old _ _ _ (by simp; omega), heap_alloc_old _ _ _ hr]
                      · refine ⟨rfl, hasg, hbody, fn, a.tmps, w.heap.size, ?_, ha⟩
                        have := heap_alloc_new (w.alloc (.deferred (some []))) (.loop { state := .ready, pending := none, fn, tmps := a.tmps, params := ps, assign := asg, body, defers := w.heap.size })
                        simpa using this
                    · simp only [List.mem_singleton] at hb
                      subst hb
                      refine ⟨Nat.le_refl _, by simp; omega, ?_, fun i c e hi hc he => ?_⟩
                      · rw [heap_alloc_old _ _ _ (by simp)]
                        exact heap_alloc_new w _
                      · unfold Inj.ext at he
                        split at he
                        · cases he
                          simp
                        · rename_i hne
                          rw [getM_push, if_neg hne] at hi
                          obtain ⟨e', h1, h2⟩ := hs.sim.rel i c hi
                          rw [he] at h1; cases h1
                          have := h2.lt
                          omega
                  | some l0 =>
                    obtain ⟨e0, he0, hr0⟩ := hrd
                    subst hr0
                    have hin' : ∃ st pend f t ps asg body, m.get l0 = some (.loop st pend f t ps asg body) := by
                      unfold inLoop at hin
                      split at hin
                      · rename_i k; cases k
                      · rename_i l k
                        cases k
                        split at hin
                        · rename_i hh; exact ⟨_, _, _, _, _, _, _, hh⟩
                        · cases hin
                    obtain ⟨s1, s2, s3, s4, s5, s6, s7, hm0⟩ := hin'
                    obtain ⟨e', h1, hsh, c1, c2, fn0, tmps0, dfr0, hh0, ht0⟩ := hs.sim.rel l0 _ hm0
                    rw [he0] at h1; cases h1
                    refine ⟨w.heap.size, [], dfr0, w.alloc (.loop { state := .ready, pending := none, fn, tmps := a.tmps, params := ps, assign := asg, body, defers := dfr0 }), ?_, ?_, List.nodup_nil, fun b hb => by simp at hb, fun _ => rfl⟩
                    · show (Instr.enterLoop fn a.tmps ps asg body (some e0.blk)).run P w = _
                      simp only [Instr.enterLoop, Sem.run_bind, run_getLoop hh0, Result.andThen_ok, Sem.run_pure, run_newObj_alloc, List.map_nil]
                    · exact hs.alloc hB0 _ _ _ rfl ⟨rfl, hasg, hbody, fn, a.tmps, dfr0, heap_alloc_new w _, ha⟩
                obtain ⟨l, bs, dfr, w1, r1, p1, n1, b1, d1⟩ := hrec
                refine ⟨l, bs.map markOf, w1, { target := .fn (.func hf) captured', args := first' ++ #[.func (.yield l) #[] #[]] }, w1, hf, first' ++ #[.func (.yield l) #[] #[]] ++ captured', w1, r1, ?_, fun _ _ => trivial, ?_, fun hd => by simp [FW] at hd, ?_⟩
                · have hmap : (#[Operand.const (.func (.yield l) #[] #[])] : Array Operand).map a.eval = #[.func (.yield l) #[] #[]] := by simp [Act.eval]
                  simp only [resolve, hgr, Deferred.ofValue, hmap, Sem.run_pure]
                · exact hE.run_call hfi _ _
                · have hargs : ARel (ρ.ext m.size ⟨l, 0, 0, 0, true⟩) (first ++ #[.func (.yield m.size) #[] #[]] ++ captured) (first' ++ #[.func (.yield l) #[] #[]] ++ captured') :=
                    ((hfirst.mono p1.le).append (.cons (.func_of (.yield (e := ⟨l, 0, 0, 0, true⟩) (by simp [Inj.ext]) rfl) .nil .nil) .nil)).append (hcap.mono p1.le)
                  refine hsnd B _ w1 _ (N - 1) _ hB1 p1.sim hargs fun ρ2 w2 v2 p2 hv2 => ?_
                  obtain ⟨fn2, tmps2, dfr2, hh2, hturn⟩ := p2.sim.loop (st' := .exhausted) (pend' := pend) hl (p2.le _ _ (show (ρ.ext m.size ⟨l, 0, 0, 0, true⟩) m.size = some ⟨l, 0, 0, 0, true⟩ by simp [Inj.ext]))
                  have hst' : st ≠ .busy := hst
                  refine ⟨pend, _, run_endLoop hh2 hst', ?_⟩
                  refine hx rdr N Q _ _ (hq _ _ _ ((p1.trans p2).trans hturn) (ha.mono ((p1.trans p2).trans hturn).le) ?_)
                  have m1' : Marks (Good dk E) rdr (ρ.ext m.size ⟨l, 0, 0, 0, true⟩) (m.push (.loop .ready none f t ps asg body)) w w1 a.defers (bs.map markOf ++ a.defers) := ⟨bs, rfl, n1, b1, d1⟩
                  exact m1'.mono p1 (p2.trans hturn)
              split at h
              · cases h
                exact key .normal rfl fun _ _ _ _ _ h => h
              · cases h
                exact key .ret rfl fun _ _ _ _ _ h => wpIn_ret h
              · cases h
                exact key (.exit _) rfl fun _ _ _ _ _ h => wpIn_exit h
              · cases h
          · cases h
        · cases h
      · cases h
    · cases h

include hcode hdraw in
theorem snd_step (T : Task) (m : Mem) (o : Out) (h : stepT E rn T m = some o) : Snd dk P E T m o := by
  cases T with
  | code rd f c t => exact snd_code hE hdraw ih ihk h
  | ops ops l t => exact snd_ops hE ih ihk h
  | draw f id ops l log t => exact snd_draw ih ihk h
  | call f args => exact snd_call hE hcode ih h
  | round l args => exact snd_round ih ihk h

end sound

theorem sound {dk : Env → FuncId → Nat → Array Oper → Bool} {P : Program} {E : Env} (hE : E.Ok P) (hcode : ∀ f i, E.fn f = some i → codeOk dk E f i.code = true) (hdraw : DrawSound (Good dk E) P E dk) :
    ∀ (n : Nat) (T : Task) (m : Mem) (o : Out), run E n T m = some o → Snd dk P E T m o
  | 0, T, m, o, h => by simp [run] at h
  | n + 1, T, m, o, h => snd_step hE hcode hdraw (sound hE hcode hdraw n) (run_keeps n) T m o h

end Go.Abs
