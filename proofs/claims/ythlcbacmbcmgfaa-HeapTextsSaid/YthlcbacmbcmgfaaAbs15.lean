/-
  Compact code, and what holds behind it.
-/
import Derived.Test.YthlcbacmbcmgfaaAbs14
namespace Go.Abs
variable {E : Env}

abbrev Fr := Nat → Value

def upd (t : Fr) (d : Nat) (v : Value) : Fr := fun i => if i = d then v else t i

def updO (t : Fr) (d : Option Nat) (v : Value) : Fr :=
  match d with
  | some d => upd t d v
  | none => t

def evF (t : Fr) : Operand → Value
  | .tmp i => t i
  | .const v => v
  | .global _ => undef
  | .func f => .func (.func f) #[] #[]

/-- An operation: where to, what, and when. -/
structure MO where
  d : Option Nat
  op : Op
  g : Option (Option Nat × Bool)

inductive MC where
  | skip
  | ops (l : List MO)
  | draw (l : List (Nat × List Nat × MO))
  | seq (a b : MC)
  | cond (c : Operand) (a b : MC)
  | block (id : Nat) (b : MC)
  | loop (b : MC)
  | exit (id : Nat)
  | ret
  | range (g : Operand) (ps : Array Tmp) (asg body : Code)

def mo (ops : Array Oper) (o : Oper) : MO := ⟨o.dst, o.op, o.guard.map fun e => ((ops[e.1]?).bind (·.dst), e.2)⟩

def dstOk (n : Nat) (o : Oper) : Bool :=
  match o.dst with
  | some d => decide (d < n)
  | none => true

def compile (E : Env) (f : FuncId) (n : Nat) : Code → Option MC
  | .skip => some .skip
  | .region id ops draw =>
    let l := if draw then (E.ord f id).getD (List.range ops.size) else List.range ops.size
    if l.all (fun i => decide (i < ops.size)) && ops.toList.all (dstOk n) then
      if draw && l.any (fun i => !(E.prot f id i).isEmpty) then some (.draw (l.map fun i => (i, E.prot f id i, mo ops (ops.getD i default))))
      else some (.ops (l.map fun i => mo ops (ops.getD i default)))
    else none
  | .seq a b => match compile E f n a, compile E f n b with
    | some a, some b => some (.seq a b)
    | _, _ => none
  | .cond c a b => match compile E f n a, compile E f n b with
    | some a, some b => some (.cond c a b)
    | _, _ => none
  | .block id b => (compile E f n b).map (.block id)
  | .loop b => (compile E f n b).map .loop
  | .exit id => some (.exit id)
  | .ret => some .ret
  | .rangeFunc g ps asg body => some (.range g ps asg body)
  | _ => none

def opW (E : Env) (op : Op) (r : Operand → Value) (m : Mem) : Option Step := opV E ⟨none, op, 0, "", #[], none⟩ r m

theorem opV_opW (o : Oper) (r : Operand → Value) (m : Mem) : opV E o r m = opW E o.op r m := rfl

def loggedW (op : Op) (r : Operand → Value) (i : Nat) (log : List (Nat × Nat)) : List (Nat × Nat) := logged ⟨none, op, 0, "", #[], none⟩ r i log

theorem logged_W (o : Oper) (r : Operand → Value) (i : Nat) (log : List (Nat × Nat)) : logged o r i log = loggedW o.op r i log := rfl

def wantedF (g : Option (Option Nat × Bool)) (t : Fr) : Bool :=
  match g with
  | none => true
  | some (none, _) => false
  | some (some d, want) => match t d with
    | .bool b => b == want
    | _ => false

def arr (n : Nat) (t : Fr) : Array Value := ((List.range n).map t).toArray

structure FrOf (n : Nat) (t : Array Value) (fr : Fr) : Prop where
  size : t.size = n
  at_ : ∀ i, t.getD i undef = fr i

theorem FrOf.ev {n : Nat} {t : Array Value} {fr : Fr} (h : FrOf n t fr) (x : Operand) : Abs.ev t x = evF fr x := by
  cases x with
  | tmp i => exact h.at_ i
  | _ => rfl

theorem FrOf.evs {n : Nat} {t : Array Value} {fr : Fr} (h : FrOf n t fr) : Abs.ev t = evF fr := funext h.ev

theorem FrOf.put {n : Nat} {t : Array Value} {fr : Fr} (h : FrOf n t fr) {d : Option Nat} (hd : ∀ i, d = some i → i < n) (v : Value) : FrOf n (putT t d v) (updO fr d v) := by
  refine ⟨by rw [size_putT]; exact h.size, fun i => ?_⟩
  have h0 := h.at_ i
  rw [Array.getD_eq_getD_getElem?] at h0 ⊢
  rw [putT_get]
  cases d with
  | none => simpa [updO] using h0
  | some d =>
    have := hd d rfl
    simp only [updO, upd]
    by_cases e : i = d
    · subst e
      rw [if_pos ⟨rfl, by rw [h.size]; exact this⟩, if_pos rfl]
      rfl
    · rw [if_neg (fun k => e (Option.some.inj k.1).symm), if_neg e]
      exact h0

theorem FrOf.wanted {n : Nat} {t : Array Value} {fr : Fr} (h : FrOf n t fr) (ops : Array Oper) (o : Oper) : Region.wanted o (yielded ops t) = wantedF (mo ops o).g fr := by
  unfold Region.wanted mo wantedF
  cases hg : o.guard with
  | none => rfl
  | some e =>
    obtain ⟨j, want⟩ := e
    simp only [Option.map_some]
    unfold yielded
    cases hd : (ops[j]?).bind (·.dst) with
    | none => rfl
    | some d =>
      simp only [Option.bind_some]
      have h0 := h.at_ d
      rw [Array.getD_eq_getD_getElem?] at h0
      rw [← h0]
      cases ht : t[d]? with
      | none => rfl
      | some v => cases v <;> first | rfl | simp

theorem FrOf.arr {n : Nat} {t : Array Value} {fr : Fr} (h : FrOf n t fr) : t = Abs.arr n fr := by
  apply Array.ext_getElem?
  intro i
  unfold Abs.arr
  simp only [List.getElem?_toArray, List.getElem?_map]
  have h0 := h.at_ i
  rw [Array.getD_eq_getD_getElem?] at h0
  by_cases hi : i < n
  · rw [List.getElem?_range hi]
    have : i < t.size := by rw [h.size]; exact hi
    rw [Array.getElem?_eq_getElem this] at h0 ⊢
    exact congrArg some h0
  · rw [Array.getElem?_eq_none (by rw [h.size]; omega), List.getElem?_eq_none (by simp; omega)]
    rfl

theorem frOf_arr (n : Nat) (fr : Fr) (h : ∀ i, n ≤ i → fr i = undef) : FrOf n (Abs.arr n fr) fr := by
  refine ⟨by simp [Abs.arr], fun i => ?_⟩
  rw [Array.getD_eq_getD_getElem?]
  unfold Abs.arr
  simp only [List.getElem?_toArray, List.getElem?_map]
  by_cases hi : i < n
  · rw [List.getElem?_range hi]; rfl
  · rw [List.getElem?_eq_none (by simp; omega), h i (by omega)]; rfl

/-! ### What holds behind code -/
abbrev Post3 := Exit → Fr → Mem → Prop

def wpO (E : Env) : List MO → (Fr → Mem → Prop) → Fr → Mem → Prop
  | [], K, t, m => K t m
  | o :: l, K, t, m => (wantedF o.g t = true → StepQ E (opW E o.op (evF t) m) fun v m' => wpO E l K (updO t o.d v) m') ∧ (wantedF o.g t = false → wpO E l K (updO t o.d undef) m)

def keptBy (pr : List Nat) (log : List (Nat × Nat)) : List Nat := pr.filterMap fun j => (log.find? fun e => e.1 == j).map (·.2)

def wpD (E : Env) : List (Nat × List Nat × MO) → List (Nat × Nat) → (Fr → Mem → Prop) → Fr → Mem → Prop
  | [], _, K, t, m => K t m
  | (i, pr, o) :: l, log, K, t, m =>
    (wantedF o.g t = true → StepQ E (opW E o.op (evF t) (m.gm (keptBy pr log))) fun v m' => wpD E l (loggedW o.op (evF t) i log) K (updO t o.d v) (m.ugm m' (keptBy pr log))) ∧
    (wantedF o.g t = false → wpD E l log K (updO t o.d undef) m)

def seqK (next : Fr → Mem → Prop) (K : Post3) : Post3
  | .normal, t, m => next t m
  | x, t, m => K x t m

def blockK (id : Nat) (K : Post3) : Post3
  | .exit i, t, m => if i = id then K .normal t m else K (.exit i) t m
  | x, t, m => K x t m

def loopK (W : Post3 → Fr → Mem → Prop) (K : Post3) : Nat → Fr → Mem → Prop
  | 0, _, _ => False
  | k + 1, t, m => W (seqK (loopK W K k) K) t m

/-- A range over a function. -/
def RangeQ (E : Env) (rd : Option Nat) (f : FuncId) (n : Nat) (g : Operand) (ps : Array Tmp) (asg body : Code) (K : Post3) (t : Fr) (m : Mem) : Prop :=
  ∃ h first captured, evF t g = .func (.func h) first captured ∧ (E.fn h).isSome = true ∧ inLoop m rd = true ∧
    CallQ E h (first ++ #[.func (.yield m.size) #[] #[]] ++ captured) (m.push (.loop .ready none f (arr n t) ps asg body)) fun _ m1 =>
      ∃ st pend f' t' ps' asg' body', m1.get m.size = some (.loop st pend f' t' ps' asg' body') ∧ st ≠ .busy ∧
        (match pend with
        | none => K .normal t (m1.put m.size (some (.loop .exhausted pend f' t' ps' asg' body')))
        | some .ret => K .ret t (m1.put m.size (some (.loop .exhausted pend f' t' ps' asg' body')))
        | some (.exit i) => K (.exit i) t (m1.put m.size (some (.loop .exhausted pend f' t' ps' asg' body')))
        | _ => False)

def wpM (E : Env) (f : FuncId) (n : Nat) (rd : Option Nat) : MC → Post3 → Fr → Mem → Prop
  | .skip, K, t, m => K .normal t m
  | .ops l, K, t, m => wpO E l (K .normal) t m
  | .draw l, K, t, m => wpD E l [] (K .normal) t m
  | .seq a b, K, t, m => wpM E f n rd a (seqK (wpM E f n rd b K) K) t m
  | .cond c a b, K, t, m => ∃ p, evF t c = .bool p ∧ (p = true → wpM E f n rd a K t m) ∧ (p = false → wpM E f n rd b K t m)
  | .block id b, K, t, m => wpM E f n rd b (blockK id K) t m
  | .loop b, K, t, m => ∃ k, loopK (wpM E f n rd b) K k t m
  | .exit id, K, t, m => K (.exit id) t m
  | .ret, K, t, m => K .ret t m
  | .range g ps asg body, K, t, m => RangeQ E rd f n g ps asg body K t m

def liftQ (n : Nat) (K : Post3) : Exit → Array Value → Mem → Prop := fun x t m => ∃ fr, FrOf n t fr ∧ K x fr m

theorem StepQ.mono {s : Option Step} {K K' : Value → Mem → Prop} (h : StepQ E s K) (k : ∀ v m, K v m → K' v m) : StepQ E s K' := by
  unfold StepQ at *
  split at h
  · exact k _ _ h
  · exact CallQ.mono h k
  · exact RoundQ.mono h k
  · exact h

section sound
variable {f : FuncId} {n : Nat} {rd : Option Nat}

theorem wpO_sound {ops : Array Oper} (hd : ops.toList.all (dstOk n) = true) : ∀ (l : List Nat) (_ : ∀ i ∈ l, i < ops.size) (K : Post3) (fr : Fr) (t : Array Value) (m : Mem), FrOf n t fr → wpO E (l.map fun i => mo ops (ops.getD i default)) (K .normal) fr m →
    Runs E (.ops ops l t) m (liftQ n K)
  | [], _, K, fr, t, m, hf, h => .ops_nil ⟨fr, hf, h⟩
  | i :: l, hl, K, fr, t, m, hf, h => by
    have hi := hl i (by simp)
    have ho : ops[i]? = some (ops.getD i default) := by simp [Array.getD, hi]
    obtain ⟨h1, h2⟩ := h
    have hdst : ∀ d, (ops.getD i default).dst = some d → d < n := by
      have := List.all_eq_true.1 hd (ops.getD i default) (by simpa using Array.mem_of_getElem? ho)
      intro d hd'
      unfold dstOk at this
      rw [hd'] at this
      simpa using this
    refine .ops_cons ho (fun hw => ?_) (fun hw => ?_)
    · rw [hf.wanted] at hw
      rw [opV_opW, hf.evs]
      exact (h1 hw).mono fun v m' hk => wpO_sound hd l (fun j hj => hl j (by simp [hj])) K _ _ m' (hf.put hdst v) hk
    · rw [hf.wanted] at hw
      exact wpO_sound hd l (fun j hj => hl j (by simp [hj])) K _ _ m (hf.put hdst undef) (h2 hw)

theorem wpD_sound {id : Nat} {ops : Array Oper} (hd : ops.toList.all (dstOk n) = true) : ∀ (l : List Nat) (_ : ∀ i ∈ l, i < ops.size) (log : List (Nat × Nat)) (K : Post3) (fr : Fr) (t : Array Value) (m : Mem), FrOf n t fr → wpD E (l.map fun i => (i, E.prot f id i, mo ops (ops.getD i default))) log (K .normal) fr m →
    Runs E (.draw f id ops l log t) m (liftQ n K)
  | [], _, log, K, fr, t, m, hf, h => .draw_nil ⟨fr, hf, h⟩
  | i :: l, hl, log, K, fr, t, m, hf, h => by
    have hi := hl i (by simp)
    have ho : ops[i]? = some (ops.getD i default) := by simp [Array.getD, hi]
    obtain ⟨h1, h2⟩ := h
    have hdst : ∀ d, (ops.getD i default).dst = some d → d < n := by
      have := List.all_eq_true.1 hd (ops.getD i default) (by simpa using Array.mem_of_getElem? ho)
      intro d hd'
      unfold dstOk at this
      rw [hd'] at this
      simpa using this
    refine .draw_cons ho (fun hw => ?_) (fun hw => ?_)
    · rw [hf.wanted] at hw
      rw [opV_opW, logged_W, hf.evs]
      exact (h1 hw).mono fun v m' hk => wpD_sound hd l (fun j hj => hl j (by simp [hj])) _ K _ _ _ (hf.put hdst v) hk
    · rw [hf.wanted] at hw
      exact wpD_sound hd l (fun j hj => hl j (by simp [hj])) log K _ _ m (hf.put hdst undef) (h2 hw)

theorem wpM_sound : ∀ (c : Code) (c' : MC), compile E f n c = some c' → ∀ (K : Post3) (fr : Fr) (t : Array Value) (m : Mem), FrOf n t fr → wpM E f n rd c' K fr m → Runs E (.code rd f c t) m (liftQ n K) := by
  intro c
  induction c with
  | skip => intro c' hc K fr t m hf h; cases hc; exact .skip ⟨fr, hf, h⟩
  | exit i => intro c' hc K fr t m hf h; cases hc; exact .exit ⟨fr, hf, h⟩
  | ret => intro c' hc K fr t m hf h; cases hc; exact .ret ⟨fr, hf, h⟩
  | region id ops draw =>
    intro c' hc K fr t m hf h
    simp only [compile] at hc
    cases draw with
    | false =>
      simp only [Bool.false_and, Bool.false_eq_true, if_false] at hc
      split at hc
      · rename_i hok
        rw [Bool.and_eq_true, List.all_eq_true] at hok
        obtain ⟨h1, h2⟩ := hok
        cases hc
        exact .region (wpO_sound h2 _ (fun i hi => by simpa using h1 i hi) K fr t m hf h)
      · cases hc
    | true =>
      simp only [Bool.true_and, if_true] at hc
      split at hc
      · rename_i hok
        rw [Bool.and_eq_true, List.all_eq_true] at hok
        obtain ⟨h1, h2⟩ := hok
        refine .drawn ?_
        split at hc
        · cases hc
          exact wpD_sound h2 _ (fun i hi => by simpa using h1 i hi) [] K fr t m hf h
        · rename_i hp
          cases hc
          have hp' : ∀ i ∈ (E.ord f id).getD (List.range ops.size), (E.prot f id i).isEmpty = true := by
            intro i hi
            cases he : (E.prot f id i).isEmpty with
            | true => rfl
            | false => exact absurd (List.any_eq_true.2 ⟨i, hi, by rw [he]; rfl⟩) hp
          -- with nothing kept from anything the drawn run is the plain one
          have key : ∀ (l : List Nat) (_ : ∀ i ∈ l, i < ops.size) (_ : ∀ i ∈ l, (E.prot f id i).isEmpty = true) (log : List (Nat × Nat)) (fr : Fr) (t : Array Value) (m : Mem), FrOf n t fr →
              wpO E (l.map fun i => mo ops (ops.getD i default)) (K .normal) fr m → Runs E (.draw f id ops l log t) m (liftQ n K) := by
            intro l
            induction l with
            | nil => intro _ _ log fr t m hf h; exact .draw_nil ⟨fr, hf, h⟩
            | cons i l ih =>
              intro hl hpr log fr t m hf h
              have hi := hl i (by simp)
              have ho : ops[i]? = some (ops.getD i default) := by simp [Array.getD, hi]
              obtain ⟨h3, h4⟩ := h
              have hdst : ∀ d, (ops.getD i default).dst = some d → d < n := by
                have := List.all_eq_true.1 h2 (ops.getD i default) (by simpa using Array.mem_of_getElem? ho)
                intro d hd'
                unfold dstOk at this
                rw [hd'] at this
                simpa using this
              have hg : guarded E f id i log = [] := by
                unfold guarded
                rw [List.isEmpty_iff.1 (hpr i (by simp))]
                rfl
              refine .draw_cons ho (fun hw => ?_) (fun hw => ?_)
              · rw [hf.wanted] at hw
                rw [opV_opW, hf.evs, hg]
                exact (h3 hw).mono fun v m' hk => ih (fun j hj => hl j (by simp [hj])) (fun j hj => hpr j (by simp [hj])) _ _ _ m' (hf.put hdst v) hk
              · rw [hf.wanted] at hw
                exact ih (fun j hj => hl j (by simp [hj])) (fun j hj => hpr j (by simp [hj])) _ _ _ m (hf.put hdst undef) (h4 hw)
          exact key _ (fun i hi => by simpa using h1 i hi) hp' [] fr t m hf h
      · cases hc
  | seq a b iha ihb =>
    intro c' hc K fr t m hf h
    simp only [compile] at hc
    split at hc
    · rename_i a' b' ha hb
      cases hc
      refine .seq ((iha a' ha _ fr t m hf h).mono fun x t' m' hx => ?_)
      obtain ⟨fr', hf', hk⟩ := hx
      cases x with
      | normal => exact ihb b' hb K fr' t' m' hf' hk
      | _ => exact ⟨fr', hf', hk⟩
    · cases hc
  | cond c a b iha ihb =>
    intro c' hc K fr t m hf h
    simp only [compile] at hc
    split at hc
    · rename_i a' b' ha hb
      cases hc
      obtain ⟨p, h1, h2, h3⟩ := h
      exact .cond (by rw [hf.ev]; exact h1) (fun hp => iha a' ha K fr t m hf (h2 hp)) (fun hp => ihb b' hb K fr t m hf (h3 hp))
    · cases hc
  | block id b ih =>
    intro c' hc K fr t m hf h
    simp only [compile] at hc
    obtain ⟨b', hb, rfl⟩ := Option.map_eq_some_iff.1 hc
    refine .block ((ih b' hb _ fr t m hf h).mono fun x t' m' hx => ?_)
    obtain ⟨fr', hf', hk⟩ := hx
    cases x with
    | exit i =>
      simp only [blockK] at hk
      simp only
      split
      · rename_i e; rw [if_pos e] at hk; exact ⟨fr', hf', hk⟩
      · rename_i e; rw [if_neg e] at hk; exact ⟨fr', hf', hk⟩
    | _ => exact ⟨fr', hf', hk⟩
  | loop b ih =>
    intro c' hc K fr t m hf h
    simp only [compile] at hc
    obtain ⟨b', hb, rfl⟩ := Option.map_eq_some_iff.1 hc
    obtain ⟨k, h⟩ := h
    have : ∀ k fr t m, FrOf n t fr → loopK (wpM E f n rd b') K k fr m → Runs E (.code rd f (.loop b) t) m (liftQ n K) := by
      intro k
      induction k with
      | zero => intro fr t m _ h; exact h.elim
      | succ k ihk =>
        intro fr t m hf h
        refine .loop ((ih b' hb _ fr t m hf h).mono fun x t' m' hx => ?_)
        obtain ⟨fr', hf', hk⟩ := hx
        cases x with
        | normal => exact ihk fr' t' m' hf' hk
        | _ => exact ⟨fr', hf', hk⟩
    exact this k fr t m hf h
  | rangeFunc g ps asg body _ _ =>
    intro c' hc K fr t m hf h
    cases hc
    obtain ⟨hh, first, captured, h1, h2, h3, k, r, m1, h4, st, pend, f', t', ps', asg', body', h5, h6, h7⟩ := h
    rw [← hf.arr] at h4
    obtain ⟨fi, hfi⟩ := Option.isSome_iff_exists.1 h2
    refine .step ⟨k, ?_⟩
    simp only [stepT]
    rw [hf.ev, h1]
    simp only [hfi, h3, h4, h5, if_neg h6]
    cases pend with
    | none => exact ⟨_, rfl, fr, hf, h7⟩
    | some pc => cases pc <;> first | exact ⟨_, rfl, fr, hf, h7⟩ | exact h7.elim
  | _ => intro c' hc; cases hc

end sound

/-! ### Functions -/
def resultsF (E : Env) (m : Mem) (t : Fr) : List ResultVar → Option (List Value)
  | [] => some []
  | .tmp i :: rs => (resultsF E m t rs).map (t i :: ·)
  | .cell a ty :: rs => match loadV E m ty (t a), resultsF E m t rs with
    | some v, some vs => some (v :: vs)
    | _, _ => none

theorem FrOf.results {n : Nat} {t : Array Value} {fr : Fr} (h : FrOf n t fr) (m : Mem) : ∀ (rs : List ResultVar), resultsOf E m t rs = resultsF E m fr rs
  | [] => rfl
  | .tmp i :: rs => by
    simp only [resultsOf, resultOf, resultsF, h.results m rs, h.at_]
    cases resultsF E m fr rs <;> rfl
  | .cell a ty :: rs => by
    simp only [resultsOf, resultOf, resultsF, h.results m rs, h.at_]
    cases loadV E m ty (fr a) <;> cases resultsF E m fr rs <;> rfl

def initF (args : List Value) : Fr := fun i => args.getD i undef

/-- What the executor knows of a function, its code compact. -/
def FnIs (E : Env) (g : FuncId) (n : Nat) (rs : List ResultVar) (c : MC) : Prop := E.closed g = none ∧ (E.fn g).map (fun i => (i.ntmps, i.results.toList, compile E g i.ntmps i.code)) = some (n, rs, some c)

theorem CallQ.of_mc {g : FuncId} {n : Nat} {rs : List ResultVar} {c : MC} (hf : FnIs E g n rs c) {args : Array Value} (hs : args.size ≤ n) {m : Mem} {K : Value → Mem → Prop}
    (h : wpM E g n none c (fun x t m' => (x = .normal ∨ x = .ret) ∧ ∃ vs, resultsF E m' t rs = some vs ∧ K (bundle vs) m') (initF args.toList) m) : CallQ E g args m K := by
  obtain ⟨hc0, hf⟩ := hf
  obtain ⟨i, h1, h2⟩ := Option.map_eq_some_iff.1 hf
  simp only [Prod.mk.injEq] at h2
  obtain ⟨rfl, rfl, hcomp⟩ := h2
  have hfr : FrOf i.ntmps (initT i.ntmps args) (initF args.toList) := by
    refine ⟨by simp [initT]; omega, fun j => ?_⟩
    unfold initT initF
    rw [Array.getD_eq_getD_getElem?, Array.getElem?_append, List.getD_eq_getElem?_getD]
    by_cases hj : j < args.size
    · rw [if_pos hj]; simp
    · rw [if_neg hj, List.getElem?_eq_none (by simpa using hj), Array.getElem?_replicate]
      split <;> rfl
  refine .of_code hc0 h1 ((wpM_sound i.code c hcomp _ _ _ m hfr h).mono fun x t m' hx => ?_)
  obtain ⟨fr, hf', hx1, vs, hx2, hx3⟩ := hx
  exact ⟨hx1, vs, (hf'.results m' _).trans hx2, hx3⟩

end Go.Abs
