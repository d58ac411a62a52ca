/-
  More steps do no harm; what a run comes to.
-/
import Derived.Test.YthlcbacmbcmgfaaAbs13
namespace Go.Abs
variable {E : Env}

theorem stepT_mono {rn rn' : Task → Mem → Option Out} (ih : ∀ T m o, rn T m = some o → rn' T m = some o) (T : Task) (m : Mem) (o : Out) (h : stepT E rn T m = some o) : stepT E rn' T m = some o := by
  cases T with
  | code rd f c t =>
    cases c with
    | seq a b =>
      simp only [stepT] at h ⊢
      cases hr : rn (.code rd f a t) m with
      | none => rw [hr] at h; cases h
      | some o1 =>
        rw [hr] at h
        rw [ih _ _ _ hr]
        obtain ⟨x, t1, m1⟩ := o1
        cases x with
        | normal => exact ih _ _ _ h
        | _ => exact h
    | cond c a b =>
      simp only [stepT] at h ⊢
      split at h
      · exact ih _ _ _ h
      · exact ih _ _ _ h
      · cases h
    | block id b =>
      simp only [stepT] at h ⊢
      cases hr : rn (.code rd f b t) m with
      | none => rw [hr] at h; cases h
      | some o1 =>
        rw [hr] at h
        rw [ih _ _ _ hr]
        exact h
    | loop b =>
      simp only [stepT] at h ⊢
      cases hr : rn (.code rd f b t) m with
      | none => rw [hr] at h; cases h
      | some o1 =>
        rw [hr] at h
        rw [ih _ _ _ hr]
        obtain ⟨x, t1, m1⟩ := o1
        cases x with
        | normal => exact ih _ _ _ h
        | _ => exact h
    | region id ops draw =>
      simp only [stepT] at h ⊢
      split at h
      · rename_i hd; rw [if_pos hd]; exact ih _ _ _ h
      · rename_i hd; rw [if_neg hd]; exact ih _ _ _ h
    | rangeFunc g ps asg body =>
      simp only [stepT] at h ⊢
      split at h
      · rename_i hh first captured hg
        split at h
        · rename_i i hi hl
          split at h
          · rename_i t1 m1 hr
            rw [ih _ _ _ hr]
            exact h
          · cases h
        · cases h
      · cases h
    | _ => exact h
  | ops ops l t =>
    cases l with
    | nil => exact h
    | cons i rest =>
      simp only [stepT] at h ⊢
      split at h
      · cases h
      · rename_i op hop
        split at h
        · rename_i hw
          rw [if_pos hw]
          split at h
          · exact ih _ _ _ h
          · rename_i g args m1 hv
            split at h
            · rename_i r m2 hr
              rw [ih _ _ _ hr]
              exact ih _ _ _ h
            · cases h
          · rename_i k args m1 hv
            split at h
            · rename_i r m2 hr
              rw [ih _ _ _ hr]
              exact ih _ _ _ h
            · cases h
          · cases h
        · rename_i hw
          rw [if_neg hw]
          exact ih _ _ _ h
  | draw f id ops l log t =>
    cases l with
    | nil => exact h
    | cons i rest =>
      simp only [stepT] at h ⊢
      split at h
      · cases h
      · rename_i op hop
        split at h
        · rename_i hw
          rw [if_pos hw]
          split at h
          · exact ih _ _ _ h
          · rename_i g args m1 hv
            split at h
            · rename_i r m2 hr
              rw [ih _ _ _ hr]
              exact ih _ _ _ h
            · cases h
          · rename_i k args m1 hv
            split at h
            · rename_i r m2 hr
              rw [ih _ _ _ hr]
              exact ih _ _ _ h
            · cases h
          · cases h
        · rename_i hw
          rw [if_neg hw]
          exact ih _ _ _ h
  | call f args =>
    simp only [stepT] at h ⊢
    split at h
    · exact h
    split at h
    · cases h
    · rename_i fi hfi
      split at h
      · rename_i x t m1 hr
        rw [ih _ _ _ hr]
        exact h
      · cases h
  | round l args =>
    simp only [stepT] at h ⊢
    split at h
    · rename_i pend f t ps asg body hm
      split at h
      · rename_i hsz
        rw [if_pos hsz]
        split at h
        · rename_i t1 m1 hr
          rw [ih _ _ _ hr]
          simp only
          split at h
          · rename_i pend' f' t' ps' asg' body' hm1
            split at h
            · rename_i x t2 m2 hr2
              rw [ih _ _ _ hr2]
              exact h
            · cases h
          · cases h
        · cases h
      · cases h
    · cases h

theorem run_succ : ∀ (n : Nat) (T : Task) (m : Mem) (o : Out), run E n T m = some o → run E (n + 1) T m = some o
  | 0, T, m, o, h => by simp [run] at h
  | n + 1, T, m, o, h => stepT_mono (run_succ n) T m o h

theorem run_mono {n k : Nat} (hk : n ≤ k) {T : Task} {m : Mem} {o : Out} (h : run E n T m = some o) : run E k T m = some o := by
  induction k with
  | zero => have : n = 0 := by omega
            subst this; exact h
  | succ k ih =>
    by_cases e : n = k + 1
    · subst e; exact h
    · exact run_succ _ _ _ _ (ih (by omega))

/-- It ends, and so. -/
def Runs (E : Env) (T : Task) (m : Mem) (Q : Exit → Array Value → Mem → Prop) : Prop := ∃ n o, run E n T m = some o ∧ Q o.x o.t o.m

theorem Runs.mono {T : Task} {m : Mem} {Q Q' : Exit → Array Value → Mem → Prop} (h : Runs E T m Q) (k : ∀ x t m', Q x t m' → Q' x t m') : Runs E T m Q' := by
  obtain ⟨n, o, h1, h2⟩ := h
  exact ⟨n, o, h1, k _ _ _ h2⟩

theorem Runs.step {T : Task} {m : Mem} {Q : Exit → Array Value → Mem → Prop} (h : ∃ n o, stepT E (run E n) T m = some o ∧ Q o.x o.t o.m) : Runs E T m Q := by
  obtain ⟨n, o, h1, h2⟩ := h
  exact ⟨n + 1, o, h1, h2⟩

section rules
variable {rd : Option Nat} {f : FuncId} {m : Mem} {t : Array Value} {Q : Exit → Array Value → Mem → Prop}

theorem Runs.skip (h : Q .normal t m) : Runs E (.code rd f .skip t) m Q := .step ⟨0, _, rfl, h⟩
theorem Runs.exit {i : Nat} (h : Q (.exit i) t m) : Runs E (.code rd f (.exit i) t) m Q := .step ⟨0, _, rfl, h⟩
theorem Runs.ret (h : Q .ret t m) : Runs E (.code rd f .ret t) m Q := .step ⟨0, _, rfl, h⟩

theorem Runs.seq {a b : Code} (h : Runs E (.code rd f a t) m fun x t' m' => match x with | .normal => Runs E (.code rd f b t') m' Q | x => Q x t' m') : Runs E (.code rd f (.seq a b) t) m Q := by
  obtain ⟨n, o, h1, h2⟩ := h
  obtain ⟨x, t1, m1⟩ := o
  refine .step ?_
  cases x with
  | normal =>
    obtain ⟨k, o, h3, h4⟩ := h2
    refine ⟨max n k, o, ?_, h4⟩
    simp only [stepT]
    rw [run_mono (Nat.le_max_left n k) h1]
    exact run_mono (Nat.le_max_right n k) h3
  | _ => exact ⟨n, _, by simp only [stepT]; rw [h1], h2⟩

theorem Runs.cond {c : Operand} {a b : Code} {p : Bool} (hc : ev t c = .bool p) (h1 : p = true → Runs E (.code rd f a t) m Q) (h2 : p = false → Runs E (.code rd f b t) m Q) : Runs E (.code rd f (.cond c a b) t) m Q := by
  cases p with
  | true =>
    obtain ⟨n, o, h3, h4⟩ := h1 rfl
    exact .step ⟨n, o, by simp only [stepT]; rw [hc]; exact h3, h4⟩
  | false =>
    obtain ⟨n, o, h3, h4⟩ := h2 rfl
    exact .step ⟨n, o, by simp only [stepT]; rw [hc]; exact h3, h4⟩

theorem Runs.block {id : Nat} {b : Code} (h : Runs E (.code rd f b t) m fun x t' m' => match x with | .exit i => if i = id then Q .normal t' m' else Q (.exit i) t' m' | x => Q x t' m') : Runs E (.code rd f (.block id b) t) m Q := by
  obtain ⟨n, o, h1, h2⟩ := h
  obtain ⟨x, t1, m1⟩ := o
  cases x with
  | exit i =>
    simp only at h2
    by_cases e : i = id
    · rw [if_pos e] at h2
      exact .step ⟨n, ⟨.normal, t1, m1⟩, by simp only [stepT]; rw [h1]; simp [e], h2⟩
    · rw [if_neg e] at h2
      exact .step ⟨n, ⟨.exit i, t1, m1⟩, by simp only [stepT]; rw [h1]; simp [e], h2⟩
  | _ => exact .step ⟨n, _, by simp only [stepT]; rw [h1], h2⟩

theorem Runs.loop {b : Code} (h : Runs E (.code rd f b t) m fun x t' m' => match x with | .normal => Runs E (.code rd f (.loop b) t') m' Q | x => Q x t' m') : Runs E (.code rd f (.loop b) t) m Q := by
  obtain ⟨n, o, h1, h2⟩ := h
  obtain ⟨x, t1, m1⟩ := o
  refine .step ?_
  cases x with
  | normal =>
    obtain ⟨k, o, h3, h4⟩ := h2
    refine ⟨max n k, o, ?_, h4⟩
    simp only [stepT]
    rw [run_mono (Nat.le_max_left n k) h1]
    exact run_mono (Nat.le_max_right n k) h3
  | _ => exact ⟨n, _, by simp only [stepT]; rw [h1], h2⟩

theorem Runs.region {id : Nat} {ops : Array Oper} (h : Runs E (.ops ops (List.range ops.size) t) m Q) : Runs E (.code rd f (.region id ops false) t) m Q := by
  obtain ⟨n, o, h1, h2⟩ := h
  exact .step ⟨n, o, by simp only [stepT]; exact h1, h2⟩

theorem Runs.drawn {id : Nat} {ops : Array Oper} (h : Runs E (.draw f id ops ((E.ord f id).getD (List.range ops.size)) [] t) m Q) : Runs E (.code rd f (.region id ops true) t) m Q := by
  obtain ⟨n, o, h1, h2⟩ := h
  exact .step ⟨n, o, by simp only [stepT]; exact h1, h2⟩

/-- A call that ends. -/
def CallQ (E : Env) (g : FuncId) (args : Array Value) (m : Mem) (K : Value → Mem → Prop) : Prop := ∃ n t m', run E n (.call g args) m = some ⟨.normal, t, m'⟩ ∧ K (t.getD 0 undef) m'
def RoundQ (E : Env) (l : Nat) (args : Array Value) (m : Mem) (K : Value → Mem → Prop) : Prop := ∃ n t m', run E n (.round l args) m = some ⟨.normal, t, m'⟩ ∧ K (t.getD 0 undef) m'

theorem CallQ.mono {g : FuncId} {args : Array Value} {K K' : Value → Mem → Prop} (h : CallQ E g args m K) (k : ∀ v m', K v m' → K' v m') : CallQ E g args m K' := by
  obtain ⟨n, t, m', h1, h2⟩ := h
  exact ⟨n, t, m', h1, k _ _ h2⟩

theorem RoundQ.mono {g : Nat} {args : Array Value} {K K' : Value → Mem → Prop} (h : RoundQ E g args m K) (k : ∀ v m', K v m' → K' v m') : RoundQ E g args m K' := by
  obtain ⟨n, t, m', h1, h2⟩ := h
  exact ⟨n, t, m', h1, k _ _ h2⟩

/-- What an operation comes to. -/
def StepQ (E : Env) (s : Option Step) (K : Value → Mem → Prop) : Prop :=
  match s with
  | some (.val v m) => K v m
  | some (.enter g args m) => CallQ E g args m K
  | some (.round l args m) => RoundQ E l args m K
  | none => False

theorem Runs.ops_nil {ops : Array Oper} (h : Q .normal t m) : Runs E (.ops ops [] t) m Q := .step ⟨0, _, rfl, h⟩

theorem Runs.ops_cons {ops : Array Oper} {i : Nat} {rest : List Nat} {o : Oper} (ho : ops[i]? = some o) (h1 : Region.wanted o (yielded ops t) = true → StepQ E (opV E o (ev t) m) fun v m' => Runs E (.ops ops rest (putT t o.dst v)) m' Q)
    (h2 : Region.wanted o (yielded ops t) = false → Runs E (.ops ops rest (putT t o.dst undef)) m Q) : Runs E (.ops ops (i :: rest) t) m Q := by
  cases hw : Region.wanted o (yielded ops t) with
  | false =>
    obtain ⟨n, o', h3, h4⟩ := h2 hw
    exact .step ⟨n, o', by simp only [stepT, ho, hw]; exact h3, h4⟩
  | true =>
    have h1 := h1 hw
    unfold StepQ at h1
    split at h1
    · rename_i v m1 hv
      obtain ⟨n, o', h3, h4⟩ := h1
      exact .step ⟨n, o', by simp only [stepT, ho, hw, hv]; exact h3, h4⟩
    · rename_i g args m1 hv
      obtain ⟨k, r, m2, h5, n, o', h3, h4⟩ := h1
      refine .step ⟨max k n, o', ?_, h4⟩
      simp only [stepT, ho, hw, hv]
      rw [run_mono (Nat.le_max_left k n) h5]
      exact run_mono (Nat.le_max_right k n) h3
    · rename_i g args m1 hv
      obtain ⟨k, r, m2, h5, n, o', h3, h4⟩ := h1
      refine .step ⟨max k n, o', ?_, h4⟩
      simp only [stepT, ho, hw, hv]
      rw [run_mono (Nat.le_max_left k n) h5]
      exact run_mono (Nat.le_max_right k n) h3
    · exact h1.elim

theorem Runs.draw_nil {id : Nat} {ops : Array Oper} {log : List (Nat × Nat)} (h : Q .normal t m) : Runs E (.draw f id ops [] log t) m Q := .step ⟨0, _, rfl, h⟩

theorem Runs.draw_cons {id : Nat} {ops : Array Oper} {i : Nat} {rest : List Nat} {log : List (Nat × Nat)} {o : Oper} (ho : ops[i]? = some o)
    (h1 : Region.wanted o (yielded ops t) = true → StepQ E (opV E o (ev t) (m.gm (guarded E f id i log))) fun v m' => Runs E (.draw f id ops rest (logged o (ev t) i log) (putT t o.dst v)) (m.ugm m' (guarded E f id i log)) Q)
    (h2 : Region.wanted o (yielded ops t) = false → Runs E (.draw f id ops rest log (putT t o.dst undef)) m Q) : Runs E (.draw f id ops (i :: rest) log t) m Q := by
  cases hw : Region.wanted o (yielded ops t) with
  | false =>
    obtain ⟨n, o', h3, h4⟩ := h2 hw
    exact .step ⟨n, o', by simp only [stepT, ho, hw]; exact h3, h4⟩
  | true =>
    have h1 := h1 hw
    unfold StepQ at h1
    split at h1
    · rename_i v m1 hv
      obtain ⟨n, o', h3, h4⟩ := h1
      exact .step ⟨n, o', by simp only [stepT, ho, hw, hv]; exact h3, h4⟩
    · rename_i g args m1 hv
      obtain ⟨k, r, m2, h5, n, o', h3, h4⟩ := h1
      refine .step ⟨max k n, o', ?_, h4⟩
      simp only [stepT, ho, hw, hv]
      rw [run_mono (Nat.le_max_left k n) h5]
      exact run_mono (Nat.le_max_right k n) h3
    · rename_i g args m1 hv
      obtain ⟨k, r, m2, h5, n, o', h3, h4⟩ := h1
      refine .step ⟨max k n, o', ?_, h4⟩
      simp only [stepT, ho, hw, hv]
      rw [run_mono (Nat.le_max_left k n) h5]
      exact run_mono (Nat.le_max_right k n) h3
    · exact h1.elim

theorem CallQ.of_code {g : FuncId} {args : Array Value} {fi : FI} (hc : E.closed g = none) (hf : E.fn g = some fi) {K : Value → Mem → Prop}
    (h : Runs E (.code none g fi.code (initT fi.ntmps args)) m fun x t m' => (x = .normal ∨ x = .ret) ∧ ∃ vs, resultsOf E m' t fi.results.toList = some vs ∧ K (bundle vs) m') : CallQ E g args m K := by
  obtain ⟨n, o, h1, hx, vs, h2, h3⟩ := h
  refine ⟨n + 1, #[bundle vs], o.m, ?_, h3⟩
  show stepT E (run E n) _ _ = _
  simp only [stepT, hc, hf, h1]
  rcases hx with e | e <;> simp [e, h2]

end rules
end Go.Abs
