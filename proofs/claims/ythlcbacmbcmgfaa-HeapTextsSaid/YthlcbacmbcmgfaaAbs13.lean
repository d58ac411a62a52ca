/-
  From a run of the executor to a call of the program.
-/
import Derived.Test.YthlcbacmbcmgfaaAbs12
import Derived.Laws.Externs
import Derived.ChangeSame
namespace Go.Abs
variable {P : Program} {T : Tab}

/-! ### Add64 and Sub64 -/
def sub64Entry : Array Value → Sem Value := fun args => do
  let (x, y, b) ← Extern.MathBitsCarry.three "Sub64" args
  pure (Extern.MathBitsCarry.pair ((x + Extern.MathBitsCarry.m64 - y - b) % Extern.MathBitsCarry.m64) (if x < y + b then 1 else 0))

theorem run_sub64 {P : Program} (x y c : Int) (hx : 0 ≤ x) (hx' : x < 18446744073709551616) (hy : 0 ≤ y) (hy' : y < 18446744073709551616) (hc0 : 0 ≤ c) (hc : c ≤ 1) (w : World) :
    (sub64Entry #[.int .u64 x, .int .u64 y, .int .u64 c]).run P w =
      .ok (.tuple #[.int .u64 ((x - y - c) % 18446744073709551616), .int .u64 (if x < y + c then 1 else 0)]) w := by
  have key : ∀ k : Nat, k ≤ 1 → (sub64Entry #[.int .u64 x, .int .u64 y, .int .u64 (k : Int)]).run P w =
      .ok (Extern.MathBitsCarry.pair ((x.toNat + Extern.MathBitsCarry.m64 - y.toNat - k) % Extern.MathBitsCarry.m64) (if x.toNat < y.toNat + k then 1 else 0)) w := by
    intro k hk
    have : k = 0 ∨ k = 1 := by omega
    rcases this with rfl | rfl <;> rfl
  obtain ⟨k, rfl⟩ := Int.eq_ofNat_of_zero_le hc0
  rw [key k (by omega)]
  obtain ⟨X, rfl⟩ := Int.eq_ofNat_of_zero_le hx
  obtain ⟨Y, rfl⟩ := Int.eq_ofNat_of_zero_le hy
  simp only [Extern.MathBitsCarry.pair, Extern.MathBitsCarry.m64, Int.toNat_natCast]
  congr 4
  · simp only [Int.ofNat_eq_natCast]
    congr 1
    omega
  · congr 2
    by_cases h : X < Y + k
    · rw [if_pos h, if_pos (by omega)]; rfl
    · rw [if_neg h, if_neg (by omega)]; rfl

/-- One of the two, as the program has it. -/
structure ExtIs (P : Program) (f : FuncId) (sub : Bool) : Prop where
  is : ∃ fn, P.funcs[f]? = some fn ∧ (fn.name == "runtime.NumGoroutine") = false ∧ fn.body.isNone = true ∧ Extern.findNext fn = none ∧ Extern.find fn = some (if sub then sub64Entry else add64Entry)

theorem ExtIs.run {f : FuncId} {k : Bool} (h : ExtIs P f k) (args : Array Value) (v : Value) (w : World) (hv : carryV k args.toList = some v) : (callFunc f args).run P w = .ok (.value v) w := by
  obtain ⟨fn, h1, h2, h3, h4, h5⟩ := h.is
  rw [run_callFunc_extern h1 h2 h3 h4 h5]
  unfold carryV at hv
  split at hv
  · rename_i x y c e
    split at hv
    · rename_i hc
      obtain ⟨c1, c2, c3, c4, c5, c6⟩ := hc
      have e' : args = #[.int .u64 x, .int .u64 y, .int .u64 c] := by
        apply Array.toList_inj.1
        rw [e]
      subst e'
      cases k with
      | true =>
        simp only [if_true] at hv ⊢
        cases hv
        rw [run_sub64 x y c c1 c2 c3 c4 c5 c6]
        rfl
      | false =>
        simp only [Bool.false_eq_true, if_false] at hv ⊢
        cases hv
        rw [run_add64 x y c c1 c3 c5 c6]
        rfl
    · cases hv
  · cases hv

/-! ### The program's facts -/
def codesOk (P : Program) (T : Tab) : Bool :=
  (List.range P.funcs.size).all fun f => match P.funcs[f]? with
    | some fn => match fn.body with
      | some c => T.skip.contains f || codeOk drawOk (envOf P T) f c
      | none => true
    | none => true

def namesOk (P : Program) : Bool := P.funcs.toList.all fun fn => fn.body.isNone || !(fn.name == "runtime.NumGoroutine")

def eqsOk (P : Program) (T : Tab) : Bool := T.eqs.all fun t => !P.stoodInHeld t && !P.eqGuardType P.depth t && (P.fieldsOf t).toList.all fun f => !(f.name == "_")

structure Facts (P : Program) (T : Tab) : Prop where
  mixed : P.follows .mixedOrders = true
  codes : codesOk P T = true
  names : namesOk P = true
  eqs : eqsOk P T = true
  ext : ∀ e ∈ T.ext, ExtIs P e.1 e.2
  closed : ∀ e ∈ T.closed, Known P e.1 e.2

theorem envOf_fn {f : FuncId} {i : FI} (h : (envOf P T).fn f = some i) : ∃ fn, P.funcs[f]? = some fn ∧ fn.body = some i.code ∧ fn.ntmps = i.ntmps ∧ fn.results = i.results ∧ T.skip.contains f = false := by
  simp only [envOf] at h
  split at h
  · rename_i fn h1
    split at h
    · rename_i c h2
      split at h
      · cases h
      · rename_i h3
        cases h
        exact ⟨fn, h1, h2, rfl, rfl, by simpa using h3⟩
    · cases h
  · cases h

theorem Facts.env (h : Facts P T) : (envOf P T).Ok P where
  ti t i hi := by
    simp only [envOf] at hi
    split at hi
    · rename_i info d h1 h2
      split at hi
      · rename_i z h3
        split at hi
        · rename_i h4
          cases hi
          simp only [Bool.and_eq_true, beq_iff_eq] at h4
          exact ⟨h2, ⟨info, h1, rfl, h3, rfl⟩, h4.1, h4.2⟩
        · cases hi
      · cases hi
    · cases hi
  fn f i hi := by
    obtain ⟨fn, h1, h2, h3, h4, _⟩ := envOf_fn hi
    refine ⟨fn, h1, h2, h3, h4, ?_⟩
    have := h.names
    simp only [namesOk, List.all_eq_true] at this
    have := this fn (by simpa using Array.mem_of_getElem? h1)
    rw [h2] at this
    simpa using this
  ext f k hk args v w hv := by
    simp only [envOf] at hk
    obtain ⟨e, h1, h2⟩ := Option.map_eq_some_iff.1 hk
    have h3 := List.mem_of_find?_eq_some h1
    have h4 := List.find?_some h1
    have h5 := h.ext e h3
    simp only [beq_iff_eq] at h4
    rw [h4, h2] at h5
    exact h5.run args v w hv
  closed f v hk := by
    simp only [envOf] at hk
    obtain ⟨e, h1, h2⟩ := Option.map_eq_some_iff.1 hk
    have h3 := List.mem_of_find?_eq_some h1
    have h4 := List.find?_some h1
    have h5 := h.closed e h3
    simp only [beq_iff_eq] at h4
    rw [h4, h2] at h5
    exact h5
  eqs t ht := by
    have := h.eqs
    simp only [eqsOk, List.all_eq_true] at this
    have := this t (by simpa [envOf] using ht)
    simp only [Bool.and_eq_true, List.all_eq_true] at this
    exact ⟨by simpa using this.1.1, by simpa using this.1.2, fun f hf => by simpa using this.2 f hf⟩

theorem Facts.code (h : Facts P T) (f : FuncId) (i : FI) (hi : (envOf P T).fn f = some i) : codeOk drawOk (envOf P T) f i.code = true := by
  obtain ⟨fn, h1, h2, _, _, h5⟩ := envOf_fn hi
  have := h.codes
  simp only [codesOk, List.all_eq_true] at this
  have := this f (List.mem_range.2 (Array.getElem?_eq_some_iff.1 h1).1)
  rw [h1] at this
  simp only [h2, h5, Bool.false_or] at this
  exact this

abbrev CG (P : Program) (T : Tab) : FuncId → Code → Prop := Good drawOk (envOf P T)

/-- ████ A run of the executor is a call of the program ████ -/
theorem calls_of_run (hF : Facts P T) {n : Nat} {f : FuncId} {args : Array Value} {m : Mem} {o : Out} (h : run (envOf P T) n (.call f args) m = some o) {ρ : Inj} {w : World} {args' : Array Value}
    (hs : Sim (CG P T) o.m.size ρ m w) (ha : ARel ρ args args') :
    Calls P f args' w fun e w' => ∃ ρ' v', Post (CG P T) o.m.size ρ m w ρ' o.m w' ∧ e = .returned v' ∧ VRel ρ' (o.t.getD 0 undef) v' := by
  obtain ⟨_, hc⟩ := sound hF.env hF.code (drawSound hF.env hF.mixed) n _ m o h
  exact callsIn_wide (n := 0).1 (hc o.m.size ρ w args' 0 _ (Nat.le_refl _) hs ha fun ρ' w' v' hp hv => ⟨ρ', v', hp, rfl, hv⟩)

/-! ### What stays -/
def Kept (W w' : World) : Prop := W.keptBut w' (fun _ => False) ∧ ∀ a : Addr, a.block < W.heap.size → w'.frozen? a = W.frozen? a

theorem Kept.of_post {C : FuncId → Code → Prop} {B : Nat} {ρ ρ' : Inj} {m m' : Mem} {w w' : World} (h : Post C B ρ m w ρ' m' w') (hro : ∀ i c, m.get i = some c → c.writable = false) : Kept w w' := by
  have same : ∀ r, r < w.heap.size → w'.heap[r]? = w.heap[r]? := fun r hr => h.frame r hr fun i b e hi hb => by
    rw [hro i b hi] at hb; cases hb
  refine ⟨⟨h.os, h.output, fun i hi => ?_⟩, fun a ha => ?_⟩
  · rw [same i hi]
    cases w.heap[i]? with
    | none => rfl
    | some ob => cases ob <;> first | exact ⟨rfl, rfl, rfl, fun _ _ => rfl⟩ | exact Or.inr ⟨rfl, rfl⟩ | rfl
  · unfold World.frozen?
    rw [same _ ha]

/-- A call with no arguments. -/
theorem calls_closed (hF : Facts P T) {n : Nat} {f : FuncId} {m : Mem} {t : Array Value} {x : Exit} (h : run (envOf P T) n (.call f #[]) ⟨[]⟩ = some ⟨x, t, m⟩) (ht : t.getD 0 undef = .bool true) (w : World) :
    Calls P f #[] w fun e w' => e = .returned (.bool true) ∧ Kept w w' := by
  have hs : Sim (CG P T) m.size (fun _ => none) ⟨[]⟩ w := ⟨⟨fun i b h => by simp [Mem.get] at h, fun i j bi bj ei ej h => by simp [Mem.get] at h⟩, fun _ _ h => by cases h⟩
  refine (calls_of_run hF h hs (show ARel _ #[] #[] from .nil)).mono fun e w' ⟨ρ', v', hp, he, hv⟩ => ⟨?_, Kept.of_post hp fun i c hi => by simp [Mem.get] at hi⟩
  simp only [ht] at hv
  cases hv
  exact he

theorem known_closed (hF : Facts P T) {n : Nat} {f : FuncId} {m : Mem} {t : Array Value} {x : Exit} (h : run (envOf P T) n (.call f #[]) ⟨[]⟩ = some ⟨x, t, m⟩) (ht : t.getD 0 undef = .bool true) : Known P f (.bool true) := by
  refine ⟨rfl, fun w => ?_⟩
  have hs : Sim (CG P T) m.size (fun _ => none) ⟨[]⟩ w := ⟨⟨fun i b h => by simp [Mem.get] at h, fun i j bi bj ei ej h => by simp [Mem.get] at h⟩, fun _ _ h => by cases h⟩
  refine (calls_of_run hF h hs (show ARel _ #[] #[] from .nil)).mono fun e w' ⟨ρ', v', hp, he, hv⟩ => ⟨?_, hp.size, fun r hr => hp.frame r hr fun i b e hi => by simp [Mem.get] at hi, hp.os, hp.tape, hp.output⟩
  simp only [ht] at hv
  cases hv
  exact he

section post
variable {H : Type} {enc : TypeId × Value → H}

theorem post_of_kept {f : Func} {s : ChangeSpec} {apart fresh handsOn again : Bool} {W W' : World} {args : Array Value} {v : Value} {ds gs : List (DataW H)} {before pa pv : List MemPlace}
    (hW : DataW.Whole enc P f.params.toList s.vars apart W args.toList ds gs before)
    (hres : ∀ (b : Nat) (sp : Nat → Bool) (hd : Bool), DataW.TrodAll enc P W' b sp hd f.resultTypes.toList (v.resultList f.resultTypes.size) (s.fn H (ds ++ gs)).results [])
    (hargs : ∀ sp : Nat → Bool, (∀ p ∈ before, sp p.block = true) → DataW.TrodAll enc P W' 0 sp true f.params.toList args.toList (s.fn H (ds ++ gs)).args pa)
    (hvars : ∀ sp : Nat → Bool, (∀ p ∈ before, sp p.block = true) → DataW.TrodVars enc P W' sp s.vars (s.fn H (ds ++ gs)).vars pv)
    (hps : before = pa ++ pv) (hk : Kept W W')
    (hok : ∀ (j : Nat) (t : TypeId) (r : Value), f.resultTypes[j]? = some t → (v.resultList f.resultTypes.size)[j]? = some r → Value.okWide P W' .any 0 t r) :
    s.post enc P f apart fresh handsOn again W args v W' := by
  have hlt : ∀ p ∈ before, p.block < W.heap.size := fun p hp => hW.lt p hp
  refine ⟨ds, gs, before, [], pa, pv, hW, hres _ _ _, hargs _ (fun p hp => decide_eq_true (hlt p hp)), hvars _ (fun p hp => decide_eq_true (hlt p hp)), World.keptBut_mono (fun p hf => hf.elim) hk.1, fun _ => ?_⟩
  have hW0 := hW
  obtain ⟨_, _, _, _, _, hz, hn⟩ := hW0
  refine ⟨hok, _, _, ([] ++ pa) ++ pv, ⟨[] ++ pa, pv, ChangeShapes.trodAll_append (hargs _ (fun _ _ => rfl)) (hres _ _ _), hvars _ (fun _ _ => rfl), rfl, fun b off hp => ?_, fun ha => ?_⟩, fun p hp _ => ?_⟩
  · have hp' : MemPlace.cell b off ∈ before := by rw [hps]; simpa using hp
    rw [hk.2 _ (hlt _ hp')]
    exact hz b off hp'
  · have := hn ha
    rw [hps] at this
    simpa using this
  · rw [hps]
    simpa using hp

end post
end Go.Abs
