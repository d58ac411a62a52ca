/-
  Arguments that are structs of ints.
-/
import Derived.Test.YtjmppooebppecaaAbs26
namespace Go.Abs
variable {P : Program} {T : Tab}

/-- An argument is one cell, or a struct's cells; no address in it is one of a cell's part. -/
def FlatArg (P : Program) (t : TypeId) (v : Value) : Prop := match P.underlying t with
  | some (.struct _) => ∃ cs, v = .agg cs ∧ Clean cs.toList
  | _ => OneArg v
/-- What is known of an argument. -/
def ArgWf (P : Program) (m : Mem) (t : TypeId) (a : Value) : Prop := match P.underlying t with
  | some (.struct _) => ∃ n, ∃ xs : List Value, a = .agg xs.toArray ∧ Wf P m n t xs
  | _ => ∃ n, Wf P m n t [a]

theorem ArgWf.old {m m' : Mem} {t : TypeId} {a : Value} (h : Old m m') (k : ArgWf P m t a) : ArgWf P m' t a := by
  unfold ArgWf at *
  split at k
  · obtain ⟨n, xs, h1, h2⟩ := k
    exact ⟨n, xs, h1, h2.old h⟩
  · obtain ⟨n, h2⟩ := k
    exact ⟨n, h2.old h⟩

section lay2
variable {W : World} {H : Type} {enc : TypeId × Value → H} {K F : TypeId → Prop}

theorem lay_arg (hK : Plain P K F) {n : Nat} {t : TypeId} {v : Value} {x : DataW H × List MemPlace} (ht : K t) (hf : FlatArg P t v) (hn : DataW.trod enc P W 0 (fun _ => true) true n t v.cells.toList = some x) (m : Mem) (ρ : Inj) (hm : Laid P T W m ρ) :
    ∃ l ρ' av, Laid P T W (m.ext l) ρ' ∧ ρ.le ρ' ∧ VRel ρ' av v ∧ ArgWf P (m.ext l) t av := by
  unfold FlatArg at hf
  split at hf
  · rename_i fs hu
    obtain ⟨cs, rfl, hc⟩ := hf
    obtain ⟨l1, ρ1, c1, a1, a2, a3, a4⟩ := lay (T := T) hK n t cs.toList _ ht hc hn m ρ hm
    have hl := a3.length
    refine ⟨l1, ρ1, .agg c1.toArray, a1, a2, .agg (by simpa using hl) fun i h h' => ?_, ?_⟩
    · obtain ⟨v', g1, g2⟩ := a3.get (i := i) (v := c1.toArray[i]) (by simp at h; simp [h])
      have : cs.toList[i]? = some cs[i] := by simp [h']
      rw [this] at g1
      cases g1
      exact g2
    · unfold ArgWf
      rw [hu]
      exact ⟨n, c1, rfl, a4⟩
  · rename_i hu
    obtain ⟨o1, o2⟩ := hf
    rw [o1] at hn
    obtain ⟨l1, ρ1, c1, a1, a2, a3, a4⟩ := lay (T := T) hK n t [v] _ ht o2 hn m ρ hm
    cases a3 with
    | cons hv hnil =>
      cases hnil
      rename_i av
      refine ⟨l1, ρ1, av, a1, a2, hv, ?_⟩
      unfold ArgWf
      split
      · rename_i fs hfs; exact absurd hfs (hu fs)
      · exact ⟨n, a4⟩

/-- A law's call on what its arguments read. -/
theorem calls_of_args2 (hF : Facts P T) (hK : Plain P K F) {f : FuncId} {ts : List TypeId} {vs : List Value} {ds : List (DataW H)} {ps : List MemPlace} (hA : DataW.TrodAll enc P W 0 (fun _ => true) true ts vs ds ps)
    (hT : ∀ t ∈ ts, K t) (h1 : ∀ (i : Nat) t v, ts[i]? = some t → vs[i]? = some v → FlatArg P t v)
    (law : ∀ (m : Mem) (as : List Value), (∀ i c, m.get i = some c → c.writable = false) → as.length = ts.length → (∀ (i : Nat) t a, ts[i]? = some t → as[i]? = some a → ArgWf P m t a) → CallQ (envOf P T) f as.toArray m fun v _ => v = .bool true) :
    Calls P f vs.toArray W fun e w' => e = .returned (.bool true) ∧ Kept W w' := by
  have key : ∀ (ts : List TypeId) (vs : List Value) (ds : List (DataW H)) (ps : List MemPlace), DataW.TrodAll enc P W 0 (fun _ => true) true ts vs ds ps → (∀ t ∈ ts, K t) → (∀ (i : Nat) t v, ts[i]? = some t → vs[i]? = some v → FlatArg P t v) → ∀ m ρ, Laid P T W m ρ →
      ∃ l ρ' as, Laid P T W (m.ext l) ρ' ∧ ρ.le ρ' ∧ LRel ρ' as vs ∧ as.length = ts.length ∧ ∀ (i : Nat) t a, ts[i]? = some t → as[i]? = some a → ArgWf P (m.ext l) t a := by
    intro ts
    induction ts with
    | nil =>
      intro vs ds ps h _ _ m ρ hm
      obtain ⟨rfl, rfl, rfl⟩ := ChangeShapes.trodAll_nil h
      exact ⟨[], ρ, [], by rw [ext_nil]; exact hm, Inj.le_refl ρ, .nil, rfl, fun i t a ht => by simp at ht⟩
    | cons t ts ih =>
      intro vs ds ps h hT h1 m ρ hm
      obtain ⟨v, vs', d, ds', p, q, rfl, rfl, rfl, ⟨n, hn⟩, hr⟩ := ChangeShapes.trodAll_cons h
      obtain ⟨l1, ρ1, av, a1, a2, hv, a4⟩ := lay_arg (T := T) hK (hT t (by simp)) (h1 0 t v rfl rfl) hn m ρ hm
      obtain ⟨l2, ρ2, as, b1, b2, b3, b4, b5⟩ := ih vs' ds' q hr (fun t ht => hT t (by simp [ht])) (fun i t v ht hv => h1 (i + 1) t v (by simpa using ht) (by simpa using hv)) _ ρ1 a1
      refine ⟨l1 ++ l2, ρ2, av :: as, by rw [← ext_ext]; exact b1, Inj.le_trans a2 b2, .cons (hv.mono b2) b3, by simp [b4], fun i t' a ht' ha => ?_⟩
      rw [← ext_ext]
      cases i with
      | zero =>
        simp only [List.getElem?_cons_zero, Option.some.injEq] at ht' ha
        subst ht' ha
        exact a4.old ⟨l2, rfl⟩
      | succ i => exact b5 i t' a (by simpa using ht') (by simpa using ha)
  obtain ⟨l, ρ, as, a1, _, a3, a4, a5⟩ := key ts vs ds ps hA hT h1 ⟨[]⟩ (fun _ => none) ⟨⟨fun i b h => (nomatch h), fun i j bi bj ei ej h => (nomatch h)⟩, fun _ _ h => (nomatch h), fun i c h => (nomatch h)⟩
  refine calls_of_callQ hF (law _ as a1.ro a4 a5) a1.sim a1.dom a1.ro ?_
  show LRel _ as.toArray.toList vs.toArray.toList
  simpa using a3
end lay2

def intCells (P : Program) (t : TypeId) : Bool := match P.cellTypes P.depth t with
  | some ts => ts.all (isI64 P)
  | none => false
theorem flatArg_struct {W : World} {r : Reach} {base : Nat} {t : TypeId} {v : Value} {fs : Array Field} (ht : P.underlying t = some (.struct fs)) (hc : intCells P t = true) (h : Value.okWide P W r base t v) : FlatArg P t v := by
  unfold Value.okWide at h
  simp only [ht] at h
  obtain ⟨cs, rfl, hs, ts, h1, _, h3⟩ := h
  unfold FlatArg
  rw [ht]
  refine ⟨cs, rfl, fun v hv a n c e => ?_⟩
  obtain ⟨i, hi⟩ := List.getElem?_of_mem hv
  obtain ⟨u, g1, g2⟩ := h3 i v (by simpa using hi)
  unfold intCells at hc
  rw [h1] at hc
  have hu := isI64_spec (List.all_eq_true.1 hc u (List.mem_of_getElem? g1))
  subst e
  unfold Cell.okWide at g2
  simp only [hu] at g2
  simp [Cell.ok, hu] at g2
theorem ArgWf.struct {m : Mem} {t : TypeId} {a : Value} {fs : Array Field} {sz : Nat} (ht : P.underlying t = some (.struct fs)) (hf : intFields P fs = true) (hs : fs.size = sz) (h : ArgWf P m t a) :
    ∃ zs : List Int, a = .agg (zs.map (.int .i64)).toArray ∧ zs.length = sz ∧ ∀ z ∈ zs, (Lit.int .i64 z).wf = true := by
  unfold ArgWf at h
  rw [ht] at h
  obtain ⟨n, xs, rfl, h⟩ := h
  obtain ⟨zs, rfl, h2, h3⟩ := h.intStruct ht hf
  exact ⟨zs, rfl, h2.trans hs, h3⟩
end Go.Abs
