/-
  Each operation on both sides.
-/
import Derived.Test.YthlcbacmbcmgfaaAbs2
import Derived.Laws.StructEq
namespace Go.Abs
variable {C : FuncId → Code → Prop} {B : Nat}

theorem VRel.scalar {ρ : Inj} {v : Value} (h : scalarOk v = true) : VRel ρ v v := by
  cases v with
  | bool b => exact .bool b
  | int k n => exact .int k n
  | string s => exact .string s
  | pointer a => cases a with
    | none => exact .ptrNil
    | some a => simp [scalarOk] at h
  | slice a n c => cases a with
    | none => exact .slNil n c
    | some a => simp [scalarOk] at h
  | nilFunc => exact .nilFunc
  | map r => cases r with
    | none => exact .mapNil
    | some a => simp [scalarOk] at h
  | _ => simp [scalarOk] at h

theorem VRel.const {ρ : Inj} {v : Value} (h : constOk v = true) : VRel ρ v v := by
  have all : ∀ cs : Array Value, cs.toList.all scalarOk = true → ARel ρ cs cs := fun cs h => LRel.refl_of fun x hx => .scalar (List.all_eq_true.1 h x hx)
  cases v with
  | agg cs => exact .agg_of (all cs (by simpa [constOk] using h))
  | tuple cs => exact .tuple_of (all cs (by simpa [constOk] using h))
  | _ => exact .scalar (by simpa [constOk] using h)

/-- What the executor knows of types is true. -/
structure TI.Ok (P : Program) (t : TypeId) (i : TI) : Prop where
  und : P.underlying t = some i.desc
  info : ∃ info, P.info? t = some info ∧ info.size = i.size ∧ info.zero = some i.zero ∧ info.bytes = i.bytes
  zero : constOk i.zero = true
  zsize : i.zero.cells.size = i.size

/-- A world that only grew. -/
structure Grown (w w' : World) : Prop where
  size : w.heap.size ≤ w'.heap.size
  old : ∀ r, r < w.heap.size → w'.heap[r]? = w.heap[r]?
  os : w'.os = w.os
  tape : w'.tape = w.tape
  output : w'.output = w.output

/-- A call without arguments whose answer is known. -/
def Known (P : Program) (f : FuncId) (v : Value) : Prop := constOk v = true ∧ ∀ w, Calls P f #[] w fun e w' => e = .returned v ∧ Grown w w'

structure Env.Ok (P : Program) (E : Env) : Prop where
  ti : ∀ t i, E.ti t = some i → i.Ok P t
  fn : ∀ f i, E.fn f = some i → ∃ fn, P.funcs[f]? = some fn ∧ fn.body = some i.code ∧ fn.ntmps = i.ntmps ∧ fn.results = i.results ∧ fn.name ≠ "runtime.NumGoroutine"
  ext : ∀ f k, E.ext f = some k → ∀ (args : Array Value) (v : Value) (w : World), carryV k args.toList = some v → (callFunc f args).run P w = .ok (.value v) w
  eqs : ∀ t, E.eqs t = true → P.stoodInHeld t = false ∧ P.eqGuardType P.depth t = false ∧ ∀ f ∈ (P.fieldsOf t).toList, f.name ≠ "_"
  closed : ∀ f v, E.closed f = some v → Known P f v

section types
variable {P : Program} {E : Env} (hE : E.Ok P)
include hE

theorem Env.Ok.desc {t : TypeId} {d : TypeDesc} (h : E.desc t = some d) : P.underlying t = some d := by
  unfold Env.desc at h
  split at h
  · rename_i i hi
    cases h
    exact (hE.ti t i hi).und
  · cases h

theorem Env.Ok.run_und {t : TypeId} {d : TypeDesc} (h : E.desc t = some d) (w : World) : (underlying t).run P w = .ok d w := by
  simp [underlying, hE.desc h]

theorem Env.Ok.run_und' {t : TypeId} {i : TI} (h : E.ti t = some i) (w : World) : (underlying t).run P w = .ok i.desc w := by
  simp [underlying, (hE.ti t i h).und]

theorem Env.Ok.run_size {t : TypeId} {i : TI} (h : E.ti t = some i) (w : World) : (sizeOf t).run P w = .ok i.size w := by
  obtain ⟨info, h1, h2, _⟩ := (hE.ti t i h).info
  simp [sizeOf, typeInfo, h1, h2]

theorem Env.Ok.run_zero {t : TypeId} {i : TI} (h : E.ti t = some i) (w : World) : (zeroValue t).run P w = .ok i.zero w := by
  obtain ⟨info, h1, _, h3, _⟩ := (hE.ti t i h).info
  simp [zeroValue, typeInfo, h1, h3]

theorem Env.Ok.run_isAgg {t : TypeId} {i : TI} (h : E.ti t = some i) (w : World) : (isAgg t).run P w = .ok (isAggD i.desc) w := by
  have h1 := (hE.ti t i h).und
  unfold isAgg
  simp only [Sem.run_bind, hE.run_und' h, Result.andThen_ok]
  cases i.desc <;> simp [isAggD]

theorem Env.Ok.run_info {t : TypeId} {i : TI} (h : E.ti t = some i) : ∃ info, info.bytes = i.bytes ∧ ∀ w, (typeInfo t).run P w = .ok info w := by
  obtain ⟨info, h1, _, _, h4⟩ := (hE.ti t i h).info
  exact ⟨info, h4, fun w => by simp [typeInfo, h1]⟩

theorem Env.Ok.run_call {f : FuncId} {i : FI} (h : E.fn f = some i) (args : Array Value) (w : World) : (callFunc f args).run P w = .ok (.enter f args) w := by
  obtain ⟨fn, h1, h2, _, _, h5⟩ := hE.fn f i h
  simp [callFunc, h1, h5, h2]

end types

/-! ### Whole numbers, strings, truth -/
theorem binInt_run {P : Program} {w : World} {op : BinOp} {k : IntKind} {x y : Int} {v : Value} (h : binInt op k x y = some v) (t : TypeId) :
    (binOp op t (.int k x) (.int k y)).run P w = .ok v w ∧ constOk v = true := by
  cases op <;> simp only [binInt, Option.some.injEq, reduceCtorEq] at h
  case quo =>
    split at h
    · cases h
    · rename_i hy; cases h; simp [binOp, Op.intDiv, hy, constOk, scalarOk]
  case rem =>
    split at h
    · cases h
    · rename_i hy; cases h; simp [binOp, Op.intDiv, hy, constOk, scalarOk]
  all_goals (subst h; exact ⟨by simp [binOp, Op.intArith, Op.intBits, Op.intCmp], rfl⟩)

theorem binStr_run {P : Program} {w : World} {op : BinOp} {x y : ByteArray} {v : Value} (h : binStr op x y = some v) (t : TypeId) :
    (binOp op t (.string x) (.string y)).run P w = .ok v w ∧ constOk v = true := by
  cases op <;> simp only [binStr, Option.some.injEq, reduceCtorEq] at h
  case add =>
    split at h
    · rename_i hl
      cases h
      refine ⟨?_, rfl⟩
      have : ¬ (((x.size + y.size : Nat) : Int) > IntKind.i64.max) := by
        have e : IntKind.i64.max = 9223372036854775807 := by decide
        rw [e]
        unfold roomMost at hl
        omega
      simp only [binOp, Op.stringOp, this, if_false, Sem.run_pure]
    · cases h
  all_goals (subst h; exact ⟨by simp [binOp, Op.stringOp], rfl⟩)


theorem isAgg_scalar {P : Program} {E : Env} (hE : E.Ok P) {t : TypeId} (ht : scalarD (E.desc t) = true) (w : World) : (isAgg t).run P w = .ok false w := by
  cases hd : E.desc t with
  | none => rw [hd] at ht; simp [scalarD] at ht
  | some d =>
    unfold isAgg
    simp only [Sem.run_bind, hE.run_und hd, Result.andThen_ok]
    rw [hd] at ht
    cases d <;> simp [scalarD] at ht <;> rfl


theorem sameCell_run {P : Program} {E : Env} (hE : E.Ok P) {w : World} {t : TypeId} {x y : Value} {b : Bool} (h : sameCell (E.desc t) x y = some b) (d : Nat) :
    (Op.equalIn (d + 1) t x y).run P w = .ok b w := by
  unfold sameCell at h
  split at h
  · rename_i k' k a k'' b' hd
    split at h
    · rename_i hk
      cases h
      exact run_equalIn_int w d t k k' a b' (hE.desc hd) |> fun e => by subst hk; exact e
    · cases h
  · rename_i a b' hd
    cases h
    exact run_equalIn_bool' w d t a b' (hE.desc hd)
  · rename_i a b' hd
    cases h
    rw [run_equalIn_string w d t a b' (hE.desc hd), beq_toListBytes]
  · cases h

theorem sameCell_rel {ρ : Inj} {d : Option TypeDesc} {x y x' y' : Value} {b : Bool} (h : sameCell d x y = some b) (hx : VRel ρ x x') (hy : VRel ρ y y') : x' = x ∧ y' = y := by
  unfold sameCell at h
  split at h
  · cases hx; cases hy; exact ⟨rfl, rfl⟩
  · cases hx; cases hy; exact ⟨rfl, rfl⟩
  · cases hx; cases hy; exact ⟨rfl, rfl⟩
  · cases h

theorem part_scalar {P : Program} {E : Env} (hE : E.Ok P) {t : TypeId} (ht : scalarD (E.desc t) = true) {cs : Array Value} {off : Nat} {v : Value} (h : cs[off]? = some v) (w : World) : (part t cs off).run P w = .ok v w := by
  unfold part
  simp [isAgg_scalar hE ht, h]

theorem sameFields_run {P : Program} {E : Env} (hE : E.Ok P) {ρ : Inj} {w : World} (d : Nat) : ∀ (fs : List Field) (i : Nat) (x y : List Value) (b : Bool) (a' b' : Array Value),
    sameFields E fs x y = some b → flatFields E i fs = true → (∀ f ∈ fs, f.name ≠ "_") → LRel ρ x (a'.toList.drop i) → LRel ρ y (b'.toList.drop i) →
    (Op.eqFields (d + 1) a' b' fs).run P w = .ok b w
  | [], i, x, y, b, a', b', h, _, _, _, _ => by
    cases x <;> cases y <;> simp [sameFields] at h
    subst h
    simp [Op.eqFields]
  | f :: fs, i, x, y, b, a', b', h, hf, hn, hx, hy => by
    cases x with
    | nil => cases y <;> simp [sameFields] at h
    | cons u x => cases y with
      | nil => simp [sameFields] at h
      | cons v y =>
        simp only [sameFields] at h
        simp only [flatFields, Bool.and_eq_true, beq_iff_eq] at hf
        obtain ⟨⟨ho, hs⟩, hf'⟩ := hf
        split at h
        · rename_i p q hp hq
          cases h
          obtain ⟨u', hu1, hu2⟩ := hx.get (i := 0) (v := u) rfl
          obtain ⟨v', hv1, hv2⟩ := hy.get (i := 0) (v := v) rfl
          obtain ⟨rfl, rfl⟩ := sameCell_rel hp hu2 hv2
          simp only [List.getElem?_drop, Nat.add_zero, Array.getElem?_toList] at hu1 hv1
          have hx' : LRel ρ x (a'.toList.drop (i + 1)) := by
            have := hx.drop 1
            rwa [List.drop_drop, List.drop_one, List.tail_cons] at this
          have hy' : LRel ρ y (b'.toList.drop (i + 1)) := by
            have := hy.drop 1
            rwa [List.drop_drop, List.drop_one, List.tail_cons] at this
          have ih := sameFields_run hE (w := w) d fs (i + 1) x y q a' b' hq hf' (fun g hg => hn g (by simp [hg])) hx' hy'
          simp only [Op.eqFields, if_pos (hn f (by simp)), Sem.run_bind, part_scalar hE hs (ho ▸ hu1), part_scalar hE hs (ho ▸ hv1), Result.andThen_ok, sameCell_run hE hp d]
          cases p
          · simp
          · simpa using ih
        · cases h


theorem equal_bool {P : Program} {t : TypeId} (h : P.underlying t = some .bool) (a b : Bool) (w : World) : (Op.equal t (.bool a) (.bool b)).run P w = .ok (a == b) w := run_equalIn_bool' w 9999 t a b h
theorem equalIn_ptr_l {P : Program} {t e : TypeId} (h : P.underlying t = some (.pointer e)) (b : Option Addr) (w : World) (d : Nat) : (Op.equalIn (d + 1) t (.pointer none) (.pointer b)).run P w = .ok b.isNone w := by
  simp [Op.equalIn, run_underlying h]
theorem equalIn_ptr_r {P : Program} {t e : TypeId} (h : P.underlying t = some (.pointer e)) (b : Option Addr) (w : World) (d : Nat) : (Op.equalIn (d + 1) t (.pointer b) (.pointer none)).run P w = .ok b.isNone w := by
  cases b <;> simp [Op.equalIn, run_underlying h]
theorem equalIn_sl_l {P : Program} {t e : TypeId} (h : P.underlying t = some (.slice e)) (n c n' c' : Nat) (b : Option Addr) (w : World) (d : Nat) : (Op.equalIn (d + 1) t (.slice none n c) (.slice b n' c')).run P w = .ok b.isNone w := by
  simp [Op.equalIn, run_underlying h]
theorem equalIn_sl_r {P : Program} {t e : TypeId} (h : P.underlying t = some (.slice e)) (n c n' c' : Nat) (b : Option Addr) (w : World) (d : Nat) : (Op.equalIn (d + 1) t (.slice b n' c') (.slice none n c)).run P w = .ok b.isNone w := by
  cases b <;> simp [Op.equalIn, run_underlying h]
theorem equalIn_fn1 {P : Program} {t : TypeId} {ps rs : Array TypeId} {v : Bool} (h : P.underlying t = some (.func ps rs v)) (w : World) (d : Nat) : (Op.equalIn (d + 1) t .nilFunc .nilFunc).run P w = .ok true w := by
  simp [Op.equalIn, run_underlying h]
theorem equalIn_fn2 {P : Program} {t : TypeId} {ps rs : Array TypeId} {v : Bool} (h : P.underlying t = some (.func ps rs v)) (f : Fn) (a b : Array Value) (w : World) (d : Nat) : (Op.equalIn (d + 1) t .nilFunc (.func f a b)).run P w = .ok false w := by
  simp [Op.equalIn, run_underlying h]
theorem equalIn_fn3 {P : Program} {t : TypeId} {ps rs : Array TypeId} {v : Bool} (h : P.underlying t = some (.func ps rs v)) (f : Fn) (a b : Array Value) (w : World) (d : Nat) : (Op.equalIn (d + 1) t (.func f a b) .nilFunc).run P w = .ok false w := by
  simp [Op.equalIn, run_underlying h]

section glue
variable {P : Program} {t : TypeId} {w : World} {b : Bool} (p q : Operand) (neg : Bool)
theorem glue_bool {x y : Bool} (h : (Op.equal t (.bool x) (.bool y)).run P w = .ok b w) : (do eqGuard (if neg then .neq else .eql) t p q (.bool x) (.bool y); binOp (if neg then .neq else .eql) t (.bool x) (.bool y)).run P w = .ok (.bool (if neg then !b else b)) w := by
  cases neg <;> simp [eqGuard, binOp, h]
theorem glue_ptr {x y : Option Addr} (h : (Op.equal t (.pointer x) (.pointer y)).run P w = .ok b w) : (do eqGuard (if neg then .neq else .eql) t p q (.pointer x) (.pointer y); binOp (if neg then .neq else .eql) t (.pointer x) (.pointer y)).run P w = .ok (.bool (if neg then !b else b)) w := by
  cases neg <;> simp [eqGuard, binOp, h]
theorem glue_sl {x y : Option Addr} {n c n' c' : Nat} (h : (Op.equal t (.slice x n c) (.slice y n' c')).run P w = .ok b w) : (do eqGuard (if neg then .neq else .eql) t p q (.slice x n c) (.slice y n' c'); binOp (if neg then .neq else .eql) t (.slice x n c) (.slice y n' c')).run P w = .ok (.bool (if neg then !b else b)) w := by
  cases neg <;> simp [eqGuard, binOp, h]
theorem glue_fn1 (h : (Op.equal t .nilFunc .nilFunc).run P w = .ok b w) : (do eqGuard (if neg then .neq else .eql) t p q .nilFunc .nilFunc; binOp (if neg then .neq else .eql) t .nilFunc .nilFunc).run P w = .ok (.bool (if neg then !b else b)) w := by
  cases neg <;> simp [eqGuard, binOp, h]
theorem glue_fn2 {f : Fn} {x y : Array Value} (h : (Op.equal t .nilFunc (.func f x y)).run P w = .ok b w) : (do eqGuard (if neg then .neq else .eql) t p q .nilFunc (.func f x y); binOp (if neg then .neq else .eql) t .nilFunc (.func f x y)).run P w = .ok (.bool (if neg then !b else b)) w := by
  cases neg <;> simp [eqGuard, binOp, h]
theorem glue_fn3 {f : Fn} {x y : Array Value} (h : (Op.equal t (.func f x y) .nilFunc).run P w = .ok b w) : (do eqGuard (if neg then .neq else .eql) t p q (.func f x y) .nilFunc; binOp (if neg then .neq else .eql) t (.func f x y) .nilFunc).run P w = .ok (.bool (if neg then !b else b)) w := by
  cases neg <;> simp [eqGuard, binOp, h]
end glue

theorem VRel.ptr_inv {ρ : Inj} {a : Option Addr} {v : Value} (h : VRel ρ (.pointer a) v) : ∃ a', v = .pointer a' ∧ a'.isNone = a.isNone := by
  cases h <;> exact ⟨_, rfl, rfl⟩
theorem VRel.sl_inv {ρ : Inj} {a : Option Addr} {n c : Nat} {v : Value} (h : VRel ρ (.slice a n c) v) : ∃ a' c', v = .slice a' n c' ∧ a'.isNone = a.isNone := by
  cases h <;> exact ⟨_, _, rfl, rfl⟩

/-- '==' goes as the executor says. -/
theorem eqV_run {P : Program} {E : Env} (hE : E.Ok P) {ρ : Inj} {w : World} {t : TypeId} {x y x' y' : Value} {b : Bool} (h : eqV E t x y = some b) (hx : VRel ρ x x') (hy : VRel ρ y y') (p q : Operand) (neg : Bool) :
    (do eqGuard (if neg then .neq else .eql) t p q x' y'; binOp (if neg then .neq else .eql) t x' y').run P w = .ok (.bool (if neg then !b else b)) w := by
  unfold eqV at h
  split at h
  · rename_i a b' hd
    cases h; cases hx; cases hy
    exact glue_bool p q neg (equal_bool (hE.desc hd) _ _ w)
  · rename_i e b' hd
    cases h
    obtain ⟨a1, rfl, h1⟩ := hx.ptr_inv
    obtain ⟨a2, rfl, h2⟩ := hy.ptr_inv
    cases a1 with
    | some a => simp at h1
    | none => exact glue_ptr p q neg (h2 ▸ equalIn_ptr_l (hE.desc hd) a2 w 9999)
  · rename_i e a _ hd
    cases h
    obtain ⟨a1, rfl, h1⟩ := hx.ptr_inv
    obtain ⟨a2, rfl, h2⟩ := hy.ptr_inv
    cases a2 with
    | some a => simp at h2
    | none => exact glue_ptr p q neg (h1 ▸ equalIn_ptr_r (hE.desc hd) a1 w 9999)
  · rename_i e n c b' n' c' hd
    cases h
    obtain ⟨a1, c1, rfl, h1⟩ := hx.sl_inv
    obtain ⟨a2, c2, rfl, h2⟩ := hy.sl_inv
    cases a1 with
    | some a => simp at h1
    | none => exact glue_sl p q neg (h2 ▸ equalIn_sl_l (hE.desc hd) _ _ _ _ a2 w 9999)
  · rename_i e a n c n' c' _ hd
    cases h
    obtain ⟨a1, c1, rfl, h1⟩ := hx.sl_inv
    obtain ⟨a2, c2, rfl, h2⟩ := hy.sl_inv
    cases a2 with
    | some a => simp at h2
    | none => exact glue_sl p q neg (h1 ▸ equalIn_sl_r (hE.desc hd) _ _ _ _ a1 w 9999)
  · rename_i a1 a2 a3 hd
    cases h; cases hx; cases hy
    exact glue_fn1 p q neg (equalIn_fn1 (hE.desc hd) w 9999)
  · rename_i a1 a2 a3 a4 a5 a6 hd
    cases h; cases hx; cases hy
    exact glue_fn2 p q neg (equalIn_fn2 (hE.desc hd) _ _ _ w 9999)
  · rename_i a1 a2 a3 a4 a5 a6 hd
    cases h; cases hx; cases hy
    exact glue_fn3 p q neg (equalIn_fn3 (hE.desc hd) _ _ _ w 9999)
  · rename_i fs a b' hd
    split at h
    · rename_i hc
      simp only [Bool.and_eq_true] at hc
      obtain ⟨hq, hf⟩ := hc
      obtain ⟨h1, h2, h3⟩ := hE.eqs t hq
      obtain ⟨xs, rfl, hxs⟩ := hx.agg_inv
      obtain ⟨ys, rfl, hys⟩ := hy.agg_inv
      have hfo : P.fieldsOf t = fs := by simp [Program.fieldsOf, hE.desc hd]
      have hrun := sameFields_run (P := P) hE (w := w) 9998 fs.toList 0 a.toList b'.toList b xs ys h hf (fun f hm => h3 f (by rw [hfo]; exact hm)) (by simpa [ARel] using hxs) (by simpa [ARel] using hys)
      have hst : (Op.equalIn 10000 t (.agg xs) (.agg ys)).run P w = .ok b w := by
        rw [run_equalIn_agg w 9999 t xs ys (by rw [hfo]; exact hE.desc hd) h1, hfo]
        exact hrun
      cases neg
      · simp only [Bool.false_eq_true, if_false, Sem.run_bind, run_eqGuard_agg w .eql t p q xs ys h2, Result.andThen_ok, run_eql_struct, hst]
      · simp only [if_true, Sem.run_bind, run_eqGuard_agg w .neq t p q xs ys h2, Result.andThen_ok, run_neq_struct, hst]
    · cases h
  · cases h

end Go.Abs
