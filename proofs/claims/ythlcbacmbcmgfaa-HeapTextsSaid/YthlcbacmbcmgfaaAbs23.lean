/-
  Calls of function values; iterators, and ranges over them.
-/
import Derived.Test.YthlcbacmbcmgfaaAbs22
namespace Go.Abs
variable {E : Env}

/-! ### Function values -/
def fvV (E : Env) (v : Value) (ys : Array Value) (m : Mem) : Option Step :=
  match v with
  | .func (.func g) first captured => match E.fn g with
    | some _ => some (.enter g (first ++ ys ++ captured) m)
    | none => match E.ext g with
      | some k => val? m (carryV k (first ++ ys ++ captured).toList)
      | none => none
  | .func (.yield l) first _ => some (.round l (first ++ ys) m)
  | _ => none

@[go_sem] theorem callV_tmp (x : Nat) (args : Array Operand) (tys : Array TypeId) (r : Operand → Value) (m : Mem) : callV E ⟨.value (.tmp x), args, tys⟩ r m = fvV E (r (.tmp x)) (args.map r) m := rfl
@[go_sem] theorem fvV_func (g : FuncId) (first captured ys : Array Value) (m : Mem) (h : (E.fn g).isSome = true) : fvV E (.func (.func g) first captured) ys m = some (.enter g (first ++ ys ++ captured) m) := by
  unfold fvV
  cases e : E.fn g with
  | none => rw [e] at h; cases h
  | some _ => simp only [e]

/-- A call of a function value that ends. -/
def CallF (E : Env) (s : Value) (ys : List Value) (m : Mem) (K : Value → Mem → Prop) : Prop :=
  match s with
  | .func (.func h) first captured => (E.fn h).isSome = true ∧ CallQ E h (first ++ ys.toArray ++ captured) m K
  | .func (.yield l) first _ => RoundQ E l (first ++ ys.toArray) m K
  | _ => False

theorem CallF_yield (l : Nat) (first captured : Array Value) (ys : List Value) (m : Mem) (K : Value → Mem → Prop) : CallF E (.func (.yield l) first captured) ys m K = RoundQ E l (first ++ ys.toArray) m K := rfl
theorem CallF_func (g : FuncId) (first captured : Array Value) (ys : List Value) (m : Mem) (K : Value → Mem → Prop) : CallF E (.func (.func g) first captured) ys m K = ((E.fn g).isSome = true ∧ CallQ E g (first ++ ys.toArray ++ captured) m K) := rfl
theorem CallF.mono {s : Value} {ys : List Value} {m : Mem} {K K' : Value → Mem → Prop} (h : CallF E s ys m K) (k : ∀ v m', K v m' → K' v m') : CallF E s ys m K' := by
  unfold CallF at h ⊢
  split at h
  · exact ⟨h.1, h.2.mono k⟩
  · exact h.mono k
  · exact h

theorem CallF.step {s : Value} {ys : List Value} {m : Mem} {K : Value → Mem → Prop} (h : CallF E s ys m K) : StepQ E (fvV E s ys.toArray m) K := by
  unfold CallF at h
  split at h
  · rename_i g first captured
    rw [fvV_func _ _ _ _ _ h.1]
    exact h.2
  · exact h
  · exact h.elim

theorem Box.at0 {m : Mem} {b : Nat} {v : Value} {r : List Value} (h : Box m b (v :: r)) : m.at b 0 = some v := by
  obtain ⟨tg, g⟩ := h
  unfold Mem.at
  rw [g]
  rfl

/-! ### The code of ranges -/
def rangesOf : Code → List (Code × Code)
  | .seq a b => rangesOf a ++ rangesOf b
  | .cond _ a b => rangesOf a ++ rangesOf b
  | .block _ b => rangesOf b
  | .loop b => rangesOf b
  | .rangeFunc _ _ asg body => (asg, body) :: (rangesOf asg ++ rangesOf body)
  | _ => []

def rangeAt (E : Env) (f k : Nat) : Code × Code :=
  match E.fn f with
  | some i => (rangesOf i.code).getD k (.skip, .skip)
  | none => (.skip, .skip)
def asgAt (E : Env) (f k : Nat) : Code := (rangeAt E f k).1
def bodyAt (E : Env) (f k : Nat) : Code := (rangeAt E f k).2

/-! ### Rounds -/
def cutF (n : Nat) (t : Fr) : Fr := fun i => if i < n then t i else undef
@[go_sem] theorem cutF_at (n : Nat) (t : Fr) (i : Nat) : cutF n t i = if i < n then t i else undef := rfl

def parF : List Tmp → List Value → Fr → Fr
  | p :: ps, a :: as, t => parF ps as (upd t p a)
  | _, _, t => t
@[go_sem] theorem parF_nil (as : List Value) (t : Fr) : parF [] as t = t := rfl
@[go_sem] theorem parF_cons (p : Tmp) (ps : List Tmp) (a : Value) (as : List Value) (t : Fr) : parF (p :: ps) (a :: as) t = parF ps as (upd t p a) := rfl

theorem frOf_cut (n : Nat) (t : Fr) : FrOf n (arr n t) (cutF n t) := by
  have : arr n t = arr n (cutF n t) := by
    unfold arr
    congr 1
    apply List.map_congr_left
    intro i hi
    rw [List.mem_range] at hi
    exact (if_pos hi).symm
  rw [this]
  exact frOf_arr n _ fun i hi => if_neg (by omega)

theorem FrOf.params {n : Nat} : ∀ (ps : List Tmp) (as : List Value) {t : Array Value} {fr : Fr}, FrOf n t fr → (∀ p ∈ ps, p < n) → FrOf n (withParams t ps as) (parF ps as fr)
  | [], _, _, _, h, _ => h
  | _ :: _, [], _, _, h, _ => h
  | p :: ps, a :: as, t, fr, h, hp => by
    unfold withParams
    rw [List.zip_cons_cons, List.foldl_cons]
    exact FrOf.params ps as (h.put (d := some p) (fun i hi => by cases hi; exact hp p (by simp)) a) fun q hq => hp q (by simp [hq])

/-- What a round comes to. -/
def roundK (l : Nat) (f : FuncId) (t : Array Value) (ps : Array Tmp) (asg body : Code) (K : Value → Mem → Prop) : Post3 := fun x _ m => (∃ pend, m.get l = some (.loop .busy pend f t ps asg body)) ∧
  match x with
  | .normal => K (.bool true) (m.put l (some (.loop .ready none f t ps asg body)))
  | .ret => K (.bool false) (m.put l (some (.loop .done (some .ret) f t ps asg body)))
  | .exit i => K (.bool false) (m.put l (some (.loop .done (some (.exit i)) f t ps asg body)))
  | _ => False

def roundOut (l : Nat) (f : FuncId) (t : Array Value) (ps : Array Tmp) (asg body : Code) : Exit → Mem → Option Out
  | .normal, m => some ⟨.normal, #[.bool true], m.put l (some (.loop .ready none f t ps asg body))⟩
  | .ret, m => some ⟨.normal, #[.bool false], m.put l (some (.loop .done (some .ret) f t ps asg body))⟩
  | .exit i, m => some ⟨.normal, #[.bool false], m.put l (some (.loop .done (some (.exit i)) f t ps asg body))⟩
  | _, _ => none

theorem RoundQ.enter {l : Nat} {f : FuncId} {n : Nat} {t : Fr} {ps : Array Tmp} {asg body : Code} {pend : Option Code} {ca cb : MC} {m : Mem} (hm : m.get l = some (.loop .ready pend f (arr n t) ps asg body))
    (ha : compile E f n asg = some ca) (hb : compile E f n body = some cb) (hp : ∀ p ∈ ps.toList, p < n) {args : List Value} (hs : args.length = ps.size) {K : Value → Mem → Prop}
    (h : wpM E f n (some l) ca (fun x t1 m1 => x = .normal ∧ m1.get l = m.get l ∧ wpM E f n (some l) cb (roundK l f (arr n t) ps asg body K) t1 (m1.put l (some (.loop .busy pend f (arr n t) ps asg body)))) (parF ps.toList args (cutF n t)) m) :
    RoundQ E l args.toArray m K := by
  have hf := (frOf_cut n t).params ps.toList args hp
  obtain ⟨n1, o1, r1, fr1, hf1, hx1, hg1, h1⟩ := wpM_sound asg ca ha _ _ _ m hf h
  obtain ⟨n2, o2, r2, fr2, hf2, ⟨pend2, hg2⟩, h2⟩ := wpM_sound body cb hb _ _ _ _ hf1 h1
  obtain ⟨x1, t1, m1⟩ := o1
  simp only at hx1 hg1 r2 hf1
  subst hx1
  obtain ⟨x2, t2, m2⟩ := o2
  simp only at hg2 h2
  have r1' := run_mono (Nat.le_max_left n1 n2) r1
  have r2' := run_mono (Nat.le_max_right n1 n2) r2
  refine ⟨max n1 n2 + 1, ?_⟩
  have key : run E (max n1 n2 + 1) (.round l args.toArray) m = roundOut l f (arr n t) ps asg body x2 m2 := by
    show stepT E (run E (max n1 n2)) _ _ = _
    simp only [stepT, hm]
    rw [if_pos (by simpa using hs), r1']
    simp only [hg1, hm]
    rw [r2']
    simp only [hg2]
    cases x2 <;> rfl
  rw [key]
  cases x2 with
  | normal => exact ⟨_, _, rfl, h2⟩
  | ret => exact ⟨_, _, rfl, h2⟩
  | exit i => exact ⟨_, _, rfl, h2⟩
  | _ => exact h2.elim

/-! ### Iterators -/
abbrev Set' := Nat → Prop

/-- What stays as it is. -/
def Frozen (Z : Nat → Option Blk) (m : Mem) : Prop := ∀ i b, Z i = some b → m.get i = some b
/-- Only these blocks have changed; more may be there. -/
structure ChgS (A : Set') (m m' : Mem) : Prop where
  size : m.size ≤ m'.size
  get : ∀ i, i < m.size → ¬ A i → m'.get i = m.get i
/-- A property of some blocks. -/
def LocP (J : Mem → Set' → Prop) : Prop := ∀ m m' A, J m A → (∀ i, A i → m'.get i = m.get i) → m.size ≤ m'.size → J m' A
/-- Blocks that are there, and that nobody else has. -/
def OwnS (Z : Nat → Option Blk) (F : Set') (m : Mem) (A : Set') : Prop := ∀ i, A i → i < m.size ∧ Z i = none ∧ ¬ F i
/-- Of these, or new. -/
def NewS (A : Set') (m m' : Mem) (A' : Set') : Prop := ∀ i, A' i → i < m'.size ∧ (A i ∨ m.size ≤ i)

theorem ChgS.refl (A : Set') (m : Mem) : ChgS A m m := ⟨Nat.le_refl _, fun _ _ _ => rfl⟩
theorem ChgS.trans {A B C : Set'} {m m1 m2 : Mem} (h : ChgS A m m1) (k : ChgS B m1 m2) (ha : ∀ i, A i → C i) (hb : ∀ i, i < m.size → B i → C i) : ChgS C m m2 :=
  ⟨Nat.le_trans h.size k.size, fun i hi hc => (k.get i (Nat.lt_of_lt_of_le hi h.size) fun e => hc (hb i hi e)).trans (h.get i hi fun e => hc (ha i e))⟩
theorem ChgS.mono {A B : Set'} {m m1 : Mem} (h : ChgS A m m1) (k : ∀ i, A i → B i) : ChgS B m m1 := ⟨h.size, fun i hi hb => h.get i hi fun e => hb (k i e)⟩
theorem Old.chg {m m' : Mem} (h : Old m m') (A : Set') : ChgS A m m' := ⟨h.size, fun i hi _ => h.get hi⟩
theorem ChgS.put {A : Set'} {m m' : Mem} (h : ChgS A m m') (i : Nat) (b : Option Blk) (hi : A i ∨ m.size ≤ i) : ChgS A m (m'.put i b) :=
  ⟨by rw [size_put]; exact h.size, fun j hj ha => by
    rw [getM_put, if_neg]
    · exact h.get j hj ha
    · rintro ⟨rfl, _⟩
      rcases hi with hi | hi
      · exact ha hi
      · omega⟩
theorem ChgS.push {A : Set'} {m m' : Mem} (h : ChgS A m m') (b : Blk) : ChgS A m (m'.push b) :=
  ⟨by rw [size_push]; exact Nat.le_succ_of_le h.size, fun j hj ha => by rw [getM_push, if_neg (by have := h.size; omega)]; exact h.get j hj ha⟩
theorem Frozen.lt {Z : Nat → Option Blk} {m : Mem} (h : Frozen Z m) {i : Nat} {b : Blk} (hi : Z i = some b) : i < m.size := getM_lt (h i b hi)
theorem Frozen.free {Z : Nat → Option Blk} {m : Mem} (h : Frozen Z m) {i : Nat} (hi : m.size ≤ i) : Z i = none := by
  cases e : Z i with
  | none => rfl
  | some b => have := h.lt e; omega
theorem Frozen.chg {Z : Nat → Option Blk} {m m' : Mem} {A : Set'} (h : Frozen Z m) (k : ChgS A m m') (ha : ∀ i, A i → Z i = none) : Frozen Z m' := fun i b hi => by
  rw [k.get i (h.lt hi) fun e => by rw [ha i e] at hi; cases hi]
  exact h i b hi

/-- An iterator: it yields n times; its own blocks F are at each time as told; what it yields may come with blocks. -/
structure Iter (E : Env) (Z : Nat → Option Blk) (F : Set') (s : Value) (n : Nat) (Own : Nat → Mem → Prop) (El : Nat → List Value → Mem → Set' → Prop) : Prop where
  fn : ∃ h first captured, s = .func (.func h) first captured
  locO : ∀ k m m', Own k m → (∀ i, F i → m'.get i = m.get i) → Own k m'
  locE : ∀ k vs, LocP (El k vs)
  go : ∀ (y : Value) (_ : ∃ g a b, y = .func g a b) (I D : Nat → Mem → Set' → Prop), (∀ k, LocP (I k)) → (∀ k, LocP (D k)) →
    (∀ k vs m A B, k < n → Frozen Z m → OwnS Z F m A → OwnS Z F m B → (∀ i, A i → ¬ B i) → (∀ i, F i → i < m.size) → Own (k + 1) m → I k m A → El k vs m B →
      CallF E y vs m fun w m' => ∃ A', ChgS (fun i => A i ∨ B i) m m' ∧ NewS (fun i => A i ∨ B i) m m' A' ∧ (w = .bool true ∧ I (k + 1) m' A' ∨ w = .bool false ∧ D k m' A')) →
    ∀ m A, Frozen Z m → OwnS Z F m A → (∀ i, F i → i < m.size ∧ Z i = none) → Own 0 m → I 0 m A →
      CallF E s [y] m fun _ m' => ∃ A', ChgS (fun i => A i ∨ F i) m m' ∧ NewS A m m' A' ∧ (Own (n + 1) m' ∧ I n m' A' ∨ ∃ k, k < n ∧ Own (k + 1) m' ∧ D k m' A')

section range
variable {Z : Nat → Option Blk} {F : Set'} {s : Value} {n : Nat} {Own : Nat → Mem → Prop} {El : Nat → List Value → Mem → Set' → Prop}

/-- What a round of a range must bring about. -/
def RoundOk (Z : Nat → Option Blk) (F : Set') (J : Mem → Set' → Prop) (JD : Exit → Mem → Set' → Prop) (m1 : Mem) (l : Nat) (AB : Set') (m3 : Mem) : Post3 := fun x _ m4 =>
  m4.get l = m3.get l ∧ m1.size ≤ m4.size ∧ (∀ i, i < m1.size → i ≠ l → ¬ AB i → m4.get i = m1.get i) ∧ ∃ A', NewS AB m1 m4 A' ∧ match x with
    | .normal => J m4 A'
    | x => (x = .ret ∨ ∃ i, x = .exit i) ∧ JD x m4 A'

theorem wpM_range (hs : Iter E Z F s n Own El) {f : FuncId} {nn : Nat} {rd : Option Nat} {g : Operand} {ps : Array Tmp} {asg body : Code} {ca cb : MC} {t : Fr} {m : Mem} {A : Set'} {K : Post3}
    (hg : evF t g = s) (hl : inLoop m rd = true) (ha : compile E f nn asg = some ca) (hb : compile E f nn body = some cb) (hp : ∀ p ∈ ps.toList, p < nn)
    (J : Nat → Mem → Set' → Prop) (JD : Nat → Exit → Mem → Set' → Prop) (lJ : ∀ k, LocP (J k)) (lD : ∀ k x, LocP (JD k x))
    (z : Frozen Z m) (o : OwnS Z F m A) (hF : ∀ i, F i → i < m.size ∧ Z i = none) (own0 : Own 0 m) (j0 : J 0 m A)
    (step : ∀ k vs m1 A B l, k < n → Frozen Z m1 → OwnS Z F m1 A → OwnS Z F m1 B → (∀ i, A i → ¬ B i) → (∀ i, F i → i < m1.size) → Own (k + 1) m1 → J k m1 A → El k vs m1 B → l < m1.size → Z l = none → ¬ F l → ¬ A l → ¬ B l → inLoop m1 (some l) = true → m.size ≤ l →
      vs.length = ps.size ∧ wpM E f nn (some l) ca (fun x t1 m2 => x = .normal ∧ m2.get l = m1.get l ∧ ∀ m3, m3.size = m2.size → (∀ i, i ≠ l → m3.get i = m2.get i) → inLoop m3 (some l) = true →
        wpM E f nn (some l) cb (RoundOk Z F (J (k + 1)) (JD k) m1 l (fun i => A i ∨ B i) m3) t1 m3) (parF ps.toList vs (cutF nn t)) m1)
    (post1 : ∀ m' A', Frozen Z m' → OwnS Z F m' A' → Own (n + 1) m' → J n m' A' → ChgS (fun i => A i ∨ F i) m m' → NewS A m m' A' → K .normal t m')
    (post2 : ∀ k x m' A', k < n → Frozen Z m' → OwnS Z F m' A' → Own (k + 1) m' → (x = .ret ∨ ∃ i, x = .exit i) → JD k x m' A' → ChgS (fun i => A i ∨ F i) m m' → NewS A m m' A' → K x t m') :
    wpM E f nn rd (.range g ps asg body) K t m := by
  obtain ⟨h, first, captured, rfl⟩ := hs.fn
  have own := hs.locO
  let L : Nat := m.size
  let blk (st : LoopState) (pend : Option Code) : Blk := .loop st pend f (arr nn t) ps asg body
  let I : Nat → Mem → Set' → Prop := fun k m' A' => ∃ A0, J k m' A0 ∧ ¬ A0 L ∧ (∀ i, A' i ↔ A0 i ∨ i = L) ∧ m'.get L = some (blk .ready none)
  let D : Nat → Mem → Set' → Prop := fun k m' A' => ∃ A0 x, (x = .ret ∧ m'.get L = some (blk .done (some .ret)) ∨ ∃ i, x = .exit i ∧ m'.get L = some (blk .done (some (.exit i)))) ∧ JD k x m' A0 ∧ ¬ A0 L ∧ (∀ i, A' i ↔ A0 i ∨ i = L)
  have locI : ∀ k, LocP (I k) := by
    intro k m1 m2 A' ⟨A0, h1, h2, h3, h4⟩ hk hs'
    exact ⟨A0, lJ k m1 m2 A0 h1 (fun i hi => hk i ((h3 i).2 (.inl hi))) hs', h2, h3, by rw [hk L ((h3 L).2 (.inr rfl))]; exact h4⟩
  have locD : ∀ k, LocP (D k) := by
    intro k m1 m2 A' ⟨A0, x, h4, h1, h2, h3⟩ hk hs'
    refine ⟨A0, x, ?_, lD k x m1 m2 A0 h1 (fun i hi => hk i ((h3 i).2 (.inl hi))) hs', h2, h3⟩
    rw [hk L ((h3 L).2 (.inr rfl))]
    exact h4
  have zL : Z L = none := z.free (Nat.le_refl _)
  have fL : ¬ F L := fun e => by have := (hF L e).1; exact Nat.lt_irrefl _ this
  have aL : ¬ A L := fun e => by have := (o L e).1; exact Nat.lt_irrefl _ this
  have zn : ∀ i, i ≠ L → ∀ (mm : Mem) (b : Option Blk), (mm.put L b).get i = mm.get i := fun i hi mm b => by rw [getM_put, if_neg (fun e => hi e.1)]
  have hcall := hs.go (.func (.yield L) #[] #[]) ⟨_, _, _, rfl⟩ I D locI locD (fun k vs m1 A1 B hk z1 o1 o2 dis hF1 ow ⟨A0, h1, h2, h3, h4⟩ el => ?_) (m.push (blk .ready none)) (fun i => A i ∨ i = L)
    (fun i b hi => by rw [getM_push, if_neg (by have := z.lt hi; omega)]; exact z i b hi)
    (fun i hi => by
      rw [size_push]
      rcases hi with hi | rfl
      · have := o i hi; exact ⟨by omega, this.2⟩
      · exact ⟨Nat.lt_succ_self _, zL, fL⟩)
    (fun i hi => ⟨by rw [size_push]; have := (hF i hi).1; omega, (hF i hi).2⟩)
    (own 0 m _ own0 fun i hi => by rw [getM_push, if_neg (by have := (hF i hi).1; omega)])
    ⟨A, lJ 0 m _ A j0 (fun i hi => by rw [getM_push, if_neg (by have := (o i hi).1; omega)]) (by rw [size_push]; omega), aL, fun i => Iff.rfl, by rw [getM_push, if_pos rfl]⟩
  · -- the call's end
    obtain ⟨hsome, hc⟩ := hcall
    refine ⟨h, first, captured, hg, hsome, hl, ?_⟩
    refine hc.mono fun v m1 ⟨A', c1, c2, c3⟩ => ?_
    have zA : ∀ i, (A i ∨ i = L) ∨ F i → Z i = none := by
      rintro i ((e | rfl) | e)
      · exact (o i e).2.1
      · exact zL
      · exact (hF i e).2
    have hsz : m.size ≤ m1.size := Nat.le_trans (by rw [size_push]; omega) c1.size
    have z0 : Frozen Z (m.push (blk .ready none)) := fun i b hi => by rw [getM_push, if_neg (by have := z.lt hi; omega)]; exact z i b hi
    have z1 : Frozen Z m1 := z0.chg c1 zA
    -- what the end looks like
    have fin : ∀ (mm : Mem) (A0 : Set') (st : Option Blk), mm = m1.put L st → (∀ i, A0 i → A' i) → ¬ A0 L →
        Frozen Z mm ∧ OwnS Z F mm A0 ∧ ChgS (fun i => A i ∨ F i) m mm ∧ NewS A m mm A0 := by
      rintro mm A0 st rfl e1 e2
      have hA0 : ∀ i, A0 i → i < m1.size ∧ (A i ∨ m.size ≤ i) := by
        intro i hi
        have := c2 i (e1 i hi)
        refine ⟨this.1, ?_⟩
        rcases this.2 with (e | rfl) | e
        · exact .inl e
        · exact absurd hi e2
        · rw [size_push] at e; exact .inr (by omega)
      refine ⟨fun i b hi => ?_, fun i hi => ?_, ⟨by rw [size_put]; exact hsz, fun i hi hne => ?_⟩, fun i hi => ?_⟩
      · rw [zn i (fun e => by subst e; rw [zL] at hi; cases hi)]
        exact z1 i b hi
      · rw [size_put]
        refine ⟨(hA0 i hi).1, ?_⟩
        rcases (hA0 i hi).2 with e | e
        · exact (o i e).2
        · exact ⟨z.free e, fun h => by have := (hF i h).1; omega⟩
      · have hiL : i ≠ L := by have : i < L := hi; omega
        rw [zn i hiL, c1.get i (by rw [size_push]; omega) (by
          rintro ((e | e) | e)
          · exact hne (.inl e)
          · exact hiL e
          · exact hne (.inr e)), getM_push, if_neg (by omega)]
      · rw [size_put]; exact hA0 i hi
    have keepOwn : ∀ k (b : Option Blk), Own k m1 → Own k (m1.put L b) := fun k b h => own k m1 _ h fun i hi => zn i (fun e => by subst e; exact fL hi) _ _
    rcases c3 with ⟨ow, A0, h1, h2, h3, h4⟩ | ⟨k, hk, ow, A0, x, h4, h1, h2, h3⟩
    · refine ⟨.ready, none, f, arr nn t, ps, asg, body, h4, fun e => (nomatch e), ?_⟩
      obtain ⟨f1, f2, f3, f4⟩ := fin _ A0 (some (.loop .exhausted none f (arr nn t) ps asg body)) rfl (fun i hi => (h3 i).2 (.inl hi)) h2
      exact post1 _ A0 f1 f2 (keepOwn _ _ ow) (lJ n m1 _ A0 h1 (fun i hi => zn i (fun e => by subst e; exact h2 hi) _ _) (by rw [size_put]; omega)) f3 f4
    · rcases h4 with ⟨rfl, h4⟩ | ⟨i, rfl, h4⟩
      · refine ⟨.done, some .ret, f, arr nn t, ps, asg, body, h4, fun e => (nomatch e), ?_⟩
        obtain ⟨f1, f2, f3, f4⟩ := fin _ A0 (some (.loop .exhausted (some .ret) f (arr nn t) ps asg body)) rfl (fun i hi => (h3 i).2 (.inl hi)) h2
        exact post2 k .ret _ A0 hk f1 f2 (keepOwn _ _ ow) (.inl rfl) (lD k _ m1 _ A0 h1 (fun i hi => zn i (fun e => by subst e; exact h2 hi) _ _) (by rw [size_put]; omega)) f3 f4
      · refine ⟨.done, some (.exit i), f, arr nn t, ps, asg, body, h4, fun e => (nomatch e), ?_⟩
        obtain ⟨f1, f2, f3, f4⟩ := fin _ A0 (some (.loop .exhausted (some (.exit i)) f (arr nn t) ps asg body)) rfl (fun i hi => (h3 i).2 (.inl hi)) h2
        exact post2 k (.exit i) _ A0 hk f1 f2 (keepOwn _ _ ow) (.inr ⟨i, rfl⟩) (lD k _ m1 _ A0 h1 (fun i hi => zn i (fun e => by subst e; exact h2 hi) _ _) (by rw [size_put]; omega)) f3 f4
  · -- a round
    have hLs : L < m1.size := getM_lt h4
    have oA0 : OwnS Z F m1 A0 := fun i hi => o1 i ((h3 i).2 (.inl hi))
    have bL : ¬ B L := dis L ((h3 L).2 (.inr rfl))
    obtain ⟨hlen, hw⟩ := step k vs m1 A0 B L hk z1 oA0 o2 (fun i hi => dis i ((h3 i).2 (.inl hi))) hF1 ow h1 el hLs zL fL h2 bL (by simp only [inLoop, h4, blk]) (Nat.le_refl _)
    rw [CallF_yield, Array.empty_append]
    refine RoundQ.enter (pend := none) h4 ha hb hp hlen (wpM_mono ca _ _ (fun x t1 m2 ⟨e1, e2, e3⟩ => ⟨e1, e2, ?_⟩) _ _ hw)
    have h2L : L < m2.size := getM_lt (e2.trans h4)
    have hb3 : (m2.put L (some (blk .busy none))).get L = some (blk .busy none) := by rw [getM_put, if_pos ⟨rfl, h2L⟩]
    refine wpM_mono cb _ _ (fun x t2 m4 hr => ?_) _ _ (e3 (m2.put L (some (blk .busy none))) (by rw [size_put]) (fun i hi => zn i hi _ _) (by simp only [inLoop, hb3, blk]))
    obtain ⟨r1, r2, r3, A', r4, r5⟩ := hr
    rw [hb3] at r1
    have h4L : L < m4.size := getM_lt r1
    have aL' : ¬ A' L := fun e => by
      rcases (r4 L e).2 with (e | e) | e
      · exact h2 e
      · exact bL e
      · omega
    refine ⟨⟨none, r1⟩, ?_⟩
    have common : ∀ b : Option Blk, ChgS (fun i => A1 i ∨ B i) m1 (m4.put L b) ∧ NewS (fun i => A1 i ∨ B i) m1 (m4.put L b) (fun i => A' i ∨ i = L) := by
      intro b
      refine ⟨⟨by rw [size_put]; exact r2, fun i hi hne => ?_⟩, fun i hi => ?_⟩
      · have hiL : i ≠ L := fun e => hne (.inl ((h3 i).2 (.inr e)))
        rw [zn i hiL]
        exact r3 i hi hiL fun e => hne (e.imp (fun e => (h3 i).2 (.inl e)) id)
      · rw [size_put]
        rcases hi with hi | rfl
        · refine ⟨(r4 i hi).1, ?_⟩
          rcases (r4 i hi).2 with (e | e) | e
          · exact .inl (.inl ((h3 i).2 (.inl e)))
          · exact .inl (.inr e)
          · exact .inr e
        · exact ⟨h4L, .inl (.inl ((h3 L).2 (.inr rfl)))⟩
    have put4 : ∀ (b : Blk), (m4.put L (some b)).get L = some b := fun b => by rw [getM_put, if_pos ⟨rfl, h4L⟩]
    have keep : ∀ (b : Option Blk) i, A' i → (m4.put L b).get i = m4.get i := fun b i hi => zn i (fun e => by subst e; exact aL' hi) _ _
    cases x with
    | normal => exact ⟨_, (common _).1, (common _).2, .inl ⟨rfl, A', lJ _ _ _ _ r5 (keep _) (by rw [size_put]; omega), aL', fun i => Iff.rfl, put4 _⟩⟩
    | ret => exact ⟨_, (common _).1, (common _).2, .inr ⟨rfl, A', .ret, .inl ⟨rfl, put4 _⟩, lD _ _ _ _ _ r5.2 (keep _) (by rw [size_put]; omega), aL', fun i => Iff.rfl⟩⟩
    | exit i => exact ⟨_, (common _).1, (common _).2, .inr ⟨rfl, A', .exit i, .inr ⟨i, rfl, put4 _⟩, lD _ _ _ _ _ r5.2 (keep _) (by rw [size_put]; omega), aL', fun i => Iff.rfl⟩⟩
    | _ =>
      obtain ⟨e | ⟨i, e⟩, _⟩ := r5 <;> cases e

/-- The same, where the loop's variables are but assigned. -/
theorem wpM_rangeP (hs : Iter E Z F s n Own El) {f : FuncId} {nn : Nat} {rd : Option Nat} {g : Operand} {ps : Array Tmp} {asg body : Code} {ca cb : MC} {t : Fr} {m : Mem} {A : Set'} {K : Post3} (G : Fr → Fr)
    (hg : evF t g = s) (hl : inLoop m rd = true) (ha : compile E f nn asg = some ca) (hb : compile E f nn body = some cb) (hp : ∀ p ∈ ps.toList, p < nn) (hA : ∀ (K : Post3) l t m, K .normal (G t) m → wpM E f nn (some l) ca K t m)
    (J : Nat → Mem → Set' → Prop) (JD : Nat → Exit → Mem → Set' → Prop) (lJ : ∀ k, LocP (J k)) (lD : ∀ k x, LocP (JD k x))
    (z : Frozen Z m) (o : OwnS Z F m A) (hF : ∀ i, F i → i < m.size ∧ Z i = none) (own0 : Own 0 m) (j0 : J 0 m A)
    (step : ∀ k vs m1 A B l, k < n → Frozen Z m1 → OwnS Z F m1 A → OwnS Z F m1 B → (∀ i, A i → ¬ B i) → Own (k + 1) m1 → J k m1 A → El k vs m1 B → inLoop m1 (some l) = true → m.size ≤ m1.size →
      vs.length = ps.size ∧ wpM E f nn (some l) cb (fun x _ m2 => ∃ A', ChgS (fun i => A i ∨ B i) m1 m2 ∧ NewS (fun i => A i ∨ B i) m1 m2 A' ∧ match x with
        | .normal => J (k + 1) m2 A'
        | x => (x = .ret ∨ ∃ i, x = .exit i) ∧ JD k x m2 A') (G (parF ps.toList vs (cutF nn t))) m1)
    (post1 : ∀ m' A', Frozen Z m' → OwnS Z F m' A' → Own (n + 1) m' → J n m' A' → ChgS (fun i => A i ∨ F i) m m' → NewS A m m' A' → K .normal t m')
    (post2 : ∀ k x m' A', k < n → Frozen Z m' → OwnS Z F m' A' → Own (k + 1) m' → (x = .ret ∨ ∃ i, x = .exit i) → JD k x m' A' → ChgS (fun i => A i ∨ F i) m m' → NewS A m m' A' → K x t m') :
    wpM E f nn rd (.range g ps asg body) K t m := by
  refine wpM_range hs hg hl ha hb hp J JD lJ lD z o hF own0 j0 (fun k vs m1 A B l hk z1 o1 o2 dis hF1 ow j el hl1 zl fl al bl hin hml => ?_) post1 post2
  have hlen : vs.length = ps.size := (step k vs m1 A B l hk z1 o1 o2 dis ow j el hin (by omega)).1
  refine ⟨hlen, hA _ l _ m1 ⟨rfl, rfl, fun m3 hs3 hg3 hin3 => ?_⟩⟩
  have j3 : J k m3 A := lJ k m1 m3 A j (fun i hi => hg3 i fun e => al (e ▸ hi)) (by omega)
  have e3 : El k vs m3 B := hs.locE k vs m1 m3 B el (fun i hi => hg3 i fun e => bl (e ▸ hi)) (by omega)
  have w3 : Own (k + 1) m3 := hs.locO _ m1 m3 ow fun i hi => hg3 i fun e => fl (e ▸ hi)
  have z3 : Frozen Z m3 := fun i b hi => by
    rw [hg3 i fun e => by subst e; rw [zl] at hi; cases hi]
    exact z1 i b hi
  obtain ⟨_, hw⟩ := step k vs m3 A B l hk z3 (fun i hi => by rw [hs3]; exact o1 i hi) (fun i hi => by rw [hs3]; exact o2 i hi) dis w3 j3 e3 hin3 (by omega)
  refine wpM_mono cb _ _ (fun x t2 m4 hr => ?_) _ _ hw
  obtain ⟨A', c1, c2, c3⟩ := hr
  refine ⟨c1.get l (by omega) (fun e => e.elim al bl), by have := c1.size; omega, fun i hi hne hab => ?_, A', fun i hi => ?_, c3⟩
  · rw [c1.get i (by omega) hab, hg3 i hne]
  · have := c2 i hi
    rw [hs3] at this
    exact this
end range

/-! ### How far an iterator has come -/
/-- From m on a consumer with the blocks A has come to m1; its blocks are A1 now. -/
structure Adv (Z : Nat → Option Blk) (F : Set') (A : Set') (m m1 : Mem) (A1 : Set') : Prop where
  chg : ChgS (fun i => A i ∨ F i) m m1
  new : NewS A m m1 A1
  fz : Frozen Z m1
  own : OwnS Z F m1 A1

section adv
variable {Z : Nat → Option Blk} {F A A1 A2 B : Set'} {m m1 m2 : Mem}
theorem Adv.refl (z : Frozen Z m) (o : OwnS Z F m A) : Adv Z F A m m A := ⟨.refl _ _, fun i hi => ⟨(o i hi).1, .inl hi⟩, z, o⟩
/-- Blocks that are not the consumer's have changed. -/
theorem Adv.priv (h : Adv Z F A m m1 A1) (hs : m1.size ≤ m2.size) (k : ∀ i, i < m1.size → i < m.size → m2.get i = m1.get i) (hz : ∀ i b, Z i = some b → m2.get i = m1.get i) : Adv Z F A m m2 A1 where
  chg := ⟨Nat.le_trans h.chg.size hs, fun i hi ha => (k i (Nat.lt_of_lt_of_le hi h.chg.size) hi).trans (h.chg.get i hi ha)⟩
  new := fun i hi => ⟨Nat.lt_of_lt_of_le (h.new i hi).1 hs, (h.new i hi).2⟩
  fz := fun i b hi => (hz i b hi).trans (h.fz i b hi)
  own := fun i hi => ⟨Nat.lt_of_lt_of_le (h.own i hi).1 hs, (h.own i hi).2⟩
theorem Adv.old (h : Adv Z F A m m1 A1) (k : Old m1 m2) : Adv Z F A m m2 A1 := h.priv k.size (fun i hi _ => k.get hi) fun i b hi => k.get (h.fz.lt hi)
/-- A yield. -/
theorem Adv.step (h : Adv Z F A m m1 A1) (c : ChgS (fun i => A1 i ∨ B i) m1 m2) (n : NewS (fun i => A1 i ∨ B i) m1 m2 A2) (hB : ∀ i, B i → m.size ≤ i ∧ Z i = none) (hF : ∀ i, F i → i < m.size) : Adv Z F A m m2 A2 where
  chg := ⟨Nat.le_trans h.chg.size c.size, fun i hi ha => by
    rw [c.get i (Nat.lt_of_lt_of_le hi h.chg.size) (by
      rintro (e | e)
      · rcases (h.new i e).2 with e | e
        · exact ha (.inl e)
        · omega
      · have := (hB i e).1; omega)]
    exact h.chg.get i hi ha⟩
  new := fun i hi => ⟨(n i hi).1, by
    rcases (n i hi).2 with (e | e) | e
    · exact (h.new i e).2
    · exact .inr (hB i e).1
    · exact .inr (Nat.le_trans h.chg.size e)⟩
  fz := h.fz.chg c fun i hi => hi.elim (fun e => (h.own i e).2.1) fun e => (hB i e).2
  own := fun i hi => ⟨(n i hi).1, by
    rcases (n i hi).2 with (e | e) | e
    · exact (h.own i e).2
    · exact ⟨(hB i e).2, fun f => by have := hF i f; have := (hB i e).1; omega⟩
    · exact ⟨h.fz.free e, fun f => by have := hF i f; have := h.chg.size; omega⟩⟩
end adv

/-- What is yielded: values alone. -/
def pureEl (f : Nat → List Value) : Nat → List Value → Mem → Set' → Prop := fun k vs _ _ => vs = f k
theorem pureEl_loc (f : Nat → List Value) (k : Nat) (vs : List Value) : LocP (pureEl f k vs) := fun _ _ _ h _ _ => h
def anyO : Nat → Mem → Prop := fun _ _ => True
def none' : Set' := fun _ => False
end Go.Abs
