/-
  Iterators whose own blocks are otherwise when they are left.
-/
import Derived.Test.YthlcbacmbcmgfaaAbs25
namespace Go.Abs
/-- An iterator; when it is left its own blocks are as OwD tells. -/
structure IterD (E : Env) (Z : Nat → Option Blk) (F : Set') (s : Value) (n : Nat) (Own OwD : Nat → Mem → Prop) (El : Nat → List Value → Mem → Set' → Prop) : Prop where
  fn : ∃ h first captured, s = .func (.func h) first captured
  locO : ∀ k m m', Own k m → (∀ i, F i → m'.get i = m.get i) → Own k m'
  locD : ∀ k m m', OwD k m → (∀ i, F i → m'.get i = m.get i) → OwD k m'
  locE : ∀ k vs, LocP (El k vs)
  go : ∀ (y : Value) (_ : ∃ g a b, y = .func g a b) (I D : Nat → Mem → Set' → Prop), (∀ k, LocP (I k)) → (∀ k, LocP (D k)) →
    (∀ k vs m A B, k < n → Frozen Z m → OwnS Z F m A → OwnS Z F m B → (∀ i, A i → ¬ B i) → (∀ i, F i → i < m.size) → Own (k + 1) m → I k m A → El k vs m B →
      CallF E y vs m fun w m' => ∃ A', ChgS (fun i => A i ∨ B i) m m' ∧ NewS (fun i => A i ∨ B i) m m' A' ∧ (w = .bool true ∧ I (k + 1) m' A' ∨ w = .bool false ∧ D k m' A')) →
    ∀ m A, Frozen Z m → OwnS Z F m A → (∀ i, F i → i < m.size ∧ Z i = none) → Own 0 m → I 0 m A →
      CallF E s [y] m fun _ m' => ∃ A', ChgS (fun i => A i ∨ F i) m m' ∧ NewS A m m' A' ∧ (Own (n + 1) m' ∧ I n m' A' ∨ ∃ k, k < n ∧ OwD k m' ∧ D k m' A')

section range
variable {E : Env} {Z : Nat → Option Blk} {F : Set'} {s : Value} {n : Nat} {Own OwD : Nat → Mem → Prop} {El : Nat → List Value → Mem → Set' → Prop}

theorem wpM_rangeD (hs : IterD E Z F s n Own OwD El) {f : FuncId} {nn : Nat} {rd : Option Nat} {g : Operand} {ps : Array Tmp} {asg body : Code} {ca cb : MC} {t : Fr} {m : Mem} {A : Set'} {K : Post3}
    (hg : evF t g = s) (hl : inLoop m rd = true) (ha : compile E f nn asg = some ca) (hb : compile E f nn body = some cb) (hp : ∀ p ∈ ps.toList, p < nn)
    (J : Nat → Mem → Set' → Prop) (JD : Nat → Exit → Mem → Set' → Prop) (lJ : ∀ k, LocP (J k)) (lD : ∀ k x, LocP (JD k x))
    (z : Frozen Z m) (o : OwnS Z F m A) (hF : ∀ i, F i → i < m.size ∧ Z i = none) (own0 : Own 0 m) (j0 : J 0 m A)
    (step : ∀ k vs m1 A B l, k < n → Frozen Z m1 → OwnS Z F m1 A → OwnS Z F m1 B → (∀ i, A i → ¬ B i) → (∀ i, F i → i < m1.size) → Own (k + 1) m1 → J k m1 A → El k vs m1 B → l < m1.size → Z l = none → ¬ F l → ¬ A l → ¬ B l → inLoop m1 (some l) = true → m.size ≤ l →
      vs.length = ps.size ∧ wpM E f nn (some l) ca (fun x t1 m2 => x = .normal ∧ m2.get l = m1.get l ∧ ∀ m3, m3.size = m2.size → (∀ i, i ≠ l → m3.get i = m2.get i) → inLoop m3 (some l) = true →
        wpM E f nn (some l) cb (RoundOk Z F (J (k + 1)) (JD k) m1 l (fun i => A i ∨ B i) m3) t1 m3) (parF ps.toList vs (cutF nn t)) m1)
    (post1 : ∀ m' A', Frozen Z m' → OwnS Z F m' A' → Own (n + 1) m' → J n m' A' → ChgS (fun i => A i ∨ F i) m m' → NewS A m m' A' → K .normal t m')
    (post2 : ∀ k x m' A', k < n → Frozen Z m' → OwnS Z F m' A' → OwD k m' → (x = .ret ∨ ∃ i, x = .exit i) → JD k x m' A' → ChgS (fun i => A i ∨ F i) m m' → NewS A m m' A' → K x t m') :
    wpM E f nn rd (.range g ps asg body) K t m := by
  obtain ⟨h, first, captured, rfl⟩ := hs.fn
  have own := hs.locO
  have ownD := hs.locD
  let L : Nat := m.size
  let blk (st : LoopState) (pend : Option Code) : Blk := .loop st pend f (arr nn t) ps asg body
  let I : Nat → Mem → Set' → Prop := fun k m' A' => ∃ A0, J k m' A0 ∧ ¬ A0 L ∧ (∀ i, A' i ↔ A0 i ∨ i = L) ∧ m'.get L = some (blk .ready none)
  let D : Nat → Mem → Set' → Prop := fun k m' A' => ∃ A0 x, (x = .ret ∧ m'.get L = some (blk .done (some .ret)) ∨ ∃ i, x = .exit i ∧ m'.get L = some (blk .done (some (.exit i)))) ∧ JD k x m' A0 ∧ ¬ A0 L ∧ (∀ i, A' i ↔ A0 i ∨ i = L)
  have locI : ∀ k, LocP (I k) := by
    intro k m1 m2 A' ⟨A0, h1, h2, h3, h4⟩ hk hs'
    exact ⟨A0, lJ k m1 m2 A0 h1 (fun i hi => hk i ((h3 i).2 (.inl hi))) hs', h2, h3, by rw [hk L ((h3 L).2 (.inr rfl))]; exact h4⟩
  have locD : ∀ k, LocP (D k) := by
    intro k m1 m2 A' ⟨A0, x, h4, h1, h2, h3⟩ hk hs'
    refine ⟨A0, x, ?_, lD k x m1 m2 A0 h1 (fun i hi => hk i ((h3 i).2 (.inl hi))) hs', h2, h3⟩
    rw [hk L ((h3 L).2 (.inr rfl))]
    exact h4
  have zL : Z L = none := z.free (Nat.le_refl _)
  have fL : ¬ F L := fun e => by have := (hF L e).1; exact Nat.lt_irrefl _ this
  have aL : ¬ A L := fun e => by have := (o L e).1; exact Nat.lt_irrefl _ this
  have zn : ∀ i, i ≠ L → ∀ (mm : Mem) (b : Option Blk), (mm.put L b).get i = mm.get i := fun i hi mm b => by rw [getM_put, if_neg (fun e => hi e.1)]
  have hcall := hs.go (.func (.yield L) #[] #[]) ⟨_, _, _, rfl⟩ I D locI locD (fun k vs m1 A1 B hk z1 o1 o2 dis hF1 ow ⟨A0, h1, h2, h3, h4⟩ el => ?_) (m.push (blk .ready none)) (fun i => A i ∨ i = L)
    (fun i b hi => by rw [getM_push, if_neg (by have := z.lt hi; omega)]; exact z i b hi)
    (fun i hi => by
      rw [size_push]
      rcases hi with hi | rfl
      · have := o i hi; exact ⟨by omega, this.2⟩
      · exact ⟨Nat.lt_succ_self _, zL, fL⟩)
    (fun i hi => ⟨by rw [size_push]; have := (hF i hi).1; omega, (hF i hi).2⟩)
    (own 0 m _ own0 fun i hi => by rw [getM_push, if_neg (by have := (hF i hi).1; omega)])
    ⟨A, lJ 0 m _ A j0 (fun i hi => by rw [getM_push, if_neg (by have := (o i hi).1; omega)]) (by rw [size_push]; omega), aL, fun i => Iff.rfl, by rw [getM_push, if_pos rfl]⟩
  · -- the call's end
    obtain ⟨hsome, hc⟩ := hcall
    refine ⟨h, first, captured, hg, hsome, hl, ?_⟩
    refine hc.mono fun v m1 ⟨A', c1, c2, c3⟩ => ?_
    have zA : ∀ i, (A i ∨ i = L) ∨ F i → Z i = none := by
      rintro i ((e | rfl) | e)
      · exact (o i e).2.1
      · exact zL
      · exact (hF i e).2
    have hsz : m.size ≤ m1.size := Nat.le_trans (by rw [size_push]; omega) c1.size
    have z0 : Frozen Z (m.push (blk .ready none)) := fun i b hi => by rw [getM_push, if_neg (by have := z.lt hi; omega)]; exact z i b hi
    have z1 : Frozen Z m1 := z0.chg c1 zA
    -- what the end looks like
    have fin : ∀ (mm : Mem) (A0 : Set') (st : Option Blk), mm = m1.put L st → (∀ i, A0 i → A' i) → ¬ A0 L →
        Frozen Z mm ∧ OwnS Z F mm A0 ∧ ChgS (fun i => A i ∨ F i) m mm ∧ NewS A m mm A0 := by
      rintro mm A0 st rfl e1 e2
      have hA0 : ∀ i, A0 i → i < m1.size ∧ (A i ∨ m.size ≤ i) := by
        intro i hi
        have := c2 i (e1 i hi)
        refine ⟨this.1, ?_⟩
        rcases this.2 with (e | rfl) | e
        · exact .inl e
        · exact absurd hi e2
        · rw [size_push] at e; exact .inr (by omega)
      refine ⟨fun i b hi => ?_, fun i hi => ?_, ⟨by rw [size_put]; exact hsz, fun i hi hne => ?_⟩, fun i hi => ?_⟩
      · rw [zn i (fun e => by subst e; rw [zL] at hi; cases hi)]
        exact z1 i b hi
      · rw [size_put]
        refine ⟨(hA0 i hi).1, ?_⟩
        rcases (hA0 i hi).2 with e | e
        · exact (o i e).2
        · exact ⟨z.free e, fun h => by have := (hF i h).1; omega⟩
      · have hiL : i ≠ L := by have : i < L := hi; omega
        rw [zn i hiL, c1.get i (by rw [size_push]; omega) (by
          rintro ((e | e) | e)
          · exact hne (.inl e)
          · exact hiL e
          · exact hne (.inr e)), getM_push, if_neg (by omega)]
      · rw [size_put]; exact hA0 i hi
    have keepOwn : ∀ k (b : Option Blk), Own k m1 → Own k (m1.put L b) := fun k b h => own k m1 _ h fun i hi => zn i (fun e => by subst e; exact fL hi) _ _
    have keepD : ∀ k (b : Option Blk), OwD k m1 → OwD k (m1.put L b) := fun k b h => ownD k m1 _ h fun i hi => zn i (fun e => by subst e; exact fL hi) _ _
    rcases c3 with ⟨ow, A0, h1, h2, h3, h4⟩ | ⟨k, hk, ow, A0, x, h4, h1, h2, h3⟩
    · refine ⟨.ready, none, f, arr nn t, ps, asg, body, h4, fun e => (nomatch e), ?_⟩
      obtain ⟨f1, f2, f3, f4⟩ := fin _ A0 (some (.loop .exhausted none f (arr nn t) ps asg body)) rfl (fun i hi => (h3 i).2 (.inl hi)) h2
      exact post1 _ A0 f1 f2 (keepOwn _ _ ow) (lJ n m1 _ A0 h1 (fun i hi => zn i (fun e => by subst e; exact h2 hi) _ _) (by rw [size_put]; omega)) f3 f4
    · rcases h4 with ⟨rfl, h4⟩ | ⟨i, rfl, h4⟩
      · refine ⟨.done, some .ret, f, arr nn t, ps, asg, body, h4, fun e => (nomatch e), ?_⟩
        obtain ⟨f1, f2, f3, f4⟩ := fin _ A0 (some (.loop .exhausted (some .ret) f (arr nn t) ps asg body)) rfl (fun i hi => (h3 i).2 (.inl hi)) h2
        exact post2 k .ret _ A0 hk f1 f2 (keepD _ _ ow) (.inl rfl) (lD k _ m1 _ A0 h1 (fun i hi => zn i (fun e => by subst e; exact h2 hi) _ _) (by rw [size_put]; omega)) f3 f4
      · refine ⟨.done, some (.exit i), f, arr nn t, ps, asg, body, h4, fun e => (nomatch e), ?_⟩
        obtain ⟨f1, f2, f3, f4⟩ := fin _ A0 (some (.loop .exhausted (some (.exit i)) f (arr nn t) ps asg body)) rfl (fun i hi => (h3 i).2 (.inl hi)) h2
        exact post2 k (.exit i) _ A0 hk f1 f2 (keepD _ _ ow) (.inr ⟨i, rfl⟩) (lD k _ m1 _ A0 h1 (fun i hi => zn i (fun e => by subst e; exact h2 hi) _ _) (by rw [size_put]; omega)) f3 f4
  · -- a round
    have hLs : L < m1.size := getM_lt h4
    have oA0 : OwnS Z F m1 A0 := fun i hi => o1 i ((h3 i).2 (.inl hi))
    have bL : ¬ B L := dis L ((h3 L).2 (.inr rfl))
    obtain ⟨hlen, hw⟩ := step k vs m1 A0 B L hk z1 oA0 o2 (fun i hi => dis i ((h3 i).2 (.inl hi))) hF1 ow h1 el hLs zL fL h2 bL (by simp only [inLoop, h4, blk]) (Nat.le_refl _)
    rw [CallF_yield, Array.empty_append]
    refine RoundQ.enter (pend := none) h4 ha hb hp hlen (wpM_mono ca _ _ (fun x t1 m2 ⟨e1, e2, e3⟩ => ⟨e1, e2, ?_⟩) _ _ hw)
    have h2L : L < m2.size := getM_lt (e2.trans h4)
    have hb3 : (m2.put L (some (blk .busy none))).get L = some (blk .busy none) := by rw [getM_put, if_pos ⟨rfl, h2L⟩]
    refine wpM_mono cb _ _ (fun x t2 m4 hr => ?_) _ _ (e3 (m2.put L (some (blk .busy none))) (by rw [size_put]) (fun i hi => zn i hi _ _) (by simp only [inLoop, hb3, blk]))
    obtain ⟨r1, r2, r3, A', r4, r5⟩ := hr
    rw [hb3] at r1
    have h4L : L < m4.size := getM_lt r1
    have aL' : ¬ A' L := fun e => by
      rcases (r4 L e).2 with (e | e) | e
      · exact h2 e
      · exact bL e
      · omega
    refine ⟨⟨none, r1⟩, ?_⟩
    have common : ∀ b : Option Blk, ChgS (fun i => A1 i ∨ B i) m1 (m4.put L b) ∧ NewS (fun i => A1 i ∨ B i) m1 (m4.put L b) (fun i => A' i ∨ i = L) := by
      intro b
      refine ⟨⟨by rw [size_put]; exact r2, fun i hi hne => ?_⟩, fun i hi => ?_⟩
      · have hiL : i ≠ L := fun e => hne (.inl ((h3 i).2 (.inr e)))
        rw [zn i hiL]
        exact r3 i hi hiL fun e => hne (e.imp (fun e => (h3 i).2 (.inl e)) id)
      · rw [size_put]
        rcases hi with hi | rfl
        · refine ⟨(r4 i hi).1, ?_⟩
          rcases (r4 i hi).2 with (e | e) | e
          · exact .inl (.inl ((h3 i).2 (.inl e)))
          · exact .inl (.inr e)
          · exact .inr e
        · exact ⟨h4L, .inl (.inl ((h3 L).2 (.inr rfl)))⟩
    have put4 : ∀ (b : Blk), (m4.put L (some b)).get L = some b := fun b => by rw [getM_put, if_pos ⟨rfl, h4L⟩]
    have keep : ∀ (b : Option Blk) i, A' i → (m4.put L b).get i = m4.get i := fun b i hi => zn i (fun e => by subst e; exact aL' hi) _ _
    cases x with
    | normal => exact ⟨_, (common _).1, (common _).2, .inl ⟨rfl, A', lJ _ _ _ _ r5 (keep _) (by rw [size_put]; omega), aL', fun i => Iff.rfl, put4 _⟩⟩
    | ret => exact ⟨_, (common _).1, (common _).2, .inr ⟨rfl, A', .ret, .inl ⟨rfl, put4 _⟩, lD _ _ _ _ _ r5.2 (keep _) (by rw [size_put]; omega), aL', fun i => Iff.rfl⟩⟩
    | exit i => exact ⟨_, (common _).1, (common _).2, .inr ⟨rfl, A', .exit i, .inr ⟨i, rfl, put4 _⟩, lD _ _ _ _ _ r5.2 (keep _) (by rw [size_put]; omega), aL', fun i => Iff.rfl⟩⟩
    | _ =>
      obtain ⟨e | ⟨i, e⟩, _⟩ := r5 <;> cases e

/-- The same, where the loop's variables are but assigned. -/
theorem wpM_rangePD (hs : IterD E Z F s n Own OwD El) {f : FuncId} {nn : Nat} {rd : Option Nat} {g : Operand} {ps : Array Tmp} {asg body : Code} {ca cb : MC} {t : Fr} {m : Mem} {A : Set'} {K : Post3} (G : Fr → Fr)
    (hg : evF t g = s) (hl : inLoop m rd = true) (ha : compile E f nn asg = some ca) (hb : compile E f nn body = some cb) (hp : ∀ p ∈ ps.toList, p < nn) (hA : ∀ (K : Post3) l t m, K .normal (G t) m → wpM E f nn (some l) ca K t m)
    (J : Nat → Mem → Set' → Prop) (JD : Nat → Exit → Mem → Set' → Prop) (lJ : ∀ k, LocP (J k)) (lD : ∀ k x, LocP (JD k x))
    (z : Frozen Z m) (o : OwnS Z F m A) (hF : ∀ i, F i → i < m.size ∧ Z i = none) (own0 : Own 0 m) (j0 : J 0 m A)
    (step : ∀ k vs m1 A B l, k < n → Frozen Z m1 → OwnS Z F m1 A → OwnS Z F m1 B → (∀ i, A i → ¬ B i) → Own (k + 1) m1 → J k m1 A → El k vs m1 B → inLoop m1 (some l) = true → m.size ≤ m1.size →
      vs.length = ps.size ∧ wpM E f nn (some l) cb (fun x _ m2 => ∃ A', ChgS (fun i => A i ∨ B i) m1 m2 ∧ NewS (fun i => A i ∨ B i) m1 m2 A' ∧ match x with
        | .normal => J (k + 1) m2 A'
        | x => (x = .ret ∨ ∃ i, x = .exit i) ∧ JD k x m2 A') (G (parF ps.toList vs (cutF nn t))) m1)
    (post1 : ∀ m' A', Frozen Z m' → OwnS Z F m' A' → Own (n + 1) m' → J n m' A' → ChgS (fun i => A i ∨ F i) m m' → NewS A m m' A' → K .normal t m')
    (post2 : ∀ k x m' A', k < n → Frozen Z m' → OwnS Z F m' A' → OwD k m' → (x = .ret ∨ ∃ i, x = .exit i) → JD k x m' A' → ChgS (fun i => A i ∨ F i) m m' → NewS A m m' A' → K x t m') :
    wpM E f nn rd (.range g ps asg body) K t m := by
  refine wpM_rangeD hs hg hl ha hb hp J JD lJ lD z o hF own0 j0 (fun k vs m1 A B l hk z1 o1 o2 dis hF1 ow j el hl1 zl fl al bl hin hml => ?_) post1 post2
  have hlen : vs.length = ps.size := (step k vs m1 A B l hk z1 o1 o2 dis ow j el hin (by omega)).1
  refine ⟨hlen, hA _ l _ m1 ⟨rfl, rfl, fun m3 hs3 hg3 hin3 => ?_⟩⟩
  have j3 : J k m3 A := lJ k m1 m3 A j (fun i hi => hg3 i fun e => al (e ▸ hi)) (by omega)
  have e3 : El k vs m3 B := hs.locE k vs m1 m3 B el (fun i hi => hg3 i fun e => bl (e ▸ hi)) (by omega)
  have w3 : Own (k + 1) m3 := hs.locO _ m1 m3 ow fun i hi => hg3 i fun e => fl (e ▸ hi)
  have z3 : Frozen Z m3 := fun i b hi => by
    rw [hg3 i fun e => by subst e; rw [zl] at hi; cases hi]
    exact z1 i b hi
  obtain ⟨_, hw⟩ := step k vs m3 A B l hk z3 (fun i hi => by rw [hs3]; exact o1 i hi) (fun i hi => by rw [hs3]; exact o2 i hi) dis w3 j3 e3 hin3 (by omega)
  refine wpM_mono cb _ _ (fun x t2 m4 hr => ?_) _ _ hw
  obtain ⟨A', c1, c2, c3⟩ := hr
  refine ⟨c1.get l (by omega) (fun e => e.elim al bl), by have := c1.size; omega, fun i hi hne hab => ?_, A', fun i hi => ?_, c3⟩
  · rw [c1.get i (by omega) hab, hg3 i hne]
  · have := c2 i hi
    rw [hs3] at this
    exact this
end range

/-- An iterator is one. -/
theorem Iter.toD {E : Env} {Z : Nat → Option Blk} {F : Set'} {s : Value} {n : Nat} {Own : Nat → Mem → Prop} {El : Nat → List Value → Mem → Set' → Prop} (h : Iter E Z F s n Own El) : IterD E Z F s n Own (fun k => Own (k + 1)) El :=
  ⟨h.fn, h.locO, fun k => h.locO (k + 1), h.locE, h.go⟩

/-- What a kept block is behind a call. -/
theorem get_ugmG {m m' : Mem} {b : Nat} {ro tg : Bool} {cs : List Value} (h : m.get b = some (.cells ro tg cs)) (hb : b < m'.size) (i : Nat) : (m.ugm m' [b]).get i = if i = b then m.get b else m'.get i := by
  unfold Mem.ugm
  rw [if_neg (by simp)]
  unfold Mem.unguard
  unfold Mem.get at h ⊢
  simp only [List.getElem?_mapIdx]
  by_cases e : i = b
  · subst e
    rw [if_pos rfl, h]
    obtain ⟨c, hc⟩ : ∃ c, m'.bl[i]? = some c := ⟨_, List.getElem?_eq_getElem (show i < m'.bl.length from hb)⟩
    rw [hc]
    simp [h]
  · rw [if_neg e]
    cases hc : m'.bl[i]? with
    | none => rfl
    | some c => simp [e]
/-- What a kept block is during a call. -/
theorem get_gmG (m : Mem) (b i : Nat) (h : i ≠ b) : (m.gm [b]).get i = m.get i := by rw [get_gm, if_neg (by simpa using h)]
theorem chg_ugm {A : Set'} {m m' : Mem} {b : Nat} {ro tg : Bool} {cs : List Value} (h : m.get b = some (.cells ro tg cs)) (c : ChgS A (m.gm [b]) m') : ChgS A m (m.ugm m' [b]) := by
  have hs := c.size
  rw [gm_size] at hs
  have hb : b < m'.size := Nat.lt_of_lt_of_le (getM_lt h) hs
  refine ⟨by rw [size_ugm]; exact hs, fun i hi hna => ?_⟩
  rw [get_ugmG h hb]
  split
  · rename_i e; rw [e]
  · rename_i e
    rw [c.get i (by rw [gm_size]; exact hi) hna, get_gmG m b i e]
theorem new_ugm {A A' : Set'} {m m' : Mem} {b : Nat} (c : NewS A (m.gm [b]) m' A') : NewS A m (m.ugm m' [b]) A' := fun i hi => by
  rw [size_ugm]
  have := c i hi
  rw [gm_size] at this
  exact this

/-- Frozen blocks, and some more. -/
def extZ (Z : Nat → Option Blk) (P : List (Nat × Blk)) : Nat → Option Blk := fun i => match P.lookup i with
  | some b => some b
  | none => Z i
theorem extZ_in {Z : Nat → Option Blk} {P : List (Nat × Blk)} {i : Nat} {b : Blk} (h : P.lookup i = some b) : extZ Z P i = some b := by unfold extZ; rw [h]
theorem lookup_none {P : List (Nat × Blk)} {i : Nat} (h : ∀ p ∈ P, p.1 ≠ i) : P.lookup i = none := by
  induction P with
  | nil => rfl
  | cons p P ih =>
    rw [List.lookup_cons]
    have : (i == p.1) = false := by
      rw [beq_eq_false_iff_ne]
      exact fun e => h p (by simp) e.symm
    rw [this]
    exact ih fun q hq => h q (by simp [hq])
theorem lookup_mem {P : List (Nat × Blk)} {i : Nat} {b : Blk} (h : P.lookup i = some b) : (i, b) ∈ P := by
  induction P with
  | nil => cases h
  | cons p P ih =>
    rw [List.lookup_cons] at h
    by_cases e : (i == p.1) = true
    · rw [e] at h
      have : i = p.1 := by simpa using e
      cases h
      subst this
      simp
    · rw [show (i == p.1) = false by simpa using e] at h
      exact List.mem_cons_of_mem _ (ih h)
theorem extZ_out {Z : Nat → Option Blk} {P : List (Nat × Blk)} {i : Nat} (h : ∀ p ∈ P, p.1 ≠ i) : extZ Z P i = Z i := by unfold extZ; rw [lookup_none h]
theorem extZ_frozen {Z : Nat → Option Blk} {P : List (Nat × Blk)} {m : Mem} (z : Frozen Z m) (h : ∀ p ∈ P, m.get p.1 = some p.2) : Frozen (extZ Z P) m := fun i b hi => by
  unfold extZ at hi
  cases hl : P.lookup i with
  | none => rw [hl] at hi; exact z i b hi
  | some c =>
    rw [hl] at hi
    cases hi
    exact h _ (lookup_mem hl)
theorem extZ_less {Z : Nat → Option Blk} {P : List (Nat × Blk)} {m : Mem} (z : Frozen (extZ Z P) m) (h : ∀ p ∈ P, Z p.1 = none ∨ Z p.1 = some p.2) : Frozen Z m := fun i b hi => by
  cases hl : P.lookup i with
  | none => exact z i b (by unfold extZ; rw [hl]; exact hi)
  | some c =>
    have hm := lookup_mem hl
    have := z i c (extZ_in hl)
    rcases h _ hm with e | e
    · rw [hi] at e; cases e
    · rw [hi] at e; cases e; exact this
/-- More is frozen. -/
def SubZ (Z Z' : Nat → Option Blk) : Prop := ∀ i b, Z i = some b → Z' i = some b
theorem extZ_sub {Z : Nat → Option Blk} {P : List (Nat × Blk)} (h : ∀ p ∈ P, Z p.1 = none ∨ Z p.1 = some p.2) : SubZ Z (extZ Z P) := fun i b hi => by
  unfold extZ
  cases hl : P.lookup i with
  | none => exact hi
  | some c =>
    have hm := lookup_mem hl
    rcases h _ hm with e | e
    · rw [hi] at e; cases e
    · rw [hi] at e; cases e; rfl
theorem SubZ.frozen {Z Z' : Nat → Option Blk} {m : Mem} (h : SubZ Z Z') (z : Frozen Z' m) : Frozen Z m := fun i b hi => z i b (h i b hi)
end Go.Abs
