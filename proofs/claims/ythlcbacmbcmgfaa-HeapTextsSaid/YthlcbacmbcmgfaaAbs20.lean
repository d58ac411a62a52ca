/-
  Arguments: which types are taken, and what is known of each.
-/
import Derived.Test.YthlcbacmbcmgfaaAbs19
import Derived.ReadAgain
namespace Go.Abs
variable {P : Program} {T : Tab}

def structB (P : Program) (t : TypeId) (fs : Array Field) : Bool :=
  (P.cellsOf t == (fs.toList.map fun f => P.cellsOf f.type).sum) && (List.range fs.size).all fun j => match fs.toList[j]? with
    | some f => f.offset == ((fs.toList.take j).map fun f => P.cellsOf f.type).sum
    | none => true

def flatB (P : Program) : Nat → TypeId → Bool
  | 0, _ => false
  | n + 1, t => match P.underlying t with
    | some .bool | some (.int _) | some .string => true
    | some (.struct fs) => structB P t fs && fs.toList.all fun f => flatB P n f.type
    | _ => false

def plainB (P : Program) : Nat → TypeId → Bool
  | 0, _ => false
  | n + 1, t => match P.underlying t with
    | some .bool | some (.int _) | some .string => true
    | some (.slice e) => decide (0 < P.cellsOf e) && plainB P n e
    | some (.struct fs) => structB P t fs && fs.toList.all fun f => plainB P n f.type
    | _ => false

theorem structB_spec {t : TypeId} {fs : Array Field} (h : structB P t fs = true) : P.cellsOf t = (fs.toList.map fun f => P.cellsOf f.type).sum ∧ ∀ (j : Nat) f, fs.toList[j]? = some f → f.offset = ((fs.toList.take j).map fun f => P.cellsOf f.type).sum := by
  unfold structB at h
  simp only [Bool.and_eq_true, beq_iff_eq, List.all_eq_true, List.mem_range] at h
  refine ⟨h.1, fun j f hf => ?_⟩
  have hj : j < fs.size := by have := (List.getElem?_eq_some_iff.1 hf).1; simpa using this
  have := h.2 j hj
  rw [hf] at this
  simpa using this

theorem flat_of (P : Program) : Flat P fun t => ∃ n, flatB P n t = true where
  is t := by
    rintro ⟨n, h⟩
    cases n with
    | zero => simp [flatB] at h
    | succ n =>
      unfold flatB at h
      split at h
      · rename_i hu; exact .inl hu
      · rename_i k hu; exact .inr (.inl ⟨k, hu⟩)
      · rename_i hu; exact .inr (.inr (.inl hu))
      · rename_i fs hu
        rw [Bool.and_eq_true, List.all_eq_true] at h
        obtain ⟨h1, h2⟩ := structB_spec h.1
        exact .inr (.inr (.inr ⟨fs, hu, fun f hf => ⟨n, h.2 f hf⟩, h1, h2⟩))
      · cases h

theorem plain_of (P : Program) : Plain P (fun t => ∃ n, plainB P n t = true) (fun t => ∃ n, flatB P n t = true) where
  flat := flat_of P
  is t := by
    rintro ⟨n, h⟩
    cases n with
    | zero => simp [plainB] at h
    | succ n =>
      unfold plainB at h
      split at h
      · rename_i hu; exact .inl hu
      · rename_i k hu; exact .inr (.inl ⟨k, hu⟩)
      · rename_i hu; exact .inr (.inr (.inl hu))
      · rename_i e hu
        simp only [Bool.and_eq_true, decide_eq_true_eq] at h
        exact .inr (.inr (.inr (.inl ⟨e, hu, ⟨n, h.2⟩, h.1⟩)))
      · rename_i fs hu
        rw [Bool.and_eq_true, List.all_eq_true] at h
        obtain ⟨h1, h2⟩ := structB_spec h.1
        exact .inr (.inr (.inr (.inr ⟨fs, hu, fun f hf => ⟨n, h.2 f hf⟩, h1, h2⟩)))
      · cases h

section one
variable {W : World} {r : Reach} {base : Nat} {t e : TypeId} {v : Value}
theorem oneArg_int {k : IntKind} (ht : P.underlying t = some (.int k)) (h : Value.okWide P W r base t v) : OneArg v := by
  unfold Value.okWide Cell.okWide at h
  simp only [ht] at h
  cases v <;> simp_all [Cell.ok]
  exact ⟨rfl, fun v hv a n c e => by simp at hv; rw [hv] at e; cases e⟩
theorem oneArg_bool (ht : P.underlying t = some .bool) (h : Value.okWide P W r base t v) : OneArg v := by
  unfold Value.okWide Cell.okWide at h
  simp only [ht] at h
  cases v <;> simp_all [Cell.ok]
  exact ⟨rfl, fun v hv a n c e => by simp at hv; rw [hv] at e; cases e⟩
theorem oneArg_slice (ht : P.underlying t = some (.slice e)) (h : Value.okWide P W r base t v) : OneArg v := by
  unfold Value.okWide Cell.okWide at h
  simp only [ht] at h
  cases v with
  | slice a n c =>
    refine ⟨rfl, fun v hv a' n' c' e' => ?_⟩
    simp only [List.mem_singleton] at hv
    rw [hv] at e'
    cases e'
    simp only [Cell.ok, ht] at h
    exact h.2.2.2.1
  | _ => simp [Cell.ok, ht] at h
end one

section wf
variable {m : Mem} {n : Nat} {t e : TypeId} {a : Value}
theorem Wf.int {k : IntKind} (ht : P.underlying t = some (.int k)) (h : Wf P m n t [a]) : ∃ z, a = .int k z ∧ (Lit.int k z).wf = true := by
  cases n with
  | zero => exact h.elim
  | succ n =>
    unfold Wf at h
    rw [ht] at h
    obtain ⟨z, h1, h2⟩ := h
    exact ⟨z, by simpa using h1, h2⟩
theorem Wf.bool (ht : P.underlying t = some .bool) (h : Wf P m n t [a]) : ∃ b, a = .bool b := by
  cases n with
  | zero => exact h.elim
  | succ n =>
    unfold Wf at h
    rw [ht] at h
    obtain ⟨z, h1⟩ := h
    exact ⟨z, by simpa using h1⟩

/-- A slice of what takes so many cells. -/
theorem Wf.slice (ht : P.underlying t = some (.slice e)) (h : Wf P m n t [a]) : ∃ ad len cap, ∃ els : List (List Value), a = .slice ad len cap ∧ SlA m (P.cellsOf e) ad len cap els.flatten ∧ els.length = len ∧ cap ≤ maxLen ∧ (ad = none ∨ ∃ b, ad = some ⟨b, 0, none⟩) ∧ ∀ x ∈ els, x.length = P.cellsOf e ∧ ∃ n, Wf P m n e x := by
  cases n with
  | zero => exact h.elim
  | succ n =>
    unfold Wf at h
    rw [ht] at h
    rcases h with h | ⟨b, len, cap, els, h1, h2, h3, h4, h5, h6, h7⟩
    · exact ⟨none, 0, 0, [], by simpa using h, .empty _, rfl, by decide, .inl rfl, fun x hx => by simp at hx⟩
    · have hx : ∀ x ∈ els, x.length = P.cellsOf e := fun x hx => (h7 x hx).1
      have hl : (els.take len).flatten.length = len * P.cellsOf e := by
        rw [length_flatten (sz := P.cellsOf e) fun x hx' => hx x (List.mem_of_mem_take hx'), List.length_take, Nat.min_eq_left (by omega)]
      refine ⟨some ⟨b, 0, none⟩, len, cap, els.take len, by simpa using h1, ⟨hl, h3, fun b' hb => ?_, fun b' hb hne => ?_, fun h => by cases h⟩, by simp; omega, h4, .inr ⟨b, rfl⟩, fun x hx' => ⟨hx x (List.mem_of_mem_take hx'), n, (h7 x (List.mem_of_mem_take hx')).2⟩⟩
      · cases hb; rfl
      · cases hb
        have hc : 0 < cap := by
          rcases Nat.eq_zero_or_pos cap with h0 | h0
          · exfalso
            have : len = 0 := by omega
            rw [this] at hne
            simp at hne
          · exact h0
        refine .of_blk (h6 hc) ?_ ?_
        · rw [hl, length_flatten hx, h5, Nat.zero_add]
          exact Nat.mul_le_mul_right _ h3
        · rw [hl, List.drop_zero]
          have e1 : els.flatten = (els.take len).flatten ++ (els.drop len).flatten := by rw [← List.flatten_append, List.take_append_drop]
          rw [e1, ← hl, List.take_left]

theorem flatten_singles {α : Type} {f : α → Value} : ∀ (xs : List α), (xs.map fun x => [f x]).flatten = xs.map f
  | [] => rfl
  | x :: xs => by rw [List.map_cons, List.flatten_cons, flatten_singles xs]; rfl

theorem singles {α : Type} {f : α → Value} {p : α → Prop} : ∀ (els : List (List Value)), (∀ x ∈ els, ∃ z, x = [f z] ∧ p z) → ∃ xs : List α, els = xs.map (fun z => [f z]) ∧ ∀ z ∈ xs, p z
  | [], _ => ⟨[], rfl, fun z hz => by simp at hz⟩
  | x :: els, h => by
    obtain ⟨z, h1, h2⟩ := h x (by simp)
    obtain ⟨xs, h3, h4⟩ := singles els fun y hy => h y (by simp [hy])
    refine ⟨z :: xs, by rw [h1, h3]; rfl, fun y hy => ?_⟩
    rcases List.mem_cons.1 hy with rfl | hy
    · exact h2
    · exact h4 y hy

theorem Wf.ints {k : IntKind} (ht : P.underlying t = some (.slice e)) (he : P.underlying e = some (.int k)) (hc : P.cellsOf e = 1) (h : Wf P m n t [a]) :
    ∃ ad len cap, ∃ xs : List Int, a = .slice ad len cap ∧ SlA m 1 ad len cap (xs.map (.int k)) ∧ xs.length = len ∧ ∀ x ∈ xs, (Lit.int k x).wf = true := by
  obtain ⟨ad, len, cap, els, h1, h2, h3, _, _, h4⟩ := h.slice ht
  obtain ⟨xs, h5, h6⟩ := singles (f := Value.int k) (p := fun z => (Lit.int k z).wf = true) els fun x hx => by
    obtain ⟨hl, n', hw⟩ := h4 x hx
    rw [hc] at hl
    obtain ⟨v, rfl⟩ := List.length_eq_one_iff.1 hl
    obtain ⟨z, rfl, hz⟩ := hw.int he
    exact ⟨z, rfl, hz⟩
  rw [h5, flatten_singles, hc] at h2
  exact ⟨ad, len, cap, xs, h1, h2, by rw [← h3, h5]; simp, h6⟩

theorem Wf.bools (ht : P.underlying t = some (.slice e)) (he : P.underlying e = some .bool) (hc : P.cellsOf e = 1) (h : Wf P m n t [a]) :
    ∃ ad len cap, ∃ xs : List Bool, a = .slice ad len cap ∧ SlA m 1 ad len cap (xs.map .bool) ∧ xs.length = len := by
  obtain ⟨ad, len, cap, els, h1, h2, h3, _, _, h4⟩ := h.slice ht
  obtain ⟨xs, h5, h6⟩ := singles (f := Value.bool) (p := fun _ => True) els fun x hx => by
    obtain ⟨hl, n', hw⟩ := h4 x hx
    rw [hc] at hl
    obtain ⟨v, rfl⟩ := List.length_eq_one_iff.1 hl
    obtain ⟨z, rfl⟩ := hw.bool he
    exact ⟨z, rfl, trivial⟩
  rw [h5, flatten_singles, hc] at h2
  exact ⟨ad, len, cap, xs, h1, h2, by rw [← h3, h5]; simp⟩
end wf

theorem kept_same {W W' : World} {ps : List MemPlace} (h : Kept W W') (hl : ∀ p ∈ ps, p.block < W.heap.size) : ∀ p ∈ ps, W.sameAt W' p := by
  intro p hp
  have hb := hl p hp
  have hk := h.1.2.2 p.block hb
  cases p with
  | cell b off =>
    show W'.cell? ⟨b, off, none⟩ = W.cell? ⟨b, off, none⟩
    unfold World.cell?
    simp only [MemPlace.block] at hk
    dsimp only
    split at hk
    · rename_i c tt fr c' tt' fr' h1 h2
      obtain ⟨_, _, h5, h6⟩ := hk
      rw [h1, h2]
      simp only [Option.isSome_none, Bool.false_eq_true, if_false]
      exact h6 off (fun h => h.elim)
    · rename_i es cl es' cl' h1 h2
      rw [h1, h2]
    · rename_i h1 h2
      rw [hk]
  | map b =>
    show W'.heap[b]? = W.heap[b]?
    simp only [MemPlace.block] at hk
    split at hk
    · rename_i c tt fr c' tt' fr' h1 h2
      obtain ⟨rfl, rfl, h5, h6⟩ := hk
      rw [h1, h2]
      congr 2
      exact Array.ext_getElem? fun i => h6 i (fun h => h.elim)
    · rename_i es cl es' cl' h1 h2
      rcases hk with hk | ⟨rfl, rfl⟩
      · exact hk.elim
      · rw [h1, h2]
    · exact hk

end Go.Abs
