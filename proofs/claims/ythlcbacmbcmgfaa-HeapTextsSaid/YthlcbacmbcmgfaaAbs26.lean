/-
  Arguments that are slices of structs of ints.
-/
import Derived.Test.YthlcbacmbcmgfaaAbs25
namespace Go.Abs
variable {P : Program}

def isI64 (P : Program) (t : TypeId) : Bool :=
  match P.underlying t with
  | some (.int .i64) => true
  | _ => false
theorem isI64_spec {t : TypeId} (h : isI64 P t = true) : P.underlying t = some (.int .i64) := by
  unfold isI64 at h
  split at h
  · assumption
  · cases h
def intFields (P : Program) (fs : Array Field) : Bool := fs.toList.all fun f => isI64 P f.type && (P.cellsOf f.type == 1)

theorem Wf.intStruct {m : Mem} {n : Nat} {t : TypeId} {fs : Array Field} {cs : List Value} (ht : P.underlying t = some (.struct fs)) (hf : intFields P fs = true) (h : Wf P m n t cs) :
    ∃ zs : List Int, cs = zs.map (.int .i64) ∧ zs.length = fs.size ∧ ∀ z ∈ zs, (Lit.int .i64 z).wf = true := by
  cases n with
  | zero => exact h.elim
  | succ n =>
    unfold Wf at h
    rw [ht] at h
    obtain ⟨ps, h1, h2, h3⟩ := h
    obtain ⟨zs, h5, h6⟩ := singles (f := Value.int .i64) (p := fun z => (Lit.int .i64 z).wf = true) ps fun x hx => by
      obtain ⟨i, hi⟩ := List.getElem?_of_mem hx
      have hl : i < fs.size := by have := (List.getElem?_eq_some_iff.1 hi).1; omega
      obtain ⟨g1, g2⟩ := h3 i fs[i] x (Array.getElem?_eq_getElem hl) hi
      have := List.all_eq_true.1 hf fs[i] (by simp)
      simp only [Bool.and_eq_true, beq_iff_eq] at this
      rw [this.2] at g1
      obtain ⟨v, rfl⟩ := List.length_eq_one_iff.1 g1
      obtain ⟨z, rfl, hz⟩ := g2.int (isI64_spec this.1)
      exact ⟨z, rfl, hz⟩
    refine ⟨zs, ?_, ?_, h6⟩
    · rw [h1, h5, flatten_singles]
    · rw [← h2, h5]; simp

theorem Wf.intStructs {m : Mem} {n : Nat} {t e : TypeId} {a : Value} {fs : Array Field} {sz : Nat} (ht : P.underlying t = some (.slice e)) (he : P.underlying e = some (.struct fs)) (hf : intFields P fs = true) (hc : P.cellsOf e = sz) (hs : fs.size = sz) (h : Wf P m n t [a]) :
    ∃ ad len cap, ∃ zss : List (List Int), a = .slice ad len cap ∧ SlA m sz ad len cap ((zss.map fun z => z.map (.int .i64)).flatten) ∧ zss.length = len ∧ ∀ z ∈ zss, z.length = sz ∧ ∀ x ∈ z, (Lit.int .i64 x).wf = true := by
  obtain ⟨ad, len, cap, els, h1, h2, h3, _, _, h4⟩ := h.slice ht
  have key : ∀ els : List (List Value), (∀ x ∈ els, ∃ n, Wf P m n e x) → ∃ zss : List (List Int), els = zss.map (fun z => z.map (.int .i64)) ∧ ∀ z ∈ zss, z.length = sz ∧ ∀ x ∈ z, (Lit.int .i64 x).wf = true := by
    intro els
    induction els with
    | nil => intro _; exact ⟨[], rfl, fun z hz => by simp at hz⟩
    | cons x els ih =>
      intro hx
      obtain ⟨k, hk⟩ := hx x (by simp)
      obtain ⟨zs, g1, g2, g3⟩ := hk.intStruct he hf
      obtain ⟨zss, g4, g5⟩ := ih fun y hy => hx y (by simp [hy])
      refine ⟨zs :: zss, by rw [g1, g4]; rfl, fun z hz => ?_⟩
      rcases List.mem_cons.1 hz with rfl | hz
      · exact ⟨g2.trans hs, g3⟩
      · exact g5 z hz
  obtain ⟨zss, g1, g2⟩ := key els fun x hx => (h4 x hx).2
  rw [g1, hc] at h2
  exact ⟨ad, len, cap, zss, h1, h2, by rw [← h3, g1]; simp, g2⟩

/-- Rows of one length, one behind the other. -/
theorem flat_row {sz : Nat} {zss : List (List Int)} (h : ∀ z ∈ zss, z.length = sz) {i : Nat} (hi : i < zss.length) : ((((zss.map fun z => z.map (Value.int .i64)).flatten).drop (i * sz)).take sz) = (zss[i]).map (.int .i64) := by
  induction zss generalizing i with
  | nil => simp at hi
  | cons z zss ih =>
    have hz : (z.map (Value.int .i64)).length = sz := by rw [List.length_map]; exact h z (by simp)
    rw [List.map_cons, List.flatten_cons]
    cases i with
    | zero =>
      rw [Nat.zero_mul, List.drop_zero, ← hz, List.take_left]
      rfl
    | succ i =>
      have e : (i + 1) * sz = (z.map (Value.int .i64)).length + i * sz := by rw [hz, Nat.add_mul]; omega
      rw [e, ← List.drop_drop, List.drop_left]
      exact ih (fun y hy => h y (by simp [hy])) (by simpa using hi)
theorem flat_len {sz : Nat} : ∀ {zss : List (List Int)}, (∀ z ∈ zss, z.length = sz) → ((zss.map fun z => z.map (Value.int .i64)).flatten).length = zss.length * sz
  | [], _ => by simp
  | z :: zss, h => by
    rw [List.map_cons, List.flatten_cons, List.length_append, flat_len fun y hy => h y (by simp [hy]), List.length_map, h z (by simp), List.length_cons, Nat.add_mul]
    omega
/-- What a struct's load reads. -/
theorem SlA.srow {m : Mem} {sz b o n c : Nat} {s : Option Nat} {zss : List (List Int)} (H : SlA m sz (some ⟨b, o, s⟩) n c ((zss.map fun z => z.map (.int .i64)).flatten)) (h : ∀ z ∈ zss, z.length = sz) (hz : 0 < sz) {i : Nat} (hi : i < zss.length) : m.rows b (o + i * sz) sz = some ((zss[i]).map (.int .i64)) := by
  have hl := flat_len h
  have hne : (zss.map fun z => z.map (Value.int .i64)).flatten ≠ [] := by
    intro e
    rw [e] at hl
    simp only [List.length_nil] at hl
    have := Nat.mul_pos (Nat.zero_lt_of_lt hi) hz
    omega
  have hb : i * sz + sz ≤ ((zss.map fun z => z.map (Value.int .i64)).flatten).length := by
    rw [hl]
    have := Nat.mul_le_mul_right sz (show i + 1 ≤ zss.length by omega)
    rw [Nat.add_mul] at this
    omega
  have := (H.rows _ rfl hne).sub hb
  rw [flat_row h hi] at this
  unfold Rw at this
  rw [List.length_map, h _ (List.getElem_mem hi)] at this
  exact this
end Go.Abs
