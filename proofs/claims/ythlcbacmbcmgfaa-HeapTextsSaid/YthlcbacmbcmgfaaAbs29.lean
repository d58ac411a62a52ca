/-
  Slices of slices of ints: as arguments, and as what a function builds.
-/
import Derived.Test.YthlcbacmbcmgfaaAbs28
namespace Go.Abs
variable {P : Program} {m m' : Mem}

/-! ### Loads of a draw region: what other operations leave out -/
section logs
variable {i : Nat} {log : List (Nat × Nat)}
@[go_sem] theorem loggedW_buildSlice (ty : TypeId) (n : Nat) (ps : Array (Nat × Operand)) (r : Operand → Value) : loggedW (.buildSlice ty n ps) r i log = log := rfl
@[go_sem] theorem loggedW_slice (ty : TypeId) (x : Operand) (lo hi mx : Option Operand) (r : Operand → Value) : loggedW (.slice ty x lo hi mx) r i log = log := rfl
@[go_sem] theorem loggedW_makeFunc (g : FuncId) (a b : Array Operand) (r : Operand → Value) : loggedW (.makeFunc (.func g) a b) r i log = log := rfl
@[go_sem] theorem loggedW_box (ty : TypeId) (x : Operand) (r : Operand → Value) : loggedW (.box ty x) r i log = log := rfl
end logs

/-- A row: a slice of ints, as a value, and its numbers. -/
structure HRow where
  ad : Option Addr
  n : Nat
  c : Nat
  xs : List Int

def HRow.v (r : HRow) : Value := .slice r.ad r.n r.c

/-- A row lies in the memory. -/
structure HRow.At (m : Mem) (r : HRow) : Prop where
  sl : SlA m 1 r.ad r.n r.c (r.xs.map (.int .i64))
  len : r.xs.length = r.n
  bd : ∀ x ∈ r.xs, -9223372036854775808 ≤ x ∧ x < 9223372036854775808

theorem HRow.At.keep {r : HRow} (h : r.At m) (k : ∀ b, r.ad = some b → r.xs ≠ [] → m'.get b.block = m.get b.block) : r.At m' := ⟨h.sl.keep fun b hb hx => k b hb (by simpa using hx), h.len, h.bd⟩
theorem HRow.At.old {r : HRow} (h : r.At m) (k : Old m m') : r.At m' := ⟨h.sl.old k, h.len, h.bd⟩

theorem Wf.intRows {n : Nat} {t e g : TypeId} {a : Value} (hi : ∀ x : Int, (Lit.int .i64 x).wf = true → -9223372036854775808 ≤ x ∧ x < 9223372036854775808) (ht : P.underlying t = some (.slice e)) (he : P.underlying e = some (.slice g)) (hg : P.underlying g = some (.int .i64)) (hc : P.cellsOf e = 1) (hc' : P.cellsOf g = 1) (h : Wf P m n t [a]) :
    ∃ ad len cap, ∃ rs : List HRow, a = .slice ad len cap ∧ SlA m 1 ad len cap (rs.map HRow.v) ∧ rs.length = len ∧ ∀ r ∈ rs, r.At m := by
  obtain ⟨ad, len, cap, els, h1, h2, h3, _, _, h4⟩ := h.slice ht
  obtain ⟨rs, h5, h6⟩ := singles (f := HRow.v) (p := fun r => r.At m) els fun x hx => by
    obtain ⟨hl, n', hw⟩ := h4 x hx
    rw [hc] at hl
    obtain ⟨v, rfl⟩ := List.length_eq_one_iff.1 hl
    obtain ⟨ad', len', cap', xs, k1, k2, k3, k4⟩ := hw.ints he hg hc'
    exact ⟨⟨ad', len', cap', xs⟩, by rw [k1]; rfl, k2, k3, fun x hx => hi x (k4 x hx)⟩
  rw [h5, flatten_singles, hc] at h2
  exact ⟨ad, len, cap, rs, h1, h2, by rw [← h3, h5]; simp, h6⟩
end Go.Abs
