/-
  Clones of rows.
-/
import Derived.Test.YtpabllcacdopdaaValR
namespace Go.Proofs.Ytpabllcacdopdaa.W
open Go.Abs
set_option linter.unusedSimpArgs false
set_option linter.unusedVariables false

theorem ints_all (xs : List Int) : (xs.map (Value.int .i64)).all oneCell = true := by
  rw [List.all_eq_true]
  intro x hx
  obtain ⟨y, _, rfl⟩ := List.mem_map.1 hx
  rfl

set_option maxRecDepth 100000 in
theorem Clone_at {m : Mem} {a : Option Addr} {n c : Nat} {xs : List Int} (h : SlA m 1 a n c (xs.map (.int .i64))) (hn : n ≤ 1000000) :
    CallQ E F_slices_Clone_Sint_int [.slice a n c].toArray m fun w m' => ∃ a', w = .slice a' n n ∧ Vec m.size m' 1 a' n (xs.map (.int .i64)) ∧ Old m m' := by
  refine .enter fn_slices_Clone_Sint_int (by simp) ?_
  have hl : xs.length = n := by have := h.len; simpa using this
  cases a with
  | none =>
    have hc := h.nil rfl
    have := h.cap
    obtain rfl : n = 0 := by omega
    have e : xs = [] := List.eq_nil_of_length_eq_zero hl
    subst e
    simp (decide := true) (implicitDefEqProofs := false) (maxDischargeDepth := 20) only [go_sem, ↓reduceIte, true_implies, false_implies]
    exact ⟨none, rfl, .nil _ _ _⟩
  | some ad =>
    simp (decide := true) (implicitDefEqProofs := false) (maxDischargeDepth := 20) only [go_sem, ↓reduceIte, true_implies, false_implies]
    have v0 : Vec m.size (m.push (.cells false true [])) 1 (some ⟨m.size, 0, none⟩) 0 [] := .built (Nat.le_refl _) rfl
    refine v0.append (by simp) ((h.push _).appended' (by decide +kernel) (by decide)) (by simp; omega) (by decide +kernel) (ints_all xs) (by omega) fun q2 b2 v1 k1 _ => ?_
    have o2 : Old m q2 := v0.keepOld k1 (.push (.refl _) _)
    simp only [Nat.zero_add, List.nil_append] at v1 ⊢
    simp (decide := true) (implicitDefEqProofs := false) (maxDischargeDepth := 20) only [go_sem, ↓reduceIte, true_implies, false_implies]
    exact ⟨b2, rfl, v1, o2⟩

theorem vec_ugm {m : Mem} {ids : List Nat} {l : List (Option Blk)} {B sz n : Nat} {a : Option Addr} {xs : List Value} (h : Vec B ((m.gm ids).ext l) sz a n xs) : Vec B (m.ext l) sz a n xs :=
  ⟨(SlA.gm_ext ids l).1 h.sl, fun x hx => by
    obtain ⟨h1, h2, tg, h3⟩ := h.blk x hx
    exact ⟨h1, h2, tg, get_ugm h3⟩⟩

/-- A row that is handed over, in a block of its own, and a number. -/
def cloneEl (rs : List HRow) (w : Nat → Int) : Nat → List Value → Mem → Set' → Prop := fun k vs m B =>
  ∃ a, vs = [.slice a (rs.getD k noRow).n (rs.getD k noRow).n, vI (w k)] ∧ Vec 0 m 1 a (rs.getD k noRow).n ((rs.getD k noRow).xs.map (.int .i64)) ∧ ∀ i, B i ↔ ∃ x, a = some x ∧ i = x.block
theorem cloneEl_loc (rs : List HRow) (w : Nat → Int) (k : Nat) (vs : List Value) : LocP (cloneEl rs w k vs) := by
  rintro m m' A ⟨a, h1, h2, h3⟩ hk hs
  exact ⟨a, h1, h2.keep fun x hx => hk _ ((h3 _).2 ⟨x, hx, rfl⟩), h3⟩
end Go.Proofs.Ytpabllcacdopdaa.W
