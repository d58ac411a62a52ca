/-
  Groups, its group under way.
-/
import Derived.Test.YtgbpgkfmmhlkoaaFlowI
import Derived.Test.YtgbpgkfmmhlkoaaFlowG
namespace Go.Proofs.Ytgbpgkfmmhlkoaa.W
open Go.Abs
set_option linter.unusedSimpArgs false
set_option linter.unusedVariables false

abbrev vI (x : Int) : Value := .int .i64 x

/-- What Groups yields: a slice in a block of its own. -/
def grEl (gs : List (List Int)) : Nat → List Value → Mem → Set' → Prop := fun j vs m B => ∃ b s tg, vs = [.slice (some ⟨b, 0, s⟩) (gs.getD j []).length (gs.getD j []).length] ∧ m.get b = some (.cells false tg ((gs.getD j []).map vI)) ∧ looseOk ⟨b, 0, s⟩ 1 = true ∧ ∀ i, B i ↔ i = b
theorem grEl_loc (gs : List (List Int)) (k : Nat) (vs : List Value) : LocP (grEl gs k vs) := by
  rintro m m' B ⟨b, s, tg, h1, h2, h3, h4⟩ hk hs
  exact ⟨b, s, tg, h1, by rw [hk b ((h4 b).2 rfl)]; exact h2, h3, h4⟩

/-- Its boxes: the yield's, the group's, the group's own block. -/
def GP (y : Value) (yb gb : Nat) (g : List Int) (P : List (Nat × Blk)) : Prop := ∃ a rest, P = (yb, .cells false true [y]) :: (gb, .cells false true [.slice a g.length g.length]) :: rest ∧
  ((a = none ∧ g = [] ∧ rest = []) ∨ ∃ b s tg, a = some ⟨b, 0, s⟩ ∧ g ≠ [] ∧ looseOk ⟨b, 0, s⟩ 1 = true ∧ b ≠ yb ∧ b ≠ gb ∧ rest = [(b, .cells false tg (g.map vI))])

theorem GP.vec {y : Value} {yb gb : Nat} {g : List Int} {P : List (Nat × Blk)} {m : Mem} (h : GP y yb gb g P) (hP : ∀ p ∈ P, m.get p.1 = some p.2) : m.get yb = some (.cells false true [y]) ∧ ∃ a, m.get gb = some (.cells false true [.slice a g.length g.length]) ∧ Vec 0 m 1 a g.length (g.map vI) ∧
    (∀ x, a = some x → x.block ≠ yb ∧ x.block ≠ gb ∧ ∃ p ∈ P, p.1 = x.block) ∧ (a = none → g = []) := by
  obtain ⟨a, rest, rfl, h⟩ := h
  refine ⟨hP _ List.mem_cons_self, a, hP _ (List.mem_cons_of_mem _ List.mem_cons_self), ?_⟩
  rcases h with ⟨rfl, rfl, rfl⟩ | ⟨b, s, tg, rfl, h1, h2, h3, h4, rfl⟩
  · exact ⟨.nil _ _ _, fun x hx => (by cases hx), fun _ => rfl⟩
  · have hb := hP (b, .cells false tg (g.map vI)) (by simp)
    exact ⟨.new hb (Nat.zero_le _) (by simp) h2, fun x hx => (by cases hx; exact ⟨h3, h4, (b, .cells false tg (g.map vI)), by simp, rfl⟩), fun e => (by cases e)⟩

theorem GP.split {y : Value} {yb gb : Nat} {g : List Int} {P : List (Nat × Blk)} (h : GP y yb gb g P) (hg : g ≠ []) : ∃ b s tg, looseOk ⟨b, 0, s⟩ 1 = true ∧ b ≠ yb ∧ b ≠ gb ∧ P = [(yb, .cells false true [y]), (gb, .cells false true [.slice (some ⟨b, 0, s⟩) g.length g.length]), (b, .cells false tg (g.map vI))] := by
  obtain ⟨a, rest, rfl, ⟨_, h, _⟩ | ⟨b, s, tg, rfl, _, h2, h3, h4, rfl⟩⟩ := h
  · exact absurd h hg
  · exact ⟨b, s, tg, h2, h3, h4, rfl⟩

/-- One more in the group. -/
theorem GP.more {y : Value} {yb gb : Nat} {g : List Int} {P : List (Nat × Blk)} {Q : Mem → Set' → Prop} {m m1 : Mem} {A A1 : Set'} {a : Option Addr} {x : Int} {b : Nat} {s : Option Nat} (h : GP y yb gb g P) (hne : yb ≠ gb) (hl : LocP Q) (hQ : Q m A1) (hP : ∀ p ∈ P, m.get p.1 = some p.2 ∧ ¬ A1 p.1)
    (hA : ∀ i, A i ↔ A1 i ∨ ∃ p ∈ P, i = p.1) (hlt : ∀ i, A i → i < m.size) (hg : m.get gb = some (.cells false true [.slice a g.length g.length])) (v : Vec 0 m1 1 (some ⟨b, 0, s⟩) (g.length + 1) ((g ++ [x]).map vI)) (k : KeepA a m m1) (hb : m.size ≤ b) :
    ∃ P', GP y yb gb (g ++ [x]) P' ∧ Q (m1.put gb (some (.cells false true [.slice (some ⟨b, 0, s⟩) (g.length + 1) (g.length + 1)]))) A1 ∧ (∀ p ∈ P', (m1.put gb (some (.cells false true [.slice (some ⟨b, 0, s⟩) (g.length + 1) (g.length + 1)]))).get p.1 = some p.2 ∧ ¬ A1 p.1) ∧
      Trs A m (m1.put gb (some (.cells false true [.slice (some ⟨b, 0, s⟩) (g.length + 1) (g.length + 1)]))) (fun i => A1 i ∨ ∃ p ∈ P', i = p.1) := by
  obtain ⟨hy, a', hg', hv, hd, _⟩ := h.vec (m := m) fun p hp => (hP p hp).1
  rw [hg] at hg'
  cases hg'
  obtain ⟨_, _, tg, hblk⟩ := v.blk _ rfl
  simp only at hblk
  have hyl := getM_lt hy
  have hgl := getM_lt hg
  have hbl := getM_lt hblk
  have inP : (∃ p ∈ P, p.1 = yb) ∧ (∃ p ∈ P, p.1 = gb) := by
    obtain ⟨a2, rest, rfl, _⟩ := h
    exact ⟨⟨_, List.mem_cons_self, rfl⟩, ⟨_, List.mem_cons_of_mem _ List.mem_cons_self, rfl⟩⟩
  let P' : List (Nat × Blk) := [(yb, .cells false true [y]), (gb, .cells false true [.slice (some ⟨b, 0, s⟩) (g ++ [x]).length (g ++ [x]).length]), (b, .cells false tg ((g ++ [x]).map vI))]
  have hlen : (g ++ [x]).length = g.length + 1 := by simp
  have hp' : ∀ p ∈ P', (m1.put gb (some (.cells false true [.slice (some ⟨b, 0, s⟩) (g.length + 1) (g.length + 1)]))).get p.1 = some p.2 ∧ ((∃ q ∈ P, q.1 = p.1) ∨ m.size ≤ p.1) := by
    intro p hp
    simp only [P', List.mem_cons, List.not_mem_nil, or_false] at hp
    rcases hp with rfl | rfl | rfl
    · refine ⟨?_, .inl inP.1⟩
      rw [getM_put, if_neg (fun e => hne e.1), k.2 yb hyl fun z hz e => (hd z hz).1 e.symm]
      exact hy
    · refine ⟨?_, .inl inP.2⟩
      rw [getM_put, if_pos ⟨rfl, Nat.lt_of_lt_of_le hgl k.1⟩, hlen]
    · refine ⟨?_, .inr hb⟩
      rw [getM_put, if_neg (fun e => by have := e.1; simp only at this; omega)]
      exact hblk
  obtain ⟨c1, c2, c3⟩ := WithP.change (P := P) (P' := P') hl hQ (fun p hp => (hP p hp).2) hA hlt (m1 := m1.put gb (some (.cells false true [.slice (some ⟨b, 0, s⟩) (g.length + 1) (g.length + 1)]))) (by rw [size_put]; exact k.1) (fun i hi hne => by
    obtain ⟨q, hq, hqe⟩ := inP.2
    rw [getM_put, if_neg (fun e => hne q hq (by rw [hqe]; exact e.1))]
    exact k.2 i hi fun z hz e => by
      obtain ⟨_, _, p, hp, hpe⟩ := hd z hz
      exact hne p hp (by rw [hpe]; exact e)) hp'
  exact ⟨P', ⟨some ⟨b, 0, s⟩, _, rfl, .inr ⟨b, s, tg, rfl, by simp, v.sl.loose _ rfl, by omega, by omega, rfl⟩⟩, c1, c2, c3⟩
end Go.Proofs.Ytgbpgkfmmhlkoaa.W
