/-
  Totals, plain.
-/
import Derived.Test.YtjmppooebppecaaSumE
namespace Go.Proofs.Ytjmppooebppecaa.W
open Go.Abs
set_option linter.unusedSimpArgs false
set_option linter.unusedVariables false

def fst0 (r : List Int) : Int := r.getD 0 0
theorem fst0_out (g : Grp) (h : 0 < g.1.length) : fst0 (outT g) = fst0 g.1 := by
  obtain ⟨k, s⟩ := g
  cases k with
  | nil => simp at h
  | cons a k => rfl
/-- The sum of a column of the rows that begin with a number. -/
def sumE (col : Nat) : List (List Int) → Int → Int
  | [], _ => 0
  | r :: l, e => (if fst0 r = e then r.getD col 0 else 0) + sumE col l e
theorem sumE_append (col : Nat) (e : Int) : ∀ (a b : List (List Int)), sumE col (a ++ b) e = sumE col a e + sumE col b e
  | [], b => by simp [sumE]
  | r :: a, b => by simp only [List.cons_append, sumE, sumE_append col e a b]; omega
theorem sumE_perm (col : Nat) (e : Int) {a b : List (List Int)} (h : a.Perm b) : sumE col a e = sumE col b e := by
  induction h with
  | nil => rfl
  | cons x _ ih => simp only [sumE, ih]
  | swap x y l => simp only [sumE]; omega
  | trans _ _ h1 h2 => exact h1.trans h2
theorem sumE_none (col : Nat) (e : Int) : ∀ (l : List (List Int)), (∀ r ∈ l, fst0 r ≠ e) → sumE col l e = 0
  | [], _ => rfl
  | r :: l, h => by
    rw [sumE, if_neg (h r (by simp)), sumE_none col e l fun x hx => h x (by simp [hx])]
    rfl

/-- What totals of rows that rise come to. -/
def TotInv (col : Nat) (l : List (List Int)) (st : List Grp × Option Grp) : Prop :=
  match st.2 with
  | none => l = [] ∧ st.1 = []
  | some g => ∃ M, (∀ r ∈ l, fst0 r ≤ M) ∧ (∃ r ∈ l, fst0 r = M) ∧ g = ([M], sumE col l M) ∧ (∀ g', g' ∈ st.1 ↔ ∃ r ∈ l, fst0 r < M ∧ g' = ([fst0 r], sumE col l (fst0 r))) ∧ st.1.Pairwise (fun a b => fst0 a.1 < fst0 b.1)

theorem totInv_step (col : Nat) (l : List (List Int)) (st : List Grp × Option Grp) (r : List Int) (h : TotInv col l st) (hr : ∀ x ∈ l, fst0 x ≤ fst0 r) : TotInv col (l ++ [r]) (stepT [0] col st r) := by
  have kv : keyV [0] r = [fst0 r] := rfl
  have one : ∀ e, sumE col [r] e = if fst0 r = e then r.getD col 0 else 0 := fun e => by simp [sumE]
  unfold TotInv at h
  unfold stepT
  split at h
  · rename_i h2
    obtain ⟨rfl, h1⟩ := h
    rw [h2]
    simp only [h1]
    show ∃ M, _
    refine ⟨fst0 r, by simp, ⟨r, by simp, rfl⟩, ?_, ?_, List.Pairwise.nil⟩
    · rw [List.nil_append, one, if_pos rfl, kv]; simp
    · intro g'
      simp
  · rename_i g h2
    obtain ⟨M, q1, ⟨r0, hr0, hM⟩, rfl, q3, q4⟩ := h
    rw [h2]
    have hMr : M ≤ fst0 r := hM ▸ hr r0 hr0
    by_cases he : fst0 r = M
    · simp only [kv, he, if_true]
      show ∃ M', _
      refine ⟨M, fun x hx => ?_, ⟨r0, by simp [hr0], hM⟩, ?_, fun g' => ?_, q4⟩
      · rcases List.mem_append.1 hx with hx | hx
        · exact q1 x hx
        · rw [List.mem_singleton.1 hx]; omega
      · rw [sumE_append, one, if_pos he]
      · rw [q3]
        constructor
        · rintro ⟨x, hx, h1, h3⟩
          exact ⟨x, by simp [hx], h1, by rw [sumE_append, one, if_neg (by omega), Int.add_zero]; exact h3⟩
        · rintro ⟨x, hx, h1, h3⟩
          rcases List.mem_append.1 hx with hx | hx
          · exact ⟨x, hx, h1, by rw [sumE_append, one, if_neg (by omega), Int.add_zero] at h3; exact h3⟩
          · rw [List.mem_singleton.1 hx] at h1; omega
    · have hlt : M < fst0 r := by omega
      have hne : ([M] : List Int) ≠ [fst0 r] := fun e => by injection e with e _; omega
      simp only [kv, if_neg hne]
      show ∃ M', _
      refine ⟨fst0 r, fun x hx => ?_, ⟨r, by simp, rfl⟩, ?_, fun g' => ?_, ?_⟩
      · rcases List.mem_append.1 hx with hx | hx
        · exact hr x hx
        · rw [List.mem_singleton.1 hx]; omega
      · rw [sumE_append, one, if_pos rfl, sumE_none col (fst0 r) l fun x hx e => by have := q1 x hx; omega]
      · rw [List.mem_append, q3, List.mem_singleton]
        constructor
        · rintro (⟨x, hx, h1, h3⟩ | h3)
          · exact ⟨x, by simp [hx], by omega, by rw [sumE_append, one, if_neg (by omega), Int.add_zero]; exact h3⟩
          · exact ⟨r0, by simp [hr0], by omega, by rw [hM, sumE_append, one, if_neg (by omega), Int.add_zero]; exact h3⟩
        · rintro ⟨x, hx, h1, h3⟩
          rcases List.mem_append.1 hx with hx | hx
          · rw [sumE_append, one, if_neg (by omega), Int.add_zero] at h3
            have := q1 x hx
            by_cases hxM : fst0 x = M
            · right; rw [h3, hxM]
            · left; exact ⟨x, hx, by omega, h3⟩
          · rw [List.mem_singleton.1 hx] at h1; omega
      · rw [List.pairwise_append]
        refine ⟨q4, by simp, fun a ha b hb => ?_⟩
        obtain ⟨x, hx, h1, h3⟩ := (q3 a).1 ha
        rw [List.mem_singleton.1 hb, h3]
        exact h1

theorem totInv_all (col : Nat) : ∀ (l pre : List (List Int)) (st : List Grp × Option Grp), TotInv col pre st → (pre ++ l).Pairwise (fun a b => fst0 a ≤ fst0 b) → TotInv col (pre ++ l) (l.foldl (stepT [0] col) st)
  | [], pre, st, h, _ => by simpa using h
  | r :: l, pre, st, h, hs => by
    rw [List.foldl_cons]
    have h1 := totInv_step col pre st r h fun x hx => (List.pairwise_append.1 hs).2.2 x hx r (by simp)
    have := totInv_all col l (pre ++ [r]) _ h1 (by simpa using hs)
    simpa using this

/-- The totals of rows that rise: each first number once, with its sum. -/
theorem tot_mem (col : Nat) (l : List (List Int)) (hs : l.Pairwise (fun a b => fst0 a ≤ fst0 b)) : (∀ g, g ∈ totL [0] col l ↔ ∃ r ∈ l, g = ([fst0 r], sumE col l (fst0 r))) ∧ (totL [0] col l).Pairwise (fun a b => fst0 a.1 < fst0 b.1) := by
  have h := totInv_all col l [] ([], none) ⟨rfl, rfl⟩ (by simpa using hs)
  rw [List.nil_append] at h
  have e : l.foldl (stepT [0] col) ([], none) = stT [0] col l := rfl
  rw [e] at h
  unfold TotInv at h
  unfold totL
  split at h
  · rename_i h2
    obtain ⟨rfl, h1⟩ := h
    rw [h1, h2]
    simp
  · rename_i g h2
    obtain ⟨M, q1, ⟨r0, hr0, hM⟩, rfl, q3, q4⟩ := h
    rw [h2]
    refine ⟨fun g' => ?_, ?_⟩
    · simp only [Option.toList_some]
      rw [List.mem_append, q3, List.mem_singleton]
      constructor
      · rintro (⟨x, hx, h1, h3⟩ | h3)
        · exact ⟨x, hx, h3⟩
        · exact ⟨r0, hr0, by rw [hM]; exact h3⟩
      · rintro ⟨x, hx, h3⟩
        have := q1 x hx
        by_cases hxM : fst0 x = M
        · right; rw [h3, hxM]
        · left; exact ⟨x, hx, by omega, h3⟩
    · simp only [Option.toList_some]
      rw [List.pairwise_append]
      refine ⟨q4, by simp, fun a ha b hb => ?_⟩
      obtain ⟨x, hx, h1, h3⟩ := (q3 a).1 ha
      rw [List.mem_singleton.1 hb, h3]
      exact h1

theorem eq_of_rising : ∀ (a b : List Grp), a.Pairwise (fun a b => fst0 a.1 < fst0 b.1) → b.Pairwise (fun a b => fst0 a.1 < fst0 b.1) → (∀ g, g ∈ a ↔ g ∈ b) → a = b
  | [], [], _, _, _ => rfl
  | [], y :: b, _, _, h => by have := (h y).2 (by simp); simp at this
  | x :: a, [], _, _, h => by have := (h x).1 (by simp); simp at this
  | x :: a, y :: b, ha, hb, h => by
    rw [List.pairwise_cons] at ha hb
    have hxy : x = y := by
      rcases List.mem_cons.1 ((h x).1 (by simp)) with e | e
      · exact e
      · rcases List.mem_cons.1 ((h y).2 (by simp)) with e' | e'
        · exact e'.symm
        · have h1 := hb.1 x e
          have h2 := ha.1 y e'
          omega
    subst hxy
    rw [eq_of_rising a b ha.2 hb.2 fun g => ?_]
    constructor
    · intro hg
      rcases List.mem_cons.1 ((h g).1 (by simp [hg])) with e | e
      · have := ha.1 g hg
        rw [e] at this
        omega
      · exact e
    · intro hg
      rcases List.mem_cons.1 ((h g).2 (by simp [hg])) with e | e
      · have := hb.1 g hg
        rw [e] at this
        omega
      · exact e

/-- Rows in another order have the same totals. -/
theorem tot_perm (col : Nat) {l l' : List (List Int)} (h : l.Perm l') (hs : l.Pairwise (fun a b => fst0 a ≤ fst0 b)) (hs' : l'.Pairwise (fun a b => fst0 a ≤ fst0 b)) : totL [0] col l = totL [0] col l' := by
  obtain ⟨h1, h2⟩ := tot_mem col l hs
  obtain ⟨k1, k2⟩ := tot_mem col l' hs'
  refine eq_of_rising _ _ h2 k2 fun g => ?_
  rw [h1, k1]
  constructor
  · rintro ⟨r, hr, e⟩
    exact ⟨r, h.mem_iff.1 hr, by rw [← sumE_perm col _ h]; exact e⟩
  · rintro ⟨r, hr, e⟩
    exact ⟨r, h.mem_iff.2 hr, by rw [sumE_perm col _ h]; exact e⟩

/-- The sum of a column. -/
def sumC (col : Nat) : List (List Int) → Int
  | [] => 0
  | r :: l => r.getD col 0 + sumC col l
def sumG : List Grp → Int
  | [] => 0
  | g :: l => g.2 + sumG l
theorem sumG_append : ∀ (a b : List Grp), sumG (a ++ b) = sumG a + sumG b
  | [], b => by simp [sumG]
  | g :: a, b => by simp only [List.cons_append, sumG, sumG_append a b]; omega
theorem foldl_sumG (key : List Nat) (col : Nat) : ∀ (l : List (List Int)) (st : List Grp × Option Grp), sumG ((l.foldl (stepT key col) st).1 ++ (l.foldl (stepT key col) st).2.toList) = sumG (st.1 ++ st.2.toList) + sumC col l
  | [], st => by simp [sumC]
  | r :: l, st => by
    rw [List.foldl_cons, foldl_sumG key col l]
    have : sumG ((stepT key col st r).1 ++ (stepT key col st r).2.toList) = sumG (st.1 ++ st.2.toList) + r.getD col 0 := by
      unfold stepT
      split
      · rename_i h
        rw [h]
        simp [sumG_append, sumG]
      · rename_i g h
        rw [h]
        split
        · simp only [Option.toList_some, sumG_append, sumG]; omega
        · simp only [Option.toList_some, sumG_append, sumG]; omega
    rw [this, sumC]
    omega
/-- All sums add up to the sum of all. -/
theorem tot_sum (key : List Nat) (col : Nat) (l : List (List Int)) : sumG (totL key col l) = sumC col l := by
  have := foldl_sumG key col l ([], none)
  simpa [totL, stT, sumG] using this

/-- Each total's key is some row's; its sum is bounded. -/
theorem foldl_bd (key : List Nat) (col : Nat) (C : Int) : ∀ (l : List (List Int)) (st : List Grp × Option Grp) (X : Int), 0 ≤ X → 0 ≤ C → (∀ g ∈ st.1 ++ st.2.toList, -X ≤ g.2 ∧ g.2 ≤ X) → (∀ r ∈ l, -C ≤ r.getD col 0 ∧ r.getD col 0 ≤ C) →
    ∀ g ∈ (l.foldl (stepT key col) st).1 ++ (l.foldl (stepT key col) st).2.toList, -(X + C * l.length) ≤ g.2 ∧ g.2 ≤ X + C * l.length
  | [], st, X, _, _, h, _ => by simpa using h
  | r :: l, st, X, hX, hC, h, hr => by
    rw [List.foldl_cons]
    have h1 := hr r (by simp)
    have := foldl_bd key col C l (stepT key col st r) (X + C) (by omega) hC (fun g hg => ?_) fun x hx => hr x (by simp [hx])
    · intro g hg
      have h2 := this g hg
      have e : X + C * ((r :: l).length : Int) = X + C + C * (l.length : Int) := by
        rw [List.length_cons, Int.natCast_add, Int.mul_add]
        omega
      rw [e]
      exact h2
    · unfold stepT at hg
      split at hg
      · rename_i h2
        rw [h2] at h
        simp only [Option.toList_some, Option.toList_none, List.append_nil] at hg h
        rcases List.mem_append.1 hg with hg | hg
        · have := h g hg; omega
        · rw [List.mem_singleton.1 hg]; simp only; omega
      · rename_i g0 h2
        rw [h2] at h
        have h0 := h g0 (by simp)
        split at hg
        · simp only [Option.toList_some] at hg h
          rcases List.mem_append.1 hg with hg | hg
          · have := h g (by simp [hg]); omega
          · rw [List.mem_singleton.1 hg]; simp only; omega
        · simp only [Option.toList_some] at hg h
          rcases List.mem_append.1 hg with hg | hg
          · have := h g hg; omega
          · rw [List.mem_singleton.1 hg]; simp only; omega
theorem tot_bd (key : List Nat) (col : Nat) (C : Int) (hC : 0 ≤ C) (l : List (List Int)) (hr : ∀ r ∈ l, -C ≤ r.getD col 0 ∧ r.getD col 0 ≤ C) : ∀ g ∈ totL key col l, -(C * l.length) ≤ g.2 ∧ g.2 ≤ C * l.length := by
  have := foldl_bd key col C l ([], none) 0 (by omega) hC (by simp) hr
  simpa [totL, stT] using this

theorem foldl_key (key : List Nat) (col : Nat) (Q : List Int → Prop) : ∀ (l : List (List Int)) (st : List Grp × Option Grp), (∀ g ∈ st.1 ++ st.2.toList, Q g.1) → (∀ r ∈ l, Q (keyV key r)) → ∀ g ∈ (l.foldl (stepT key col) st).1 ++ (l.foldl (stepT key col) st).2.toList, Q g.1
  | [], st, h, _ => h
  | r :: l, st, h, hr => by
    rw [List.foldl_cons]
    refine foldl_key key col Q l _ (fun g hg => ?_) fun x hx => hr x (by simp [hx])
    have h1 := hr r (by simp)
    unfold stepT at hg
    split at hg
    · rename_i h2
      rw [h2] at h
      simp only [Option.toList_some, Option.toList_none, List.append_nil] at hg h
      rcases List.mem_append.1 hg with hg | hg
      · exact h g hg
      · rw [List.mem_singleton.1 hg]; exact h1
    · rename_i g0 h2
      rw [h2] at h
      split at hg
      · simp only [Option.toList_some] at hg h
        rcases List.mem_append.1 hg with hg | hg
        · exact h g (by simp [hg])
        · rw [List.mem_singleton.1 hg]; exact h g0 (by simp)
      · simp only [Option.toList_some] at hg h
        rcases List.mem_append.1 hg with hg | hg
        · exact h g hg
        · rw [List.mem_singleton.1 hg]; exact h1
theorem tot_key (key : List Nat) (col : Nat) (Q : List Int → Prop) (l : List (List Int)) (hr : ∀ r ∈ l, Q (keyV key r)) : ∀ g ∈ totL key col l, Q g.1 := by
  have := foldl_key key col Q l ([], none) (by simp) hr
  simpa [totL, stT] using this

/-! Totals of totals -/
def sumGE : List Grp → Int → Int
  | [], _ => 0
  | g :: l, e => (if fst0 g.1 = e then g.2 else 0) + sumGE l e
theorem sumGE_append (e : Int) : ∀ (a b : List Grp), sumGE (a ++ b) e = sumGE a e + sumGE b e
  | [], b => by simp [sumGE]
  | g :: a, b => by simp only [List.cons_append, sumGE, sumGE_append e a b]; omega
theorem foldl_sumGE (c : Nat) (key : List Nat) (col : Nat) (e : Int) : ∀ (l : List (List Int)) (st : List Grp × Option Grp), sumGE ((l.foldl (stepT (0 :: key) col) st).1 ++ (l.foldl (stepT (0 :: key) col) st).2.toList) e = sumGE (st.1 ++ st.2.toList) e + sumE col l e
  | [], st => by simp [sumE]
  | r :: l, st => by
    rw [List.foldl_cons, foldl_sumGE c key col e l]
    have kv : fst0 (keyV (0 :: key) r) = fst0 r := rfl
    have : sumGE ((stepT (0 :: key) col st r).1 ++ (stepT (0 :: key) col st r).2.toList) e = sumGE (st.1 ++ st.2.toList) e + if fst0 r = e then r.getD col 0 else 0 := by
      unfold stepT
      split
      · rename_i h
        rw [h]
        simp only [Option.toList_some, Option.toList_none, List.append_nil, sumGE_append, sumGE, kv]
        split <;> omega
      · rename_i g h
        rw [h]
        split
        · rename_i hk
          have : fst0 g.1 = fst0 r := by rw [hk]; exact kv
          simp only [Option.toList_some, sumGE_append, sumGE, this]
          split <;> omega
        · simp only [Option.toList_some, sumGE_append, sumGE, kv]
          split <;> split <;> omega
    rw [this, sumE]
    omega
theorem foldl_sub (key : List Nat) (col : Nat) : ∀ (l : List (List Int)) (st : List Grp × Option Grp), List.Sublist (((l.foldl (stepT (0 :: key) col) st).1 ++ (l.foldl (stepT (0 :: key) col) st).2.toList).map fun g => fst0 g.1) ((st.1 ++ st.2.toList).map (fun g => fst0 g.1) ++ l.map fst0)
  | [], st => by simp
  | r :: l, st => by
    rw [List.foldl_cons]
    refine (foldl_sub key col l _).trans ?_
    have kv : fst0 (keyV (0 :: key) r) = fst0 r := rfl
    have : List.Sublist (((stepT (0 :: key) col st r).1 ++ (stepT (0 :: key) col st r).2.toList).map fun g => fst0 g.1) ((st.1 ++ st.2.toList).map (fun g => fst0 g.1) ++ [fst0 r]) := by
      unfold stepT
      split
      · rename_i h
        rw [h]
        simp [kv]
      · rename_i g h
        rw [h]
        split
        · simp
        · simp [kv]
    have h2 := this.append (List.Sublist.refl (l.map fst0))
    simpa using h2
theorem foldl_has (key : List Nat) (col : Nat) (e : Int) : ∀ (l : List (List Int)) (st : List Grp × Option Grp), (∃ g ∈ (l.foldl (stepT (0 :: key) col) st).1 ++ (l.foldl (stepT (0 :: key) col) st).2.toList, fst0 g.1 = e) ↔ (∃ g ∈ st.1 ++ st.2.toList, fst0 g.1 = e) ∨ ∃ r ∈ l, fst0 r = e
  | [], st => by simp
  | r :: l, st => by
    rw [List.foldl_cons, foldl_has key col e l]
    have kv : fst0 (keyV (0 :: key) r) = fst0 r := rfl
    have : (∃ g ∈ (stepT (0 :: key) col st r).1 ++ (stepT (0 :: key) col st r).2.toList, fst0 g.1 = e) ↔ (∃ g ∈ st.1 ++ st.2.toList, fst0 g.1 = e) ∨ fst0 r = e := by
      unfold stepT
      split
      · rename_i h
        rw [h]
        constructor
        · rintro ⟨g, hg, he⟩
          simp only [Option.toList_some] at hg
          rcases List.mem_append.1 hg with hg | hg
          · exact .inl ⟨g, by simpa using hg, he⟩
          · rw [List.mem_singleton.1 hg] at he; exact .inr he
        · rintro (⟨g, hg, he⟩ | he)
          · exact ⟨g, by simp at hg; simp [hg], he⟩
          · exact ⟨_, List.mem_append_right _ (List.mem_singleton.2 rfl), he⟩
      · rename_i g0 h
        rw [h]
        split
        · rename_i hk
          have hk0 : fst0 g0.1 = fst0 r := by rw [hk]; exact kv
          constructor
          · rintro ⟨g, hg, he⟩
            simp only [Option.toList_some] at hg
            rcases List.mem_append.1 hg with hg | hg
            · exact .inl ⟨g, by simp [hg], he⟩
            · rw [List.mem_singleton.1 hg] at he; exact .inl ⟨g0, by simp, he⟩
          · rintro (⟨g, hg, he⟩ | he)
            · simp only [Option.toList_some] at hg
              rcases List.mem_append.1 hg with hg | hg
              · exact ⟨g, List.mem_append_left _ hg, he⟩
              · rw [List.mem_singleton.1 hg] at he
                exact ⟨_, List.mem_append_right _ (List.mem_singleton.2 rfl), he⟩
            · exact ⟨_, List.mem_append_right _ (List.mem_singleton.2 rfl), hk0.trans he⟩
        · constructor
          · rintro ⟨g, hg, he⟩
            simp only [Option.toList_some] at hg
            rcases List.mem_append.1 hg with hg | hg
            · exact .inl ⟨g, by simpa using hg, he⟩
            · rw [List.mem_singleton.1 hg] at he; exact .inr he
          · rintro (⟨g, hg, he⟩ | he)
            · exact ⟨g, List.mem_append_left _ (by simpa using hg), he⟩
            · exact ⟨_, List.mem_append_right _ (List.mem_singleton.2 rfl), he⟩
    rw [this]
    constructor
    · rintro ((h | h) | ⟨x, hx, h⟩)
      · exact .inl h
      · exact .inr ⟨r, by simp, h⟩
      · exact .inr ⟨x, by simp [hx], h⟩
    · rintro (h | ⟨x, hx, h⟩)
      · exact .inl (.inl h)
      · rcases List.mem_cons.1 hx with rfl | hx
        · exact .inl (.inr h)
        · exact .inr ⟨x, hx, h⟩

theorem sumE_out (col : Nat) (e : Int) : ∀ (gs : List Grp), (∀ g ∈ gs, g.1.length = col ∧ 0 < col) → sumE col (gs.map outT) e = sumGE gs e
  | [], _ => rfl
  | g :: gs, h => by
    have h1 := h g (by simp)
    rw [List.map_cons, sumE, sumGE, sumE_out col e gs fun x hx => h x (by simp [hx])]
    have e1 : (outT g).getD col 0 = g.2 := by
      unfold outT
      simp [List.getD_eq_getElem?_getD, ← h1.1]
    have e2 : fst0 (outT g) = fst0 g.1 := fst0_out g (by omega)
    rw [e1, e2]

/-- Totals of totals are the totals. -/
theorem tot_nest (c : Nat) (col : Nat) (l : List (List Int)) (hs : l.Pairwise (fun a b => fst0 a ≤ fst0 b)) : totL [0] 2 ((totL [0, c] col l).map outT) = totL [0] col l := by
  have hlen : ∀ g ∈ totL [0, c] col l, g.1.length = 2 ∧ 0 < 2 := fun g hg => ⟨tot_key [0, c] col (fun k => k.length = 2) l (fun r _ => rfl) g hg, by omega⟩
  have hf : ∀ g ∈ totL [0, c] col l, fst0 (outT g) = fst0 g.1 := fun g hg => fst0_out g (by have := (hlen g hg).1; omega)
  have hsub := foldl_sub [c] col l ([], none)
  have hsub : List.Sublist ((totL [0, c] col l).map fun g => fst0 g.1) (l.map fst0) := by simpa [totL, stT] using hsub
  have hs1 : ((totL [0, c] col l).map outT).Pairwise (fun a b => fst0 a ≤ fst0 b) := by
    rw [List.pairwise_map]
    have h1 : (l.map fst0).Pairwise (· ≤ ·) := by rw [List.pairwise_map]; exact hs
    have h2 := h1.sublist hsub
    rw [List.pairwise_map] at h2
    refine h2.imp_of_mem fun {a b} ha hb h => ?_
    rw [hf a ha, hf b hb]
    exact h
  obtain ⟨h1, h2⟩ := tot_mem 2 _ hs1
  obtain ⟨k1, k2⟩ := tot_mem col l hs
  have hsum : ∀ e, sumE 2 ((totL [0, c] col l).map outT) e = sumE col l e := fun e => by
    rw [sumE_out 2 e _ hlen]
    have := foldl_sumGE c [c] col e l ([], none)
    simpa [totL, stT, sumGE] using this
  refine eq_of_rising _ _ h2 k2 fun g => ?_
  rw [h1, k1]
  have hhas := fun e => foldl_has [c] col e l ([], none)
  have hhas : ∀ e, (∃ g ∈ totL [0, c] col l, fst0 g.1 = e) ↔ ∃ r ∈ l, fst0 r = e := fun e => by
    have := hhas e
    simpa [totL, stT] using this
  constructor
  · rintro ⟨x, hx, hg⟩
    obtain ⟨g0, hg0, rfl⟩ := List.mem_map.1 hx
    obtain ⟨r, hr, he⟩ := (hhas (fst0 (outT g0))).1 ⟨g0, hg0, (hf g0 hg0).symm⟩
    exact ⟨r, hr, by rw [hg, he, hsum]⟩
  · rintro ⟨r, hr, hg⟩
    obtain ⟨g0, hg0, he⟩ := (hhas (fst0 r)).2 ⟨r, hr, rfl⟩
    exact ⟨outT g0, List.mem_map.2 ⟨g0, hg0, rfl⟩, by rw [hf g0 hg0, he, hsum]; exact hg⟩
end Go.Proofs.Ytjmppooebppecaa.W
