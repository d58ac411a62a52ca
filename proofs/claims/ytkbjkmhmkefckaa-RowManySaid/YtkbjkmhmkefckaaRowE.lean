/-
  Numbers as groups of seven bits: there and back.
-/
import Derived.Test.YtkbjkmhmkefckaaRowC
namespace Go.Proofs.Ytkbjkmhmkefckaa.W
open Go.Abs
set_option linter.unusedSimpArgs false
set_option linter.unusedVariables false

def vint (u : Nat) : List Int := if h : u < 128 then [(u : Int)] else ((u % 128 + 128 : Nat) : Int) :: vint (u / 128)
termination_by u
decreasing_by omega

theorem vint_small (u : Nat) (h : u < 128) : vint u = [(u : Int)] := by rw [vint]; simp [h]
theorem vint_more (u : Nat) (h : ¬ u < 128) : vint u = ((u % 128 + 128 : Nat) : Int) :: vint (u / 128) := by rw [vint]; simp [h]

def zig (n : Int) : Nat := if n < 0 then (-2 * n - 1).toNat else (2 * n).toNat
def zag (u : Nat) : Int := if u % 2 = 1 then -((u / 2 : Nat) : Int) - 1 else ((u / 2 : Nat) : Int)
theorem zag_zig (n : Int) : zag (zig n) = n := by unfold zag zig; split <;> split <;> omega
theorem zig_zag (u : Nat) : zig (zag u) = u := by unfold zag zig; split <;> split <;> omega
theorem zig_lt (n : Int) (h : -9223372036854775808 ≤ n) (h' : n < 9223372036854775808) : zig n < 18446744073709551616 := by unfold zig; split <;> omega
theorem zag_bd (u : Nat) (h : u < 18446744073709551616) : -9223372036854775808 ≤ zag u ∧ zag u < 9223372036854775808 := by unfold zag; split <;> omega

/-- What the numbers take. -/
def putB (r : List Int) : List Int := (r.map fun n => vint (zig n)).flatten
def put (r : List Int) : List Int := if r.length ≤ 10 then ((putB r).length : Int) :: putB r else []

theorem vint_bd : ∀ (u : Nat), ∀ x ∈ vint u, 0 ≤ x ∧ x < 256 := by
  intro u
  induction u using Nat.strongRecOn with
  | _ u ih =>
    intro x hx
    by_cases h : u < 128
    · rw [vint_small u h] at hx; simp at hx; omega
    · rw [vint_more u h] at hx
      rcases List.mem_cons.1 hx with e | e
      · omega
      · exact ih (u / 128) (by omega) x e
theorem vint_pos (u : Nat) : 0 < (vint u).length := by
  by_cases h : u < 128
  · rw [vint_small u h]; simp
  · rw [vint_more u h]; simp
theorem vint_len : ∀ (k u : Nat), u < 128 ^ (k + 1) → (vint u).length ≤ k + 1 := by
  intro k
  induction k with
  | zero => intro u h; rw [vint_small u (by simpa using h)]; simp
  | succ k ih =>
    intro u h
    by_cases h1 : u < 128
    · rw [vint_small u h1]; simp
    · rw [vint_more u h1, List.length_cons]
      have := ih (u / 128) (by rw [Nat.div_lt_iff_lt_mul (by omega), ← Nat.pow_succ]; exact h)
      omega
theorem vint_len10 (u : Nat) (h : u < 18446744073709551616) : (vint u).length ≤ 10 := vint_len 9 u (Nat.lt_of_lt_of_le h (by decide))

def Ok64 (r : List Int) : Prop := ∀ n ∈ r, -9223372036854775808 ≤ n ∧ n < 9223372036854775808
theorem putB_cons (n : Int) (r : List Int) : putB (n :: r) = vint (zig n) ++ putB r := rfl
theorem putB_append (r s : List Int) : putB (r ++ s) = putB r ++ putB s := by unfold putB; rw [List.map_append, List.flatten_append]
theorem putB_len : ∀ (r : List Int), Ok64 r → (putB r).length ≤ 10 * r.length
  | [], _ => by simp [putB]
  | n :: r, h => by
    rw [putB_cons, List.length_append, List.length_cons]
    have h1 := vint_len10 (zig n) (zig_lt n (h n (by simp)).1 (h n (by simp)).2)
    have := putB_len r fun x hx => h x (by simp [hx])
    omega
theorem putB_bd (r : List Int) : ∀ x ∈ putB r, 0 ≤ x ∧ x < 256 := by
  intro x hx
  unfold putB at hx
  obtain ⟨l, hl, hx⟩ := List.mem_flatten.1 hx
  obtain ⟨n, _, rfl⟩ := List.mem_map.1 hl
  exact vint_bd _ x hx

/-- A number at the front; i groups are behind it, u is what they were. -/
def numF : Nat → Nat → List Int → Option (Int × List Int)
  | _, _, [] => none
  | i, u, x :: r => if x < 128 then some (zag (u ||| ((x.toNat % 128) * 2 ^ (7 * i)) % 18446744073709551616), r) else numF (i + 1) (u ||| ((x.toNat % 128) * 2 ^ (7 * i)) % 18446744073709551616) r

theorem or_add (u x i : Nat) (h : u < 2 ^ i) : u ||| x * 2 ^ i = u + x * 2 ^ i := by
  have h1 := Nat.shiftLeft_add_eq_or_of_lt h x
  rw [Nat.shiftLeft_eq] at h1
  rw [Nat.or_comm, ← h1, Nat.add_comm]

theorem numF_vint : ∀ (v i u : Nat) (r : List Int), u < 2 ^ (7 * i) → u + v * 2 ^ (7 * i) < 18446744073709551616 → numF i u (vint v ++ r) = some (zag (u + v * 2 ^ (7 * i)), r) := by
  intro v
  induction v using Nat.strongRecOn with
  | _ v ih =>
    intro i u r hu hv
    have hp : 0 < 2 ^ (7 * i) := Nat.pow_pos (by omega)
    by_cases h : v < 128
    · rw [vint_small v h, List.singleton_append, numF, if_pos (by omega), Int.toNat_natCast, Nat.mod_eq_of_lt h, Nat.mod_eq_of_lt (by omega), or_add _ _ _ hu]
    · have e : v = v % 128 + 128 * (v / 128) := by omega
      have e2 : v * 2 ^ (7 * i) = v % 128 * 2 ^ (7 * i) + v / 128 * 2 ^ (7 * (i + 1)) := by
        rw [show 7 * (i + 1) = 7 * i + 7 by omega, Nat.pow_add]
        generalize 2 ^ (7 * i) = p
        conv => lhs; rw [e, Nat.add_mul]
        rw [show (2 : Nat) ^ 7 = 128 by decide, Nat.mul_comm p 128, ← Nat.mul_assoc, Nat.mul_comm (v / 128) 128]
      rw [vint_more v h, List.cons_append, numF, if_neg (by omega), Int.toNat_natCast, show (v % 128 + 128) % 128 = v % 128 by omega, Nat.mod_eq_of_lt (by omega), or_add _ _ _ hu, ih (v / 128) (by omega)]
      · rw [e2, Nat.add_assoc]
      · rw [show 7 * (i + 1) = 7 * i + 7 by omega, Nat.pow_add]
        have : v % 128 * 2 ^ (7 * i) ≤ 127 * 2 ^ (7 * i) := Nat.mul_le_mul_right _ (by omega)
        rw [show (2 : Nat) ^ 7 = 128 by decide]
        omega
      · omega

theorem numF_len : ∀ (b : List Int) (i u : Nat) (n : Int) (r : List Int), numF i u b = some (n, r) → r.length < b.length
  | [], _, _, _, _, h => by simp [numF] at h
  | x :: b, i, u, n, r, h => by
    simp only [numF] at h
    split at h
    · cases h; simp
    · have := numF_len b _ _ _ _ h
      rw [List.length_cons]; omega
theorem numF_bd : ∀ (b : List Int) (i u : Nat) (n : Int) (r : List Int), u < 18446744073709551616 → numF i u b = some (n, r) → -9223372036854775808 ≤ n ∧ n < 9223372036854775808
  | [], _, _, _, _, _, h => by simp [numF] at h
  | x :: b, i, u, n, r, hu, h => by
    have hor : u ||| ((x.toNat % 128) * 2 ^ (7 * i)) % 18446744073709551616 < 18446744073709551616 := by
      have := Nat.or_lt_two_pow (x := u) (y := ((x.toNat % 128) * 2 ^ (7 * i)) % 18446744073709551616) (n := 64) hu (Nat.mod_lt _ (by decide))
      exact this
    simp only [numF] at h
    split at h
    · cases h; exact zag_bd _ hor
    · exact numF_bd b _ _ _ _ hor h

/-- All numbers. -/
def parse : Nat → List Int → Option (List Int)
  | _, [] => some []
  | 0, _ => none
  | k + 1, b => match numF 0 0 b with
    | some (n, r) => (parse k r).map (n :: ·)
    | none => none

theorem parse_putB : ∀ (r : List Int) (k : Nat), Ok64 r → (putB r).length ≤ k → parse k (putB r) = some r
  | [], k, _, _ => by cases k <;> rfl
  | n :: r, k, h, hk => by
    rw [putB_cons] at hk ⊢
    have hv := vint_pos (zig n)
    rw [List.length_append] at hk
    obtain ⟨k, rfl⟩ : ∃ j, k = j + 1 := ⟨k - 1, by omega⟩
    have h1 := numF_vint (zig n) 0 0 (putB r) (by decide) (by have := zig_lt n (h n (by simp)).1 (h n (by simp)).2; omega)
    simp only [Nat.mul_zero, Nat.pow_zero, Nat.mul_one, Nat.zero_add, zag_zig] at h1
    have h2 : vint (zig n) ++ putB r ≠ [] := by
      intro e
      have := congrArg List.length e
      rw [List.length_append, List.length_nil] at this
      omega
    cases hq : vint (zig n) ++ putB r with
    | nil => exact absurd hq h2
    | cons a l =>
      rw [hq] at h1
      simp only [parse, h1]
      rw [parse_putB r k (fun x hx => h x (by simp [hx])) (by omega)]
      rfl
theorem parse_bd : ∀ (k : Nat) (b r : List Int), parse k b = some r → Ok64 r ∧ r.length ≤ b.length
  | k, [], r, h => by cases k <;> (simp [parse] at h; subst h; exact ⟨fun n hn => by simp at hn, by simp⟩)
  | 0, _ :: _, r, h => by simp [parse] at h
  | k + 1, x :: b, r, h => by
    simp only [parse] at h
    split at h
    · rename_i n r' hn
      obtain ⟨r2, h2, rfl⟩ := Option.map_eq_some_iff.1 h
      obtain ⟨h3, h4⟩ := parse_bd k r' r2 h2
      have hl := numF_len _ _ _ _ _ hn
      refine ⟨fun y hy => ?_, by simp only [List.length_cons] at *; omega⟩
      rcases List.mem_cons.1 hy with e | e
      · rw [e]; exact numF_bd _ _ _ _ _ (by decide) hn
      · exact h3 y e
    · cases h

/-- Get. -/
def getL (b : List Int) : List Int × Int :=
  match b with
  | [] => ([], 0)
  | x :: t => if (b.length : Int) ≤ x then ([], 0) else
    match parse (t.take x.toNat).length (t.take x.toNat) with
    | some r => if put r = b.take (1 + x.toNat) then (r, 1 + x) else ([], -1)
    | none => ([], -1)

theorem put_head (r : List Int) (h : r.length ≤ 10) : put r = ((putB r).length : Int) :: putB r := by unfold put; rw [if_pos h]

/-- A row comes back. -/
theorem getL_put (r rest : List Int) (h : r.length ≤ 10) (hr : Ok64 r) : getL (put r ++ rest) = (r, ((put r).length : Int)) := by
  rw [put_head r h, List.cons_append]
  simp only [getL, List.length_cons, List.length_append]
  rw [if_neg (by omega), Int.toNat_natCast, List.take_left, parse_putB r _ hr (Nat.le_refl _)]
  have e : (((putB r).length : Int) :: (putB r ++ rest)).take (1 + (putB r).length) = put r := by
    rw [Nat.add_comm 1, List.take_succ_cons, List.take_left, put_head r h]
  rw [e]
  show (if put r = put r then (r, 1 + ((putB r).length : Int)) else ([], -1)) = _
  rw [if_pos rfl]
  simp only [List.length_cons, Int.natCast_add, Int.add_comm]
  rfl
/-- Of fewer bytes more are needed. -/
theorem getL_cut (r : List Int) (h : r.length ≤ 10) (k : Nat) (hk : k < (put r).length) : getL ((put r).take k) = ([], 0) := by
  rw [put_head r h] at hk ⊢
  cases k with
  | zero => rfl
  | succ k =>
    rw [List.take_succ_cons]
    simp only [getL]
    rw [if_pos (by simp only [List.length_cons, List.length_take] at hk ⊢; omega)]
/-- What is got is what Put makes of it. -/
theorem getL_spec (b r : List Int) (n : Int) (h : getL b = (r, n)) (hb : ∀ x ∈ b, 0 ≤ x ∧ x < 256) : (0 < n ∧ put r = b.take n.toNat ∧ n ≤ b.length ∧ Ok64 r) ∨ (n ≤ 0 ∧ r = []) := by
  cases b with
  | nil => simp [getL] at h; exact .inr ⟨by omega, h.1⟩
  | cons x t =>
    have h0 := hb x (by simp)
    simp only [getL] at h
    split at h
    · cases h; exact .inr ⟨by omega, rfl⟩
    · rename_i hl
      split at h
      · rename_i r' hr
        split at h
        · rename_i hp
          cases h
          refine .inl ⟨by omega, ?_, by omega, (parse_bd _ _ _ hr).1⟩
          rw [hp]
          congr 1
          omega
        · cases h; exact .inr ⟨by omega, rfl⟩
      · cases h; exact .inr ⟨by omega, rfl⟩

theorem put_inj (r s : List Int) (h : r.length ≤ 10) (h' : s.length ≤ 10) (hr : Ok64 r) (hs : Ok64 s) : put r = put s ↔ r = s := by
  constructor
  · intro e
    have h1 := getL_put r [] h hr
    have h2 := getL_put s [] h' hs
    rw [e, h2] at h1
    exact (Prod.mk.inj h1).1.symm
  · rintro rfl; rfl
/-- No row's bytes begin another one's. -/
theorem put_prefix (r s : List Int) (h : r.length ≤ 10) (h' : s.length ≤ 10) (hr : Ok64 r) (hs : Ok64 s) (k : Nat) (hk : k = min (put r).length (put s).length) (e : (put r).take k = (put s).take k) : r = s := by
  rcases Nat.le_total (put r).length (put s).length with hl | hl
  · have e1 : put r = (put s).take (put r).length := by
      rw [hk, Nat.min_eq_left hl, List.take_length] at e; exact e
    have h1 := getL_put s [] h' hs
    have h2 := getL_put r ((put s).drop (put r).length) h hr
    have e2 : put r ++ (put s).drop (put r).length = put s := by
      conv => lhs; arg 1; rw [e1]
      exact List.take_append_drop _ _
    rw [e2] at h2
    rw [List.append_nil, h2] at h1
    exact (Prod.mk.inj h1).1
  · have e1 : put s = (put r).take (put s).length := by
      rw [hk, Nat.min_eq_right hl, List.take_length] at e; exact e.symm
    have h1 := getL_put r [] h hr
    have h2 := getL_put s ((put r).drop (put s).length) h' hs
    have e2 : put s ++ (put r).drop (put s).length = put r := by
      conv => lhs; arg 1; rw [e1]
      exact List.take_append_drop _ _
    rw [e2] at h2
    rw [List.append_nil, h2] at h1
    exact (Prod.mk.inj h1).1.symm
end Go.Proofs.Ytkbjkmhmkefckaa.W
