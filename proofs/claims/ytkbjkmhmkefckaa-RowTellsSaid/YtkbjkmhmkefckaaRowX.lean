/-
  The document's own rows: what Get reads, without memory.
-/
import Derived.Test.YtkbjkmhmkefckaaRowU
namespace Go.Proofs.Ytkbjkmhmkefckaa.W
open Go.Abs
set_option linter.unusedSimpArgs false
set_option linter.unusedVariables false

/-- A number at the front; i groups are behind it, u is what they were. -/
def rnum : Nat → Nat → List Int → Option (Nat × List Int)
  | _, _, [] => none
  | i, u, x :: r => if 9 < i then none else if i = 9 ∧ 1 < x then none else
    if x < 128 then (if x = 0 ∧ 0 < i then none else some (u ||| ((x.toNat % 128) * 2 ^ (7 * i)) % 18446744073709551616, r))
    else rnum (i + 1) (u ||| ((x.toNat % 128) * 2 ^ (7 * i)) % 18446744073709551616) r

theorem pow7_le {i : Nat} (h : i ≤ 8) : 2 ^ (7 * i) ≤ 72057594037927936 := by
  have : 2 ^ (7 * i) ≤ 2 ^ 56 := Nat.pow_le_pow_right (by decide) (by omega)
  have e : (2 : Nat) ^ 56 = 72057594037927936 := by decide
  omega
theorem pow7_succ (i : Nat) : 2 ^ (7 * (i + 1)) = 2 ^ (7 * i) * 128 := by rw [show 7 * (i + 1) = 7 * i + 7 by omega, Nat.pow_add]
/-- A group behind the others. -/
theorem group {i u y : Nat} (hu : u < 2 ^ (7 * i)) (hi : ¬ 9 < i) (h9 : ¬ (i = 9 ∧ 1 < y)) (hy : y < 128) : u ||| (y * 2 ^ (7 * i)) % 18446744073709551616 = u + y * 2 ^ (7 * i) ∧ u + y * 2 ^ (7 * i) < 18446744073709551616 := by
  have hb : u + y * 2 ^ (7 * i) < 18446744073709551616 := by
    by_cases h : i = 9
    · subst h
      have e : (2 : Nat) ^ (7 * 9) = 9223372036854775808 := by decide
      rw [e] at hu ⊢
      have : y ≤ 1 := by omega
      have := Nat.mul_le_mul_right 9223372036854775808 this
      omega
    · have hp := pow7_le (i := i) (by omega)
      have := Nat.mul_le_mul_right (2 ^ (7 * i)) (show y ≤ 127 by omega)
      omega
  refine ⟨?_, hb⟩
  rw [Nat.mod_eq_of_lt (by omega), or_add _ _ _ hu]

theorem rnum_sound : ∀ (b : List Int) (i u v : Nat) (r : List Int), Byt b → u < 2 ^ (7 * i) → rnum i u b = some (v, r) → ∃ w, b = vint w ++ r ∧ v = u + w * 2 ^ (7 * i) ∧ v < 18446744073709551616 ∧ (0 < i → 0 < w)
  | [], _, _, _, _, _, _, h => by simp [rnum] at h
  | x :: b, i, u, v, r, hb, hu, h => by
    have hx := hb x (by simp)
    obtain ⟨y, rfl⟩ : ∃ y : Nat, x = (y : Int) := ⟨x.toNat, by omega⟩
    simp only [rnum, Int.toNat_natCast] at h
    split at h
    · cases h
    · rename_i hi
      split at h
      · cases h
      · rename_i h9
        split at h
        · rename_i hs
          split at h
          · cases h
          · rename_i h0
            obtain ⟨g1, g2⟩ := group (i := i) (u := u) (y := y % 128) hu hi (by omega) (by omega)
            rw [g1] at h
            cases h
            refine ⟨y, ?_, by rw [Nat.mod_eq_of_lt (by omega)], by omega, by omega⟩
            rw [vint_small y (by omega)]; rfl
        · rename_i hs
          obtain ⟨g1, g2⟩ := group (i := i) (u := u) (y := y % 128) hu hi (by omega) (by omega)
          rw [g1] at h
          have hu' : u + y % 128 * 2 ^ (7 * i) < 2 ^ (7 * (i + 1)) := by
            rw [pow7_succ]
            have := Nat.mul_le_mul_right (2 ^ (7 * i)) (show y % 128 ≤ 127 by omega)
            omega
          obtain ⟨w, e1, e2, e3, e4⟩ := rnum_sound b (i + 1) _ v r (fun z hz => hb z (by simp [hz])) hu' h
          have hw := e4 (by omega)
          refine ⟨y % 128 + 128 * w, ?_, ?_, e3, by omega⟩
          · rw [vint_more _ (by omega), show (y % 128 + 128 * w) / 128 = w by omega, show (y % 128 + 128 * w) % 128 + 128 = y by omega, e1]
            rfl
          · rw [e2, pow7_succ, Nat.add_mul, Nat.add_assoc, Nat.mul_comm (2 ^ (7 * i)) 128, ← Nat.mul_assoc, Nat.mul_comm w 128]

theorem rnum_complete : ∀ (w i u : Nat) (r : List Int), u < 2 ^ (7 * i) → (0 < i → 0 < w) → u + w * 2 ^ (7 * i) < 18446744073709551616 → rnum i u (vint w ++ r) = some (u + w * 2 ^ (7 * i), r) := by
  intro w
  induction w using Nat.strongRecOn with
  | _ w ih =>
    intro i u r hu hw hv
    have hi : ¬ 9 < i := by
      intro h
      have h1 : 2 ^ 70 ≤ 2 ^ (7 * i) := Nat.pow_le_pow_right (by decide) (by omega)
      have e : (2 : Nat) ^ 70 = 1180591620717411303424 := by decide
      have := Nat.mul_le_mul_right (2 ^ (7 * i)) (show 1 ≤ w from hw (by omega))
      omega
    by_cases h : w < 128
    · have h9 : ¬ (i = 9 ∧ 1 < w) := by
        rintro ⟨rfl, h1⟩
        have e : (2 : Nat) ^ (7 * 9) = 9223372036854775808 := by decide
        rw [e] at hv
        omega
      rw [vint_small w h, List.singleton_append]
      simp only [rnum, Int.toNat_natCast]
      obtain ⟨g1, g2⟩ := group (i := i) (u := u) (y := w % 128) hu hi (by omega) (by omega)
      rw [if_neg hi, if_neg (by omega), if_pos (by omega), if_neg (by rintro ⟨h1, h2⟩; have := hw h2; omega), g1, Nat.mod_eq_of_lt h]
    · have e2 : w * 2 ^ (7 * i) = w % 128 * 2 ^ (7 * i) + w / 128 * 2 ^ (7 * (i + 1)) := by
        rw [pow7_succ]
        generalize 2 ^ (7 * i) = p
        conv => lhs; rw [show w = w % 128 + 128 * (w / 128) by omega, Nat.add_mul]
        rw [Nat.mul_comm p 128, ← Nat.mul_assoc, Nat.mul_comm (w / 128) 128]
      have h9 : ¬ i = 9 := by
        rintro rfl
        have e : (2 : Nat) ^ (7 * 9) = 9223372036854775808 := by decide
        rw [e] at hv
        omega
      rw [vint_more w h, List.cons_append]
      simp only [rnum, Int.toNat_natCast]
      obtain ⟨g1, g2⟩ := group (i := i) (u := u) (y := (w % 128 + 128) % 128) hu hi (by omega) (by omega)
      rw [if_neg hi, if_neg (by omega), if_neg (by omega), g1, show (w % 128 + 128) % 128 = w % 128 by omega, ih (w / 128) (by omega)]
      · rw [e2, Nat.add_assoc]
      · rw [pow7_succ]
        have := Nat.mul_le_mul_right (2 ^ (7 * i)) (show w % 128 ≤ 127 by omega)
        omega
      · intro _; omega
      · omega

/-- All numbers. -/
def rparse : Nat → List Int → Option (List Int)
  | _, [] => some []
  | 0, _ => none
  | k + 1, b => match rnum 0 0 b with
    | some (v, r) => (rparse k r).map (zag v :: ·)
    | none => none

theorem rparse_sound : ∀ (k : Nat) (b r : List Int), Byt b → rparse k b = some r → b = putB r ∧ Ok64 r
  | k, [], r, _, h => by cases k <;> (simp [rparse] at h; subst h; exact ⟨rfl, fun n hn => by simp at hn⟩)
  | 0, _ :: _, r, _, h => by simp [rparse] at h
  | k + 1, x :: b, r, hb, h => by
    simp only [rparse] at h
    split at h
    · rename_i v r' hn
      obtain ⟨r2, h2, rfl⟩ := Option.map_eq_some_iff.1 h
      obtain ⟨w, e1, e2, e3, _⟩ := rnum_sound (x :: b) 0 0 v r' hb (by decide) hn
      have hb' : Byt r' := fun z hz => hb z (by rw [e1]; exact List.mem_append.2 (.inr hz))
      obtain ⟨e4, e5⟩ := rparse_sound k r' r2 hb' h2
      have ev : v = w := by rw [e2, Nat.mul_zero, Nat.pow_zero, Nat.mul_one, Nat.zero_add]
      subst ev
      refine ⟨by rw [e1, putB_cons, zig_zag, e4], fun y hy => ?_⟩
      rcases List.mem_cons.1 hy with e | e
      · rw [e]; exact zag_bd _ e3
      · exact e5 y e
    · cases h
theorem rparse_putB : ∀ (r : List Int) (k : Nat), Ok64 r → (putB r).length ≤ k → rparse k (putB r) = some r
  | [], k, _, _ => by cases k <;> rfl
  | n :: r, k, h, hk => by
    rw [putB_cons] at hk ⊢
    have hv := vint_pos (zig n)
    rw [List.length_append] at hk
    obtain ⟨k, rfl⟩ : ∃ j, k = j + 1 := ⟨k - 1, by omega⟩
    have h1 := rnum_complete (zig n) 0 0 (putB r) (by decide) (fun h => by omega) (by have := zig_lt n (h n (by simp)).1 (h n (by simp)).2; omega)
    simp only [Nat.mul_zero, Nat.pow_zero, Nat.mul_one, Nat.zero_add] at h1
    have h2 : vint (zig n) ++ putB r ≠ [] := by
      intro e
      have := congrArg List.length e
      rw [List.length_append, List.length_nil] at this
      omega
    cases hq : vint (zig n) ++ putB r with
    | nil => exact absurd hq h2
    | cons a l =>
      rw [hq] at h1
      simp only [rparse, h1]
      rw [rparse_putB r k (fun x hx => h x (by simp [hx])) (by omega), zag_zig]
      rfl

/-- What the document's Get answers. -/
def rgetL (b : List Int) : List Int × Int :=
  match b with
  | [] => ([], 0)
  | x :: t => if (b.length : Int) ≤ x then ([], 0) else
    match rparse (t.take x.toNat).length (t.take x.toNat) with
    | some r => if r.length ≤ 10 then (r, 1 + x) else ([], -1)
    | none => ([], -1)
theorem rgetL_eq (b : List Int) (hb : Byt b) : rgetL b = getL b := by
  cases b with
  | nil => rfl
  | cons x t =>
    have hx := hb x (by simp)
    simp only [rgetL, getL]
    by_cases hl : ((x :: t).length : Int) ≤ x
    · rw [if_pos hl, if_pos hl]
    · rw [if_neg hl, if_neg hl]
      rw [List.length_cons] at hl
      have htl : (t.take x.toNat).length = x.toNat := by rw [List.length_take]; omega
      have htk : (x :: t).take (1 + x.toNat) = x :: t.take x.toNat := by rw [Nat.add_comm 1, List.take_succ_cons]
      have hbt : Byt (t.take x.toNat) := fun z hz => hb z (List.mem_cons_of_mem _ (List.mem_of_mem_take hz))
      rw [htk]
      generalize t.take x.toNat = tk at *
      cases hr : rparse tk.length tk with
      | some r =>
        obtain ⟨e1, e2⟩ := rparse_sound _ _ _ hbt hr
        have hp := parse_putB r tk.length e2 (by rw [← e1]; exact Nat.le_refl _)
        rw [← e1] at hp
        rw [hp]
        simp only
        by_cases h10 : r.length ≤ 10
        · rw [if_pos h10, if_pos]
          rw [put_head r h10, ← e1, htl]
          congr 1
          omega
        · rw [if_neg h10, if_neg]
          unfold put
          rw [if_neg h10]
          intro e
          cases e
      | none =>
        cases hp : parse tk.length tk with
        | none => rfl
        | some r =>
          simp only
          rw [if_neg]
          intro e
          have e2 := (parse_bd _ _ _ hp).1
          have h10 : r.length ≤ 10 := by
            apply Decidable.byContradiction
            intro h
            unfold put at e
            rw [if_neg h] at e
            cases e
          rw [put_head r h10] at e
          have e3 : putB r = tk := (List.cons.inj e).2
          have := rparse_putB r tk.length e2 (by rw [e3]; exact Nat.le_refl _)
          rw [e3, hr] at this
          cases this
end Go.Proofs.Ytkbjkmhmkefckaa.W
