/-
  The document's own product.
-/
import Derived.Test.YtmgdmldmialiiaaWideR
namespace Go.Proofs.Ytmgdmldmialiiaa.W
open Go.Abs
set_option linter.unusedSimpArgs false
set_option linter.unusedVariables false

def B32 : Nat := 4294967296
/-- A product's limbs. -/
def limb0 (a b : Nat) : Nat := a % 4294967296 * (b % 4294967296)
def limbT (a b : Nat) : Nat := a % 4294967296 * (b / 4294967296) + limb0 a b / 4294967296
def limbU (a b : Nat) : Nat := limbT a b % 4294967296 + a / 4294967296 * (b % 4294967296)
def limbV (a b : Nat) : Nat := limbT a b / 4294967296 + a / 4294967296 * (b / 4294967296) + limbU a b / 4294967296
def limbsV (a b : Nat) : Value := .agg #[.int .u64 (limb0 a b % 4294967296 : Nat), .int .u64 (limbU a b % 4294967296 : Nat), .int .u64 (limbV a b % 4294967296 : Nat), .int .u64 (limbV a b / 4294967296 : Nat)]

theorem mul_lt32 {x y : Nat} (hx : x < 4294967296) (hy : y < 4294967296) : x * y ≤ 18446744065119617025 := by
  have := Nat.mul_le_mul (show x ≤ 4294967295 by omega) (show y ≤ 4294967295 by omega)
  omega
theorem loop3 {E : Env} {f n : Nat} {rd : Option Nat} {b : MC} {K : Post3} {t : Fr} {m : Mem} (h : wpM E f n rd b (seqK (fun t m => wpM E f n rd b (seqK (fun t m => wpM E f n rd b (seqK (fun _ _ => False) K) t m) K) t m) K) t m) : wpM E f n rd (.loop b) K t m := ⟨3, h⟩

set_option maxRecDepth 100000 in
set_option maxHeartbeats 4000000 in
theorem rlimbs_ans (a b : Nat) (ha : a < 18446744073709551616) (hb : b < 18446744073709551616) : Ans E F_sheafref1_limbs [.int .u64 a, .int .u64 b] (limbsV a b) := by
  refine .of fn_sheafref1_limbs (by simp) fun m => ?_
  have l1 : ∀ x : Nat, x < 18446744073709551616 → andI .u64 (x : Int) 4294967295 = ((x % 4294967296 : Nat) : Int) := fun x hx => by rw [and_low32 _ (by omega) (by omega)]; omega
  have l2 : ∀ x : Nat, shrI .u64 (x : Int) 32 = ((x / 4294967296 : Nat) : Int) := fun x => by
    have := shrI_eq .u64 (x : Int) 32 (by decide)
    rw [show ((32 : Nat) : Int) = 32 from rfl] at this
    rw [this]; omega
  have e1 := l1 a ha
  have e2 := l1 b hb
  have e3 := l2 a
  have e4 := l2 b
  obtain ⟨x0, hx0⟩ : ∃ x, x = a % 4294967296 := ⟨_, rfl⟩
  obtain ⟨x1, hx1⟩ : ∃ x, x = a / 4294967296 := ⟨_, rfl⟩
  obtain ⟨y0, hy0⟩ : ∃ x, x = b % 4294967296 := ⟨_, rfl⟩
  obtain ⟨y1, hy1⟩ : ∃ x, x = b / 4294967296 := ⟨_, rfl⟩
  have p00 := mul_lt32 (x := x0) (y := y0) (by omega) (by omega)
  have p01 := mul_lt32 (x := x0) (y := y1) (by omega) (by omega)
  have p10 := mul_lt32 (x := x1) (y := y0) (by omega) (by omega)
  have p11 := mul_lt32 (x := x1) (y := y1) (by omega) (by omega)
  unfold limbsV limbV limbU limbT limb0
  rw [← hx0] at e1 ⊢
  rw [← hx1] at e3 ⊢
  rw [← hy0] at e2 ⊢
  rw [← hy1] at e4 ⊢
  have wn : ∀ z : Int, ∀ x : Nat, x < 18446744073709551616 → z = x → IntKind.wrap .u64 z = (x : Int) := fun z x h e => by rw [e]; exact wrap_u64_id _ (by omega) (by omega)
  have m00 := wn ((x0 : Int) * (y0 : Int)) (x0 * y0) (by omega) (by simp)
  have m01 := wn ((x0 : Int) * (y1 : Int)) (x0 * y1) (by omega) (by simp)
  have m10 := wn ((x1 : Int) * (y0 : Int)) (x1 * y0) (by omega) (by simp)
  have m11 := wn ((x1 : Int) * (y1 : Int)) (x1 * y1) (by omega) (by simp)
  generalize x0 * y0 = P at *
  generalize x0 * y1 = Q at *
  generalize x1 * y0 = R at *
  generalize x1 * y1 = S at *
  obtain ⟨T, hT⟩ : ∃ T, T = Q + P / 4294967296 := ⟨_, rfl⟩
  obtain ⟨U, hU⟩ : ∃ U, U = T % 4294967296 + R := ⟨_, rfl⟩
  obtain ⟨V, hV⟩ : ∃ V, V = T / 4294967296 + S + U / 4294967296 := ⟨_, rfl⟩
  rw [← hT, ← hU, ← hV]
  have a1 := wn ((0 : Int) + (P : Int)) P (by omega) (by omega)
  have a2 := wn ((P : Int) + 0) P (by omega) (by omega)
  have a3 := wn ((0 : Int) + (Q : Int)) Q (by omega) (by omega)
  have a4 := wn ((Q : Int) + ((P / 4294967296 : Nat) : Int)) T (by omega) (by omega)
  have a5 := wn ((0 : Int) + ((T / 4294967296 : Nat) : Int)) (T / 4294967296) (by omega) (by omega)
  have a6 := wn (((T % 4294967296 : Nat) : Int) + (R : Int)) U (by omega) (by omega)
  have a7 := wn ((U : Int) + 0) U (by omega) (by omega)
  have a8 := wn (((T / 4294967296 : Nat) : Int) + (S : Int)) (T / 4294967296 + S) (by omega) (by omega)
  have a9 := wn (((T / 4294967296 + S : Nat) : Int) + ((U / 4294967296 : Nat) : Int)) V (by omega) (by omega)
  have a10 := wn ((0 : Int) + ((V / 4294967296 : Nat) : Int)) (V / 4294967296) (by omega) (by omega)
  have b1 := l1 P (by omega)
  have b2 := l1 T (by omega)
  have b3 := l1 U (by omega)
  have b4 := l1 V (by omega)
  have c1 := l2 P
  have c2 := l2 T
  have c3 := l2 U
  have c4 := l2 V
  have q1 : IntKind.wrap .i64 (0 + 0) = 0 := by decide
  have q2 : IntKind.wrap .i64 (0 + 1) = 1 := by decide
  have q3 : IntKind.wrap .i64 (1 + 0) = 1 := by decide
  have q4 : IntKind.wrap .i64 (1 + 1) = 2 := by decide
  have q5 : IntKind.wrap .i64 (0 + 2) = 2 := by decide
  have q6 : IntKind.wrap .i64 (1 + 2) = 3 := by decide
  have q7 : Int.toNat 0 = 0 := rfl
  have q8 : Int.toNat 1 = 1 := rfl
  have q9 : Int.toNat 2 = 2 := rfl
  have q10 : Int.toNat 3 = 3 := rfl
  simp (decide := true) (implicitDefEqProofs := false) (maxDischargeDepth := 20) only [go_sem, e1, e2, e3, e4, ↓reduceIte, true_implies, false_implies]
  simp only [c_sheafref1_limbs_19_at, wpM_block, c_sheafref1_limbs_18_at]
  refine loop3 ?_
  simp (decide := true) (implicitDefEqProofs := false) (maxDischargeDepth := 20) only [go_sem, ↓reduceIte, true_implies, false_implies]
  simp only [c_sheafref1_limbs_9_at, wpM_block, c_sheafref1_limbs_8_at]
  refine loop3 ?_
  simp (decide := true) (implicitDefEqProofs := false) (maxDischargeDepth := 20) only [go_sem, m00, m01, m10, m11, a1, a2, a3, a4, a5, a6, a7, a8, a9, a10, b1, b2, b3, b4, c1, c2, c3, c4, q1, q2, q3, q4, q5, q6, q7, q8, q9, q10, List.getElem?_cons_zero, List.getElem?_cons_succ, ↓reduceIte, true_implies, false_implies]
  simp only [c_sheafref1_limbs_9_at, wpM_block, c_sheafref1_limbs_8_at]
  refine loop3 ?_
  simp (decide := true) (implicitDefEqProofs := false) (maxDischargeDepth := 20) only [go_sem, m00, m01, m10, m11, a1, a2, a3, a4, a5, a6, a7, a8, a9, a10, b1, b2, b3, b4, c1, c2, c3, c4, q1, q2, q3, q4, q5, q6, q7, q8, q9, q10, List.getElem?_cons_zero, List.getElem?_cons_succ, ↓reduceIte, true_implies, false_implies]

theorem or_shl (x y : Nat) (hx : x < 4294967296) (hy : y < 4294967296) : orI .u64 ((x * 4294967296 : Nat) : Int) (y : Int) = ((x * 4294967296 + y : Nat) : Int) := by
  rw [orI_u64 _ _ (by omega) (by omega)]
  have := Nat.shiftLeft_add_eq_or_of_lt (i := 32) (b := y) (by omega) x
  rw [Nat.shiftLeft_eq] at this
  rw [show (4294967296 : Nat) = 2 ^ 32 by decide, ← this]

set_option maxRecDepth 100000 in
set_option maxHeartbeats 4000000 in
theorem rMul_ans (a b : Int) (ha : -9223372036854775808 ≤ a) (ha' : a < 9223372036854775808) (hb : -9223372036854775808 ≤ b) (hb' : b < 9223372036854775808) :
    Ans E F_sheafref1_Mul [.int .i64 a, .int .i64 b] (W (a * b)) := by
  have s1 := rsize_ans a ha ha'
  have s2 := rsize_ans b hb hb'
  have eN : a * b = if (decide (a < 0) == decide (b < 0)) = true then ((a.natAbs * b.natAbs : Nat) : Int) else -((a.natAbs * b.natAbs : Nat) : Int) := by
    rw [Int.natCast_mul]
    by_cases h1 : a < 0
    · by_cases h2 : b < 0
      · rw [if_pos (by simp [h1, h2]), show (a.natAbs : Int) = -a by omega, show (b.natAbs : Int) = -b by omega, Int.neg_mul_neg]
      · rw [if_neg (by simp [h1, h2]), show (a.natAbs : Int) = -a by omega, show (b.natAbs : Int) = b by omega, Int.neg_mul, Int.neg_neg]
    · by_cases h2 : b < 0
      · rw [if_neg (by simp [h1, h2]), show (a.natAbs : Int) = a by omega, show (b.natAbs : Int) = -b by omega, Int.mul_neg, Int.neg_neg]
      · rw [if_pos (by simp [h1, h2]), show (a.natAbs : Int) = a by omega, show (b.natAbs : Int) = b by omega]
  obtain ⟨c, hc⟩ : ∃ c, c = a.natAbs := ⟨_, rfl⟩
  obtain ⟨d, hd⟩ : ∃ d, d = b.natAbs := ⟨_, rfl⟩
  have lm := rlimbs_ans c d (by omega) (by omega)
  rw [← hc] at s1 eN
  rw [← hd] at s2 eN
  -- what the limbs make
  have key : limb0 c d % 4294967296 + limbU c d % 4294967296 * 4294967296 + limbV c d * 18446744073709551616 = c * d ∧ limbV c d < 18446744073709551616 := by
    have e1 := Nat.div_add_mod c 4294967296
    have e2 := Nat.div_add_mod d 4294967296
    have h1 := Nat.mod_lt c (show 0 < 4294967296 by decide)
    have h2 := Nat.mod_lt d (show 0 < 4294967296 by decide)
    have p00 := mul_lt32 (x := c % 4294967296) (y := d % 4294967296) (by omega) (by omega)
    have p01 := mul_lt32 (x := c % 4294967296) (y := d / 4294967296) (by omega) (by omega)
    have p10 := mul_lt32 (x := c / 4294967296) (y := d % 4294967296) (by omega) (by omega)
    have p11 := mul_lt32 (x := c / 4294967296) (y := d / 4294967296) (by omega) (by omega)
    have e : c * d = c / 4294967296 * (d / 4294967296) * 18446744073709551616 + (c % 4294967296 * (d / 4294967296) + c / 4294967296 * (d % 4294967296)) * 4294967296 + c % 4294967296 * (d % 4294967296) := by
      conv => lhs; rw [← e1, ← e2]
      rw [Nat.add_mul, Nat.mul_add, Nat.mul_add]
      have t1 : 4294967296 * (c / 4294967296) * (4294967296 * (d / 4294967296)) = c / 4294967296 * (d / 4294967296) * 18446744073709551616 := by
        rw [Nat.mul_mul_mul_comm, Nat.mul_comm (4294967296 * 4294967296)]
      have t2 : 4294967296 * (c / 4294967296) * (d % 4294967296) = c / 4294967296 * (d % 4294967296) * 4294967296 := by
        rw [Nat.mul_assoc, Nat.mul_comm 4294967296]
      have t3 : c % 4294967296 * (4294967296 * (d / 4294967296)) = c % 4294967296 * (d / 4294967296) * 4294967296 := by
        rw [Nat.mul_left_comm, Nat.mul_comm 4294967296]
      rw [t1, t2, t3]
      omega
    unfold limbV limbU limbT limb0
    rw [e]
    generalize c % 4294967296 * (d % 4294967296) = P at *
    generalize c % 4294967296 * (d / 4294967296) = Q at *
    generalize c / 4294967296 * (d % 4294967296) = R at *
    generalize c / 4294967296 * (d / 4294967296) = S at *
    omega
  obtain ⟨k1, k2⟩ := key
  have sh : ∀ x : Nat, x < 4294967296 → shlI .u64 (x : Int) 32 = ((x * 4294967296 : Nat) : Int) := fun x hx => by
    have := shl_u64 x 32 (by decide)
    rw [show ((32 : Nat) : Int) = 32 from rfl] at this
    rw [this, Nat.mod_eq_of_lt (by omega)]
  unfold limbsV at lm
  obtain ⟨V, hV⟩ : ∃ V, V = limbV c d := ⟨_, rfl⟩
  obtain ⟨u, hu⟩ : ∃ u, u = limbU c d % 4294967296 := ⟨_, rfl⟩
  obtain ⟨p, hp⟩ : ∃ p, p = limb0 c d % 4294967296 := ⟨_, rfl⟩
  rw [← hV] at k1 k2 lm
  rw [← hu] at k1 lm
  rw [← hp] at k1 lm
  have hu' : u < 4294967296 := by omega
  have hp' : p < 4294967296 := by omega
  have g1 := sh (V / 4294967296) (by omega)
  have g2 := sh u hu'
  have g3 := or_shl (V / 4294967296) (V % 4294967296) (by omega) (by omega)
  have g4 := or_shl u p hu' hp'
  rw [show V / 4294967296 * 4294967296 + V % 4294967296 = V by omega] at g3
  have wN : W ((c * d : Nat) : Int) = .agg #[.int .i64 (IntKind.wrap .i64 (V : Int)), .int .u64 ((u * 4294967296 + p : Nat) : Int)] := by
    unfold W
    rw [← k1]
    exact pair_eq (by congr 1; omega) (by omega)
  have n1 := rneg_ans ((c * d : Nat) : Int)
  rw [wN] at n1
  rw [eN]
  generalize hc' : c * d = N at *
  have q7 : Int.toNat 0 = 0 := rfl
  have q8 : Int.toNat 1 = 1 := rfl
  have q9 : Int.toNat 2 = 2 := rfl
  have q10 : Int.toNat 3 = 3 := rfl
  refine .of fn_sheafref1_Mul (by simp) fun m => ?_
  generalize hk : c_sheafref1_Mul_5 = k5
  simp (decide := true) (implicitDefEqProofs := false) (maxDischargeDepth := 20) only [go_sem, s1.eq, s2.eq, lm.eq, ↓reduceIte, true_implies, false_implies]
  have o3 : Old (m.push (Blk.cells false true [.int .i64 0, .int .u64 0])) (ansM E F_sheafref1_limbs #[.int .u64 (c : Int), .int .u64 (d : Int)] [] (ansM E F_sheafref1_size #[.int .i64 b] [] (ansM E F_sheafref1_size #[.int .i64 a] [] (m.push (Blk.cells false true [.int .i64 0, .int .u64 0]))))) := .ansM (.ansM (.ansM (.refl _)))
  generalize ansM E F_sheafref1_limbs #[.int .u64 (c : Int), .int .u64 (d : Int)] [] (ansM E F_sheafref1_size #[.int .i64 b] [] (ansM E F_sheafref1_size #[.int .i64 a] [] (m.push (Blk.cells false true [.int .i64 0, .int .u64 0])))) = M3 at *
  subst hk
  have z3 := o3.size
  rw [size_push] at z3
  have gM : M3.get m.size = some (Blk.cells false true [.int .i64 0, .int .u64 0]) := (o3.get (by simp)).trans (by rw [getM_push, if_pos rfl])
  have y1 : ¬ m.size = M3.size := by omega
  have y2 : ¬ m.size = M3.size + 1 := by omega
  have y3 : m.size < M3.size := by omega
  have y4 : m.size < M3.size + 1 := by omega
  have y5 : m.size < M3.size + 2 := by omega
  have y6 : m.size < M3.size + 1 + 1 := by omega
  have y7 : m.size ≤ M3.size := by omega
  have y8 : m.size ≤ M3.size + 1 := by omega
  have oM : Old m M3 := ((Old.refl m).push _).trans o3
  cases h1 : decide (a < 0) <;> cases h2 : decide (b < 0)
  · rw [show (if (false == false) = true then (N : Int) else -(N : Int)) = (N : Int) from if_pos rfl, wN]
    simp (decide := true) (implicitDefEqProofs := false) (maxDischargeDepth := 20) only [go_sem, h1, h2, g1, g2, g3, g4, q7, q8, q9, q10, y1, y2, y3, y4, y5, y6, y7, y8, Nat.le_refl, oM, gM, List.getElem?_cons_zero, List.getElem?_cons_succ, ↓reduceIte, true_implies, false_implies]
  · rw [show (if (false == true) = true then (N : Int) else -(N : Int)) = -(N : Int) from if_neg (by decide)]
    simp only [W] at n1 ⊢
    simp (decide := true) (implicitDefEqProofs := false) (maxDischargeDepth := 20) only [go_sem, n1.eq, h1, h2, g1, g2, g3, g4, q7, q8, q9, q10, y1, y2, y3, y4, y5, y6, y7, y8, Nat.le_refl, oM, gM, List.getElem?_cons_zero, List.getElem?_cons_succ, ↓reduceIte, true_implies, false_implies]
  · rw [show (if (true == false) = true then (N : Int) else -(N : Int)) = -(N : Int) from if_neg (by decide)]
    simp only [W] at n1 ⊢
    simp (decide := true) (implicitDefEqProofs := false) (maxDischargeDepth := 20) only [go_sem, n1.eq, h1, h2, g1, g2, g3, g4, q7, q8, q9, q10, y1, y2, y3, y4, y5, y6, y7, y8, Nat.le_refl, oM, gM, List.getElem?_cons_zero, List.getElem?_cons_succ, ↓reduceIte, true_implies, false_implies]
  · rw [show (if (true == true) = true then (N : Int) else -(N : Int)) = (N : Int) from if_pos rfl, wN]
    simp (decide := true) (implicitDefEqProofs := false) (maxDischargeDepth := 20) only [go_sem, h1, h2, g1, g2, g3, g4, q7, q8, q9, q10, y1, y2, y3, y4, y5, y6, y7, y8, Nat.le_refl, oM, gM, List.getElem?_cons_zero, List.getElem?_cons_succ, ↓reduceIte, true_implies, false_implies]
end Go.Proofs.Ytmgdmldmialiiaa.W
