/-
  line, at, Key.
-/
import Derived.Test.YtjmppooebppecaaBook
import Derived.Test.YtjmppooebppecaaBookI
import Derived.Test.YtjmppooebppecaaCodePair
import Derived.Test.YtjmppooebppecaaCodeLaw
import Derived.Test.YtjmppooebppecaaAbs25
namespace Go.Proofs.Ytjmppooebppecaa.W
open Go.Abs
set_option linter.unusedSimpArgs false
set_option linter.unusedVariables false

set_option maxRecDepth 100000 in
theorem at_at {m : Mem} {a : Option Addr} {n c : Nat} {xs : List Int} (h : SlA m 1 a n c (xs.map (.int .i64))) (i : Nat) (hi : i < n) : CallQ E F_pair_at [.slice a n c, .int .i64 (i : Nat)].toArray m fun w m' => w = .int .i64 (xs.getD i 0) ∧ Old m m' := by
  refine .enter fn_pair_at (by simp) ?_
  have lx : xs.length = n := by have := h.len; simpa using this
  obtain ⟨b, o, s, rfl⟩ := h.addr (by omega)
  have r := h.at_map hi
  have ex : xs[i]'(by omega) = xs.getD i 0 := by simp [List.getD_eq_getElem?_getD, show i < xs.length by omega]
  rw [ex] at r
  have d1 : decide ((i : Int) ≥ (n : Int)) = false := by simp; omega
  have z0 : (0 : Int) ≤ (i : Int) := by omega
  have z1 : (i : Int) < (n : Int) := by omega
  simp (decide := true) (implicitDefEqProofs := false) (maxDischargeDepth := 20) only [go_sem, d1, z0, z1, r, Int.toNat_natCast, ↓reduceIte, true_implies, false_implies]

def lineL (e p a n : Int) : List Int := [1, e, 1, 10, n, p, 1, 1000 * e, a, n]

set_option maxRecDepth 100000 in
set_option maxHeartbeats 4000000 in
theorem line_at {m : Mem} (e p a b d n w : Int) (he : -9223372036854775808 ≤ e ∧ e < 9223372036854775808) (hp : -9223372036854775808 ≤ p ∧ p < 9223372036854775808) (ha : -9223372036854775808 ≤ a ∧ a < 9223372036854775808) :
    CallQ E F_sheaflaw18_line #[.agg #[.int .i64 e, .int .i64 p, .int .i64 a, .int .i64 b, .int .i64 d, .int .i64 n, .int .i64 w]] m fun v m' => ∃ b e1 p1 a1, v = .slice (some ⟨b, 0, none⟩) 10 10 ∧ m.size ≤ b ∧ m'.get b = some (.cells false true ((lineL e1 p1 a1 n).map (.int .i64))) ∧ (1 ≤ e1 ∧ e1 ≤ 4 ∧ 0 ≤ p1 ∧ p1 ≤ 4 ∧ p1 ≠ e1) ∧ Old m m' := by
  have k1 := Within_ans e 1 4 he.1 he.2 (by decide) (by decide) (by decide) (by decide)
  have k2 := Within_ans p 0 4 hp.1 hp.2 (by decide) (by decide) (by decide) (by decide)
  have k3 := Within_ans a 1 3 ha.1 ha.2 (by decide) (by decide) (by decide) (by decide)
  refine CallQ.enter (args := [.agg #[.int .i64 e, .int .i64 p, .int .i64 a, .int .i64 b, .int .i64 d, .int .i64 n, .int .i64 w]]) fn_sheaflaw18_line (by simp) ?_
  obtain ⟨E1, hE⟩ : ∃ x, x = 1 + e % (4 - 1 + 1) := ⟨_, rfl⟩
  obtain ⟨P1, hP⟩ : ∃ x, x = 0 + p % (4 - 0 + 1) := ⟨_, rfl⟩
  obtain ⟨A1, hA⟩ : ∃ x, x = 1 + a % (3 - 1 + 1) := ⟨_, rfl⟩
  rw [← hE] at k1
  rw [← hP] at k2
  rw [← hA] at k3
  have w1 : IntKind.wrap .i64 (1000 * E1) = 1000 * E1 := wrap_i64_id _ (by omega) (by omega)
  by_cases h : P1 = E1
  · have d1 : (P1 == E1) = true := by simpa using h
    simp (decide := true) (implicitDefEqProofs := false) (maxDischargeDepth := 20) only [go_sem, k1.eq, k2.eq, k3.eq, d1, w1, ↓reduceIte, true_implies, false_implies]
    refine ⟨_, E1, 0, A1, rfl, ?_, ?_, ?_⟩
    · exact (Old.ansM (.ansM (.ansM (.push (.refl m) _)))).size
    · rw [if_pos rfl]; rfl
    · omega
  · have d1 : (P1 == E1) = false := by simpa using h
    simp (decide := true) (implicitDefEqProofs := false) (maxDischargeDepth := 20) only [go_sem, k1.eq, k2.eq, k3.eq, d1, w1, ↓reduceIte, true_implies, false_implies]
    refine ⟨_, E1, P1, A1, rfl, ?_, ?_, ?_⟩
    · exact (Old.ansM (.ansM (.ansM (.push (.refl m) _)))).size
    · rw [if_pos rfl]; rfl
    · omega

def keyL (xs : List Int) : List Int := if xs.getD 5 0 = 0 then [xs.getD 1 0, 0, xs.getD 8 0] else [min (xs.getD 1 0) (xs.getD 5 0), max (xs.getD 1 0) (xs.getD 5 0), xs.getD 8 0]

set_option maxRecDepth 100000 in
set_option maxHeartbeats 4000000 in
theorem Key_at {m : Mem} {a : Option Addr} {c : Nat} {xs : List Int} (h : SlA m 1 a 10 c (xs.map (.int .i64))) : CallQ E F_pair_Key [.slice a 10 c].toArray m fun v m' => ∃ q, v = .slice q 3 3 ∧ Vec m.size m' 1 q 3 ((keyL xs).map (.int .i64)) ∧ Old m m' := by
  refine .enter fn_pair_Key (by simp) ?_
  simp (decide := true) (implicitDefEqProofs := false) (maxDischargeDepth := 20) only [go_sem, ↓reduceIte, true_implies, false_implies]
  refine (at_at h 1 (by decide)).mono ?_
  rintro w m1 ⟨rfl, o1⟩
  simp (decide := true) (implicitDefEqProofs := false) (maxDischargeDepth := 20) only [go_sem, ↓reduceIte, true_implies, false_implies]
  refine (at_at (h.old o1) 5 (by decide)).mono ?_
  rintro w m2 ⟨rfl, o2⟩
  have o12 := o1.trans o2
  unfold keyL
  by_cases h5 : xs.getD 5 0 = 0
  · have d1 : (xs.getD 5 0 == 0) = true := by simpa using h5
    rw [if_pos h5]
    simp (decide := true) (implicitDefEqProofs := false) (maxDischargeDepth := 20) only [go_sem, d1, ↓reduceIte, true_implies, false_implies]
    refine (at_at (h.old o12) 8 (by decide)).mono ?_
    rintro w m3 ⟨rfl, o3⟩
    simp (decide := true) (implicitDefEqProofs := false) (maxDischargeDepth := 20) only [go_sem, o12, o3, ↓reduceIte, true_implies, false_implies]
    exact ⟨_, rfl, .built (o12.trans o3).size rfl, .push (o12.trans o3) _⟩
  · have d1 : (xs.getD 5 0 == 0) = false := by simpa using h5
    rw [if_neg h5]
    simp (decide := true) (implicitDefEqProofs := false) (maxDischargeDepth := 20) only [go_sem, d1, ↓reduceIte, true_implies, false_implies]
    refine (at_at (h.old o12) 8 (by decide)).mono ?_
    rintro w m3 ⟨rfl, o3⟩
    simp (decide := true) (implicitDefEqProofs := false) (maxDischargeDepth := 20) only [go_sem, o12, o3, ↓reduceIte, true_implies, false_implies]
    exact ⟨_, rfl, .built (o12.trans o3).size rfl, .push (o12.trans o3) _⟩
end Go.Proofs.Ytjmppooebppecaa.W
