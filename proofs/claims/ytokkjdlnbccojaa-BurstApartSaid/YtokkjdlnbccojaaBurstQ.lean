/-
  BurstApart, the law.
-/
import Derived.Test.YtokkjdlnbccojaaBurstP
namespace Go.Proofs.Ytokkjdlnbccojaa.W
open Go.Abs
set_option linter.unusedSimpArgs false
set_option linter.unusedVariables false

theorem le4_zero (w : BitVec 32) : (∀ b ∈ le4 w, b = 0) ↔ w = 0#32 := by
  constructor
  · intro h
    apply le4_inj
    have : le4 w = List.replicate 4 0 := List.eq_replicate_iff.2 ⟨rfl, h⟩
    rw [this]; rfl
  · rintro rfl
    decide

set_option maxRecDepth 100000 in
set_option maxHeartbeats 4000000 in
theorem BurstApart_law (m : Mem) (hro : ∀ i c, m.get i = some c → c.writable = false) (a0 : Option Addr) (l0 c0 : Nat) (xs0 : List Int) (hs0 : SlA m 1 a0 l0 c0 (xs0.map (.int .u8))) (hl0 : xs0.length = l0) (hx0 : ∀ x ∈ xs0, 0 ≤ x ∧ x < 256)
    (a1 : Option Addr) (l1 c1 : Nat) (xs1 : List Int) (hs1 : SlA m 1 a1 l1 c1 (xs1.map (.int .u8))) (hl1 : xs1.length = l1) (hx1 : ∀ x ∈ xs1, 0 ≤ x ∧ x < 256)
    (a2 : Option Addr) (l2 c2 : Nat) (xs2 : List Int) (hs2 : SlA m 1 a2 l2 c2 (xs2.map (.int .u8))) (hl2 : xs2.length = l2) (hx2 : ∀ x ∈ xs2, 0 ≤ x ∧ x < 256)
    (at_ : Int) (ha : -9223372036854775808 ≤ at_) (ha' : at_ < 9223372036854775808) (x : Int) (hxa : 0 ≤ x) (hxb : x < 4294967296) : CallQ E F_sheaflaw3_BurstApart [.slice a0 l0 c0, .slice a1 l1 c1, .slice a2 l2 c2, .int .i64 at_, .int .u32 x].toArray m fun v _ => v = .bool true := by
  obtain ⟨n, hn⟩ : ∃ n, n = min (min (min l0 l1) l2) 60 := ⟨_, rfl⟩
  have e60 : min (min (min (l0 : Int) (l1 : Int)) (l2 : Int)) 60 = (n : Int) := by omega
  obtain ⟨w, rfl⟩ : ∃ w : BitVec 32, x = (w.toNat : Int) := ⟨BitVec.ofNat 32 x.toNat, by rw [BitVec.toNat_ofNat]; omega⟩
  obtain ⟨sa, ea⟩ := hs0.sliceTo (E := E) (k := .i64) (show n ≤ l0 by omega)
  obtain ⟨sb, eb⟩ := hs1.sliceTo (E := E) (k := .i64) (show n ≤ l1 by omega)
  obtain ⟨sc, ec⟩ := hs2.sliceTo (E := E) (k := .i64) (show n ≤ l2 by omega)
  rw [Nat.mul_one, ← List.map_take] at ea eb ec
  obtain ⟨la, ha1, hla⟩ := bytes_of (xs0.take n) fun x h => hx0 x (List.mem_of_mem_take h)
  obtain ⟨lb_, hb1, hlb⟩ := bytes_of (xs1.take n) fun x h => hx1 x (List.mem_of_mem_take h)
  obtain ⟨lc, hc1, hlc⟩ := bytes_of (xs2.take n) fun x h => hx2 x (List.mem_of_mem_take h)
  rw [ha1] at ea
  rw [hb1] at eb
  rw [hc1] at ec
  have la' : la.length = n := by rw [hla]; simp; omega
  have lb' : lb_.length = n := by rw [hlb]; simp; omega
  have lc' : lc.length = n := by rw [hlc]; simp; omega
  refine .enter fn_sheaflaw3_BurstApart (by simp) ?_
  simp (decide := true) (implicitDefEqProofs := false) (maxDischargeDepth := 20) only [go_sem, ↓reduceIte, e60]
  refine StepQ_make (l := n) (z := .int .u8 0) (by simp (decide := true) only [go_sem]) (by simp (decide := true) only [go_sem]) (Nat.le_refl _) (by omega) ?_
  simp (decide := true) (implicitDefEqProofs := false) (maxDischargeDepth := 20) only [go_sem, ↓reduceIte]
  have hz : List.replicate n (Value.int .u8 0) = (List.replicate n (0 : UInt8)).map byteV := by rw [List.map_replicate]; rfl
  rw [hz]
  have hB := Box.new m true ((List.replicate n (0 : UInt8)).map byteV)
  have fresh : 0 < n → ∀ x, (a0 = some x ∨ a1 = some x ∨ a2 = some x) → x.block ≠ m.size := by
    intro h0 x hx
    have ne : ∀ l : List UInt8, l.length = n → l.map byteV ≠ [] := by rintro l hl e; simp at e; rw [e] at hl; simp at hl; omega
    rcases hx with rfl | rfl | rfl
    · have := ea.lt (ne _ la'); omega
    · have := eb.lt (ne _ lb'); omega
    · have := ec.lt (ne _ lc'); omega
  refine Apart_loop1 _ _ n c0 c1 c2 m.size a0 a1 a2 la lb_ lc (ea.push _) (eb.push _) (ec.push _) l0 l1 l2 (by omega) (by omega) (by omega) (by omega) (List.replicate n 0) (by simp) hB fresh
    (by simp (decide := true) only [go_sem, ↓reduceIte]) (by simp (decide := true) only [go_sem, ↓reduceIte]) (by simp (decide := true) only [go_sem, ↓reduceIte]) (by simp (decide := true) only [go_sem, ↓reduceIte]) (by simp (decide := true) only [go_sem, ↓reduceIte]) (by simp (decide := true) only [go_sem, ↓reduceIte]) _ ?_
  intro t1 m1 ag va vb vc hsz x1
  have t0 := ag 0 (by decide +kernel)
  have t1' := ag 1 (by decide +kernel)
  have t2 := ag 2 (by decide +kernel)
  have t3 := ag 3 (by decide +kernel)
  have t4 := ag 4 (by decide +kernel)
  have t11 := ag 11 (by decide +kernel)
  have t12 := ag 12 (by decide +kernel)
  simp (decide := true) only [go_sem, ↓reduceIte] at t0 t1' t2 t3 t4 t11 t12
  clear ag
  obtain ⟨tg, g⟩ := x1
  have lxx : (xb (xb la lb_) lc).length = n := by rw [xb_length _ _ (by rw [xb_length _ _ (by omega)]; omega), xb_length _ _ (by omega)]; exact la'
  have vs : SlA m1 1 (some ⟨m.size, 0, none⟩) n n ((xb (xb la lb_) lc).map byteV) := SlA.new g (by rw [List.length_map, lxx, Nat.mul_one]) rfl
  have R1 := fun (m3 : Mem) (h : SlA m3 1 (some ⟨m.size, 0, none⟩) n n ((xb (xb la lb_) lc).map byteV)) (K : Value → Mem → Prop) => sum_eq h (by omega) K
  have R2 := fun (m3 : Mem) (h : SlA m3 1 a0 n c0 (la.map byteV)) (K : Value → Mem → Prop) => sum_eq h (by omega) K
  have R3 := fun (m3 : Mem) (h : SlA m3 1 a1 n c1 (lb_.map byteV)) (K : Value → Mem → Prop) => sum_eq h (by omega) K
  have R4 := fun (m3 : Mem) (h : SlA m3 1 a2 n c2 (lc.map byteV)) (K : Value → Mem → Prop) => sum_eq h (by omega) K
  have aM := fun (g : FuncId) (args : Array Value) (ids : List Nat) (mm : Mem) (x : Option Addr) (c : Nat) (l : List UInt8) (h : SlA mm 1 x n c (l.map byteV)) => h.ansM (E := E) (g := g) (args := args) (ids := ids)
  have e3 := crc_three la lb_ lc (by omega) (by omega)
  by_cases h4 : n < 4
  · have d2 : decide ((n : Int) < 4) = true := by simp; omega
    simp (decide := true) (implicitDefEqProofs := false) (maxDischargeDepth := 20) only [go_sem, ↓reduceIte, t0, t1', t2, t3, t4, t11, t12, sa, sb, sc, R1, R2, R3, R4, aM, vs, va, vb, vc, xor_u32, e3, d2, bne_self_eq_false, true_implies, false_implies]
  · have d2 : decide ((n : Int) < 4) = false := by simp; omega
    have w1 : IntKind.wrap .i64 ((n : Int) - 4) = (n : Int) - 4 := wrap_i64_id _ (by omega) (by omega)
    have wi := Within_ans at_ 0 ((n : Int) - 4) ha ha' (by omega) (by omega) (by omega) (by omega)
    obtain ⟨k, hk⟩ : ∃ k : Nat, (k : Int) = 0 + at_ % ((n : Int) - 4 - 0 + 1) := ⟨(0 + at_ % ((n : Int) - 4 - 0 + 1)).toNat, by have := Int.emod_nonneg at_ (show (n : Int) - 4 - 0 + 1 ≠ 0 by omega); omega⟩
    rw [← hk] at wi
    have hkn : k + 4 ≤ n := by have := Int.emod_lt_of_pos at_ (show 0 < (n : Int) - 4 - 0 + 1 by omega); omega
    simp (decide := true) (implicitDefEqProofs := false) (maxDischargeDepth := 20) only [go_sem, ↓reduceIte, t0, t1', t2, t3, t4, t11, t12, sa, sb, sc, R1, R2, R3, R4, aM, vs, va, vb, vc, xor_u32, e3, d2, w1, wi.eq, bne_self_eq_false, true_implies, false_implies]
    generalize hM : ansM E F_sheafbook_Within _ [] _ = M
    have oM : Old m1 M := by rw [← hM]; exact .ansM (.ansM (.ansM (.ansM (.ansM (.refl m1)))))
    clear hM
    have vM := va.old oM
    have hne : la.map byteV ≠ [] := by intro e; simp at e; rw [e] at la'; simp at la'; omega
    refine append_copy (sz := 1) ((vM.push _).appended' (by simp (decide := true) only [go_sem]) (by decide)) (by simpa using la') (by simp (decide := true) only [go_sem]) (byteV_oneCell la) (by omega) fun m3 b3 p3 o3 q3 x3 s5 => ?_
    simp (decide := true) (implicitDefEqProofs := false) (maxDischargeDepth := 20) only [go_sem, ↓reduceIte]
    have hne3 : ∀ x, a0 = some x → x.block ≠ b3 := by
      intro x hx
      subst hx
      have := vM.lt hne
      omega
    refine Apart_loop2 _ _ n k b3 p3 la w la' hkn (by omega) x3 (s5.loose _ rfl) a0 n c0 la (vM.old o3) hne3 (by simp (decide := true) only [go_sem, ↓reduceIte, t4]) (by simp (decide := true) only [go_sem, ↓reduceIte]) (by simp (decide := true) only [go_sem, ↓reduceIte]) (by simp (decide := true) only [go_sem, ↓reduceIte]) _ ?_
    intro t5 m5 ag v0 v5
    have u0 := ag 0 (by decide +kernel)
    have u4 := ag 4 (by decide +kernel)
    have u11 := ag 11 (by decide +kernel)
    have u15 := ag 15 (by decide +kernel)
    simp (decide := true) only [go_sem, ↓reduceIte, t0, t4, t11] at u0 u4 u11 u15
    clear ag
    have R5 := fun (m3 : Mem) (h : SlA m3 1 (some ⟨b3, 0, p3⟩) n n ((xb la (List.replicate k 0 ++ le4 w ++ List.replicate (n - k - 4) 0)).map byteV)) (K : Value → Mem → Prop) => sum_eq h (by omega) K
    have c1 : ((((crc (xb la (List.replicate k 0 ++ le4 w ++ List.replicate (n - k - 4) 0))).toNat : Nat) : Int) == ((crc la).toNat : Nat)) = decide (w = 0#32) := by
      rw [u32_eq, decide_eq_decide, crc_apart la (le4 w) k (n - k - 4) (by simp [le4]) (by simp [le4]; omega), le4_zero]
    have c2 : (((w.toNat : Nat) : Int) == 0) = decide (w = 0#32) := by
      have := u32_eq w 0#32
      exact this
    simp (decide := true) (implicitDefEqProofs := false) (maxDischargeDepth := 20) only [go_sem, ↓reduceIte, u0, u4, u11, u15, sa, R2, R5, aM, v0, v5, c1, c2, beq_self_eq_true, true_implies, false_implies]
end Go.Proofs.Ytokkjdlnbccojaa.W
