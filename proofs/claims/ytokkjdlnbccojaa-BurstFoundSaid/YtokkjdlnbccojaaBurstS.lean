/-
  BurstFound: the closure.
-/
import Derived.Test.YtokkjdlnbccojaaBurstR
namespace Go.Proofs.Ytokkjdlnbccojaa.W
open Go.Abs
set_option linter.unusedSimpArgs false
set_option linter.unusedVariables false

/-- A call of a function value. -/
def fvV (E : Env) (v : Value) (ys : Array Value) (m : Mem) : Option Step :=
  match v with
  | .func (.func g) first captured => match E.fn g with
    | some _ => some (.enter g (first ++ ys ++ captured) m)
    | none => match E.ext g with
      | some k => val? m (carryV k (first ++ ys ++ captured).toList)
      | none => none
  | .func (.yield l) first _ => some (.round l (first ++ ys) m)
  | _ => none

@[go_sem] theorem callV_tmp (x : Nat) (args : Array Operand) (tys : Array TypeId) (r : Operand → Value) (m : Mem) : callV E ⟨.value (.tmp x), args, tys⟩ r m = fvV E (r (.tmp x)) (args.map r) m := rfl
@[go_sem] theorem fvV_func (g : FuncId) (first captured ys : Array Value) (m : Mem) (h : (E.fn g).isSome = true) : fvV E (.func (.func g) first captured) ys m = some (.enter g (first ++ ys ++ captured) m) := by
  unfold fvV
  cases e : E.fn g with
  | none => rw [e] at h; cases h
  | some _ => simp only [e]

theorem Box.at0 {m : Mem} {b : Nat} {v : Value} {r : List Value} (h : Box m b (v :: r)) : m.at b 0 = some v := by
  obtain ⟨tg, g⟩ := h
  unfold Mem.at
  rw [g]
  rfl

set_option maxRecDepth 100000 in
set_option maxHeartbeats 4000000 in
theorem Found_loop (t : Fr) (m : Mem) (n n' bit bx bc bb D : Nat) (p : Option Nat) (l : List UInt8) (w : BitVec 32) (hl : l.length = n) (hn : n ≤ 1000) (hb : bit + 32 ≤ 8 * n) (hp : looseOk ⟨D, 0, p⟩ 1 = true) (hcap : n ≤ n')
    (h1 : Box m bx [.int .u32 (w.toNat : Int)]) (h2 : Box m bc [.slice (some ⟨D, 0, p⟩) n n']) (h3 : Box m bb [.int .i64 (bit : Int)]) (hD : Box m D (l.map byteV)) (n1 : bx ≠ D) (n2 : bc ≠ D) (n3 : bb ≠ D)
    (t0 : t 0 = .pointer (some ⟨bx, 0, none⟩)) (t1 : t 1 = .pointer (some ⟨bc, 0, none⟩)) (t2 : t 2 = .pointer (some ⟨bb, 0, none⟩)) (t3 : t 3 = .int .i64 0) (K : Post3)
    (hK : ∀ t' m', (∃ cs, Turned l cs bit 32 w ∧ Box m' D (cs.map byteV)) → Box m' bx [.int .u32 (w.toNat : Int)] → Box m' bc [.slice (some ⟨D, 0, p⟩) n n'] → Box m' bb [.int .i64 (bit : Int)] → K .normal t' m') :
    wpM E F_sheaflaw3_BurstFound_1 27 none c_sheaflaw3_BurstFound_1_8 K t m := by
  refine wpM_cut (fun t' m' => (∃ cs, Turned l cs bit 32 w ∧ Box m' D (cs.map byteV)) ∧ Box m' bx [.int .u32 (w.toNat : Int)] ∧ Box m' bc [.slice (some ⟨D, 0, p⟩) n n'] ∧ Box m' bb [.int .i64 (bit : Int)]) ?_ fun t' m' ha ⟨e1, e2, e3, e4⟩ => hK t' m' e1 e2 e3 e4
  simp only [c_sheaflaw3_BurstFound_1_8_at, wpM_block, c_sheaflaw3_BurstFound_1_7_at]
  refine wpM_loopA (fun j t' m' => ∃ i : Nat, i ≤ 32 ∧ j = 32 - i ∧ t' 3 = .int .i64 i ∧ (∃ cs, Turned l cs bit i w ∧ Box m' D (cs.map byteV)) ∧ Box m' bx [.int .u32 (w.toNat : Int)] ∧ Box m' bc [.slice (some ⟨D, 0, p⟩) n n'] ∧ Box m' bb [.int .i64 (bit : Int)]) 32
    ⟨0, by omega, rfl, t3, ⟨l, .zero l bit w, hD⟩, h1, h2, h3⟩ ?_
  rintro j t' m' ha ⟨i, hi, rfl, e3, ⟨cs, hT, hB⟩, b1, b2, b3⟩
  have a0 := (ha 0 (by decide +kernel)).trans t0
  have a1 := (ha 1 (by decide +kernel)).trans t1
  have a2 := (ha 2 (by decide +kernel)).trans t2
  by_cases hlt : i < 32
  · have d1 : decide ((i : Int) < 32) = true := by simp; omega
    have w1 : IntKind.wrap .i64 ((i : Int) + 1) = ((i + 1 : Nat) : Int) := by rw [wrap_i64_id _ (by omega) (by omega)]; omega
    have w2 : shrI .u32 (w.toNat : Int) (i : Int) = (((w >>> i).toNat : Nat) : Int) := by rw [shr_u32 w i (by omega), BitVec.toNat_ushiftRight, Nat.shiftRight_eq_div_pow]
    have n0 : ¬ (i : Int) < 0 := by omega
    have cl : cs.length = n := by rw [hT.1]; exact hl
    have g1 := Box.at0 b1
    cases hw : w.getLsbD i with
    | false =>
      have d2 : (((((w >>> i) &&& 1#32).toNat : Nat) : Int) == 1) = false := by
        have : (w >>> i) &&& 1#32 = 0#32 := by
          apply BitVec.eq_of_getLsbD_eq
          intro k hk
          rw [BitVec.getLsbD_and, BitVec.getLsbD_ushiftRight]
          by_cases h0 : k = 0
          · subst h0; rw [Nat.add_zero, hw]; rfl
          · rw [BitVec.getLsbD_one]; simp [h0]
        rw [this]; rfl
      simp (decide := true) (implicitDefEqProofs := false) (maxDischargeDepth := 20) only [go_sem, ↓reduceIte, a0, a1, a2, e3, g1, d1, d2, n0, w1, w2, and1_u32, true_implies, false_implies]
      exact ⟨32 - (i + 1), by omega, i + 1, by omega, rfl, rfl, ⟨cs, hT.skip hw, hB⟩, b1, b2, b3⟩
    | true =>
      have d2 : (((((w >>> i) &&& 1#32).toNat : Nat) : Int) == 1) = true := by
        have : (w >>> i) &&& 1#32 = 1#32 := by
          apply BitVec.eq_of_getLsbD_eq
          intro k hk
          rw [BitVec.getLsbD_and, BitVec.getLsbD_ushiftRight]
          by_cases h0 : k = 0
          · subst h0; rw [Nat.add_zero, hw]; rfl
          · rw [BitVec.getLsbD_one]; simp [h0]
        rw [this]; rfl
      have g2 := Box.at0 b2
      have g3 := Box.at0 b3
      have w3 : IntKind.wrap .i64 ((bit : Int) + (i : Int)) = ((bit + i : Nat) : Int) := by rw [wrap_i64_id _ (by omega) (by omega)]; omega
      have w4 : IntKind.wrap .i64 (((bit + i : Nat) : Int).tdiv 8) = (((bit + i) / 8 : Nat) : Int) := by
        rw [Int.tdiv_eq_ediv_of_nonneg (by omega), wrap_i64_id _ (by omega) (by omega)]; omega
      have w5 : ((bit + i : Nat) : Int).tmod 8 = (((bit + i) % 8 : Nat) : Int) := by
        rw [Int.tmod_eq_emod_of_nonneg (by omega)]; omega
      have w6 : shlI .u8 1 (((bit + i) % 8 : Nat) : Int) = ((UInt8.ofNat (2 ^ ((bit + i) % 8))).toNat : Int) := by
        have : ∀ r : Fin 8, shlI .u8 1 ((r.val : Nat) : Int) = ((UInt8.ofNat (2 ^ r.val)).toNat : Int) := by decide
        exact this ⟨(bit + i) % 8, by omega⟩
      have n4 : ¬ (((bit + i) % 8 : Nat) : Int) < 0 := by omega
      have s2 : SlA m' 1 (some ⟨D, 0, p⟩) n n (cs.map byteV) := by
        obtain ⟨tg, g⟩ := hB
        exact SlA.new g (by rw [List.length_map, cl, Nat.mul_one]) hp
      have hq : (bit + i) / 8 < n := by omega
      have r1 := s2.at_map hq
      rw [Nat.zero_add] at r1
      unfold byteV at r1
      have lD := hB.lt
      obtain ⟨tg, g⟩ := hB
      have z0 : (0 : Int) ≤ (((bit + i) / 8 : Nat) : Int) := by omega
      have z1 : (((bit + i) / 8 : Nat) : Int) < (n : Int) := by omega
      have z5 : decide ((bit + i) / 8 + 1 ≤ cs.length) = true := by rw [cl]; simp; omega
      simp (decide := true) (implicitDefEqProofs := false) (maxDischargeDepth := 20) only [go_sem, ↓reduceIte, a0, a1, a2, e3, g1, g2, g3, g, r1, lD, d1, d2, n0, n4, w1, w2, w3, w4, w5, w6, z0, z1, z5, and1_u32, xor_u8, Int.toNat_natCast, List.length_map, true_implies, false_implies]
      have e : (cs.map byteV).set ((bit + i) / 8) (Value.int .u8 (((cs[(bit + i) / 8]'(by omega) ^^^ UInt8.ofNat (2 ^ ((bit + i) % 8))).toNat : Nat) : Int)) = (cs.set ((bit + i) / 8) (cs[(bit + i) / 8]'(by omega) ^^^ UInt8.ofNat (2 ^ ((bit + i) % 8)))).map byteV := by rw [List.map_set]; rfl
      rw [e]
      refine ⟨32 - (i + 1), by omega, i + 1, by omega, rfl, rfl, ⟨_, hT.flip hw (by omega) _ ?_, .put lD⟩, b1.putO _ n1, b2.putO _ n2, b3.putO _ n3⟩
      rw [List.getD_eq_getElem?_getD, List.getElem?_eq_getElem (by omega)]; rfl
  · have d1 : decide ((i : Int) < 32) = false := by simp; omega
    have hi4 : i = 32 := by omega
    subst hi4
    simp (decide := true) (implicitDefEqProofs := false) (maxDischargeDepth := 20) only [go_sem, ↓reduceIte, e3, d1, true_implies, false_implies]
    exact ⟨⟨cs, hT, hB⟩, b1, b2, b3⟩

set_option maxRecDepth 100000 in
theorem Turn_at {m : Mem} {n n' bit bx bc bb D : Nat} {p : Option Nat} {l : List UInt8} {w : BitVec 32} (hl : l.length = n) (hn : n ≤ 1000) (hb : bit + 32 ≤ 8 * n) (hp : looseOk ⟨D, 0, p⟩ 1 = true) (hcap : n ≤ n')
    (h1 : Box m bx [.int .u32 (w.toNat : Int)]) (h2 : Box m bc [.slice (some ⟨D, 0, p⟩) n n']) (h3 : Box m bb [.int .i64 (bit : Int)]) (hD : Box m D (l.map byteV)) (n1 : bx ≠ D) (n2 : bc ≠ D) (n3 : bb ≠ D) {K : Value → Mem → Prop}
    (hK : ∀ m' cs, Turned l cs bit 32 w → Box m' D (cs.map byteV) → Box m' bx [.int .u32 (w.toNat : Int)] → Box m' bc [.slice (some ⟨D, 0, p⟩) n n'] → Box m' bb [.int .i64 (bit : Int)] → K (.tuple #[]) m') :
    CallQ E F_sheaflaw3_BurstFound_1 [.pointer (some ⟨bx, 0, none⟩), .pointer (some ⟨bc, 0, none⟩), .pointer (some ⟨bb, 0, none⟩)].toArray m K := by
  refine .enter fn_sheaflaw3_BurstFound_1 (by simp) ?_
  simp (decide := true) (implicitDefEqProofs := false) (maxDischargeDepth := 20) only [go_sem, ↓reduceIte]
  refine Found_loop _ _ n n' bit bx bc bb D p l w hl hn hb hp hcap h1 h2 h3 hD n1 n2 n3 (by simp (decide := true) only [go_sem, ↓reduceIte]) (by simp (decide := true) only [go_sem, ↓reduceIte]) (by simp (decide := true) only [go_sem, ↓reduceIte]) (by simp (decide := true) only [go_sem, ↓reduceIte]) _ ?_
  rintro t' m' ⟨cs, hT, hB⟩ b1 b2 b3
  simp (decide := true) (implicitDefEqProofs := false) (maxDischargeDepth := 20) only [go_sem, ↓reduceIte]
  exact hK m' cs hT hB b1 b2 b3
end Go.Proofs.Ytokkjdlnbccojaa.W
