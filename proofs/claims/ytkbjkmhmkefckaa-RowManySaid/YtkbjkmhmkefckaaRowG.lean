/-
  number, Get.
-/
import Derived.Test.YtkbjkmhmkefckaaRowF
import Derived.Test.YtkbjkmhmkefckaaAbs24
import Derived.Test.YtkbjkmhmkefckaaCodeBook
namespace Go.Proofs.Ytkbjkmhmkefckaa.W
open Go.Abs
set_option linter.unusedSimpArgs false
set_option linter.unusedVariables false

def numR (S : Mem → Prop) (w : Value) : Option (Int × List Int) → Prop
  | some (v, r) => ∃ a k c, w = .tuple #[.int .i64 v, .slice a k c, .bool true] ∧ ∀ m, S m → SlA m 1 a k c (r.map (.int .u8))
  | none => ∃ v s, w = .tuple #[v, s, .bool false]

theorem put_byt (rs : List Int) (h : (putB rs).length < 256) : Byt (put rs) := by
  unfold put
  split
  · intro x hx
    rcases List.mem_cons.1 hx with rfl | hx
    · omega
    · exact putB_bd _ x hx
  · intro x hx; simp at hx
theorem put_byt' (rs : List Int) (h : Ok64 rs) : Byt (put rs) := by
  by_cases hl : rs.length ≤ 10
  · exact put_byt rs (by have := putB_len rs h; omega)
  · unfold put
    rw [if_neg hl]
    intro x hx; simp at hx
theorem put_ne (rs : List Int) (h : rs.length ≤ 10) : put rs ≠ [] := by rw [put_head rs h]; simp

set_option maxRecDepth 100000 in
theorem Number_at {m : Mem} {a : Option Addr} {n c : Nat} {xs : List Int} (h : SlA m 1 a n c (xs.map (.int .u8))) (hx : Byt xs) (hn : n ≤ 1000000) :
    CallQ E F_row_number [.slice a n c].toArray m fun w m' => m' = m ∧ numR (fun m => SlA m 1 a n c (xs.map (.int .u8))) w (numF 0 0 xs) := by
  refine .enter fn_row_number (by simp) ?_
  have hl : xs.length = n := by have := h.len; simpa using this
  simp (decide := true) (implicitDefEqProofs := false) (maxDischargeDepth := 20) only [go_sem, ↓reduceIte, true_implies, false_implies]
  simp only [c_row_number_15_at, wpM_block, c_row_number_14_at]
  refine wpM_loopA (fun j t' m' => m' = m ∧ ∃ i u, i ≤ n ∧ j = n - i ∧ t' 11 = .int .i64 (i : Nat) ∧ t' 5 = .int .u64 (u : Nat) ∧ u < 18446744073709551616 ∧ numF 0 0 xs = numF i u (xs.drop i)) n ⟨rfl, 0, 0, by omega, rfl, by simp (decide := true) only [go_sem, ↓reduceIte]; try rfl, by simp (decide := true) only [go_sem, ↓reduceIte]; try rfl, by decide, rfl⟩ ?_
  rintro j t' m' ha ⟨rfl, i, u, hi, rfl, e11, e5, hu, hf⟩
  have a0 := ha 0 (by decide +kernel)
  have a9 := ha 9 (by decide +kernel)
  have a10 := ha 10 (by decide +kernel)
  simp (decide := true) only [go_sem, ↓reduceIte] at a0 a9 a10
  by_cases hlt : i < n
  · have d1 : decide ((i : Int) < (n : Int)) = true := by simp; omega
    have w1 : IntKind.wrap .i64 ((i : Int) + 1) = ((i + 1 : Nat) : Int) := by rw [wrap_i64_id _ (by omega) (by omega)]; omega
    have z0 : (0 : Int) ≤ (i : Int) := by omega
    have z1 : (i : Int) < (n : Int) := by omega
    obtain ⟨sf, F0⟩ := h.sliceFrom (E := E) (k := .i64) (show i + 1 ≤ n by omega)
    have F := fun mm (hh : SlA mm 1 a n c (xs.map (.int .u8))) => (hh.sliceFrom (E := E) (k := .i64) (show i + 1 ≤ n by omega)).2
    clear F0
    obtain ⟨ab, ao, asp, rfl⟩ := h.addr (by omega)
    have r := h.at_map hlt
    have hb := hx (xs[i]'(by omega)) (List.getElem_mem _)
    have hd : xs.drop i = xs[i]'(by omega) :: xs.drop (i + 1) := List.drop_eq_getElem_cons (by omega)
    rw [hd, numF] at hf
    generalize xs[i]'(by omega) = x at *
    obtain ⟨y, rfl⟩ : ∃ y : Nat, x = (y : Int) := ⟨x.toNat, by omega⟩
    rw [Int.toNat_natCast] at hf
    have w2 : Int.tmod (y : Int) 128 = ((y % 128 : Nat) : Int) := by rw [Int.tmod_eq_emod_of_nonneg (by omega)]; rfl
    have w3 : IntKind.wrap .u64 ((y % 128 : Nat) : Int) = ((y % 128 : Nat) : Int) := wrap_u64_id _ (by omega) (by omega)
    have w4 : IntKind.wrap .u64 (IntKind.wrap .i64 (7 * (i : Int))) = ((7 * i : Nat) : Int) := by rw [wrap_i64_id _ (by omega) (by omega), wrap_u64_id _ (by omega) (by omega)]; omega
    have w5 := shl_u64 (y % 128) (7 * i)
    have hq : (y % 128 * 2 ^ (7 * i)) % 18446744073709551616 < 18446744073709551616 := Nat.mod_lt _ (by decide)
    generalize (y % 128 * 2 ^ (7 * i)) % 18446744073709551616 = q at *
    have w6 := orI_u64 u q hu hq
    have hv : u ||| q < 18446744073709551616 := Nat.or_lt_two_pow (n := 64) hu hq
    have n0 : ¬ ((7 * i : Nat) : Int) < 0 := by omega
    generalize u ||| q = v at *
    by_cases hs : (y : Int) < 128
    · rw [if_pos hs] at hf
      have d2 : decide ((y : Int) < 128) = true := by simpa using hs
      have w7 : shrI .u64 (v : Int) 1 = ((v / 2 : Nat) : Int) := by
        rw [show (1 : Int) = ((1 : Nat) : Int) from rfl, shrI_eq _ _ _ (by decide)]; rfl
      have w8 : IntKind.wrap .i64 ((v / 2 : Nat) : Int) = ((v / 2 : Nat) : Int) := wrap_i64_id _ (by omega) (by omega)
      have w9 : Int.tmod (v : Int) 2 = ((v % 2 : Nat) : Int) := by rw [Int.tmod_eq_emod_of_nonneg (by omega)]; rfl
      have sf' := sf 22 (by decide +kernel)
      simp only [Nat.mul_one, ← List.map_drop, Option.map_some] at F sf'
      rw [hf]
      unfold numR
      by_cases ho : v % 2 = 1
      · have d3 : (((v % 2 : Nat) : Int) == 1) = true := by rw [beq_iff_eq]; omega
        have w10 := not_i64 ((v / 2 : Nat) : Int) (by omega) (by omega)
        have zg : zag v = -((v / 2 : Nat) : Int) - 1 := by unfold zag; rw [if_pos ho]
        simp (decide := true) (implicitDefEqProofs := false) (maxDischargeDepth := 20) only [go_sem, ↓reduceIte, a0, a9, a10, e11, e5, d1, d2, d3, r, z0, z1, w1, w2, w3, w4, w5, w6, w7, w8, w9, w10, n0, sf', Int.toNat_natCast, true_implies, false_implies]
        exact ⟨_, _, _, by rw [zg], F⟩
      · have d3 : (((v % 2 : Nat) : Int) == 1) = false := by rw [beq_eq_false_iff_ne]; omega
        have zg : zag v = ((v / 2 : Nat) : Int) := by unfold zag; rw [if_neg ho]
        simp (decide := true) (implicitDefEqProofs := false) (maxDischargeDepth := 20) only [go_sem, ↓reduceIte, a0, a9, a10, e11, e5, d1, d2, d3, r, z0, z1, w1, w2, w3, w4, w5, w6, w7, w8, w9, n0, sf', Int.toNat_natCast, true_implies, false_implies]
        exact ⟨_, _, _, by rw [zg], F⟩
    · rw [if_neg hs] at hf
      have d2 : decide ((y : Int) < 128) = false := by simpa using hs
      simp (decide := true) (implicitDefEqProofs := false) (maxDischargeDepth := 20) only [go_sem, ↓reduceIte, a0, a9, a10, e11, e5, d1, d2, r, z0, z1, w1, w2, w3, w4, w5, w6, n0, Int.toNat_natCast, true_implies, false_implies]
      exact ⟨n - (i + 1), by omega, i + 1, v, by omega, rfl, rfl, rfl, hv, hf⟩
  · have d1 : decide ((i : Int) < (n : Int)) = false := by simp; omega
    rw [List.drop_of_length_le (by omega)] at hf
    have hf' : numF 0 0 xs = none := hf
    rw [hf']
    unfold numR
    simp (decide := true) (implicitDefEqProofs := false) (maxDischargeDepth := 20) only [go_sem, ↓reduceIte, a0, a9, a10, e11, e5, d1, true_implies, false_implies]
    exact ⟨_, _, rfl⟩

set_option maxRecDepth 100000 in
theorem Equal_at {m : Mem} {a b : Option Addr} {n n' c c' : Nat} {xs ys : List Int} (h : SlA m 1 a n c (xs.map (.int .u8))) (k : SlA m 1 b n' c' (ys.map (.int .u8))) (hx : Byt xs) (hy : Byt ys) (na : a = none ∨ xs ≠ []) (nb : b = none ∨ ys ≠ []) :
    CallQ E F_bytes_Equal [.slice a n c, .slice b n' c'].toArray m fun w m' => w = .bool (decide (xs = ys)) ∧ Old m m' := by
  refine .enter fn_bytes_Equal (by simp) ?_
  have s3 := bstr_beq hx hy
  rcases h.strCases na with ⟨rfl, rfl⟩ | ⟨ab, ao, asp, rfl, r1⟩ <;> rcases k.strCases nb with ⟨rfl, rfl⟩ | ⟨bb, bo, bsp, rfl, r2⟩
  · simp (decide := true) (implicitDefEqProofs := false) (maxDischargeDepth := 20) only [go_sem, ↓reduceIte, empty_bstr, s3, true_implies, false_implies]
  · simp (decide := true) (implicitDefEqProofs := false) (maxDischargeDepth := 20) only [go_sem, ↓reduceIte, empty_bstr, r2, bytesOf_map, mk_bstr, Option.bind_some, Option.map_some, s3, true_implies, false_implies]
  · simp (decide := true) (implicitDefEqProofs := false) (maxDischargeDepth := 20) only [go_sem, ↓reduceIte, empty_bstr, r1, bytesOf_map, mk_bstr, Option.bind_some, Option.map_some, s3, true_implies, false_implies]
  · simp (decide := true) (implicitDefEqProofs := false) (maxDischargeDepth := 20) only [go_sem, ↓reduceIte, empty_bstr, r1, r2, bytesOf_map, mk_bstr, Option.bind_some, Option.map_some, s3, true_implies, false_implies]

theorem numF_sub : ∀ (b : List Int) (i u : Nat) (n : Int) (r : List Int), numF i u b = some (n, r) → Byt b → Byt r
  | [], _, _, _, _, h, _ => by simp [numF] at h
  | x :: b, i, u, n, r, h, k => by
    simp only [numF] at h
    split at h
    · cases h; exact fun z hz => k z (by simp [hz])
    · exact numF_sub b _ _ _ _ h fun z hz => k z (by simp [hz])
theorem parse_nil (k : Nat) : parse k [] = some [] := by cases k <;> rfl
theorem parse_step (k : Nat) (l : List Int) (h : l ≠ []) : parse (k + 1) l = match numF 0 0 l with
    | some (n, r) => (parse k r).map (n :: ·)
    | none => none := by
  cases l with
  | nil => exact absurd rfl h
  | cons a l => rfl

set_option maxRecDepth 100000 in
set_option maxHeartbeats 4000000 in
theorem Get_at {m : Mem} {a : Option Addr} {n c : Nat} {xs : List Int} (h : SlA m 1 a n c (xs.map (.int .u8))) (hx : Byt xs) (hn : n ≤ 1000000) :
    CallQ E F_row_Get [.slice a n c].toArray m fun w m' => ∃ a' k, w = .tuple #[.slice a' k k, .int .i64 (getL xs).2] ∧ Vec m.size m' 1 a' k ((getL xs).1.map (.int .i64)) ∧ Old m m' := by
  refine .enter fn_row_Get (by simp) ?_
  have hl : xs.length = n := by have := h.len; simpa using this
  cases xs with
  | nil =>
    obtain rfl : n = 0 := by simpa using hl.symm
    simp (decide := true) (implicitDefEqProofs := false) (maxDischargeDepth := 20) only [go_sem, ↓reduceIte, getL, true_implies, false_implies]
    exact ⟨none, 0, rfl, Vec.nil _ _ _⟩
  | cons x tl =>
    have hn0 : 0 < n := by simp at hl; omega
    have d0 : ((n : Int) == 0) = false := by rw [beq_eq_false_iff_ne]; omega
    have hx0 := hx x (by simp)
    obtain ⟨y, rfl⟩ : ∃ y : Nat, x = (y : Int) := ⟨x.toNat, by omega⟩
    obtain ⟨ab, ao, asp, rfl⟩ := h.addr hn0
    have r0 : m.at ab (ao + Int.toNat 0) = some (.int .u8 (y : Int)) := h.at_map (show 0 < n by omega)
    have w0 : IntKind.wrap .i64 (y : Int) = (y : Int) := wrap_i64_id _ (by omega) (by omega)
    have z0 : (0 : Int) < (n : Int) := by omega
    by_cases hc : n ≤ y
    · have d1 : decide ((n : Int) ≤ (y : Int)) = true := by simpa using hc
      have e : getL ((y : Int) :: tl) = ([], 0) := by simp only [getL]; rw [if_pos (by rw [hl]; omega)]
      rw [e]
      simp (decide := true) (implicitDefEqProofs := false) (maxDischargeDepth := 20) only [go_sem, ↓reduceIte, d0, d1, r0, w0, z0, true_implies, false_implies]
      exact ⟨none, 0, rfl, Vec.nil _ _ _⟩
    · have d1 : decide ((n : Int) ≤ (y : Int)) = false := by simpa using hc
      have w1 : IntKind.wrap .i64 (1 + (y : Int)) = ((1 + y : Nat) : Int) := by rw [wrap_i64_id _ (by omega) (by omega)]; omega
      obtain ⟨s1, O⟩ := h.sliceTo (E := E) (k := .i64) (show 1 + y ≤ n by omega)
      have s1' := s1 22 (by decide +kernel)
      obtain ⟨s2, L⟩ := O.sliceFrom (E := E) (k := .i64) (show 1 ≤ 1 + y by omega)
      have s2' := s2 22 (by decide +kernel)
      have own : ((((y : Int) :: tl).map (Value.int .u8)).take ((1 + y) * 1)) = (((y : Int) :: tl.take y).map (Value.int .u8)) := by
        rw [← List.map_take, Nat.mul_one, Nat.add_comm 1, List.take_succ_cons]
      rw [own] at O L
      have ldr : (((y : Int) :: tl.take y).map (Value.int .u8)).drop (1 * 1) = (tl.take y).map (Value.int .u8) := rfl
      rw [ldr] at L
      have e : getL ((y : Int) :: tl) = match parse (tl.take y).length (tl.take y) with
          | some r => if put r = ((y : Int) :: tl.take y) then (r, 1 + (y : Int)) else ([], -1)
          | none => ([], -1) := by
        simp only [getL]
        rw [if_neg (by rw [hl]; omega), Int.toNat_natCast, Nat.add_comm 1, List.take_succ_cons]
        rfl
      have hown : Byt ((y : Int) :: tl.take y) := fun z hz => by
        rcases List.mem_cons.1 hz with rfl | hz
        · exact hx0
        · exact hx z (List.mem_cons_of_mem _ (List.mem_of_mem_take hz))
      have htl : (tl.take y).length = y := by rw [List.length_take]; simp at hl; omega
      generalize tl.take y = tk at *
      rw [e]
      simp only [Nat.mul_one, Option.map_some] at s2' L
      simp only [Nat.add_sub_cancel_left, show ((1 : Nat) : Int) = 1 from rfl] at s2' L
      simp (decide := true) (implicitDefEqProofs := false) (maxDischargeDepth := 20) only [go_sem, ↓reduceIte, d0, d1, r0, w0, w1, z0, s1', s2', true_implies, false_implies]
      simp only [c_row_Get_13_at, wpM_block, c_row_Get_12_at]
      generalize (if c = 1 then (some ⟨ab, ao, asp⟩ : Option Addr) else some ⟨ab, ao + 1, asp⟩) = la at *
      refine wpM_loopA (fun j t' m' => ∃ rs l a' k a2 c2 fuel, j = l.length ∧ t' 5 = .slice a' k k ∧ Vec m.size m' 1 a' k (rs.map (.int .i64)) ∧ t' 6 = .slice a2 l.length c2 ∧ SlA m 1 a2 l.length c2 (l.map (.int .u8)) ∧ Byt l ∧ l.length ≤ y ∧ rs.length + l.length ≤ y ∧ l.length ≤ fuel ∧ parse tk.length tk = (parse fuel l).map (rs ++ ·) ∧ Old m m') tk.length
        ⟨[], tk, none, 0, la, c - 1, tk.length, rfl, by simp (decide := true) only [go_sem, ↓reduceIte]; try rfl, .nil _ _ _, by simp (decide := true) only [go_sem, ↓reduceIte, htl], by rw [htl]; exact L, fun z hz => hown z (List.mem_cons_of_mem _ hz), by omega, by simp; omega, Nat.le_refl _, by simp, .refl m⟩ ?_
      rintro j t' m' ha ⟨rs, l, a', k, a2, c2, fuel, rfl, e5, V, e6, LL, bl, hly, hrl, hfu, hP, o⟩
      have a4 := ha 4 (by decide +kernel)
      simp (decide := true) only [go_sem, ↓reduceIte] at a4
      by_cases hll : 0 < l.length
      · have d2 : decide ((l.length : Int) > 0) = true := by simp; omega
        have hne : l ≠ [] := by rintro rfl; simp at hll
        obtain ⟨fu, rfl⟩ : ∃ f, fuel = f + 1 := ⟨fuel - 1, by omega⟩
        rw [parse_step _ _ hne] at hP
        simp (decide := true) (implicitDefEqProofs := false) (maxDischargeDepth := 20) only [go_sem, ↓reduceIte, a4, e5, e6, d2, true_implies, false_implies]
        refine (Number_at (LL.old o) bl (by omega)).mono ?_
        rintro w m2 ⟨rfl, hw⟩
        cases hnum : numF 0 0 l with
        | none =>
          rw [hnum] at hw hP
          obtain ⟨v, s, rfl⟩ := hw
          simp only [Option.map_none] at hP
          rw [hP]
          simp (decide := true) (implicitDefEqProofs := false) (maxDischargeDepth := 20) only [go_sem, ↓reduceIte, a4, e5, e6, true_implies, false_implies]
          exact ⟨none, 0, rfl, Vec.nil _ _ _, o⟩
        | some p =>
          obtain ⟨v, r⟩ := p
          rw [hnum] at hw hP
          obtain ⟨a3, k3, c3, rfl, R⟩ := hw
          have hrl2 := numF_len _ _ _ _ _ hnum
          have k3l : k3 = r.length := by have := (R _ LL).len; simpa using this.symm
          subst k3l
          have hkk : k = rs.length := by have := V.len; simpa using this.symm
          simp (decide := true) (implicitDefEqProofs := false) (maxDischargeDepth := 20) only [go_sem, ↓reduceIte, a4, e5, e6, true_implies, false_implies]
          refine V.append1 o.size rfl (by omega) (by decide +kernel) (by decide +kernel) rfl (by omega) fun m2 b2 v2 k2 => ?_
          simp (decide := true) (implicitDefEqProofs := false) (maxDischargeDepth := 20) only [go_sem, ↓reduceIte, a4, e5, e6, true_implies, false_implies]
          refine ⟨r.length, hrl2, rs ++ [v], r, b2, k + 1, a3, c3, fu, rfl, rfl, by rw [List.map_append]; exact v2, rfl, ?_, ?_, by omega, by simp; omega, by omega, ?_, V.keepOld k2 o⟩
          · exact R _ LL
          · exact numF_sub _ _ _ _ _ hnum bl
          · rw [hP, Option.map_map]
            congr 1
            funext z
            simp
      · have d2 : decide ((l.length : Int) > 0) = false := by simp only [decide_eq_false_iff_not]; omega
        have hl0 : l = [] := List.eq_nil_of_length_eq_zero (by omega)
        subst hl0
        rw [parse_nil] at hP
        simp only [Option.map_some, List.append_nil] at hP
        rw [hP]
        have hok := (parse_bd _ _ _ hP).1
        simp (decide := true) (implicitDefEqProofs := false) (maxDischargeDepth := 20) only [go_sem, ↓reduceIte, a4, e5, e6, d2, true_implies, false_implies]
        refine (Put_at V.sl hok).mono ?_
        rintro w m2 ⟨b2, k2, rfl, V2, o2, hpn⟩
        simp (decide := true) (implicitDefEqProofs := false) (maxDischargeDepth := 20) only [go_sem, ↓reduceIte, a4, e5, e6, d2, true_implies, false_implies]
        refine (Equal_at V2.sl (O.old (o.trans o2)) (put_byt' rs hok) hown hpn (.inr (by simp))).mono ?_
        rintro w m3 ⟨rfl, o3⟩
        have oo := o.trans (o2.trans o3)
        by_cases he : put rs = (y : Int) :: tk
        · have d3 : decide (put rs = (y : Int) :: tk) = true := by simpa using he
          rw [d3]
          simp (decide := true) (implicitDefEqProofs := false) (maxDischargeDepth := 20) only [go_sem, ↓reduceIte, a4, e5, e6, d2, true_implies, false_implies]
          rw [if_pos he]
          exact ⟨a', k, by rw [Int.natCast_add]; rfl, V.old (o2.trans o3), oo⟩
        · have d3 : decide (put rs = (y : Int) :: tk) = false := by simpa using he
          rw [d3]
          simp (decide := true) (implicitDefEqProofs := false) (maxDischargeDepth := 20) only [go_sem, ↓reduceIte, a4, e5, e6, d2, true_implies, false_implies]
          rw [if_neg he]
          exact ⟨none, 0, rfl, Vec.nil _ _ _, oo⟩
end Go.Proofs.Ytkbjkmhmkefckaa.W
