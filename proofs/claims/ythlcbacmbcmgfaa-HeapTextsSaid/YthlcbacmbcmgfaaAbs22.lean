/-
  Slices that a function builds for itself.
-/
import Derived.Test.YthlcbacmbcmgfaaAbs21
namespace Go.Abs
variable {E : Env} {m m' m0 : Mem} {sz : Nat} {a : Option Addr} {n c : Nat} {xs : List Value}

/-- A slice in a block of its own, behind B; it ends where the block does. -/
structure Vec (B : Nat) (m : Mem) (sz : Nat) (a : Option Addr) (n : Nat) (xs : List Value) : Prop where
  sl : SlA m sz a n n xs
  blk : ∀ x, a = some x → B ≤ x.block ∧ x.off = 0 ∧ ∃ tg, m.get x.block = some (.cells false tg xs)

/-- All old blocks but a slice's own are as they were. -/
def KeepA (a : Option Addr) (m m' : Mem) : Prop := m.size ≤ m'.size ∧ ∀ i, i < m.size → (∀ x, a = some x → i ≠ x.block) → m'.get i = m.get i

theorem Vec.nil (B : Nat) (m : Mem) (sz : Nat) : Vec B m sz none 0 [] := ⟨.empty sz, fun x h => by cases h⟩
theorem Vec.len {B : Nat} (h : Vec B m sz a n xs) : xs.length = n * sz := h.sl.len
theorem Vec.own {B : Nat} (h : Vec B m sz a n xs) : Own m sz a n := ⟨fun b hb => by
  obtain ⟨h1, h2, tg, h3⟩ := h.blk b hb
  exact ⟨false, tg, xs, h3, .inr rfl, by rw [h2, h.len]; omega⟩⟩
theorem Vec.lt {B : Nat} (h : Vec B m sz a n xs) {x : Addr} (hx : a = some x) : x.block < m.size := by
  obtain ⟨_, _, tg, h3⟩ := h.blk x hx
  exact getM_lt h3
theorem Vec.keep {B : Nat} (h : Vec B m sz a n xs) (k : ∀ x, a = some x → m'.get x.block = m.get x.block) : Vec B m' sz a n xs :=
  ⟨h.sl.keep fun b hb _ => k b hb, fun x hx => by
    obtain ⟨h1, h2, tg, h3⟩ := h.blk x hx
    exact ⟨h1, h2, tg, by rw [k x hx]; exact h3⟩⟩
theorem Vec.old {B : Nat} (h : Vec B m sz a n xs) (k : Old m m') : Vec B m' sz a n xs := h.keep fun x hx => k.get (h.lt hx)
theorem Vec.push {B : Nat} (h : Vec B m sz a n xs) (o : Blk) : Vec B (m.push o) sz a n xs := h.old (.push (.refl m) o)
theorem Vec.mono {B B' : Nat} (h : Vec B m sz a n xs) (k : B' ≤ B) : Vec B' m sz a n xs := ⟨h.sl, fun x hx => ⟨Nat.le_trans k (h.blk x hx).1, (h.blk x hx).2⟩⟩
theorem Vec.new {B : Nat} {m : Mem} {tg : Bool} {cs : List Value} {n b : Nat} {s : Option Nat} (hg : m.get b = some (.cells false tg cs)) (hb : B ≤ b) (hl : cs.length = n * sz) (hs : looseOk ⟨b, 0, s⟩ sz = true) : Vec B m sz (some ⟨b, 0, s⟩) n cs :=
  ⟨.new hg hl hs, fun x hx => by cases hx; exact ⟨hb, rfl, tg, hg⟩⟩
theorem Vec.built {B : Nat} {m : Mem} {cs : List Value} {n : Nat} (hb : B ≤ m.size) (hl : cs.length = n * sz) : Vec B (m.push (.cells false true cs)) sz (some ⟨m.size, 0, none⟩) n cs :=
  .new (by rw [getM_push, if_pos rfl]) hb hl rfl

theorem KeepA.old {B : Nat} (h : Vec B m sz a n xs) (k : KeepA a m m') (o : Old m0 m) (hB : m0.size ≤ B) : Old m0 m' := by
  refine .of_get (Nat.le_trans o.size k.1) fun i hi => ?_
  rw [k.2 i (Nat.lt_of_lt_of_le hi o.size) fun x hx e => by
    have := (h.blk x hx).1
    omega]
  exact o.get hi

theorem Vec.keepOld {B : Nat} (h : Vec B m sz a n xs) (k : KeepA a m m') (o : Old m0 m) (hB : m0.size ≤ B := by exact Nat.le_refl _) : Old m0 m' := KeepA.old h k o hB

/-- append to it. -/
theorem Vec.append {B k : Nat} (h : Vec B m sz a n xs) (hB : B ≤ m.size) {st xt : TypeId} {x : Value} {ys : List Value} (hx : appended E m sz xt x = some (k, ys)) (hy : ys.length = k * sz) (ht : isSl E st sz = true) (h1 : ys.all oneCell = true) (hb : n + k ≤ 1073741824)
    {K : Value → Mem → Prop} (hK : ∀ m' a', Vec B m' sz a' (n + k) (xs ++ ys) → KeepA a m m' → (a' = a ∨ ∃ s, a' = some ⟨m.size, 0, s⟩) → K (.slice a' (n + k) (n + k)) m') :
    StepQ E (val2? (appendV E m st xt (.slice a n n) x)) K := by
  rcases Nat.eq_zero_or_pos k with h0 | h0
  · subst h0
    have : ys = [] := List.eq_nil_of_length_eq_zero (by simpa using hy)
    subst this
    obtain ⟨e, i, d1, d2, d3, d4⟩ := isSl_spec ht
    have hk := hK m a (by simpa using h) ⟨Nat.le_refl _, fun _ _ _ => rfl⟩ (.inl rfl)
    unfold appendV
    simp only [d1, d2, d3, hx]
    rw [if_pos (by omega)]
    cases a <;> exact hk
  · refine append_new h.sl (by omega) h.own hx hy ht h1 hb fun m' z g u s => ?_
    exact hK m' _ (.new g hB (by rw [List.length_append, h.len, hy, Nat.add_mul]) (by simp [looseOk])) ⟨by omega, fun i hi hne => u i hi hne⟩ (.inr ⟨_, rfl⟩)

/-- append of one element that was put into a block of its own. -/
theorem Vec.append1 {B : Nat} (h : Vec B m sz a n xs) (hB : B ≤ m.size) {st xt : TypeId} {ys : List Value} (hy : ys.length = sz) (hz : 0 < sz) (ht : isSl E st sz = true) (ht' : isSl E xt sz = true) (h1 : ys.all oneCell = true) (hb : n + 1 ≤ 1073741824)
    {K : Value → Mem → Prop} (hK : ∀ m' a', Vec B m' sz a' (n + 1) (xs ++ ys) → KeepA a m m' → K (.slice a' (n + 1) (n + 1)) m') :
    StepQ E (val2? (appendV E (m.push (.cells false true ys)) st xt (.slice a n n) (.slice (some ⟨m.size, 0, none⟩) 1 1))) K := by
  have s : SlA (m.push (.cells false true ys)) sz (some ⟨m.size, 0, none⟩) 1 1 ys := SlA.new (by rw [getM_push, if_pos rfl]) (by omega) rfl
  refine (h.push _).append (by rw [size_push]; omega) (s.appended' ht' hz) (by omega) ht h1 hb fun m' a' v k _ => hK m' a' v ⟨Nat.le_trans (by rw [size_push]; omega) k.1, fun i hi hne => ?_⟩
  rw [k.2 i (by rw [size_push]; omega) hne, getM_push, if_neg (by omega)]

theorem Vec.append1' {B : Nat} (h : Vec B m sz a n xs) (hB : B ≤ m.size) {st xt : TypeId} {ys : List Value} (hy : ys.length = sz) (hz : 0 < sz) (ht : isSl E st sz = true) (ht' : isSl E xt sz = true) (h1 : ys.all oneCell = true) (hb : n + 1 ≤ 1073741824)
    {K : Value → Mem → Prop} (hK : ∀ m' b s, Vec B m' sz (some ⟨b, 0, s⟩) (n + 1) (xs ++ ys) → KeepA a m m' → m.size ≤ b → K (.slice (some ⟨b, 0, s⟩) (n + 1) (n + 1)) m') :
    StepQ E (val2? (appendV E (m.push (.cells false true ys)) st xt (.slice a n n) (.slice (some ⟨m.size, 0, none⟩) 1 1))) K := by
  have s : SlA (m.push (.cells false true ys)) sz (some ⟨m.size, 0, none⟩) 1 1 ys := SlA.new (by rw [getM_push, if_pos rfl]) (by omega) rfl
  refine append_new (h.push (.cells false true ys)).sl (by omega) (h.push _).own (s.appended' ht' hz) (by omega) ht h1 hb fun m' z g u _ => ?_
  refine hK m' _ _ (.new g (by rw [size_push]; omega) (by rw [List.length_append, h.len, hy, Nat.add_mul]; omega) (by simp [looseOk])) ⟨by rw [size_push] at z; omega, fun i hi hne => ?_⟩ (by rw [size_push]; omega)
  rw [u i (by rw [size_push]; omega) hne, getM_push, if_neg (by omega)]

theorem Vec.appendQ {B q : Nat} (h : Vec B m sz a n xs) (hq : q = m.size) (hB : B ≤ m.size) {st xt : TypeId} {ys : List Value} (hy : ys.length = sz) (hz : 0 < sz) (ht : isSl E st sz = true) (ht' : isSl E xt sz = true) (h1 : ys.all oneCell = true) (hb : n + 1 ≤ 1073741824)
    {K : Value → Mem → Prop} (hK : ∀ m' b s, Vec B m' sz (some ⟨b, 0, s⟩) (n + 1) (xs ++ ys) → KeepA a m m' → m.size ≤ b → K (.slice (some ⟨b, 0, s⟩) (n + 1) (n + 1)) m') :
    StepQ E (val2? (appendV E (m.push (.cells false true ys)) st xt (.slice a n n) (.slice (some ⟨q, 0, none⟩) 1 1))) K := by
  subst hq
  exact h.append1' hB hy hz ht ht' h1 hb hK

/-- A cell of it is written. -/
theorem Vec.set {B b : Nat} {s : Option Nat} (h : Vec B m 1 (some ⟨b, 0, s⟩) n xs) {tg : Bool} (i : Nat) (v : Value) : Vec B (m.put b (some (.cells false tg (xs.set i v)))) 1 (some ⟨b, 0, s⟩) n (xs.set i v) :=
  .new (by rw [getM_put, if_pos ⟨rfl, h.lt rfl⟩]) (h.blk _ rfl).1 (by rw [List.length_set]; exact h.len) (h.sl.loose _ rfl)

/-! ### Bits -/
theorem ofInt_nat (n : Nat) (h : n < 18446744073709551616) : (BitVec.ofInt 64 (n : Int)).toNat = n := by
  rw [BitVec.toNat_ofInt]
  have : ((n : Int) % ((2 ^ 64 : Nat) : Int)).toNat = n := by
    rw [Int.emod_eq_of_lt (by omega) (by omega)]
    exact Int.toNat_natCast n
  simpa using this
theorem orI_u64 (a b : Nat) (ha : a < 18446744073709551616) (hb : b < 18446744073709551616) : orI .u64 (a : Int) (b : Int) = ((a ||| b : Nat) : Int) := by
  unfold orI
  show IntKind.wrap .u64 (((BitVec.ofInt 64 (a : Int) ||| BitVec.ofInt 64 (b : Int)).toNat : Nat) : Int) = _
  rw [BitVec.toNat_or, ofInt_nat a ha, ofInt_nat b hb]
  have : a ||| b < 2 ^ 64 := Nat.or_lt_two_pow ha hb
  exact wrap_u64_id _ (by omega) (by omega)
theorem xor_ones (x : Nat) (h : x < 18446744073709551616) : 18446744073709551615 ^^^ x = 18446744073709551615 - x := by
  have h1 : ~~~(BitVec.ofNat 64 x) = BitVec.ofNat 64 18446744073709551615 ^^^ BitVec.ofNat 64 x := by
    rw [← BitVec.allOnes_xor]
    rfl
  have h2 := congrArg BitVec.toNat h1
  rw [BitVec.toNat_not, BitVec.toNat_xor, BitVec.toNat_ofNat, BitVec.toNat_ofNat, Nat.mod_eq_of_lt h, Nat.mod_eq_of_lt (by decide)] at h2
  rw [← h2]

theorem not_u64 (n : Nat) (h : n < 18446744073709551616) : notI .u64 (n : Int) = 18446744073709551615 - n := by
  unfold notI
  have e : (if IntKind.signed .u64 = true then -1 else IntKind.max .u64) = ((18446744073709551615 : Nat) : Int) := by decide
  rw [e]
  show IntKind.wrap .u64 (((BitVec.ofInt 64 ((18446744073709551615 : Nat) : Int) ^^^ BitVec.ofInt 64 (n : Int)).toNat : Nat) : Int) = _
  rw [BitVec.toNat_xor, ofInt_nat _ (by decide), ofInt_nat n h, xor_ones n h, wrap_u64_id _ (by omega) (by omega)]
  omega
theorem not_i64 (n : Int) (h : -9223372036854775808 ≤ n) (h' : n < 9223372036854775808) : notI .i64 n = -n - 1 := by
  unfold notI
  have e : (if IntKind.signed .i64 = true then (-1 : Int) else IntKind.max .i64) = -1 := by decide
  rw [e]
  show IntKind.wrap .i64 (((BitVec.ofInt 64 (-1) ^^^ BitVec.ofInt 64 n).toNat : Nat) : Int) = _
  obtain ⟨k, hk, hk'⟩ : ∃ k : Nat, k < 18446744073709551616 ∧ BitVec.ofInt 64 n = BitVec.ofInt 64 (k : Int) ∧ ((k : Int) = n ∨ (k : Int) = n + 18446744073709551616) := by
    refine ⟨(n % 18446744073709551616).toNat, by omega, ?_, by omega⟩
    apply BitVec.eq_of_toNat_eq
    rw [BitVec.toNat_ofInt, BitVec.toNat_ofInt]
    have : (2 : Nat) ^ 64 = 18446744073709551616 := by decide
    rw [this]
    omega
  rw [hk'.1, BitVec.toNat_xor, ofInt_nat k hk, show (BitVec.ofInt 64 (-1)).toNat = 18446744073709551615 by decide, xor_ones k hk, wrap_i64]
  omega
end Go.Abs
