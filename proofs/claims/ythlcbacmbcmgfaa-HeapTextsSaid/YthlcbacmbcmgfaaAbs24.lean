/-
  Bytes and strings; shifts.
-/
import Derived.Test.YthlcbacmbcmgfaaAbs23
namespace Go.Abs
variable {E : Env} {m : Mem}

/-- A string of bytes. -/
def bstr (xs : List Int) : ByteArray := ⟨(xs.map fun x => UInt8.ofNat x.toNat).toArray⟩
def Byt (xs : List Int) : Prop := ∀ x ∈ xs, 0 ≤ x ∧ x < 256

theorem bytesOf_map : ∀ (xs : List Int), bytesOf (xs.map (.int .u8)) = some (xs.map fun x => UInt8.ofNat x.toNat)
  | [] => rfl
  | x :: xs => by rw [List.map_cons, bytesOf, bytesOf_map xs]; rfl
@[go_sem] theorem bytesOf_nil : bytesOf [] = some [] := rfl

theorem u8_inj {x y : Int} (hx : 0 ≤ x ∧ x < 256) (hy : 0 ≤ y ∧ y < 256) (h : UInt8.ofNat x.toNat = UInt8.ofNat y.toNat) : x = y := by
  have := congrArg UInt8.toNat h
  rw [UInt8.toNat_ofNat', UInt8.toNat_ofNat'] at this
  omega
theorem bstr_inj : ∀ {xs ys : List Int}, Byt xs → Byt ys → (xs.map fun x => UInt8.ofNat x.toNat) = (ys.map fun x => UInt8.ofNat x.toNat) → xs = ys
  | [], [], _, _, _ => rfl
  | [], y :: ys, _, _, h => by simp at h
  | x :: xs, [], _, _, h => by simp at h
  | x :: xs, y :: ys, hx, hy, h => by
    simp only [List.map_cons, List.cons.injEq] at h
    rw [u8_inj (hx x (by simp)) (hy y (by simp)) h.1, bstr_inj (fun z hz => hx z (by simp [hz])) (fun z hz => hy z (by simp [hz])) h.2]
theorem bstr_beq {xs ys : List Int} (hx : Byt xs) (hy : Byt ys) : ((bstr xs).toList == (bstr ys).toList) = decide (xs = ys) := by
  rw [ByteArray.toList_eq, ByteArray.toList_eq]
  unfold bstr
  simp only
  by_cases h : xs = ys
  · subst h; simp
  · have : ¬ (xs.map fun x => UInt8.ofNat x.toNat) = (ys.map fun x => UInt8.ofNat x.toNat) := fun e => h (bstr_inj hx hy e)
    simp [h, this]
@[go_sem] theorem binV_str (ty : TypeId) (x y : ByteArray) : binV E .eql ty (.string x) (.string y) = some (.bool (x.toList == y.toList)) := rfl
theorem empty_bstr : ByteArray.empty = bstr [] := rfl
theorem mk_bstr (xs : List Int) : (⟨(xs.map fun x => UInt8.ofNat x.toNat).toArray⟩ : ByteArray) = bstr xs := rfl

/-- A slice of bytes made a string. -/
theorem SlA.conv {a : Option Addr} {n c : Nat} {xs : List Int} (h : SlA m 1 a n c (xs.map (.int .u8))) (hn : a = none ∨ xs ≠ []) {s d e : TypeId} (h1 : (E.ti s).map (·.desc) = some (.slice e)) (h2 : (E.ti d).map (·.desc) = some .string) (h3 : E.desc e = some (.int .u8)) :
    convV E s d (.slice a n c) m = some (.string (bstr xs), m) := by
  obtain ⟨i, hi, hi'⟩ := Option.map_eq_some_iff.1 h1
  obtain ⟨j, hj, hj'⟩ := Option.map_eq_some_iff.1 h2
  obtain ⟨di, si, zi, bi⟩ := i
  obtain ⟨dj, sj, zj, bj⟩ := j
  simp only at hi' hj'
  subst hi' hj'
  unfold convV
  simp only [hi, hj, h3]
  cases a with
  | none =>
    have h1 := h.nil rfl
    have h2 := h.cap
    have h3 := h.len
    have : xs = [] := List.eq_nil_of_length_eq_zero (by simp at h3; omega)
    rw [this]; rfl
  | some b =>
    have hne : xs ≠ [] := by rcases hn with e | e; cases e; exact e
    have := h.row (by simpa using hne)
    rw [Nat.mul_one] at this
    simp only [row_rows, this, Option.bind_some, bytesOf_map, Option.map_some]
    rfl

/-- What a conversion to a string reads. -/
theorem SlA.strCases {a : Option Addr} {n c : Nat} {xs : List Int} (h : SlA m 1 a n c (xs.map (.int .u8))) (hn : a = none ∨ xs ≠ []) : (a = none ∧ xs = []) ∨ ∃ b o s, a = some ⟨b, o, s⟩ ∧ m.rows b o n = some (xs.map (.int .u8)) := by
  cases a with
  | none =>
    have h1 := h.nil rfl
    have h2 := h.cap
    have h3 := h.len
    exact .inl ⟨rfl, List.eq_nil_of_length_eq_zero (by simp at h3; omega)⟩
  | some b =>
    have hne : xs ≠ [] := by rcases hn with e | e; cases e; exact e
    have := h.row (by simpa using hne)
    rw [Nat.mul_one] at this
    exact .inr ⟨b.block, b.off, b.spot, rfl, this⟩

theorem shl_u64 (a k : Nat) : shlI .u64 (a : Int) (k : Int) = (((a * 2 ^ k) % 18446744073709551616 : Nat) : Int) := by
  unfold shlI
  rw [wrap_u64, Int.toNat_natCast]
  have hb : IntKind.bits .u64 = 64 := rfl
  rw [hb]
  by_cases h : k ≤ 64
  · rw [Nat.min_eq_left h, Int.natCast_emod, Int.natCast_mul, Int.natCast_pow]
    rfl
  · obtain ⟨j, rfl⟩ : ∃ j, k = 64 + j := ⟨k - 64, by omega⟩
    rw [Nat.min_eq_right (by omega), Nat.pow_add, ← Nat.mul_assoc, Nat.mul_right_comm]
    have e : (2 : Nat) ^ 64 = 18446744073709551616 := by decide
    have e' : (2 : Int) ^ 64 = 18446744073709551616 := by decide
    rw [e, e', Nat.mul_mod_left, Int.mul_emod_left]
    rfl
end Go.Abs
