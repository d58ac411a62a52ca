/-
  SumsRounding, the plain law: entities of lines that are sorted by them. SumsRounding: the lines and the map. SumsRounding: the loop of the lines. SumsRounding: what is wanted, what is got. SumsRounding, the law.
-/
import Derived.Test.YtjmppooebppecaaRndC
import Derived.Test.YtjmppooebppecaaSumE
import Derived.Test.YtjmppooebppecaaAbs30
import Derived.Test.YtjmppooebppecaaCodeLaw2
import Derived.Test.YtjmppooebppecaaSumC
namespace Go.Proofs.Ytjmppooebppecaa.W
open Go.Abs
set_option linter.unusedSimpArgs false
set_option linter.unusedVariables false


/-! ### RndD -/

/-- A column's sum. -/
def colS (c : Nat) : List (List Int) → Int
  | [] => 0
  | r :: l => r.getD c 0 + colS c l
theorem colS_append (c : Nat) : ∀ (a b : List (List Int)), colS c (a ++ b) = colS c a + colS c b
  | [], b => by simp [colS]
  | r :: a, b => by simp only [List.cons_append, colS, colS_append c a b]; omega
theorem colS_perm (c : Nat) {a b : List (List Int)} (h : a.Perm b) : colS c a = colS c b := by
  induction h with
  | nil => rfl
  | cons x _ ih => simp only [colS, ih]
  | swap x y l => simp only [colS]; omega
  | trans _ _ h1 h2 => exact h1.trans h2
theorem colS_bd (c : Nat) (C : Int) (hC : 0 ≤ C) : ∀ (l : List (List Int)), (∀ r ∈ l, -C ≤ r.getD c 0 ∧ r.getD c 0 ≤ C) → -(C * l.length) ≤ colS c l ∧ colS c l ≤ C * l.length
  | [], _ => by simp [colS]
  | r :: l, h => by
    have h1 := colS_bd c C hC l fun x hx => h x (List.mem_cons_of_mem _ hx)
    have h2 := h r List.mem_cons_self
    simp only [colS, List.length_cons]
    have e : C * ((l.length + 1 : Nat) : Int) = C * (l.length : Int) + C := by rw [Int.natCast_add, Int.mul_add]; simp
    rw [e]
    omega
/-- The lines of an entity. -/
def ofE (l : List (List Int)) (i : Int) : List (List Int) := l.filter fun r => r.getD 1 0 == i
theorem ofE_append (a b : List (List Int)) (i : Int) : ofE (a ++ b) i = ofE a i ++ ofE b i := List.filter_append ..
theorem ofE_perm {a b : List (List Int)} (h : a.Perm b) (i : Int) : (ofE a i).Perm (ofE b i) := h.filter _
theorem ofE_mem {l : List (List Int)} {i : Int} {r : List Int} (h : r ∈ ofE l i) : r ∈ l ∧ r.getD 1 0 = i := by
  have := List.mem_filter.1 h
  exact ⟨this.1, by simpa using this.2⟩
theorem ofE_len (l : List (List Int)) (i : Int) : (ofE l i).length ≤ l.length := List.length_filter_le ..

theorem contE (i p : Int) : ∀ (b : List (List Int)) (X : List En) (am mo : Int), (∀ r ∈ b, r.getD 1 0 = i ∧ r.getD 7 0 = p) → b.foldl stepE (X, some ⟨i, p, am, mo⟩) = (X, some ⟨i, p, am + colS 4 b, mo + colS 9 b⟩)
  | [], X, am, mo, _ => by simp [colS]
  | r :: b, X, am, mo, h => by
    obtain ⟨h1, h7⟩ := h r List.mem_cons_self
    have e : stepE (X, some ⟨i, p, am, mo⟩) r = (X, some ⟨i, p, am + r.getD 4 0, mo + r.getD 9 0⟩) := by
      unfold stepE
      simp only
      rw [if_pos h1.symm]
      unfold enAdd
      rw [h7]
    rw [List.foldl_cons, e, contE i p b X _ _ fun x hx => h x (List.mem_cons_of_mem _ hx)]
    simp only [colS]
    rw [Int.add_assoc, Int.add_assoc]
theorem blkE (i p : Int) (b : List (List Int)) (st : List En × Option En) (h : ∀ r ∈ b, r.getD 1 0 = i ∧ r.getD 7 0 = p) (hb : b ≠ []) (hs : ∀ e, st.2 = some e → e.id ≠ i) : b.foldl stepE st = (st.1 ++ st.2.toList, some ⟨i, p, colS 4 b, colS 9 b⟩) := by
  cases b with
  | nil => exact absurd rfl hb
  | cons r b =>
    obtain ⟨h1, h7⟩ := h r List.mem_cons_self
    have e : stepE st r = (st.1 ++ st.2.toList, some ⟨i, p, r.getD 4 0, r.getD 9 0⟩) := by
      unfold stepE
      cases hst : st.2 with
      | none => simp only [enAdd, en0, h1, h7, Option.toList, List.append_nil, Int.zero_add]
      | some e =>
        simp only
        rw [if_neg (by rw [h1]; exact hs e hst)]
        simp only [enAdd, en0, h1, h7, Option.toList, Int.zero_add]
    rw [List.foldl_cons, e, contE i p b _ _ _ fun x hx => h x (List.mem_cons_of_mem _ hx)]
    rfl
def entOf (f : Int → List (List Int)) (i : Int) : Option En := if f i = [] then none else some ⟨i, 500 * i, colS 4 (f i), colS 9 (f i)⟩
theorem entsE (f : Int → List (List Int)) : ∀ (is : List Int) (st : List En × Option En), is.Nodup → (∀ i ∈ is, ∀ r ∈ f i, r.getD 1 0 = i ∧ r.getD 7 0 = 500 * i) → (∀ e, st.2 = some e → e.id ∉ is) →
    ((is.flatMap f).foldl stepE st).1 ++ ((is.flatMap f).foldl stepE st).2.toList = st.1 ++ st.2.toList ++ is.filterMap (entOf f)
  | [], st, _, _, _ => by simp
  | i :: is, st, hn, hf, hs => by
    obtain ⟨hn1, hn2⟩ := List.nodup_cons.1 hn
    rw [List.flatMap_cons, List.foldl_append]
    by_cases h0 : f i = []
    · have e : entOf f i = none := if_pos h0
      rw [List.filterMap_cons_none e, h0]
      exact entsE f is st hn2 (fun j hj => hf j (List.mem_cons_of_mem _ hj)) fun e he h => hs e he (List.mem_cons_of_mem _ h)
    · have e : entOf f i = some ⟨i, 500 * i, colS 4 (f i), colS 9 (f i)⟩ := if_neg h0
      rw [List.filterMap_cons_some e, blkE i (500 * i) (f i) st (hf i List.mem_cons_self) h0 fun e he h => hs e he (by rw [h]; exact List.mem_cons_self),
        entsE f is _ hn2 (fun j hj => hf j (List.mem_cons_of_mem _ hj)) (fun e he h => by cases he; exact hn1 h)]
      simp
def irange (a : Int) : Nat → List Int
  | 0 => []
  | n + 1 => a :: irange (a + 1) n
theorem irange_mem : ∀ (n : Nat) (a i : Int), i ∈ irange a n ↔ a ≤ i ∧ i < a + n
  | 0, a, i => ⟨fun h => (by cases h), fun h => by omega⟩
  | n + 1, a, i => by
    simp only [irange, List.mem_cons, irange_mem n]
    omega
theorem irange_nodup : ∀ (n : Nat) (a : Int), (irange a n).Nodup
  | 0, a => List.nodup_nil
  | n + 1, a => List.nodup_cons.2 ⟨fun h => by have := (irange_mem n _ _).1 h; omega, irange_nodup n _⟩
theorem split1 (a : Int) : ∀ (L : List (List Int)), L.Pairwise (fun x y => x.getD 1 0 ≤ y.getD 1 0) → (∀ r ∈ L, a ≤ r.getD 1 0) → L = ofE L a ++ L.filter fun r => !(r.getD 1 0 == a)
  | [], _, _ => rfl
  | r :: L, hp, h => by
    obtain ⟨h1, h2⟩ := List.pairwise_cons.1 hp
    by_cases hr : r.getD 1 0 = a
    · have e1 : (r.getD 1 0 == a) = true := by simpa using hr
      unfold ofE
      rw [List.filter_cons_of_pos (p := fun r : List Int => r.getD 1 0 == a) e1, List.filter_cons_of_neg (p := fun r : List Int => !(r.getD 1 0 == a)) (by rw [e1]; simp), List.cons_append]
      have := split1 a L h2 fun x hx => h x (List.mem_cons_of_mem _ hx)
      unfold ofE at this
      rw [← this]
    · have hra := h r List.mem_cons_self
      have e1 : ofE (r :: L) a = [] := List.filter_eq_nil_iff.2 fun x hx => by
        rcases List.mem_cons.1 hx with rfl | hx
        · rw [beq_iff_eq]; exact hr
        · have := h1 x hx
          rw [beq_iff_eq]; omega
      have e2 : (r :: L).filter (fun r => !(r.getD 1 0 == a)) = r :: L := List.filter_eq_self.2 fun x hx => by
        rcases List.mem_cons.1 hx with rfl | hx
        · rw [Bool.not_eq_true', beq_eq_false_iff_ne]; exact hr
        · have := h1 x hx
          rw [Bool.not_eq_true', beq_eq_false_iff_ne]; omega
      rw [e1, e2]
      rfl
theorem splitE : ∀ (n : Nat) (a : Int) (L : List (List Int)), L.Pairwise (fun x y => x.getD 1 0 ≤ y.getD 1 0) → (∀ r ∈ L, a ≤ r.getD 1 0 ∧ r.getD 1 0 < a + n) → L = (irange a n).flatMap (ofE L)
  | 0, a, L, _, h => by
    cases L with
    | nil => rfl
    | cons r L => have := h r List.mem_cons_self; omega
  | n + 1, a, L, hp, h => by
    have h1 := split1 a L hp fun r hr => (h r hr).1
    obtain ⟨R, hR⟩ : ∃ R, R = L.filter fun r => !(r.getD 1 0 == a) := ⟨_, rfl⟩
    rw [← hR] at h1
    have hm : ∀ r ∈ R, r ∈ L ∧ r.getD 1 0 ≠ a := fun r hr => by
      rw [hR] at hr
      have := List.mem_filter.1 hr
      exact ⟨this.1, by simpa using this.2⟩
    have h2 := splitE n (a + 1) R (by rw [hR]; exact hp.filter _) fun r hr => by
      have := h r (hm r hr).1
      have := (hm r hr).2
      omega
    have h3 : ∀ i ∈ irange (a + 1) n, ofE R i = ofE L i := fun i hi => by
      have hi := (irange_mem n _ _).1 hi
      rw [hR]
      unfold ofE
      rw [List.filter_filter]
      refine List.filter_congr fun r hr => ?_
      by_cases hri : r.getD 1 0 = i
      · have : (r.getD 1 0 == a) = false := beq_eq_false_iff_ne.2 (by omega)
        rw [this]; simp
      · have : (r.getD 1 0 == i) = false := by simpa using hri
        rw [this]; simp
    have h4 : (irange (a + 1) n).flatMap (ofE R) = (irange (a + 1) n).flatMap (ofE L) := by rw [List.flatMap_def, List.flatMap_def, List.map_congr_left h3]
    show L = ofE L a ++ (irange (a + 1) n).flatMap (ofE L)
    rw [← h4, ← h2]
    exact h1

/-- Lines of four entities, sorted. -/
structure Ln4 (L : List (List Int)) : Prop where
  sort : L.Pairwise (fun x y => x.getD 1 0 ≤ y.getD 1 0)
  id : ∀ r ∈ L, 1 ≤ r.getD 1 0 ∧ r.getD 1 0 ≤ 4
  parts : ∀ r ∈ L, r.getD 7 0 = 500 * r.getD 1 0
  am : ∀ r ∈ L, -100 ≤ r.getD 4 0 ∧ r.getD 4 0 ≤ 100
  mo : ∀ r ∈ L, -1099511627776 ≤ r.getD 9 0 ∧ r.getD 9 0 ≤ 1099511627776
  len : L.length ≤ 30
theorem Ln4.ents {L : List (List Int)} (h : Ln4 L) : entL L = (irange 1 4).filterMap (entOf (ofE L)) := by
  have e := splitE 4 1 L h.sort fun r hr => by have := h.id r hr; omega
  have e2 := entsE (ofE L) (irange 1 4) ([], none) (irange_nodup 4 1) (fun i _ r hr => by
    obtain ⟨h1, h2⟩ := ofE_mem hr
    exact ⟨h2, by rw [h.parts r h1, h2]⟩) (fun e he => by cases he)
  rw [← e] at e2
  exact e2
theorem Ln4.bd {L : List (List Int)} (h : Ln4 L) (i : Int) : (-3000 ≤ colS 4 (ofE L i) ∧ colS 4 (ofE L i) ≤ 3000) ∧ -32985348833280 ≤ colS 9 (ofE L i) ∧ colS 9 (ofE L i) ≤ 32985348833280 := by
  have h1 := colS_bd 4 100 (by decide) (ofE L i) fun r hr => h.am r (ofE_mem hr).1
  have h2 := colS_bd 9 1099511627776 (by decide) (ofE L i) fun r hr => h.mo r (ofE_mem hr).1
  have h3 := ofE_len L i
  have h4 := h.len
  generalize colS 4 (ofE L i) = x at *
  generalize colS 9 (ofE L i) = y at *
  generalize (ofE L i).length = z at *
  omega
theorem Ln4.mid {L : List (List Int)} (h : Ln4 L) : ∀ e ∈ entL L, midE e.am ∧ midE e.mo := fun e he => by
  rw [h.ents] at he
  obtain ⟨i, _, hi⟩ := List.mem_filterMap.1 he
  unfold entOf at hi
  split at hi
  · cases hi
  · cases hi
    have := h.bd i
    unfold midE
    simp only
    generalize colS 4 (ofE L i) = x at *
    generalize colS 9 (ofE L i) = y at *
    omega
/-- What rounding rows there are. -/
def wantR (left : Int → Int) (is : List Int) : List (List Int) := (is.filter fun e => !(left e == 0)).map fun e => [e, 500 * e, 9999, left e]
theorem cut_want (f : Int → List (List Int)) (left : Int → Int) (h9 : ∀ i, left i = -colS 9 (f i)) (h4 : ∀ i, colS 4 (f i) = 0) (hbd : ∀ i, -32985348833280 ≤ colS 9 (f i) ∧ colS 9 (f i) ≤ 32985348833280) : ∀ (is : List Int), cutN false (is.filterMap (entOf f)) = (wantR left is).map .inl
  | [] => rfl
  | i :: is => by
    have ih := cut_want f left h9 h4 hbd is
    have hi := h9 i
    have hb := hbd i
    by_cases h0 : f i = []
    · have e : entOf f i = none := if_pos h0
      have hl : left i = 0 := by rw [hi, h0]; rfl
      rw [List.filterMap_cons_none e, ih]
      unfold wantR
      rw [List.filter_cons_of_neg (by rw [hl]; simp)]
    · have e : entOf f i = some ⟨i, 500 * i, colS 4 (f i), colS 9 (f i)⟩ := if_neg h0
      rw [List.filterMap_cons_some e, cutN_good (h4 i)]
      have hov : ovE false ⟨i, 500 * i, colS 4 (f i), colS 9 (f i)⟩ = false := by
        have hfit : fitE (-colS 9 (f i)) := by unfold fitE; omega
        unfold ovE
        rw [decide_eq_true hfit]
        rfl
      rw [hov, ih]
      unfold elE rowE
      rw [hov]
      simp only
      by_cases hl : left i = 0
      · rw [if_pos (.inr (by omega))]
        unfold wantR
        rw [List.filter_cons_of_neg (by rw [hl]; simp)]
        rfl
      · rw [if_neg (by rintro (h | h); exact Bool.noConfusion h; omega)]
        unfold wantR
        rw [List.filter_cons_of_pos (by simpa using hl), ← hi]
        rfl
/-- Lines in balance. -/
theorem Ln4.want {L : List (List Int)} (h : Ln4 L) (left : Int → Int) (h9 : ∀ i, left i = -colS 9 (ofE L i)) (h4 : ∀ i, colS 4 (ofE L i) = 0) : cutN false (entL L) = (wantR left (irange 1 4)).map .inl := by
  rw [h.ents]
  exact cut_want _ left h9 h4 (fun i => (h.bd i).2) _
theorem cut_last : ∀ (es : List En) (ov : Bool), (∃ e ∈ es, e.am ≠ 0) → ∃ xs, cutN ov es = xs ++ [.inr 4]
  | [], ov, ⟨e, he, _⟩ => by cases he
  | e :: es, ov, ⟨x, hx, hne⟩ => by
    by_cases ha : e.am = 0
    · rw [cutN_good ha]
      rcases List.mem_cons.1 hx with rfl | hx
      · exact absurd ha hne
      · obtain ⟨xs, hxs⟩ := cut_last es (ovE ov e) ⟨x, hx, hne⟩
        exact ⟨elE ov e ++ xs, by rw [hxs, List.append_assoc]⟩
    · exact ⟨[], cutN_bad ha⟩
/-- Lines out of balance. -/
theorem Ln4.bad {L : List (List Int)} (h : Ln4 L) {i : Int} (hi : 1 ≤ i ∧ i ≤ 4) (h4 : colS 4 (ofE L i) ≠ 0) : ∃ xs, cutN false (entL L) = xs ++ [.inr 4] := by
  refine cut_last _ _ ⟨⟨i, 500 * i, colS 4 (ofE L i), colS 9 (ofE L i)⟩, ?_, h4⟩
  rw [h.ents]
  refine List.mem_filterMap.2 ⟨i, (irange_mem 4 1 i).2 (by omega), if_neg fun h0 => h4 (by rw [h0]; rfl)⟩
theorem cutN_len : ∀ (es : List En) (ov : Bool), (cutN ov es).length ≤ es.length + 1
  | [], ov => by unfold cutN; split <;> simp
  | e :: es, ov => by
    by_cases ha : e.am = 0
    · rw [cutN_good ha, List.length_append]
      have := cutN_len es (ovE ov e)
      have h2 : (elE ov e).length ≤ 1 := by unfold elE; split <;> simp
      simp only [List.length_cons]
      omega
    · rw [cutN_bad ha]; simp


/-! ### RndE -/

set_option maxRecDepth 100000 in
/-- append of two elements that were put into a block of their own. -/
theorem append2Q {B q sz n : Nat} {m : Mem} {a : Option Addr} {xs : List Value} (h : Vec B m sz a n xs) (hq : q = m.size) (hB : B ≤ m.size) {st xt : TypeId} {ys : List Value} (hy : ys.length = 2 * sz) (hz : 0 < sz) (ht : isSl E st sz = true) (ht' : isSl E xt sz = true) (h1 : ys.all oneCell = true) (hb : n + 2 ≤ 1073741824)
    {K : Value → Mem → Prop} (hK : ∀ m' b s, Vec B m' sz (some ⟨b, 0, s⟩) (n + 2) (xs ++ ys) → KeepA a m m' → m.size ≤ b → K (.slice (some ⟨b, 0, s⟩) (n + 2) (n + 2)) m') :
    StepQ E (val2? (appendV E (m.push (.cells false true ys)) st xt (.slice a n n) (.slice (some ⟨q, 0, none⟩) 2 2))) K := by
  subst hq
  have s : SlA (m.push (.cells false true ys)) sz (some ⟨m.size, 0, none⟩) 2 2 ys := SlA.new (by rw [getM_push, if_pos rfl]) (by omega) rfl
  refine append_new (h.push (.cells false true ys)).sl (by omega) (h.push _).own (s.appended' ht' hz) (by omega) ht h1 hb fun m' z g u _ => ?_
  refine hK m' _ _ (.new g (by rw [size_push]; omega) (by rw [List.length_append, h.len, hy, Nat.add_mul]) (by simp [looseOk])) ⟨by rw [size_push] at z; omega, fun i hi hne => ?_⟩ (by rw [size_push]; omega)
  rw [u i (by rw [size_push]; omega) hne, getM_push, if_neg (by omega)]

/-! ### the numbers -/
def eZ (z : List Int) : Int := 1 + z.getD 0 0 % (4 - 1 + 1)
def nZ (z : List Int) : Int := -99 + z.getD 2 0 % (99 - -99 + 1)
def aZ (z : List Int) : Int := -1099511627776 + z.getD 5 0 % (1099511627776 - -1099511627776 + 1)
def bZ (z : List Int) : Int := -1099511627776 + z.getD 3 0 % (1099511627776 - -1099511627776 + 1)
theorem eZ_bd (z : List Int) : 1 ≤ eZ z ∧ eZ z ≤ 4 := by unfold eZ; rw [show (4 - 1 + 1 : Int) = 4 from rfl]; omega
theorem nZ_bd (z : List Int) : -99 ≤ nZ z ∧ nZ z ≤ 99 := by unfold nZ; rw [show (99 - -99 + 1 : Int) = 199 from rfl]; omega
theorem aZ_bd (z : List Int) : -1099511627776 ≤ aZ z ∧ aZ z ≤ 1099511627776 := by unfold aZ; rw [show (1099511627776 - -1099511627776 + 1 : Int) = 2199023255553 from rfl]; omega
theorem bZ_bd (z : List Int) : -1099511627776 ≤ bZ z ∧ bZ z ≤ 1099511627776 := by unfold bZ; rw [show (1099511627776 - -1099511627776 + 1 : Int) = 2199023255553 from rfl]; omega
def row1Z (z : List Int) (i : Int) : List Int := [2 * i + 1, eZ z, 1, 10, nZ z, 0, 1, 500 * eZ z, 5, aZ z]
def row2Z (z : List Int) (i : Int) : List Int := [2 * i + 2, eZ z, 1, 10, -nZ z, 0, 1, 500 * eZ z, 6, bZ z]
def rowsZ (zs : List (List Int)) : Nat → List (List Int)
  | 0 => []
  | k + 1 => rowsZ zs k ++ [row1Z (zs.getD k []) k, row2Z (zs.getD k []) k]
def leftZ (zs : List (List Int)) : Nat → Int → Int
  | 0, _ => 0
  | k + 1, e => if e = eZ (zs.getD k []) then leftZ zs k e - aZ (zs.getD k []) - bZ (zs.getD k []) else leftZ zs k e
theorem leftZ_bd (zs : List (List Int)) (e : Int) : ∀ k : Nat, -(2199023255552 * (k : Int)) ≤ leftZ zs k e ∧ leftZ zs k e ≤ 2199023255552 * (k : Int)
  | 0 => by simp [leftZ]
  | k + 1 => by
    have h := leftZ_bd zs e k
    have ha := aZ_bd (zs.getD k [])
    have hb := bZ_bd (zs.getD k [])
    unfold leftZ
    split <;> omega
theorem colS2 (c : Nat) (r r' : List Int) : colS c [r, r'] = r.getD c 0 + r'.getD c 0 := by simp only [colS]; omega
theorem rowsZ_bal (zs : List (List Int)) (e : Int) : ∀ k : Nat, colS 4 (ofE (rowsZ zs k) e) = 0 ∧ colS 9 (ofE (rowsZ zs k) e) = -leftZ zs k e
  | 0 => ⟨rfl, rfl⟩
  | k + 1 => by
    obtain ⟨h1, h2⟩ := rowsZ_bal zs e k
    obtain ⟨z, hz⟩ : ∃ z, z = zs.getD k [] := ⟨_, rfl⟩
    have er : rowsZ zs (k + 1) = rowsZ zs k ++ [row1Z z k, row2Z z k] := by rw [hz]; rfl
    have el : leftZ zs (k + 1) e = if e = eZ z then leftZ zs k e - aZ z - bZ z else leftZ zs k e := by rw [hz]; rfl
    have f1 : (row1Z z k).getD 1 0 = eZ z := rfl
    have f2 : (row2Z z k).getD 1 0 = eZ z := rfl
    rw [er, el, ofE_append, colS_append, colS_append, h1, h2]
    by_cases he : e = eZ z
    · have e1 : (eZ z == e) = true := by rw [he]; simp
      have : ofE [row1Z z k, row2Z z k] e = [row1Z z k, row2Z z k] := by unfold ofE; simp only [List.filter_cons, f1, f2, e1, if_true, List.filter_nil]
      rw [this, if_pos he, colS2, colS2]
      have g1 : (row1Z z k).getD 4 0 = nZ z := rfl
      have g2 : (row2Z z k).getD 4 0 = -nZ z := rfl
      have g3 : (row1Z z k).getD 9 0 = aZ z := rfl
      have g4 : (row2Z z k).getD 9 0 = bZ z := rfl
      rw [g1, g2, g3, g4]
      omega
    · have e1 : (eZ z == e) = false := beq_eq_false_iff_ne.2 fun h => he h.symm
      have : ofE [row1Z z k, row2Z z k] e = [] := by unfold ofE; simp only [List.filter_cons, f1, f2, e1, Bool.false_eq_true, if_false, List.filter_nil]
      rw [this, if_neg he]
      simp [colS]
theorem rowsZ_mem (zs : List (List Int)) : ∀ k : Nat, ∀ r ∈ rowsZ zs k, ∃ z i, 0 ≤ i ∧ i < (k : Int) ∧ (r = row1Z z i ∨ r = row2Z z i)
  | 0, r, h => by cases h
  | k + 1, r, h => by
    rcases List.mem_append.1 h with h | h
    · obtain ⟨z, i, h1, h2, h3⟩ := rowsZ_mem zs k r h
      exact ⟨z, i, h1, by omega, h3⟩
    · simp only [List.mem_cons, List.not_mem_nil, or_false] at h
      exact ⟨zs.getD k [], k, by omega, by omega, h⟩
theorem rowsZ_len (zs : List (List Int)) : ∀ k : Nat, (rowsZ zs k).length = 2 * k
  | 0 => rfl
  | k + 1 => by rw [rowsZ, List.length_append, rowsZ_len zs k]; simp; omega

theorem imap68 : IsIMap E 68 (vI 0) := ⟨_, _, map68, rfl⟩

/-- The lines so far, and the map. -/
structure RndL (m0 m : Mem) (qb : Nat) (a : Option Addr) (ps : List (Nat × List Int)) (xss : List (List Int)) (left : Int → Int) : Prop where
  vec : Vec m0.size m 1 a ps.length ((ps.map rowH).map HRow.v)
  own : Own2 m0.size m ps
  xs : ps.map Prod.snd = xss
  dis : ∀ q ∈ ps, ∀ y, a = some y → q.1 ≠ y.block
  map_ : ∃ f, IMap m qb f ∧ ∀ e, (f e).getD (vI 0) = vI (left e)
  size : m0.size ≤ m.size
  keep : ∀ i, i < m0.size → i ≠ qb → m.get i = m0.get i


/-! ### RndF -/

set_option maxRecDepth 100000 in
set_option maxHeartbeats 8000000 in
theorem Rn_lines {m0 : Mem} {t : Fr} {a0 : Option Addr} {n c0 qb : Nat} {zs : List (List Int)} (h : SlA m0 7 a0 n c0 ((zs.map fun z => z.map (.int .i64)).flatten)) (hl : zs.length = n) (hz : ∀ z ∈ zs, z.length = 7 ∧ ∀ x ∈ z, -9223372036854775808 ≤ x ∧ x < 9223372036854775808)
    (hqb : IMap m0 qb fun _ => none) (hnq : ∀ b, a0 = some b → zs ≠ [] → b.block ≠ qb)
    (t0 : t 0 = .slice a0 n c0) (t5 : t 5 = .slice none 0 0) (t6 : t 6 = .map (some qb)) (t7 : t 7 = .int .i64 0) {K : Post3}
    (hK : ∀ t' m' a ps, Agree (writes c_sheaflaw19_SumsRounding_9) t t' → t' 5 = .slice a ps.length ps.length → RndL m0 m' qb a ps (rowsZ zs (min n 12)) (leftZ zs (min n 12)) → K .normal t' m') :
    wpM E F_sheaflaw19_SumsRounding 171 none c_sheaflaw19_SumsRounding_9 K t m0 := by
  refine wpM_cut (fun t' m' => ∃ a ps, t' 5 = .slice a ps.length ps.length ∧ RndL m0 m' qb a ps (rowsZ zs (min n 12)) (leftZ zs (min n 12))) ?_ fun t' m' ha ⟨a, ps, h0, h1⟩ => hK t' m' a ps ha h0 h1
  simp only [c_sheaflaw19_SumsRounding_9_at, wpM_block, c_sheaflaw19_SumsRounding_8_at]
  have lqb := hqb.blk
  refine wpM_loopA (fun j t' m' => ∃ k a ps, k ≤ min n 12 ∧ j = min n 12 - k ∧ t' 7 = .int .i64 (k : Nat) ∧ t' 5 = .slice a ps.length ps.length ∧ RndL m0 m' qb a ps (rowsZ zs k) (leftZ zs k)) (min n 12)
    ⟨0, none, [], by omega, rfl, t7, t5, ⟨.nil _ _ _, ⟨fun p h => by simp at h, fun p h => by simp at h, fun p h => by simp at h, by simp⟩, rfl, fun q h => by simp at h, ⟨_, hqb, fun e => rfl⟩, Nat.le_refl _, fun _ _ _ => rfl⟩⟩ ?_
  rintro j t' m' ha ⟨k, a, ps, hk, rfl, e7, e5, H⟩
  have e0 := (ha 0 (by decide +kernel)).trans t0
  have e6 := (ha 6 (by decide +kernel)).trans t6
  have hsz := H.size
  by_cases hlt : k < min n 12
  · have d1 : decide ((k : Int) < (n : Int)) = true := by simp; omega
    have d2 : decide ((k : Int) < 12) = true := by simp; omega
    have w1 : IntKind.wrap .i64 ((k : Int) + 1) = ((k + 1 : Nat) : Int) := by rw [wrap_i64_id _ (by omega) (by omega)]; omega
    have z0 : (0 : Int) ≤ (k : Int) := by omega
    have z1 : (k : Int) < (n : Int) := by omega
    have hne : zs ≠ [] := fun e => by rw [e] at hl; simp at hl; omega
    have hS : SlA m' 7 a0 n c0 ((zs.map fun z => z.map (.int .i64)).flatten) := h.keep fun b hb hne' => H.keep _ ((h.rows b hb hne').lt) (hnq b hb hne)
    obtain ⟨ab, ao, asp, rfl⟩ := hS.addr (by omega)
    have hkl : k < zs.length := by omega
    have hzk := hz zs[k] (List.getElem_mem _)
    have R : Rw m' ab (ao + k * 7) ((zs[k]).map (.int .i64)) := by
      have := hS.srow (fun z hz' => (hz z hz').1) (by decide) hkl
      unfold Rw
      rw [List.length_map, hzk.1]
      exact this
    have eg : zs.getD k [] = zs[k] := by simp [List.getD_eq_getElem?_getD, hkl]
    have erow : rowsZ zs (k + 1) = rowsZ zs k ++ [row1Z zs[k] k, row2Z zs[k] k] := by rw [← eg]; rfl
    have eleft : ∀ e, leftZ zs (k + 1) e = if e = eZ zs[k] then leftZ zs k e - aZ zs[k] - bZ zs[k] else leftZ zs k e := fun e => by rw [← eg]; rfl
    generalize zs[k] = z at *
    obtain ⟨hz7, hzb⟩ := hzk
    have rr : ∀ i, i < 7 → m'.at ab (ao + (k * 7 + i)) = some (.int .i64 (z.getD i 0)) := fun i hi => by
      have := R.at (i := i) (by simp [hz7]; omega)
      simpa [List.getD_eq_getElem?_getD, hz7, hi, Nat.add_assoc] using this
    have r0 : m'.at ab (ao + k * 7) = some (.int .i64 (z.getD 0 0)) := rr 0 (by omega)
    have r2 := rr 2 (by omega)
    have bz : ∀ i, i < 7 → -9223372036854775808 ≤ z.getD i 0 ∧ z.getD i 0 < 9223372036854775808 := fun i hi => hzb _ (by simp [List.getD_eq_getElem?_getD, hz7, hi])
    have R' : ∀ mm, Old m' mm → ∀ i, i < 7 → mm.at ab (ao + (k * 7 + i)) = some (.int .i64 (z.getD i 0)) := fun mm o i hi => by
      have := rr i hi
      unfold Mem.at at this ⊢
      cases hg : m'.get ab with
      | none => rw [hg] at this; cases this
      | some c => rw [hg] at this; rw [o.get (getM_lt hg), hg]; exact this
    have hel : ps.length = 2 * k := by have := congrArg List.length H.xs; rw [rowsZ_len] at this; simpa using this
    have b0 := bz 0 (by omega)
    have b2 := bz 2 (by omega)
    have b3 := bz 3 (by omega)
    have b5' := bz 5 (by omega)
    simp (decide := true) (implicitDefEqProofs := false) (maxDischargeDepth := 20) only [go_sem, ↓reduceIte, e0, e5, e6, e7, d1, d2, r0, r2, z0, z1, Int.toNat_natCast, true_implies, false_implies]
    refine ((Within_ans (z.getD 0 0) 1 4 b0.1 b0.2 (by omega) (by omega) (by omega) (by omega)) _).mono ?_
    rintro w m2 ⟨rfl, o2⟩
    obtain ⟨el, rfl, -⟩ := o2.ugm
    have o2 : Old m' (m'.ext el) := ⟨el, rfl⟩
    have hE : 1 + z.getD 0 0 % (4 - 1 + 1) = eZ z := rfl
    rw [hE]
    simp (decide := true) (implicitDefEqProofs := false) (maxDischargeDepth := 20) only [go_sem, ↓reduceIte, true_implies, false_implies]
    generalize m'.ext el = m2 at *
    refine ((Within_ans (z.getD 2 0) (-99) 99 b2.1 b2.2 (by omega) (by omega) (by omega) (by omega)) _).mono ?_
    rintro w m3 ⟨rfl, o3⟩
    have hN : -99 + z.getD 2 0 % (99 - -99 + 1) = nZ z := rfl
    rw [hN]
    have o13 := o2.trans o3
    have r3 := R' m3 o13 3 (by omega)
    have r5 := R' m3 o13 5 (by omega)
    simp (decide := true) (implicitDefEqProofs := false) (maxDischargeDepth := 20) only [go_sem, ↓reduceIte, e0, e5, e6, e7, r3, r5, z0, z1, Int.toNat_natCast, true_implies, false_implies]
    refine ((Within_ans (z.getD 5 0) (-1099511627776) 1099511627776 b5'.1 b5'.2 (by omega) (by omega) (by omega) (by omega)) _).mono ?_
    rintro w m4 ⟨rfl, o4⟩
    obtain ⟨el, rfl, -⟩ := o4.ugm
    have o4 : Old m3 (m3.ext el) := ⟨el, rfl⟩
    have hA : -1099511627776 + z.getD 5 0 % (1099511627776 - -1099511627776 + 1) = aZ z := rfl
    rw [hA]
    simp (decide := true) (implicitDefEqProofs := false) (maxDischargeDepth := 20) only [go_sem, ↓reduceIte, true_implies, false_implies]
    generalize m3.ext el = m4 at *
    refine ((Within_ans (z.getD 3 0) (-1099511627776) 1099511627776 b3.1 b3.2 (by omega) (by omega) (by omega) (by omega)) _).mono ?_
    rintro w m5 ⟨rfl, o5⟩
    have hB : -1099511627776 + z.getD 3 0 % (1099511627776 - -1099511627776 + 1) = bZ z := rfl
    rw [hB]
    have o35 := o13.trans (o4.trans o5)
    have hsz5 := o35.size
    have eb := eZ_bd z
    have nb := nZ_bd z
    have abd := aZ_bd z
    have bbd := bZ_bd z
    have lbd := leftZ_bd zs (eZ z) k
    have w2 : IntKind.wrap .i64 (2 * (k : Int)) = 2 * (k : Int) := wrap_i64_id _ (by omega) (by omega)
    have w3 : IntKind.wrap .i64 (2 * (k : Int) + 1) = 2 * (k : Int) + 1 := wrap_i64_id _ (by omega) (by omega)
    have w4 : IntKind.wrap .i64 (2 * (k : Int) + 2) = 2 * (k : Int) + 2 := wrap_i64_id _ (by omega) (by omega)
    have w5 : IntKind.wrap .i64 (500 * eZ z) = 500 * eZ z := wrap_i64_id _ (by omega) (by omega)
    have w6 : IntKind.wrap .i64 (-nZ z) = -nZ z := wrap_i64_id _ (by omega) (by omega)
    have w6' : IntKind.wrap .i64 (0 - nZ z) = -nZ z := by rw [Int.zero_sub]; exact w6
    simp (decide := true) (implicitDefEqProofs := false) (maxDischargeDepth := 20) only [go_sem, ↓reduceIte, e0, e5, e6, e7, w2, w3, w4, w5, w6, w6', true_implies, false_implies]
    obtain ⟨rb, hrb⟩ : ∃ b, b = m5.size := ⟨_, rfl⟩
    obtain ⟨mp, hmp⟩ : ∃ mp, mp = (m5.push (.cells false true ((row1Z z k).map (.int .i64)))).push (.cells false true ((row2Z z k).map (.int .i64))) := ⟨_, rfl⟩
    have e2 : m5.size + (1 + 1) = mp.size := by rw [hmp, size_push, size_push]
    rw [e2, ← hrb]
    refine (show StepQ E (val2? (appendV E (((m5.push (.cells false true ((row1Z z k).map (.int .i64)))).push (.cells false true ((row2Z z k).map (.int .i64)))).push (.cells false true [.slice (some ⟨rb, 0, none⟩) 10 10, .slice (some ⟨rb + 1, 0, none⟩) 10 10])) 40 40 (.slice a ps.length ps.length) (.slice (some ⟨mp.size, 0, none⟩) 2 2))) _ from ?_)
    rw [← hmp]
    have sp : mp.size = m5.size + 2 := by omega
    have op : Old m' mp := by rw [hmp]; exact (o35.push _).push _
    have gr1 : mp.get rb = some (.cells false true ((row1Z z k).map (.int .i64))) := by rw [hmp, getM_push, if_neg (by rw [size_push]; omega), getM_push, if_pos hrb]
    have gr2 : mp.get (rb + 1) = some (.cells false true ((row2Z z k).map (.int .i64))) := by rw [hmp, getM_push, if_pos (by rw [size_push]; omega)]
    have szp := op.size
    refine append2Q (H.vec.old op) rfl (by omega) rfl (by decide) (by decide +kernel) (by decide +kernel) rfl (by omega) fun m6 b6 s6 v6 k6 hb6 => ?_
    have s6' := k6.1
    have hnea : ∀ i, i < m0.size → ∀ y, a = some y → i ≠ y.block := fun i hi y hy e => by have := (H.vec.blk y hy).1; omega
    have hbx : ∀ x, a = some x → x.block < m'.size := fun x hx => H.vec.lt hx
    obtain ⟨f, Q, hf⟩ := H.map_
    have Q6 : IMap m6 qb f := Q.keep (by rw [k6.2 qb (by omega) (hnea qb lqb), op.get Q.blk])
    have look := Q6.look imap68 (eZ z)
    rw [hf (eZ z)] at look
    have w7 : IntKind.wrap .i64 (leftZ zs k (eZ z) - aZ z) = leftZ zs k (eZ z) - aZ z := wrap_i64_id _ (by omega) (by omega)
    have w8 : IntKind.wrap .i64 (leftZ zs k (eZ z) - aZ z - bZ z) = leftZ zs k (eZ z) - aZ z - bZ z := wrap_i64_id _ (by omega) (by omega)
    obtain ⟨m7, hu, Q7, s7, g7⟩ := Q6.upd imap68 (eZ z) (vI (leftZ zs k (eZ z) - aZ z - bZ z))
    simp (decide := true) (implicitDefEqProofs := false) (maxDischargeDepth := 20) only [go_sem, ↓reduceIte, e0, e6, e7, w1, look, w7, w8, hu, Option.map_some, true_implies, false_implies]
    have g7' : ∀ i, i < m'.size → i ≠ qb → (∀ x, a = some x → i ≠ x.block) → m7.get i = m'.get i := fun i h1 h3 h4 => by rw [g7 i h3, k6.2 i (by omega) h4, op.get h1]
    have l6 : b6 < m6.size := v6.lt rfl
    have hpl : (ps ++ [(rb, row1Z z k), (rb + 1, row2Z z k)]).length = ps.length + 2 := by simp
    have hnew : ∀ q ∈ ps ++ [(rb, row1Z z k), (rb + 1, row2Z z k)], q ∈ ps ∨ q = (rb, row1Z z k) ∨ q = (rb + 1, row2Z z k) := fun q hq => by
      rcases List.mem_append.1 hq with hq | hq
      · exact .inl hq
      · simp only [List.mem_cons, List.not_mem_nil, or_false] at hq; exact .inr hq
    have g71 : m7.get rb = some (.cells false true ((row1Z z k).map (.int .i64))) := by
      rw [g7 rb (by omega), k6.2 rb (getM_lt gr1) fun y hy e => by have := hbx y hy; omega]
      exact gr1
    have g72 : m7.get (rb + 1) = some (.cells false true ((row2Z z k).map (.int .i64))) := by
      rw [g7 (rb + 1) (by omega), k6.2 (rb + 1) (getM_lt gr2) fun y hy e => by have := hbx y hy; omega]
      exact gr2
    refine ⟨min n 12 - (k + 1), by omega, k + 1, some ⟨b6, 0, s6⟩, ps ++ [(rb, row1Z z k), (rb + 1, row2Z z k)], by omega, rfl, rfl, by rw [hpl], ?_, ⟨fun q hq => ?_, fun q hq => ?_, fun q hq => ?_, ?_⟩, ?_, fun q hq y hy => ?_, ⟨_, Q7, fun e => ?_⟩, by omega, fun i hi h1 => ?_⟩
    · rw [hpl, List.map_append, List.map_append]
      exact v6.keep fun x hx => by cases hx; exact g7 _ (by show b6 ≠ qb; omega)
    · rcases hnew q hq with hq | rfl | rfl
      · have hb := H.own.lt q hq
        have hlo := H.own.lo q hq
        rw [g7' q.1 hb (by omega) fun y hy e => H.dis q hq y hy e]
        exact H.own.get q hq
      · exact g71
      · exact g72
    · rcases hnew q hq with hq | rfl | rfl
      · exact H.own.bd q hq
      · intro x hx
        simp only [row1Z, List.mem_cons, List.not_mem_nil, or_false] at hx
        omega
      · intro x hx
        simp only [row2Z, List.mem_cons, List.not_mem_nil, or_false] at hx
        omega
    · rcases hnew q hq with hq | rfl | rfl
      · exact H.own.lo q hq
      · show m0.size ≤ rb; omega
      · show m0.size ≤ rb + 1; omega
    · rw [List.map_append, List.nodup_append]
      refine ⟨H.own.dis, by simp, fun x hx y hy => ?_⟩
      obtain ⟨q, hq, rfl⟩ := List.mem_map.1 hx
      simp at hy
      have := H.own.lt q hq
      omega
    · rw [List.map_append, H.xs, erow]
      rfl
    · cases hy
      rcases hnew q hq with hq | rfl | rfl
      · have := H.own.lt q hq; show q.1 ≠ b6; omega
      · show rb ≠ b6; omega
      · show rb + 1 ≠ b6; omega
    · rw [eleft]
      unfold updM
      by_cases he : e = eZ z
      · rw [if_pos he, if_pos he, he]; rfl
      · rw [if_neg he, if_neg he]; exact hf e
    · rw [g7' i (by omega) h1 (hnea i hi), H.keep i hi h1]
  · have hkk : k = min n 12 := by omega
    subst hkk
    by_cases h12 : min n 12 < n
    · have d1 : decide (((min n 12 : Nat) : Int) < (n : Int)) = true := by simp; omega
      have d2 : decide (((min n 12 : Nat) : Int) < 12) = false := by simp; omega
      simp (decide := true) (implicitDefEqProofs := false) (maxDischargeDepth := 20) only [go_sem, ↓reduceIte, e0, e5, e6, e7, d1, d2, true_implies, false_implies]
      exact ⟨a, ps, rfl, H⟩
    · have d1 : decide (((min n 12 : Nat) : Int) < (n : Int)) = false := by simp; omega
      simp (decide := true) (implicitDefEqProofs := false) (maxDischargeDepth := 20) only [go_sem, ↓reduceIte, e0, e5, e6, e7, d1, true_implies, false_implies]
      exact ⟨a, ps, rfl, H⟩


/-! ### RndG -/

set_option maxRecDepth 100000 in
theorem SRound_at {m : Mem} {sf : Fn} {sa sb : Array Value} : CallQ E F_sums_Round [.func sf sa sb].toArray m fun w m' => ∃ b, w = .func (.func F_sums_Round_1) #[] #[ptr b] ∧ cap1 m' b (.func sf sa sb) ∧ m.size ≤ b ∧ Old m m' := by
  refine .enter fn_sums_Round (by simp) ?_
  simp (decide := true) (implicitDefEqProofs := false) (maxDischargeDepth := 20) only [go_sem, ↓reduceIte, true_implies, false_implies]
  refine ⟨m.size, rfl, ?_, by omega⟩
  unfold cap1
  rw [getM_push, if_pos rfl]

theorem irange_snoc : ∀ (n : Nat) (a : Int), irange a (n + 1) = irange a n ++ [a + n]
  | 0, a => by simp [irange]
  | n + 1, a => by
    show a :: irange (a + 1) (n + 1) = (a :: irange (a + 1) n) ++ [a + ((n + 1 : Nat) : Int)]
    rw [irange_snoc n (a + 1), List.cons_append]
    congr 2
    simp; omega
theorem wantR_snoc (left : Int → Int) (is : List Int) (i : Int) : wantR left (is ++ [i]) = wantR left is ++ if left i = 0 then [] else [[i, 500 * i, 9999, left i]] := by
  unfold wantR
  rw [List.filter_append, List.map_append]
  by_cases h : left i = 0
  · rw [if_pos h, List.filter_cons_of_neg (by rw [h]; simp)]; rfl
  · rw [if_neg h, List.filter_cons_of_pos (by simpa using h)]; rfl
theorem wantR_len (left : Int → Int) (is : List Int) : (wantR left is).length ≤ is.length := by unfold wantR; rw [List.length_map]; exact List.length_filter_le ..

set_option maxRecDepth 100000 in
set_option maxHeartbeats 8000000 in
theorem Rn_want {m0 : Mem} {t : Fr} {qb : Nat} {left : Int → Int} (hm : ∃ f, IMap m0 qb f ∧ ∀ e, (f e).getD (vI 0) = vI (left e)) (hb : ∀ e, -9223372036854775808 ≤ left e ∧ left e < 9223372036854775808)
    (t6 : t 6 = .map (some qb)) (t12 : t 12 = .slice none 0 0) (t14 : t 14 = .int .i64 1) {K : Post3}
    (hK : ∀ t' m' a ps, Agree (writes c_sheaflaw19_SumsRounding_19) t t' → t' 12 = .slice a ps.length ps.length → Vec m0.size m' 1 a ps.length ((ps.map rowH).map HRow.v) → Own2 m0.size m' ps → ps.map Prod.snd = wantR left (irange 1 4) → Old m0 m' → K .normal t' m') :
    wpM E F_sheaflaw19_SumsRounding 171 none c_sheaflaw19_SumsRounding_19 K t m0 := by
  refine wpM_cut (fun t' m' => ∃ a ps, t' 12 = .slice a ps.length ps.length ∧ Vec m0.size m' 1 a ps.length ((ps.map rowH).map HRow.v) ∧ Own2 m0.size m' ps ∧ ps.map Prod.snd = wantR left (irange 1 4) ∧ Old m0 m') ?_ fun t' m' ha ⟨a, ps, h0, h1, h2, h3, h4⟩ => hK t' m' a ps ha h0 h1 h2 h3 h4
  simp only [c_sheaflaw19_SumsRounding_19_at, wpM_block, c_sheaflaw19_SumsRounding_18_at]
  obtain ⟨f, IM, hf⟩ := hm
  refine wpM_loopA (fun j t' m' => ∃ (k : Nat) (a : Option Addr) (ps : List (Nat × List Int)), k ≤ 4 ∧ j = 4 - k ∧ t' 14 = .int .i64 (1 + (k : Int)) ∧ t' 12 = .slice a ps.length ps.length ∧ Vec m0.size m' 1 a ps.length ((ps.map rowH).map HRow.v) ∧ Own2 m0.size m' ps ∧ (∀ q ∈ ps, ∀ y, a = some y → q.1 ≠ y.block) ∧ ps.map Prod.snd = wantR left (irange 1 k) ∧ Old m0 m') 4
    ⟨0, none, [], by omega, rfl, t14, t12, .nil _ _ _, ⟨fun p h => by simp at h, fun p h => by simp at h, fun p h => by simp at h, by simp⟩, fun q h => by simp at h, rfl, .refl _⟩ ?_
  rintro j t' m' ha ⟨k, a, ps, hk, rfl, e14, e12, V, O, hdis, hxs, o⟩
  have e6 := (ha 6 (by decide +kernel)).trans t6
  have hsz := o.size
  by_cases hlt : k < 4
  · have d1 : decide (1 + (k : Int) ≤ 4) = true := by simp; omega
    have w1 : IntKind.wrap .i64 (1 + (k : Int) + 1) = 1 + ((k + 1 : Nat) : Int) := by rw [wrap_i64_id _ (by omega) (by omega)]; omega
    have IM' : IMap m' qb f := IM.keep (o.get IM.blk)
    have look := IM'.look imap68 (1 + (k : Int))
    rw [hf (1 + (k : Int))] at look
    have hbe := hb (1 + (k : Int))
    have hir : irange 1 (k + 1) = irange 1 k ++ [1 + (k : Int)] := irange_snoc k 1
    have hpl : ps.length ≤ k := by
      have h1 := wantR_len left (irange 1 k)
      have h2 := congrArg List.length hxs
      have h3 : ∀ (n : Nat) (a : Int), (irange a n).length = n := fun n => by
        induction n with
        | zero => intro a; rfl
        | succ n ih => intro a; simp only [irange, List.length_cons, ih]
      rw [h3] at h1
      rw [List.length_map] at h2
      omega
    by_cases h0 : left (1 + (k : Int)) = 0
    · have d2 : (left (1 + (k : Int)) != 0) = false := by rw [h0]; rfl
      simp (decide := true) (implicitDefEqProofs := false) (maxDischargeDepth := 20) only [go_sem, ↓reduceIte, e6, e12, e14, d1, d2, w1, look, true_implies, false_implies]
      exact ⟨4 - (k + 1), by omega, k + 1, a, ps, by omega, rfl, rfl, rfl, V, O, hdis, by rw [hir, wantR_snoc, if_pos h0, List.append_nil]; exact hxs, o⟩
    · have d2 : (left (1 + (k : Int)) != 0) = true := by simpa using h0
      have w2 : IntKind.wrap .i64 (500 * (1 + (k : Int))) = 500 * (1 + (k : Int)) := wrap_i64_id _ (by omega) (by omega)
      simp (decide := true) (implicitDefEqProofs := false) (maxDischargeDepth := 20) only [go_sem, ↓reduceIte, e6, e12, e14, d1, d2, w1, w2, look, true_implies, false_implies]
      obtain ⟨i, hi⟩ : ∃ i : Int, i = 1 + (k : Int) := ⟨_, rfl⟩
      rw [← hi] at look hbe h0 w1 e14 hir ⊢
      obtain ⟨rb, hrb⟩ : ∃ b, b = m'.size := ⟨_, rfl⟩
      obtain ⟨mp, hmp⟩ : ∃ mp, mp = m'.push (.cells false true [.int .i64 i, .int .i64 (500 * i), .int .i64 9999, vI (left i)]) := ⟨_, rfl⟩
      have sp : mp.size = m'.size + 1 := by rw [hmp, size_push]
      have op : Old m' mp := by rw [hmp]; exact (Old.refl m').push _
      have gr : mp.get rb = some (.cells false true (([i, 500 * i, 9999, left i] : List Int).map (.int .i64))) := by rw [hmp, hrb, getM_push, if_pos rfl]; rfl
      rw [← hrb, ← hmp]
      refine (V.old op).appendQ (by omega) (by omega) rfl (by decide) (by decide +kernel) (by decide +kernel) rfl (by omega) fun m5 b5 s5 v5 k5 hb5 => ?_
      simp (decide := true) (implicitDefEqProofs := false) (maxDischargeDepth := 20) only [go_sem, ↓reduceIte, e14, w1, true_implies, false_implies]
      have s5' := k5.1
      have hbx : ∀ x, a = some x → x.block < m'.size := fun x hx => V.lt hx
      have hpl' : (ps ++ [(rb, [i, 500 * i, 9999, left i])]).length = ps.length + 1 := by simp
      have Op := O.old op
      refine ⟨4 - (k + 1), by omega, k + 1, some ⟨b5, 0, s5⟩, ps ++ [(rb, [i, 500 * i, 9999, left i])], by omega, rfl, rfl, by rw [hpl'], ?_, ⟨fun q hq => ?_, fun q hq => ?_, fun q hq => ?_, ?_⟩, fun q hq y hy => ?_, ?_, V.keepOld ⟨Nat.le_trans op.size k5.1, fun i hi hne => ?_⟩ o⟩
      · rw [hpl', List.map_append, List.map_append]
        exact v5
      · rcases List.mem_append.1 hq with hq | hq
        · rw [k5.2 q.1 (Op.lt q hq) fun y hy e => hdis q hq y hy e]
          exact Op.get q hq
        · rw [List.mem_singleton.1 hq]
          show m5.get rb = _
          rw [k5.2 rb (getM_lt gr) fun y hy e => by have := hbx y hy; omega]
          exact gr
      · rcases List.mem_append.1 hq with hq | hq
        · exact O.bd q hq
        · rw [List.mem_singleton.1 hq]
          intro x hx
          simp only [List.mem_cons, List.not_mem_nil, or_false] at hx
          rcases hx with rfl | rfl | rfl | rfl
          · omega
          · omega
          · omega
          · exact hbe
      · rcases List.mem_append.1 hq with hq | hq
        · exact O.lo q hq
        · rw [List.mem_singleton.1 hq]
          show m0.size ≤ rb
          omega
      · rw [List.map_append, List.nodup_append]
        refine ⟨O.dis, by simp, fun x hx y hy => ?_⟩
        obtain ⟨q, hq, rfl⟩ := List.mem_map.1 hx
        simp at hy
        have := O.lt q hq
        omega
      · cases hy
        rcases List.mem_append.1 hq with hq | hq
        · have := O.lt q hq
          show q.1 ≠ b5
          omega
        · rw [List.mem_singleton.1 hq]
          show rb ≠ b5
          omega
      · rw [List.map_append, hxs, hir, wantR_snoc, if_neg h0]
        rfl
      · rw [k5.2 i (by have := op.size; omega) hne, op.get hi]
  · have hkk : k = 4 := by omega
    subst hkk
    simp (decide := true) (implicitDefEqProofs := false) (maxDischargeDepth := 20) only [go_sem, ↓reduceIte, e6, e12, e14, true_implies, false_implies]
    exact ⟨a, ps, rfl, V, O, hxs, o⟩

set_option maxRecDepth 100000 in
set_option maxHeartbeats 8000000 in
theorem Rn_got {m : Mem} {t : Fr} {ob : Nat} {s : Value} {rs : List (List Int)} (it : Iter E (butL m [ob]) none' s (rs.map (Sum.inl (β := Int))).length anyO (rndEl (rs.map .inl))) (hbd : ∀ r ∈ rs, ∀ x ∈ r, -9223372036854775808 ≤ x ∧ x < 9223372036854775808) (hrl : rs.length ≤ 1000) (go : cap1 m ob (.slice none 0 0))
    (t115 : t 115 = s) (t13 : t 13 = ptr ob) {K : Post3}
    (hK : ∀ (m' : Mem) (ag : Option Addr) (os : List HRow), cap1 m' ob (.slice ag os.length os.length) → SlA m' 1 ag os.length os.length (os.map HRow.v) → os.map HRow.xs = rs → (∀ r ∈ os, r.At m') → m.size ≤ m'.size → (∀ i, i < m.size → i ≠ ob → m'.get i = m.get i) → K .normal t m') :
    wpM E F_sheaflaw19_SumsRounding 171 none c_sheaflaw19_SumsRounding_31 K t m := by
  simp only [c_sheaflaw19_SumsRounding_31_at, wpM_block, c_sheaflaw19_SumsRounding_30_at]
  have lo := getM_lt go
  refine wpM_rangeP (A := fun i => i = ob) it (fun t => upd (upd t 16 (t 116)) 17 (t 117)) (by simp (decide := true) only [go_sem, t115, ↓reduceIte]) rfl asg_sheaflaw19_SumsRounding_0 body_sheaflaw19_SumsRounding_0 (by decide) (fun K l t m h => by simp (decide := true) only [go_sem, ↓reduceIte]; exact h)
    (fun k m A => ∃ ag os, ListJ 0 ob (rs.take k) m A ag os) noD (fun k => ListJ.loc _ _ _) noD_loc (butL_frozen _ _) (fun i hi => ⟨by rw [hi]; exact lo, butL_no (by simpa using hi), fun h => h.elim⟩) (fun i hi => hi.elim) trivial
    ⟨none, [], go, .nil _ _ _, rfl, (fun g h => by simp at h), (fun g h => by simp at h), (fun y h => by cases h), rfl⟩ ?_ ?_ ?_
  · rintro k vs m4 A B l hk' z4 oA oB dis - ⟨ag, os, J⟩ hel hin hms
    have hk'' : k < rs.length := by simpa using hk'
    rcases hel.symm with ⟨st, hg, _, _⟩ | ⟨r, b, hg, rfl, gb, hB⟩
    · simp at hg
    have hgr : rs[k] = r := by simpa [hk''] using hg
    refine ⟨rfl, ?_⟩
    have rO := get_at0 J.box
    have hol : os.length = k := by
      have := congrArg List.length J.xs
      simp at this
      omega
    simp (decide := true) (implicitDefEqProofs := false) (maxDischargeDepth := 20) only [go_sem, t13, rO, ↓reduceIte, true_implies, false_implies]
    refine J.vec.append1' (Nat.zero_le _) rfl (by decide) (by decide +kernel) (by decide +kernel) rfl (by omega) fun m5 b5 s5 v5 k5 hb5 => ?_
    have gO5 : m5.get ob = _ := (k5.2 ob (getM_lt J.box) fun y hy e => (J.own y hy).2 e.symm).trans J.box
    simp (decide := true) (implicitDefEqProofs := false) (maxDischargeDepth := 20) only [go_sem, t13, gO5, ↓reduceIte, true_implies, false_implies]
    have hrow : (⟨some ⟨b, 0, none⟩, r.length, r.length, r⟩ : HRow).At m4 := ⟨.new gb (by simp) rfl, rfl, hbd r (by rw [← hgr]; exact List.getElem_mem _)⟩
    obtain ⟨J', T⟩ := J.more (B := B) hrow (fun i hi => (oA i hi).1) (fun i hi => (oB i hi).1) dis (fun x hx => by cases hx; exact (hB _).2 rfl) v5 k5 hb5 rfl
    have et : rs.take (k + 1) = rs.take k ++ [r] := by rw [List.take_succ_eq_append_getElem hk'', hgr]
    rw [et]
    exact ⟨_, T.c, T.n, _, _, J'⟩
  · rintro m4 A' z4 o4 - ⟨ag, os, J⟩ c1' c2'
    rw [List.length_map, List.take_length] at J
    simp (decide := true) (implicitDefEqProofs := false) (maxDischargeDepth := 20) only [go_sem, ↓reduceIte, true_implies, false_implies]
    exact hK m4 ag os J.box J.vec.sl J.xs J.row c1'.size fun i hi hne => c1'.get i hi fun e => e.elim hne fun e => e
  · rintro k x m' A' _ _ _ _ _ h
    exact h.elim

/-- The last status. -/
def statR : REl → Int
  | .inl _ => 0
  | .inr s => s
def lastS (cs : List REl) : Int := match cs.getLast? with
  | some c => statR c
  | none => 0
theorem lastS_snoc (cs : List REl) (c : REl) : lastS (cs ++ [c]) = statR c := by unfold lastS; rw [List.getLast?_concat]

set_option maxRecDepth 100000 in
set_option maxHeartbeats 8000000 in
theorem Rn_last {m : Mem} {t : Fr} {ob : Nat} {s : Value} {cs : List REl} (it : Iter E (butL m [ob]) none' s cs.length anyO (rndEl cs)) (go : cap1 m ob (.int .i64 0))
    (t162 : t 162 = s) (t19 : t 19 = ptr ob) {K : Post3}
    (hK : ∀ m', cap1 m' ob (.int .i64 (lastS cs)) → m.size ≤ m'.size → (∀ i, i < m.size → i ≠ ob → m'.get i = m.get i) → K .normal t m') :
    wpM E F_sheaflaw19_SumsRounding 171 none c_sheaflaw19_SumsRounding_41 K t m := by
  simp only [c_sheaflaw19_SumsRounding_41_at, wpM_block, c_sheaflaw19_SumsRounding_40_at]
  have lo := getM_lt go
  refine wpM_rangeP (A := fun i => i = ob) it (fun t => upd t 22 (t 164)) (by simp (decide := true) only [go_sem, t162, ↓reduceIte]) rfl asg_sheaflaw19_SumsRounding_1 body_sheaflaw19_SumsRounding_1 (by decide) (fun K l t m h => by simp (decide := true) only [go_sem, ↓reduceIte]; exact h)
    (fun k m A => cap1 m ob (.int .i64 (lastS (cs.take k))) ∧ A ob) noD (fun k m1 m2 A ⟨h1, h2⟩ hk _ => ⟨(hk _ h2).trans h1, h2⟩) noD_loc (butL_frozen _ _) (fun i hi => ⟨by rw [hi]; exact lo, butL_no (by simpa using hi), fun h => h.elim⟩) (fun i hi => hi.elim) trivial
    ⟨go, rfl⟩ ?_ ?_ ?_
  · rintro k vs m4 A B l hk' z4 oA oB dis - ⟨J, hA⟩ hel hin hms
    have et : cs.take (k + 1) = cs.take k ++ [cs[k]] := List.take_succ_eq_append_getElem hk'
    have lJ := getM_lt J
    have hval : ∃ v, vs = [v, .int .i64 (statR cs[k])] := by
      rcases hel with ⟨r, b, hg, rfl, gb, hB⟩ | ⟨st, hg, rfl, _⟩
      · have : cs[k] = .inl r := by simpa [hk'] using hg
        exact ⟨_, by rw [this]; rfl⟩
      · have : cs[k] = .inr st := by simpa [hk'] using hg
        exact ⟨_, by rw [this]; rfl⟩
    obtain ⟨v, rfl⟩ := hval
    refine ⟨rfl, ?_⟩
    unfold cap1 at J
    simp (decide := true) (implicitDefEqProofs := false) (maxDischargeDepth := 20) only [go_sem, t19, J, lJ, ↓reduceIte, true_implies, false_implies]
    rw [et, lastS_snoc]
    refine ⟨fun i => A i ∨ B i, ⟨by rw [size_put]; exact Nat.le_refl _, fun i hi hna => by rw [getM_put, if_neg (show ¬ (i = ob ∧ _) from fun e => hna (.inl (e.1 ▸ hA)))]⟩, fun i hi => ⟨by rw [size_put]; exact hi.elim (fun h => (oA i h).1) fun h => (oB i h).1, .inl hi⟩, ?_, .inl hA⟩
    unfold cap1
    rw [getM_put, if_pos ⟨rfl, lJ⟩]
  · rintro m4 A' z4 o4 - ⟨J, hA⟩ c1' c2'
    rw [List.take_length] at J
    simp (decide := true) (implicitDefEqProofs := false) (maxDischargeDepth := 20) only [go_sem, ↓reduceIte, true_implies, false_implies]
    exact hK m4 J c1'.size fun i hi hne => c1'.get i hi fun e => e.elim hne fun e => e
  · rintro k x m' A' _ _ _ _ _ h
    exact h.elim


/-! ### RndH -/

theorem cell_at (x : List Int) (c : Nat) (h : c < x.length) : cell x (c : Int) = some (x.getD c 0) := by
  unfold cell
  rw [if_pos (by omega), Int.toNat_natCast, List.getElem?_eq_getElem h]
  simp [List.getD_eq_getElem?_getD, h]
theorem col_of_cmp (x y : List Int) (c : Nat) (cs : List Int) (hx : c < x.length) (hy : c < y.length) (h : cmpL x y ((c : Int) :: cs) ≤ 0) : x.getD c 0 ≤ y.getD c 0 := by
  unfold cmpL at h
  rw [List.cons_append, List.map_cons] at h
  have e : colL x y (c : Int) = cmpI (x.getD c 0) (y.getD c 0) := by unfold colL; rw [cell_at x c hx, cell_at y c hy]; rfl
  rw [e] at h
  unfold firstN at h
  unfold cmpI at h
  split at h <;> (try split at h) <;> (try split at h) <;> omega
theorem rowZ_ok {r : List Int} {z : List Int} {i : Int} (h : r = row1Z z i ∨ r = row2Z z i) : r.length = 10 ∧ (1 ≤ r.getD 1 0 ∧ r.getD 1 0 ≤ 4) ∧ r.getD 7 0 = 500 * r.getD 1 0 ∧ (-99 ≤ r.getD 4 0 ∧ r.getD 4 0 ≤ 99) ∧ -1099511627776 ≤ r.getD 9 0 ∧ r.getD 9 0 ≤ 1099511627776 := by
  have e := eZ_bd z
  have n := nZ_bd z
  have a := aZ_bd z
  have b := bZ_bd z
  rcases h with rfl | rfl
  · refine ⟨rfl, e, rfl, n, a⟩
  · refine ⟨rfl, e, rfl, ?_, b⟩
    show -99 ≤ -nZ z ∧ -nZ z ≤ 99
    omega
/-- A row of a list is written at its fifth number. -/
def incR (r : List Int) : List Int := r.set 4 (r.getD 4 0 + 1)
theorem incR_len (r : List Int) : (incR r).length = r.length := by unfold incR; rw [List.length_set]
theorem incR_other (r : List Int) {c : Nat} (h : c ≠ 4) : (incR r).getD c 0 = r.getD c 0 := by
  unfold incR
  rw [List.getD_eq_getElem?_getD, List.getElem?_set, if_neg (by omega), List.getD_eq_getElem?_getD]
theorem incR_4 (r : List Int) (h : 4 < r.length) : (incR r).getD 4 0 = r.getD 4 0 + 1 := by
  unfold incR
  rw [List.getD_eq_getElem?_getD, List.getElem?_set, if_pos rfl, if_pos h]
  rfl
theorem inc_bal {A B : List (List Int)} {r : List Int} (h : 4 < r.length) : colS 4 (ofE (A ++ incR r :: B) (r.getD 1 0)) = colS 4 (ofE (A ++ r :: B) (r.getD 1 0)) + 1 := by
  have e1 : ∀ x : List Int, x.getD 1 0 = r.getD 1 0 → ofE (A ++ x :: B) (r.getD 1 0) = ofE A (r.getD 1 0) ++ x :: ofE B (r.getD 1 0) := fun x hx => by
    rw [ofE_append]
    congr 1
    unfold ofE
    rw [List.filter_cons_of_pos (by simpa using hx)]
  rw [e1 _ (incR_other r (by decide)), e1 r rfl, colS_append, colS_append]
  simp only [colS]
  rw [incR_4 r h]
  omega
theorem Ln4.inc {A B : List (List Int)} {r : List Int} (h : Ln4 (A ++ r :: B)) (hl : 4 < r.length) (h4 : ∀ x ∈ A ++ r :: B, -99 ≤ x.getD 4 0 ∧ x.getD 4 0 ≤ 99) : Ln4 (A ++ incR r :: B) := by
  have mem : ∀ x ∈ A ++ incR r :: B, x ∈ A ++ r :: B ∨ x = incR r := fun x hx => by
    rcases List.mem_append.1 hx with hx | hx
    · exact .inl (List.mem_append.2 (.inl hx))
    · rcases List.mem_cons.1 hx with hx | hx
      · exact .inr hx
      · exact .inl (List.mem_append.2 (.inr (List.mem_cons_of_mem _ hx)))
  have hr : r ∈ A ++ r :: B := by simp
  refine ⟨?_, fun x hx => ?_, fun x hx => ?_, fun x hx => ?_, fun x hx => ?_, ?_⟩
  · have hs := h.sort
    rw [List.pairwise_append] at hs ⊢
    obtain ⟨p1, p2, p3⟩ := hs
    rw [List.pairwise_cons] at p2 ⊢
    refine ⟨p1, ⟨fun y hy => ?_, p2.2⟩, fun a ha b hb => ?_⟩
    · rw [incR_other r (by decide)]; exact p2.1 y hy
    · rcases List.mem_cons.1 hb with rfl | hb
      · rw [incR_other r (by decide)]; exact p3 a ha r List.mem_cons_self
      · exact p3 a ha b (List.mem_cons_of_mem _ hb)
  · rcases mem x hx with hx | rfl
    · exact h.id x hx
    · rw [incR_other r (by decide)]; exact h.id r hr
  · rcases mem x hx with hx | rfl
    · exact h.parts x hx
    · rw [incR_other r (by decide), incR_other r (by decide)]; exact h.parts r hr
  · rcases mem x hx with hx | rfl
    · have := h4 x hx; omega
    · rw [incR_4 r hl]; have := h4 r hr; omega
  · rcases mem x hx with hx | rfl
    · exact h.mo x hx
    · rw [incR_other r (by decide)]; exact h.mo r hr
  · have := h.len
    simp only [List.length_append, List.length_cons] at this ⊢
    exact this
theorem incV {A B : List (Nat × List Int)} {q : Nat × List Int} : ((A ++ (q.1, incR q.2) :: B).map rowH).map HRow.v = ((A ++ q :: B).map rowH).map HRow.v := by
  simp only [List.map_append, List.map_cons]
  congr 2
  unfold rowH HRow.v
  simp only [incR_len]

set_option maxRecDepth 100000 in
set_option maxHeartbeats 16000000 in
theorem SumsRounding_law (m : Mem) (hro : ∀ i c, m.get i = some c → c.writable = false)
    (a0 : Option Addr) (l0 c0 : Nat) (zs : List (List Int)) (hs0 : SlA m 7 a0 l0 c0 ((zs.map fun z => z.map (.int .i64)).flatten)) (hl0 : zs.length = l0) (hz0 : ∀ z ∈ zs, z.length = 7 ∧ ∀ x ∈ z, -9223372036854775808 ≤ x ∧ x < 9223372036854775808)
    (odd : Int) (hod : -9223372036854775808 ≤ odd) (hod' : odd < 9223372036854775808) :
    CallQ E F_sheaflaw19_SumsRounding [.slice a0 l0 c0, .int .i64 odd].toArray m fun v _ => v = .bool true := by
  refine .enter fn_sheaflaw19_SumsRounding (by simp) ?_
  have hflat : zs ≠ [] → ((zs.map fun z => z.map (Value.int .i64)).flatten) ≠ [] := fun hne e => by
    cases zs with
    | nil => exact hne rfl
    | cons z l =>
      have := (hz0 z List.mem_cons_self).1
      simp at e
      rw [e.1] at this
      cases this
  have mk : ∀ mm : Mem, makeMapV E mm 68 none = some (.map (some mm.size), mm.push (.map [] 0)) := fun mm => makeMapV_int imap68
  simp (decide := true) (implicitDefEqProofs := false) (maxDischargeDepth := 20) only [go_sem, mk, Option.map_none, ↓reduceIte, true_implies, false_implies]
  obtain ⟨m1, hm1⟩ : ∃ m1, m1 = (m.push (.cells false true [.bool false])).push (.map [] 0) := ⟨_, rfl⟩
  obtain ⟨rb, hrb⟩ : ∃ b, b = m.size := ⟨_, rfl⟩
  obtain ⟨qb, hqb⟩ : ∃ b, b = m.size + 1 := ⟨_, rfl⟩
  have gR1 : cap1 m1 rb (.bool false) := by unfold cap1; rw [hm1, getM_push, if_neg (by rw [size_push]; omega), getM_push, if_pos hrb]
  have gQ1 : m1.get qb = some (.map [] 0) := by rw [hm1, getM_push, if_pos (by rw [size_push]; omega)]
  have o1 : Old m m1 := by rw [hm1]; exact .push (.push (.refl m) _) _
  have s1 : m1.size = m.size + 2 := by rw [hm1, size_push, size_push]
  rw [← hm1, ← hqb, ← hrb]
  refine Rn_lines (qb := qb) (hs0.old o1) hl0 hz0 (.new gQ1) (fun b hb hne => by have := (hs0.rows b hb (hflat hne)).lt; omega)
    (by simp (decide := true) only [go_sem, ↓reduceIte]) (by simp (decide := true) only [go_sem, ↓reduceIte]) (by simp (decide := true) only [go_sem, ↓reduceIte]) (by simp (decide := true) only [go_sem, ↓reduceIte]) fun t2 m2 a ps hag e5 H => ?_
  have e1 := hag 1 (by decide +kernel)
  have e4 := hag 4 (by decide +kernel)
  have e6 := hag 6 (by decide +kernel)
  simp (decide := true) only [go_sem, ↓reduceIte] at e1 e4 e6
  clear hag
  have sH := H.size
  obtain ⟨N, hN⟩ : ∃ N, N = min l0 12 := ⟨_, rfl⟩
  rw [← hN] at H
  have hpl : ps.length = 2 * N := by have := congrArg List.length H.xs; rw [rowsZ_len] at this; simpa using this
  have hpr : ∀ q ∈ ps, ∃ z i, q.2 = row1Z z i ∨ q.2 = row2Z z i := fun q hq => by
    have : q.2 ∈ rowsZ zs N := by rw [← H.xs]; exact List.mem_map.2 ⟨q, hq, rfl⟩
    obtain ⟨z, i, _, _, h⟩ := rowsZ_mem zs N _ this
    exact ⟨z, i, h⟩
  simp (decide := true) (implicitDefEqProofs := false) (maxDischargeDepth := 20) only [go_sem, e1, e4, e5, e6, ↓reduceIte, true_implies, false_implies]
  have hC : SlA (m2.push (.cells false true [.int .i64 1])) 1 (some ⟨m2.size, 0, none⟩) 1 1 (([((1 : Nat) : Int)] : List Int).map (.int .i64)) := .new (by rw [getM_push, if_pos rfl]; rfl) rfl rfl
  have o2p : Old m2 (m2.push (.cells false true [.int .i64 1])) := .push (.refl m2) _
  refine (Sorted_at (H.vec.sl.old o2p) (fun r hr => by
      obtain ⟨q, hq, rfl⟩ := List.mem_map.1 hr
      exact (H.own.at_ q hq).old o2p) (fun r hr => by
      obtain ⟨q, hq, rfl⟩ := List.mem_map.1 hr
      obtain ⟨z, i, h⟩ := hpr q hq
      have := (rowZ_ok h).1
      show q.2.length ≤ _
      omega) hC (by omega) (by omega)).mono ?_
  rintro w m3 ⟨bS, sS, rfl, VS, o3⟩
  have o23 := o2p.trans o3
  obtain ⟨qs, hqp, hqs⟩ := perm_of_map (sortL_perm [((1 : Nat) : Int)] (ps.map rowH)).symm ps rfl
  have hsrt := sortL_sorted [((1 : Nat) : Int)] (ps.map rowH)
  rw [hqs] at VS hsrt
  have O3 : Own2 m1.size m3 qs := (H.own.old o23).perm hqp
  have hqr : ∀ q ∈ qs, ∃ z i, q.2 = row1Z z i ∨ q.2 = row2Z z i := fun q hq => hpr q (hqp.mem_iff.1 hq)
  have hql : qs.length = 2 * N := hqp.length_eq.trans hpl
  have hLp : (qs.map Prod.snd).Perm (rowsZ zs N) := by rw [← H.xs]; exact hqp.map _
  have h10 : ∀ r ∈ qs.map Prod.snd, r.length = 10 ∧ (1 ≤ r.getD 1 0 ∧ r.getD 1 0 ≤ 4) ∧ r.getD 7 0 = 500 * r.getD 1 0 ∧ (-99 ≤ r.getD 4 0 ∧ r.getD 4 0 ≤ 99) ∧ -1099511627776 ≤ r.getD 9 0 ∧ r.getD 9 0 ≤ 1099511627776 := fun r hr => by
    obtain ⟨q, hq, rfl⟩ := List.mem_map.1 hr
    obtain ⟨z, i, h⟩ := hqr q hq
    exact rowZ_ok h
  have L4 : Ln4 (qs.map Prod.snd) := by
    refine ⟨?_, fun r hr => (h10 r hr).2.1, fun r hr => (h10 r hr).2.2.1, fun r hr => by have := (h10 r hr).2.2.2.1; omega, fun r hr => (h10 r hr).2.2.2.2, by rw [List.length_map]; omega⟩
    rw [List.pairwise_map]
    rw [List.pairwise_map] at hsrt
    refine hsrt.imp_of_mem fun {p q} hp hq h => ?_
    exact col_of_cmp _ _ 1 [] (by rw [(h10 p.2 (List.mem_map.2 ⟨p, hp, rfl⟩)).1]; omega) (by rw [(h10 q.2 (List.mem_map.2 ⟨q, hq, rfl⟩)).1]; omega) h
  have hbal : ∀ i, colS 4 (ofE (qs.map Prod.snd) i) = 0 ∧ leftZ zs N i = -colS 9 (ofE (qs.map Prod.snd) i) := fun i => by
    have h1 := rowsZ_bal zs i N
    rw [colS_perm 4 (ofE_perm hLp i), colS_perm 9 (ofE_perm hLp i)]
    omega
  -- what is wanted
  simp (decide := true) (implicitDefEqProofs := false) (maxDischargeDepth := 20) only [go_sem, e1, e4, e6, ↓reduceIte, true_implies, false_implies]
  obtain ⟨ob, hob⟩ : ∃ b, b = m3.size := ⟨_, rfl⟩
  obtain ⟨m4, hm4⟩ : ∃ m4, m4 = m3.push (.cells false true [.slice none 0 0]) := ⟨_, rfl⟩
  have o34 : Old m3 m4 := by rw [hm4]; exact .push (.refl m3) _
  have gO4 : cap1 m4 ob (.slice none 0 0) := by unfold cap1; rw [hm4, getM_push, if_pos hob]
  have s4 : m4.size = m3.size + 1 := by rw [hm4, size_push]
  rw [← hm4, ← hob]
  have s23 := o23.size
  have o24 := o23.trans o34
  have hmap : ∃ f, IMap m4 qb f ∧ ∀ e, (f e).getD (vI 0) = vI (leftZ zs N e) := by
    obtain ⟨f, h1, h2⟩ := H.map_
    exact ⟨f, h1.keep (o24.get h1.blk), h2⟩
  refine Rn_want hmap (fun e => by have := leftZ_bd zs e N; omega) (by simp (decide := true) only [go_sem, e6, ↓reduceIte]) (by simp (decide := true) only [go_sem, ↓reduceIte]) (by simp (decide := true) only [go_sem, ↓reduceIte]) fun t3 m5 aw ws hag f12 VW OW hws o45 => ?_
  have f1 := hag 1 (by decide +kernel)
  have f4 := hag 4 (by decide +kernel)
  have f5 := hag 5 (by decide +kernel)
  have f13 := hag 13 (by decide +kernel)
  simp (decide := true) only [go_sem, e1, e4, ↓reduceIte] at f1 f4 f5 f13
  clear hag
  simp (decide := true) (implicitDefEqProofs := false) (maxDischargeDepth := 20) only [go_sem, f1, f4, f5, f12, f13, ↓reduceIte, true_implies, false_implies]
  refine (From_at).mono ?_
  rintro w m6 ⟨bv, rfl, cv, hbv, o56⟩
  simp (decide := true) (implicitDefEqProofs := false) (maxDischargeDepth := 20) only [go_sem, f1, f4, f5, f12, f13, ↓reduceIte, true_implies, false_implies]
  refine (SRound_at).mono ?_
  rintro w m7 ⟨br, rfl, cr, hbr, o67⟩
  have s45 := o45.size
  have s56 := o56.size
  have s67 := o67.size
  have o57 := o56.trans o67
  have o47 := o45.trans o57
  have o37 := o34.trans o47
  have gO7 : cap1 m7 ob (.slice none 0 0) := gO4.old o47
  have lO7 := getM_lt gO7
  have hbS := VS.lt rfl
  have hbS2 := (VS.blk _ rfl).1
  simp only at hbS hbS2
  have S7 : SlA m7 1 (some ⟨bS, 0, sS⟩) ps.length ps.length ((qs.map rowH).map HRow.v) := VS.sl.old o37
  have O7 := O3.old o37
  have hqlt : ∀ q ∈ qs, q.1 < m3.size := fun q hq => O3.lt q hq
  have hR : ∀ m', Frozen (butL m7 [ob]) m' → ∀ k, ((qs.map rowH).getD k noRow).At m' := rows_getD (l := [ob]) (fun r hr => by
      obtain ⟨q, hq, rfl⟩ := List.mem_map.1 hr
      exact O7.at_ q hq) (fun r hr b hb hx => by
      obtain ⟨q, hq, rfl⟩ := List.mem_map.1 hr
      cases hb
      have := hqlt q hq
      simp
      show q.1 ≠ ob
      omega)
  have hxs : (qs.map rowH).map HRow.xs = qs.map Prod.snd := by rw [List.map_map]; rfl
  have it := RoundI (F := none') (ValuesR (n := ps.length) (butL_at (cv.old o67) (by simp; omega)) (fun m' z => sla_but S7 z fun b hb hx => by cases hb; simp; show bS ≠ ob; omega) (by omega)) hR (by rw [List.length_map]; omega) (butL_at cr (by simp; omega)) (by rw [hxs]; exact L4.mid)
  rw [hxs, L4.want (leftZ zs N) (fun i => (hbal i).2) (fun i => (hbal i).1)] at it
  have hwl : (wantR (leftZ zs N) (irange 1 4)).length ≤ 4 := Nat.le_trans (wantR_len (leftZ zs N) (irange 1 4)) (by decide)
  have hwb : ∀ r ∈ wantR (leftZ zs N) (irange 1 4), ∀ x ∈ r, -9223372036854775808 ≤ x ∧ x < 9223372036854775808 := fun r hr => by
    rw [← hws] at hr
    obtain ⟨q, hq, rfl⟩ := List.mem_map.1 hr
    exact OW.bd q hq
  simp (decide := true) (implicitDefEqProofs := false) (maxDischargeDepth := 20) only [go_sem, f1, f4, f5, f12, f13, ↓reduceIte, true_implies, false_implies]
  refine Rn_got it hwb (by omega) gO7 (by simp (decide := true) only [go_sem, ↓reduceIte]) (by simp (decide := true) only [go_sem, f13, ↓reduceIte]) fun m8 ag os gO8 SG hox hoA s78 k78 => ?_
  have rO8 := get_at0 gO8
  have hwlen : ws.length ≤ 4 := by
    have := congrArg List.length hws
    rw [List.length_map] at this
    omega
  have hol : os.length = ws.length := by
    have h1 := congrArg List.length hox
    have h2 := congrArg List.length hws
    rw [List.length_map] at h1 h2
    omega
  have W8 : SlA m8 1 aw ws.length ws.length ((ws.map rowH).map HRow.v) := VW.sl.keep fun b hb hx => by
    have h1 := VW.lt hb
    have h2 := (VW.blk b hb).1
    rw [k78 _ (by omega) (by omega), o57.get h1]
  have WA : ∀ r ∈ ws.map rowH, r.At m8 ∧ r.n ≤ 1000000 := fun r hr => by
    obtain ⟨q, hq, rfl⟩ := List.mem_map.1 hr
    have h1 := OW.lt q hq
    have h2 := OW.lo q hq
    have h3 : q.2 ∈ wantR (leftZ zs N) (irange 1 4) := by rw [← hws]; exact List.mem_map.2 ⟨q, hq, rfl⟩
    refine ⟨(OW.at_ q hq).keep fun b hb hx => by
      cases hb
      show m8.get q.1 = m5.get q.1
      rw [k78 _ (by omega) (by omega), o57.get h1], ?_⟩
    obtain ⟨i, _, hi⟩ := List.mem_map.1 h3
    show q.2.length ≤ _
    rw [← hi]
    simp
  have GA : ∀ r ∈ os, r.At m8 ∧ r.n ≤ 1000000 := fun r hr => by
    refine ⟨hoA r hr, ?_⟩
    have h3 : r.xs ∈ wantR (leftZ zs N) (irange 1 4) := by rw [← hox]; exact List.mem_map.2 ⟨r, hr, rfl⟩
    obtain ⟨i, _, hi⟩ := List.mem_map.1 h3
    rw [← (hoA r hr).len, ← hi]
    simp
  have keep8 : ∀ i, i < m4.size → i ≠ ob → m8.get i = m4.get i := fun i h1 h2 => by rw [k78 i (by have := o47.size; omega) h2, o47.get h1]
  have gR8 : m8.get rb = some (.cells false true [.bool false]) := by
    have l1 := getM_lt gR1
    rw [keep8 rb (by omega) (by omega), o24.get (by omega), H.keep rb l1 (by omega)]
    exact gR1
  have lR8 := getM_lt gR8
  simp (decide := true) (implicitDefEqProofs := false) (maxDischargeDepth := 20) only [go_sem, f1, f4, f5, f12, f13, rO8, ↓reduceIte, true_implies, false_implies]
  refine (Rows_at SG W8 GA WA (by omega) (by omega)).mono ?_
  rintro w m9 ⟨rfl, o89⟩
  have hsame : decide (os.map HRow.xs = (ws.map rowH).map HRow.xs) = true := by
    have : (ws.map rowH).map HRow.xs = ws.map Prod.snd := by rw [List.map_map]; rfl
    rw [this, hox, hws]
    simp
  rw [hsame]
  have rO9 := get_at0 ((o89.get (getM_lt gO8)).trans gO8)
  have gR9 := (o89.get lR8).trans gR8
  have lR9 := getM_lt gR9
  by_cases hN0 : N = 0
  · have d0 : (((ps.length : Nat) : Int) == 0) = true := beq_iff_eq.2 (by omega)
    have hw0 : ws.length = 0 := by
      have h1 := congrArg List.length hws
      rw [List.length_map] at h1
      rw [h1, hN0]
      rfl
    have d1 : (((os.length : Nat) : Int) == 0) = true := beq_iff_eq.2 (by omega)
    simp (decide := true) (implicitDefEqProofs := false) (maxDischargeDepth := 20) only [go_sem, f1, f4, f5, f12, f13, rO9, d0, d1, gR9, lR9, ↓reduceIte, true_implies, false_implies]
  · have d0 : (((ps.length : Nat) : Int) == 0) = false := beq_eq_false_iff_ne.2 (by omega)
    have w1 : IntKind.wrap .i64 (((ps.length : Nat) : Int) - 1) = ((ps.length : Nat) : Int) - 1 := wrap_i64_id _ (by omega) (by omega)
    simp (decide := true) (implicitDefEqProofs := false) (maxDischargeDepth := 20) only [go_sem, f1, f4, f5, f12, f13, d0, w1, ↓reduceIte, true_implies, false_implies]
    refine ((Within_ans odd 0 (((ps.length : Nat) : Int) - 1) hod hod' (by omega) (by omega) (by omega) (by omega)) m9).mono ?_
    rintro w m10 ⟨rfl, o9a⟩
    obtain ⟨K, hK⟩ : ∃ K : Nat, (K : Int) = 0 + odd % (((ps.length : Nat) : Int) - 1 - 0 + 1) := by
      have h1 := Int.emod_nonneg odd (show ((ps.length : Nat) : Int) - 1 - 0 + 1 ≠ 0 by omega)
      exact ⟨(0 + odd % (((ps.length : Nat) : Int) - 1 - 0 + 1)).toNat, by omega⟩
    have hKl : K < ps.length := by
      have h2 := Int.emod_lt_of_pos odd (show 0 < ((ps.length : Nat) : Int) - 1 - 0 + 1 by omega)
      omega
    rw [← hK]
    clear hK
    have o8a := o89.trans o9a
    have z0 : (0 : Int) ≤ (K : Int) := by omega
    have z1 : (K : Int) < ((ps.length : Nat) : Int) := by omega
    -- the row that is written
    obtain ⟨A, q, B, hsp, hAl⟩ : ∃ A q B, qs = A ++ q :: B ∧ A.length = K := ⟨qs.take K, qs[K]'(by omega), qs.drop (K + 1), by rw [← List.drop_eq_getElem_cons, List.take_append_drop], by rw [List.length_take]; omega⟩
    subst hsp
    have keepq : ∀ p ∈ A ++ q :: B, m10.get p.1 = m3.get p.1 := fun p hp => by
      have h1 := hqlt p hp
      have h2 := O3.lo p hp
      rw [o8a.get (by have := o37.size; omega), keep8 p.1 (by omega) (by omega), o34.get h1]
    have Sa : SlA m10 1 (some ⟨bS, 0, sS⟩) ps.length ps.length (((A ++ q :: B).map rowH).map HRow.v) := VS.sl.keep fun b hb hx => by
      cases hb
      show m10.get bS = m3.get bS
      rw [o8a.get (by have := o37.size; omega), keep8 bS (by omega) (by omega), o34.get hbS]
    have Oa : Own2 m1.size m10 (A ++ q :: B) := O3.keep keepq
    have hqm : q ∈ A ++ q :: B := by simp
    have hq10 := h10 q.2 (List.mem_map.2 ⟨q, hqm, rfl⟩)
    have ga := Oa.get q hqm
    have la := getM_lt ga
    have rK : m10.at bS K = some (.slice (some ⟨q.1, 0, none⟩) 10 10) := by
      have : m10.at bS (0 + K) = some (((((A ++ q :: B).map rowH).map HRow.v))[K]'(by simp; omega)) := Sa.at (by omega)
      rw [Nat.zero_add] at this
      rw [this]
      have e : (A ++ q :: B)[K]'(by simp; omega) = q := by
        rw [List.getElem_append_right (by omega)]
        simp [hAl]
      simp only [List.getElem_map, e]
      unfold rowH HRow.v
      rw [hq10.1]
    have r4 : m10.at q.1 (Int.toNat 4) = some (.int .i64 (q.2.getD 4 0)) := by
      unfold Mem.at
      rw [ga]
      show (q.2.map (Value.int .i64))[4]? = _
      simp [List.getD_eq_getElem?_getD, List.getElem?_eq_getElem (show 4 < q.2.length by omega)]
    have w4 : IntKind.wrap .i64 (q.2.getD 4 0 + 1) = q.2.getD 4 0 + 1 := by have := hq10.2.2.2.1; exact wrap_i64_id _ (by omega) (by omega)
    have lx : decide (Int.toNat 4 + 1 ≤ (q.2.map (Value.int .i64)).length) = true := by simp; omega
    have lx2 : decide (4 + 1 ≤ q.2.length) = true := by simp; omega
    have lx3 : decide (Int.toNat 4 + 1 ≤ q.2.length) = true := by simp; omega
    obtain ⟨m11, hm11⟩ : ∃ m11, m11 = m10.put q.1 (some (.cells false true ((q.2.map (Value.int .i64)).set (Int.toNat 4) (.int .i64 (q.2.getD 4 0 + 1))))) := ⟨_, rfl⟩
    simp (decide := true) (implicitDefEqProofs := false) (maxDischargeDepth := 20) only [go_sem, f1, f4, f5, f12, f13, z0, z1, rK, r4, w4, ga, la, lx, lx2, lx3, ← hm11, List.length_map, Int.toNat_natCast, ↓reduceIte, true_implies, false_implies]
    obtain ⟨lb, hlb⟩ : ∃ b, b = m11.size := ⟨_, rfl⟩
    obtain ⟨m12, hm12⟩ : ∃ m12, m12 = (m11.push (.cells false true [.int .i64 0])).put lb (some (.cells false true [.int .i64 0])) := ⟨_, rfl⟩
    have s11 : m11.size = m10.size := by rw [hm11, size_put]
    have gl12 : cap1 m12 lb (.int .i64 0) := by unfold cap1; rw [hm12, getM_put, if_pos ⟨rfl, by rw [size_push]; omega⟩]
    have g12 : ∀ i, i < m10.size → i ≠ q.1 → m12.get i = m10.get i := fun i h1 h2 => by
      rw [hm12, getM_put, if_neg (fun e => by omega), getM_push, if_neg (by omega), hm11, getM_put, if_neg (fun e => h2 e.1)]
    have s12 : m12.size = m11.size + 1 := by rw [hm12, size_put, size_push]
    have eset : (q.2.map (Value.int .i64)).set 4 (.int .i64 (q.2.getD 4 0 + 1)) = ((incR q.2).map (.int .i64)) := by unfold incR; simp
    have gq12 : m12.get q.1 = some (.cells false true ((incR q.2).map (.int .i64))) := by
      rw [hm12, getM_put, if_neg (fun e => by omega), getM_push, if_neg (by omega), hm11, getM_put, if_pos ⟨rfl, la⟩]
      exact congrArg (fun l => some (Blk.cells false true l)) eset
    rw [← hlb, ← hm12]
    clear hm12 hm11
    -- the rows as they are now
    have hdq : ∀ p, p ∈ A ∨ p ∈ B → p.1 ≠ q.1 := fun p hp e => by
      have hd := O3.dis
      rw [List.map_append, List.map_cons, List.nodup_append, List.nodup_cons] at hd
      rcases hp with hp | hp
      · exact hd.2.2 p.1 (List.mem_map.2 ⟨p, hp, rfl⟩) q.1 List.mem_cons_self e
      · exact hd.2.1.1 (List.mem_map.2 ⟨p, hp, e⟩)
    have A12 : ∀ r ∈ (A ++ (q.1, incR q.2) :: B).map rowH, r.At m12 := fun r hr => by
      obtain ⟨p, hp, rfl⟩ := List.mem_map.1 hr
      rcases List.mem_append.1 hp with hp | hp
      · have hp' : p ∈ A ++ q :: B := List.mem_append.2 (.inl hp)
        exact (Oa.at_ p hp').keep fun b hb hx => by
          cases hb
          exact g12 p.1 (Oa.lt p hp') (hdq p (.inl hp))
      · rcases List.mem_cons.1 hp with rfl | hp
        · refine ⟨.new gq12 (by simp [rowH]) rfl, rfl, fun x hx => ?_⟩
          have hx : x ∈ incR q.2 := hx
          unfold incR at hx
          rcases List.mem_or_eq_of_mem_set hx with hx | rfl
          · exact Oa.bd q hqm x hx
          · have := hq10.2.2.2.1; omega
        · have hp' : p ∈ A ++ q :: B := List.mem_append.2 (.inr (List.mem_cons_of_mem _ hp))
          exact (Oa.at_ p hp').keep fun b hb hx => by
            cases hb
            exact g12 p.1 (Oa.lt p hp') (hdq p (.inr hp))
    have hS3 : ∀ p ∈ A ++ q :: B, p.1 < m3.size := hqlt
    have hbq : bS ≠ q.1 := by have h1 := H.own.lt q (hqp.mem_iff.1 hqm); rw [size_push] at hbS2; omega
    have S12 : SlA m12 1 (some ⟨bS, 0, sS⟩) ps.length ps.length (((A ++ (q.1, incR q.2) :: B).map rowH).map HRow.v) := by
      rw [incV]
      exact Sa.keep fun b hb hx => by cases hb; exact g12 bS (by have := o8a.size; have := o37.size; omega) hbq
    refine (From_at).mono ?_
    rintro w m13 ⟨bv2, rfl, cv2, hbv2, o12a⟩
    simp (decide := true) (implicitDefEqProofs := false) (maxDischargeDepth := 20) only [go_sem, f1, f4, f5, f12, f13, ↓reduceIte, true_implies, false_implies]
    refine (SRound_at).mono ?_
    rintro w m14 ⟨br2, rfl, cr2, hbr2, o13a⟩
    have o1214 := o12a.trans o13a
    have sz1 := o12a.size
    have sz2 := o13a.size
    have o8s := o8a.size
    have o37s := o37.size
    have gl14 := gl12.old o1214
    obtain ⟨rs2, hrs2⟩ : ∃ x, x = (A ++ (q.1, incR q.2) :: B).map rowH := ⟨_, rfl⟩
    rw [← hrs2] at A12 S12
    have hxs2 : rs2.map HRow.xs = (A.map Prod.snd) ++ incR q.2 :: B.map Prod.snd := by rw [hrs2, List.map_map, show (HRow.xs ∘ rowH) = Prod.snd from rfl]; simp
    have hrl2 : rs2.length = ps.length := by rw [hrs2]; simp at hql ⊢; omega
    have hb12 : ∀ r ∈ rs2, ∀ b, r.ad = some b → b.block < m12.size := fun r hr b hb => by
      have hA := A12 r hr
      rw [hrs2] at hr
      obtain ⟨p, hp, rfl⟩ := List.mem_map.1 hr
      cases hb
      rcases List.mem_append.1 hp with hp | hp
      · have := hqlt p (List.mem_append.2 (.inl hp)); show p.1 < _; omega
      · rcases List.mem_cons.1 hp with rfl | hp
        · have := hqlt q hqm; show q.1 < _; omega
        · have := hqlt p (List.mem_append.2 (.inr (List.mem_cons_of_mem _ hp))); show p.1 < _; omega
    have hnl : ∀ r ∈ rs2, ∀ b, r.ad = some b → b.block ≠ lb := fun r hr b hb => by
      rw [hrs2] at hr
      obtain ⟨p, hp, rfl⟩ := List.mem_map.1 hr
      cases hb
      rcases List.mem_append.1 hp with hp | hp
      · have := hqlt p (List.mem_append.2 (.inl hp)); show p.1 ≠ _; omega
      · rcases List.mem_cons.1 hp with rfl | hp
        · have := hqlt q hqm; show q.1 ≠ _; omega
        · have := hqlt p (List.mem_append.2 (.inr (List.mem_cons_of_mem _ hp))); show p.1 ≠ _; omega
    have hR2 : ∀ m', Frozen (butL m14 [lb]) m' → ∀ k, (rs2.getD k noRow).At m' := rows_getD (l := [lb]) (fun r hr => (A12 r hr).old o1214) (fun r hr b hb hx => by have := hnl r hr b hb; simp; exact this)
    have hL2 : (A.map Prod.snd) ++ q.2 :: B.map Prod.snd = (A ++ q :: B).map Prod.snd := by simp
    have L4' := L4
    have hbal' := hbal
    rw [← hL2] at L4'
    have LI := L4'.inc (by omega) (fun x hx => by rw [hL2] at hx; exact (h10 x hx).2.2.2.1)
    have hbad : colS 4 (ofE ((A.map Prod.snd) ++ incR q.2 :: B.map Prod.snd) (q.2.getD 1 0)) = 1 := by
      rw [inc_bal (by omega), hL2, (hbal _).1]
      rfl
    obtain ⟨xs2, hcs2⟩ := LI.bad hq10.2.1 (by rw [hbad]; decide)
    have it2 := RoundI (F := none') (ValuesR (n := ps.length) (butL_at (cv2.old o13a) (by simp; omega)) (fun m' z => sla_but (S12.old o1214) z fun b hb hx => by cases hb; simp; show bS ≠ lb; omega) (by omega)) hR2 hrl2 (butL_at cr2 (by simp; omega)) (by rw [hxs2]; exact LI.mid)
    rw [hxs2, hcs2] at it2
    simp (decide := true) (implicitDefEqProofs := false) (maxDischargeDepth := 20) only [go_sem, f1, f4, f5, f12, f13, ↓reduceIte, true_implies, false_implies]
    refine Rn_last it2 gl14 (by simp (decide := true) only [go_sem, ↓reduceIte]) (by simp (decide := true) only [go_sem, ↓reduceIte]) fun m15 gl15 s15 k15 => ?_
    rw [lastS_snoc] at gl15
    have gl15 : cap1 m15 lb (.int .i64 4) := gl15
    have rl15 := get_at0 gl15
    have gR15 : m15.get rb = some (.cells false true [.bool false]) := by
      have h1 := hqlt q hqm
      have h2 := O3.lo q hqm
      rw [k15 rb (by omega) (by omega), o1214.get (by omega), g12 rb (by omega) (by omega), o9a.get lR9]
      exact gR9
    have lR15 := getM_lt gR15
    simp (decide := true) (implicitDefEqProofs := false) (maxDischargeDepth := 20) only [go_sem, f1, f4, f5, f12, f13, rl15, gR15, lR15, ↓reduceIte, true_implies, false_implies]

end Go.Proofs.Ytjmppooebppecaa.W
