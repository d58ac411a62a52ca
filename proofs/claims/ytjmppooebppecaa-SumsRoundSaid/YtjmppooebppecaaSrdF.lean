/-
  SumsRound, the plain law: entities of lines that are sorted by them. The document's Round: its numbers, its loops. The document's Round: the loop of the lines. The document's Round: the loop of the entities; what it answers. The document's Round: what it answers. SumsRound: the lines. SumsRound: the range, the law.
-/
import Derived.Test.YtjmppooebppecaaRndC
import Derived.Test.YtjmppooebppecaaSumE
import Derived.Test.YtjmppooebppecaaAbs30
import Derived.Test.YtjmppooebppecaaCodeRef
import Derived.Test.YtjmppooebppecaaBook
import Derived.Test.YtjmppooebppecaaSrtB
import Derived.Test.YtjmppooebppecaaCodeLaw2
import Derived.Test.YtjmppooebppecaaSumC
namespace Go.Proofs.Ytjmppooebppecaa.W
open Go.Abs
set_option linter.unusedSimpArgs false
set_option linter.unusedVariables false


/-! ### RndD -/

/-- A column's sum. -/
def colS (c : Nat) : List (List Int) → Int
  | [] => 0
  | r :: l => r.getD c 0 + colS c l
theorem colS_append (c : Nat) : ∀ (a b : List (List Int)), colS c (a ++ b) = colS c a + colS c b
  | [], b => by simp [colS]
  | r :: a, b => by simp only [List.cons_append, colS, colS_append c a b]; omega
theorem colS_perm (c : Nat) {a b : List (List Int)} (h : a.Perm b) : colS c a = colS c b := by
  induction h with
  | nil => rfl
  | cons x _ ih => simp only [colS, ih]
  | swap x y l => simp only [colS]; omega
  | trans _ _ h1 h2 => exact h1.trans h2
theorem colS_bd (c : Nat) (C : Int) (hC : 0 ≤ C) : ∀ (l : List (List Int)), (∀ r ∈ l, -C ≤ r.getD c 0 ∧ r.getD c 0 ≤ C) → -(C * l.length) ≤ colS c l ∧ colS c l ≤ C * l.length
  | [], _ => by simp [colS]
  | r :: l, h => by
    have h1 := colS_bd c C hC l fun x hx => h x (List.mem_cons_of_mem _ hx)
    have h2 := h r List.mem_cons_self
    simp only [colS, List.length_cons]
    have e : C * ((l.length + 1 : Nat) : Int) = C * (l.length : Int) + C := by rw [Int.natCast_add, Int.mul_add]; simp
    rw [e]
    omega
/-- The lines of an entity. -/
def ofE (l : List (List Int)) (i : Int) : List (List Int) := l.filter fun r => r.getD 1 0 == i
theorem ofE_append (a b : List (List Int)) (i : Int) : ofE (a ++ b) i = ofE a i ++ ofE b i := List.filter_append ..
theorem ofE_perm {a b : List (List Int)} (h : a.Perm b) (i : Int) : (ofE a i).Perm (ofE b i) := h.filter _
theorem ofE_mem {l : List (List Int)} {i : Int} {r : List Int} (h : r ∈ ofE l i) : r ∈ l ∧ r.getD 1 0 = i := by
  have := List.mem_filter.1 h
  exact ⟨this.1, by simpa using this.2⟩
theorem ofE_len (l : List (List Int)) (i : Int) : (ofE l i).length ≤ l.length := List.length_filter_le ..

theorem contE (i p : Int) : ∀ (b : List (List Int)) (X : List En) (am mo : Int), (∀ r ∈ b, r.getD 1 0 = i ∧ r.getD 7 0 = p) → b.foldl stepE (X, some ⟨i, p, am, mo⟩) = (X, some ⟨i, p, am + colS 4 b, mo + colS 9 b⟩)
  | [], X, am, mo, _ => by simp [colS]
  | r :: b, X, am, mo, h => by
    obtain ⟨h1, h7⟩ := h r List.mem_cons_self
    have e : stepE (X, some ⟨i, p, am, mo⟩) r = (X, some ⟨i, p, am + r.getD 4 0, mo + r.getD 9 0⟩) := by
      unfold stepE
      simp only
      rw [if_pos h1.symm]
      unfold enAdd
      rw [h7]
    rw [List.foldl_cons, e, contE i p b X _ _ fun x hx => h x (List.mem_cons_of_mem _ hx)]
    simp only [colS]
    rw [Int.add_assoc, Int.add_assoc]
theorem blkE (i p : Int) (b : List (List Int)) (st : List En × Option En) (h : ∀ r ∈ b, r.getD 1 0 = i ∧ r.getD 7 0 = p) (hb : b ≠ []) (hs : ∀ e, st.2 = some e → e.id ≠ i) : b.foldl stepE st = (st.1 ++ st.2.toList, some ⟨i, p, colS 4 b, colS 9 b⟩) := by
  cases b with
  | nil => exact absurd rfl hb
  | cons r b =>
    obtain ⟨h1, h7⟩ := h r List.mem_cons_self
    have e : stepE st r = (st.1 ++ st.2.toList, some ⟨i, p, r.getD 4 0, r.getD 9 0⟩) := by
      unfold stepE
      cases hst : st.2 with
      | none => simp only [enAdd, en0, h1, h7, Option.toList, List.append_nil, Int.zero_add]
      | some e =>
        simp only
        rw [if_neg (by rw [h1]; exact hs e hst)]
        simp only [enAdd, en0, h1, h7, Option.toList, Int.zero_add]
    rw [List.foldl_cons, e, contE i p b _ _ _ fun x hx => h x (List.mem_cons_of_mem _ hx)]
    rfl
def entOf (p : Int) (f : Int → List (List Int)) (i : Int) : Option En := if f i = [] then none else some ⟨i, p * i, colS 4 (f i), colS 9 (f i)⟩
theorem entsE (p : Int) (f : Int → List (List Int)) : ∀ (is : List Int) (st : List En × Option En), is.Nodup → (∀ i ∈ is, ∀ r ∈ f i, r.getD 1 0 = i ∧ r.getD 7 0 = p * i) → (∀ e, st.2 = some e → e.id ∉ is) →
    ((is.flatMap f).foldl stepE st).1 ++ ((is.flatMap f).foldl stepE st).2.toList = st.1 ++ st.2.toList ++ is.filterMap (entOf p f)
  | [], st, _, _, _ => by simp
  | i :: is, st, hn, hf, hs => by
    obtain ⟨hn1, hn2⟩ := List.nodup_cons.1 hn
    rw [List.flatMap_cons, List.foldl_append]
    by_cases h0 : f i = []
    · have e : entOf p f i = none := if_pos h0
      rw [List.filterMap_cons_none e, h0]
      exact entsE p f is st hn2 (fun j hj => hf j (List.mem_cons_of_mem _ hj)) fun e he h => hs e he (List.mem_cons_of_mem _ h)
    · have e : entOf p f i = some ⟨i, p * i, colS 4 (f i), colS 9 (f i)⟩ := if_neg h0
      rw [List.filterMap_cons_some e, blkE i (p * i) (f i) st (hf i List.mem_cons_self) h0 fun e he h => hs e he (by rw [h]; exact List.mem_cons_self),
        entsE p f is _ hn2 (fun j hj => hf j (List.mem_cons_of_mem _ hj)) (fun e he h => by cases he; exact hn1 h)]
      simp
def irange (a : Int) : Nat → List Int
  | 0 => []
  | n + 1 => a :: irange (a + 1) n
theorem irange_mem : ∀ (n : Nat) (a i : Int), i ∈ irange a n ↔ a ≤ i ∧ i < a + n
  | 0, a, i => ⟨fun h => (by cases h), fun h => by omega⟩
  | n + 1, a, i => by
    simp only [irange, List.mem_cons, irange_mem n]
    omega
theorem irange_nodup : ∀ (n : Nat) (a : Int), (irange a n).Nodup
  | 0, a => List.nodup_nil
  | n + 1, a => List.nodup_cons.2 ⟨fun h => by have := (irange_mem n _ _).1 h; omega, irange_nodup n _⟩
theorem split1 (a : Int) : ∀ (L : List (List Int)), L.Pairwise (fun x y => x.getD 1 0 ≤ y.getD 1 0) → (∀ r ∈ L, a ≤ r.getD 1 0) → L = ofE L a ++ L.filter fun r => !(r.getD 1 0 == a)
  | [], _, _ => rfl
  | r :: L, hp, h => by
    obtain ⟨h1, h2⟩ := List.pairwise_cons.1 hp
    by_cases hr : r.getD 1 0 = a
    · have e1 : (r.getD 1 0 == a) = true := by simpa using hr
      unfold ofE
      rw [List.filter_cons_of_pos (p := fun r : List Int => r.getD 1 0 == a) e1, List.filter_cons_of_neg (p := fun r : List Int => !(r.getD 1 0 == a)) (by rw [e1]; simp), List.cons_append]
      have := split1 a L h2 fun x hx => h x (List.mem_cons_of_mem _ hx)
      unfold ofE at this
      rw [← this]
    · have hra := h r List.mem_cons_self
      have e1 : ofE (r :: L) a = [] := List.filter_eq_nil_iff.2 fun x hx => by
        rcases List.mem_cons.1 hx with rfl | hx
        · rw [beq_iff_eq]; exact hr
        · have := h1 x hx
          rw [beq_iff_eq]; omega
      have e2 : (r :: L).filter (fun r => !(r.getD 1 0 == a)) = r :: L := List.filter_eq_self.2 fun x hx => by
        rcases List.mem_cons.1 hx with rfl | hx
        · rw [Bool.not_eq_true', beq_eq_false_iff_ne]; exact hr
        · have := h1 x hx
          rw [Bool.not_eq_true', beq_eq_false_iff_ne]; omega
      rw [e1, e2]
      rfl
theorem splitE : ∀ (n : Nat) (a : Int) (L : List (List Int)), L.Pairwise (fun x y => x.getD 1 0 ≤ y.getD 1 0) → (∀ r ∈ L, a ≤ r.getD 1 0 ∧ r.getD 1 0 < a + n) → L = (irange a n).flatMap (ofE L)
  | 0, a, L, _, h => by
    cases L with
    | nil => rfl
    | cons r L => have := h r List.mem_cons_self; omega
  | n + 1, a, L, hp, h => by
    have h1 := split1 a L hp fun r hr => (h r hr).1
    obtain ⟨R, hR⟩ : ∃ R, R = L.filter fun r => !(r.getD 1 0 == a) := ⟨_, rfl⟩
    rw [← hR] at h1
    have hm : ∀ r ∈ R, r ∈ L ∧ r.getD 1 0 ≠ a := fun r hr => by
      rw [hR] at hr
      have := List.mem_filter.1 hr
      exact ⟨this.1, by simpa using this.2⟩
    have h2 := splitE n (a + 1) R (by rw [hR]; exact hp.filter _) fun r hr => by
      have := h r (hm r hr).1
      have := (hm r hr).2
      omega
    have h3 : ∀ i ∈ irange (a + 1) n, ofE R i = ofE L i := fun i hi => by
      have hi := (irange_mem n _ _).1 hi
      rw [hR]
      unfold ofE
      rw [List.filter_filter]
      refine List.filter_congr fun r hr => ?_
      by_cases hri : r.getD 1 0 = i
      · have : (r.getD 1 0 == a) = false := beq_eq_false_iff_ne.2 (by omega)
        rw [this]; simp
      · have : (r.getD 1 0 == i) = false := by simpa using hri
        rw [this]; simp
    have h4 : (irange (a + 1) n).flatMap (ofE R) = (irange (a + 1) n).flatMap (ofE L) := by rw [List.flatMap_def, List.flatMap_def, List.map_congr_left h3]
    show L = ofE L a ++ (irange (a + 1) n).flatMap (ofE L)
    rw [← h4, ← h2]
    exact h1

/-- Lines of four entities, sorted. -/
structure Ln4 (p : Int) (L : List (List Int)) : Prop where
  sort : L.Pairwise (fun x y => x.getD 1 0 ≤ y.getD 1 0)
  id : ∀ r ∈ L, 1 ≤ r.getD 1 0 ∧ r.getD 1 0 ≤ 4
  parts : ∀ r ∈ L, r.getD 7 0 = p * r.getD 1 0
  am : ∀ r ∈ L, -100 ≤ r.getD 4 0 ∧ r.getD 4 0 ≤ 100
  mo : ∀ r ∈ L, -9223372036854775808 ≤ r.getD 9 0 ∧ r.getD 9 0 ≤ 9223372036854775808
  len : L.length ≤ 30
theorem Ln4.ents {p : Int} {L : List (List Int)} (h : Ln4 p L) : entL L = (irange 1 4).filterMap (entOf p (ofE L)) := by
  have e := splitE 4 1 L h.sort fun r hr => by have := h.id r hr; omega
  have e2 := entsE p (ofE L) (irange 1 4) ([], none) (irange_nodup 4 1) (fun i _ r hr => by
    obtain ⟨h1, h2⟩ := ofE_mem hr
    exact ⟨h2, by rw [h.parts r h1, h2]⟩) (fun e he => by cases he)
  rw [← e] at e2
  exact e2
theorem Ln4.bd {p : Int} {L : List (List Int)} (h : Ln4 p L) (i : Int) : (-3000 ≤ colS 4 (ofE L i) ∧ colS 4 (ofE L i) ≤ 3000) ∧ -276701161105643274240 ≤ colS 9 (ofE L i) ∧ colS 9 (ofE L i) ≤ 276701161105643274240 := by
  have h1 := colS_bd 4 100 (by decide) (ofE L i) fun r hr => h.am r (ofE_mem hr).1
  have h2 := colS_bd 9 9223372036854775808 (by decide) (ofE L i) fun r hr => h.mo r (ofE_mem hr).1
  have h3 := ofE_len L i
  have h4 := h.len
  generalize colS 4 (ofE L i) = x at *
  generalize colS 9 (ofE L i) = y at *
  generalize (ofE L i).length = z at *
  omega
theorem Ln4.mid {p : Int} {L : List (List Int)} (h : Ln4 p L) : ∀ e ∈ entL L, midE e.am ∧ midE e.mo := fun e he => by
  rw [h.ents] at he
  obtain ⟨i, _, hi⟩ := List.mem_filterMap.1 he
  unfold entOf at hi
  split at hi
  · cases hi
  · cases hi
    have := h.bd i
    unfold midE
    simp only
    generalize colS 4 (ofE L i) = x at *
    generalize colS 9 (ofE L i) = y at *
    omega

/-! ### what the document says of entities -/
/-- Its loop: out of balance, over, the rows so far. -/
def docN : Bool → List (List Int) → List En → List (List Int) × Int
  | ov, acc, [] => if ov then ([], 3) else (acc, 0)
  | ov, acc, e :: es => if e.am ≠ 0 then ([], 4) else docN (ovE ov e) (if fitE (-e.mo) ∧ e.mo ≠ 0 then acc ++ [rowE e] else acc) es
/-- The first status. -/
def statC : List REl → Int
  | [] => 0
  | .inl _ :: r => statC r
  | .inr s :: _ => s
/-- The rows ahead of it. -/
def gotC : List REl → List (List Int)
  | [] => []
  | .inl x :: r => x :: gotC r
  | .inr _ :: _ => []
theorem docN_bad {ov : Bool} {acc : List (List Int)} {e : En} {es : List En} (h : e.am ≠ 0) : docN ov acc (e :: es) = ([], 4) := if_pos h
theorem docN_good {ov : Bool} {acc : List (List Int)} {e : En} {es : List En} (h : e.am = 0) : docN ov acc (e :: es) = docN (ovE ov e) (if fitE (-e.mo) ∧ e.mo ≠ 0 then acc ++ [rowE e] else acc) es := if_neg fun k => k h
theorem stat_over : ∀ (es : List En), statC (cutN true es) ≠ 0
  | [] => by decide
  | e :: es => by
    by_cases h : e.am = 0
    · rw [cutN_good h]
      have h1 : ovE true e = true := rfl
      have h2 : elE true e = [] := by unfold elE; rw [if_pos (.inl h1)]
      rw [h1, h2, List.nil_append]
      exact stat_over es
    · rw [cutN_bad h]
      decide
theorem doc_cut : ∀ (es : List En) (ov : Bool) (acc : List (List Int)), (docN ov acc es).2 = statC (cutN ov es) ∧ (statC (cutN ov es) = 0 → (docN ov acc es).1 = acc ++ gotC (cutN ov es))
  | [], true, acc => ⟨rfl, fun h => by cases h⟩
  | [], false, acc => ⟨rfl, fun _ => by show acc = acc ++ []; simp⟩
  | e :: es, ov, acc => by
    by_cases h : e.am = 0
    · rw [cutN_good h, docN_good h]
      cases hov : ovE ov e with
      | true =>
        have h2 : elE ov e = [] := by unfold elE; rw [if_pos (.inl hov)]
        rw [h2, List.nil_append]
        exact ⟨(doc_cut es true _).1, fun h0 => absurd h0 (stat_over es)⟩
      | false =>
        have hf : fitE (-e.mo) := by
          unfold ovE at hov
          simp only [Bool.or_eq_false_iff, Bool.not_eq_false', decide_eq_true_eq] at hov
          exact hov.2
        by_cases h0 : e.mo = 0
        · have h2 : elE ov e = [] := by unfold elE; rw [if_pos (.inr h0)]
          rw [h2, List.nil_append, if_neg (fun k => k.2 h0)]
          exact doc_cut es false acc
        · have h2 : elE ov e = [.inl (rowE e)] := by
            unfold elE
            rw [if_neg (by rw [hov]; rintro (k | k); exact Bool.noConfusion k; exact h0 k)]
          rw [h2, if_pos ⟨hf, h0⟩]
          obtain ⟨i1, i2⟩ := doc_cut es false (acc ++ [rowE e])
          refine ⟨i1, fun hs => ?_⟩
          rw [i2 hs, List.append_assoc]
          rfl
    · rw [cutN_bad h, docN_bad h]
      exact ⟨rfl, fun k => by cases k⟩
theorem cutN_inr : ∀ (es : List En) (ov : Bool) (s : Int), .inr s ∈ cutN ov es → s ≠ 0
  | [], ov, s, h => by
    unfold cutN at h
    split at h
    · simp at h; omega
    · simp at h
  | e :: es, ov, s, h => by
    by_cases ha : e.am = 0
    · rw [cutN_good ha] at h
      rcases List.mem_append.1 h with h | h
      · unfold elE at h
        split at h <;> simp at h
      · exact cutN_inr es _ s h
    · rw [cutN_bad ha] at h
      simp at h; omega
theorem cutN_inl : ∀ (es : List En) (ov : Bool) (r : List Int), .inl r ∈ cutN ov es → ∃ e ∈ es, r = rowE e ∧ fitE (-e.mo)
  | [], ov, r, h => by
    unfold cutN at h
    split at h <;> simp at h
  | e :: es, ov, r, h => by
    by_cases ha : e.am = 0
    · rw [cutN_good ha] at h
      rcases List.mem_append.1 h with h | h
      · unfold elE at h
        split at h
        · simp at h
        · rename_i hh
          simp at h
          refine ⟨e, List.mem_cons_self, h, ?_⟩
          have : ovE ov e = false := by
            cases hov : ovE ov e with
            | false => rfl
            | true => exact absurd (.inl hov) hh
          unfold ovE at this
          simp only [Bool.or_eq_false_iff, Bool.not_eq_false', decide_eq_true_eq] at this
          exact this.2
      · obtain ⟨x, hx, h1, h2⟩ := cutN_inl es _ r h
        exact ⟨x, List.mem_cons_of_mem _ hx, h1, h2⟩
    · rw [cutN_bad ha] at h
      simp at h
theorem cutN_len : ∀ (es : List En) (ov : Bool), (cutN ov es).length ≤ es.length + 1
  | [], ov => by unfold cutN; split <;> simp
  | e :: es, ov => by
    by_cases ha : e.am = 0
    · rw [cutN_good ha, List.length_append]
      have := cutN_len es (ovE ov e)
      have h2 : (elE ov e).length ≤ 1 := by unfold elE; split <;> simp
      simp only [List.length_cons]
      omega
    · rw [cutN_bad ha]; simp
theorem rising_eq : ∀ (a b : List Int), a.Pairwise (· < ·) → b.Pairwise (· < ·) → (∀ x, x ∈ a ↔ x ∈ b) → a = b
  | [], [], _, _, _ => rfl
  | [], y :: b, _, _, h => by have := (h y).2 List.mem_cons_self; cases this
  | x :: a, [], _, _, h => by have := (h x).1 List.mem_cons_self; cases this
  | x :: a, y :: b, ha, hb, h => by
    obtain ⟨a1, a2⟩ := List.pairwise_cons.1 ha
    obtain ⟨b1, b2⟩ := List.pairwise_cons.1 hb
    have hxy : x = y := by
      have h1 := (h x).1 List.mem_cons_self
      have h2 := (h y).2 List.mem_cons_self
      rcases List.mem_cons.1 h1 with h1 | h1
      · exact h1
      · rcases List.mem_cons.1 h2 with h2 | h2
        · exact h2.symm
        · have := b1 x h1
          have := a1 y h2
          omega
    subst hxy
    rw [rising_eq a b a2 b2 fun z => ⟨fun hz => by
      rcases List.mem_cons.1 ((h z).1 (List.mem_cons_of_mem _ hz)) with h1 | h1
      · have := a1 z hz; omega
      · exact h1, fun hz => by
      rcases List.mem_cons.1 ((h z).2 (List.mem_cons_of_mem _ hz)) with h1 | h1
      · have := b1 z hz; omega
      · exact h1⟩]
theorem irange_rise : ∀ (n : Nat) (a : Int), (irange a n).Pairwise (· < ·)
  | 0, a => List.Pairwise.nil
  | n + 1, a => List.pairwise_cons.2 ⟨fun x hx => by have := (irange_mem n _ _).1 hx; omega, irange_rise n _⟩
/-- An entity that has lines. -/
def entE (p : Int) (L : List (List Int)) (i : Int) : En := ⟨i, p * i, colS 4 (ofE L i), colS 9 (ofE L i)⟩
theorem filterMap_ent (p : Int) (L : List (List Int)) : ∀ is : List Int, is.filterMap (entOf p (ofE L)) = (is.filter fun i => !(ofE L i).isEmpty).map (entE p L)
  | [] => rfl
  | i :: is => by
    cases h : ofE L i with
    | nil =>
      have e0 : entOf p (ofE L) i = none := if_pos h
      rw [List.filterMap_cons_none e0, List.filter_cons_of_neg (by rw [h]; simp), filterMap_ent p L is]
    | cons r l =>
      have hn : ¬ ofE L i = [] := by rw [h]; simp
      have e : entOf p (ofE L) i = some (entE p L i) := if_neg hn
      rw [List.filterMap_cons_some e, List.filter_cons_of_pos (by rw [h]; rfl), filterMap_ent p L is]
      rfl
/-- The entities, by the rising list of their numbers. -/
theorem Ln4.ids {p : Int} {L : List (List Int)} (h : Ln4 p L) (is : List Int) (hr : is.Pairwise (· < ·)) (hm : ∀ i, i ∈ is ↔ ∃ r ∈ L, r.getD 1 0 = i) : entL L = is.map (entE p L) := by
  rw [h.ents, filterMap_ent]
  congr 1
  refine rising_eq _ _ ((irange_rise 4 1).filter _) hr fun i => ?_
  rw [List.mem_filter, irange_mem, hm]
  constructor
  · rintro ⟨_, h2⟩
    cases ho : ofE L i with
    | nil => rw [ho] at h2; cases h2
    | cons r l =>
      have := ofE_mem (l := L) (i := i) (r := r) (by rw [ho]; exact List.mem_cons_self)
      exact ⟨r, this.1, this.2⟩
  · rintro ⟨r, h1, h2⟩
    have := h.id r h1
    refine ⟨by omega, ?_⟩
    have : r ∈ ofE L i := List.mem_filter.2 ⟨h1, by simpa using h2⟩
    cases ho : ofE L i with
    | nil => rw [ho] at this; cases this
    | cons r l => rfl


/-! ### SrdF -/


/-! ### SrdA -/

set_option maxRecDepth 100000 in
theorem rOf_ans (a : Int) (h1 : -9223372036854775808 ≤ a) (h2 : a < 9223372036854775808) : Ans E F_sheafref1_Of [.int .i64 a] (W a) := by
  refine .of fn_sheafref1_Of (by simp) fun m => ?_
  by_cases h : a < 0
  · have d : decide (a < 0) = true := by simpa using h
    simp (decide := true) (implicitDefEqProofs := false) (maxDischargeDepth := 20) only [go_sem, ↓reduceIte, d, W, true_implies, false_implies]
    simp only [wrap_i64, wrap_u64]
    exact pair_eq (by omega) (by omega)
  · have d : decide (a < 0) = false := by simpa using h
    simp (decide := true) (implicitDefEqProofs := false) (maxDischargeDepth := 20) only [go_sem, ↓reduceIte, d, W, true_implies, false_implies]
    simp only [wrap_i64, wrap_u64]
    exact pair_eq (by omega) (by omega)
set_option maxRecDepth 100000 in
theorem rAdd_ans (x y : Int) : Ans E F_sheafref1_Add [W x, W y] (W (x + y)) := by
  refine .of fn_sheafref1_Add (by simp) fun m => ?_
  by_cases h : x % 18446744073709551616 + y % 18446744073709551616 < 18446744073709551616
  · have w1 : IntKind.wrap .u64 (x % 18446744073709551616 + y % 18446744073709551616) = x % 18446744073709551616 + y % 18446744073709551616 := by rw [wrap_u64]; omega
    have d1 : decide (x % 18446744073709551616 + y % 18446744073709551616 < x % 18446744073709551616) = false := by simp; omega
    simp (decide := true) (implicitDefEqProofs := false) (maxDischargeDepth := 20) only [go_sem, ↓reduceIte, W, w1, d1, true_implies, false_implies]
    simp only [wrap_i64]
    exact pair_eq (by omega) (by omega)
  · have w1 : IntKind.wrap .u64 (x % 18446744073709551616 + y % 18446744073709551616) = x % 18446744073709551616 + y % 18446744073709551616 - 18446744073709551616 := by rw [wrap_u64]; omega
    have d1 : decide (x % 18446744073709551616 + y % 18446744073709551616 - 18446744073709551616 < x % 18446744073709551616) = true := by simp; omega
    simp (decide := true) (implicitDefEqProofs := false) (maxDischargeDepth := 20) only [go_sem, ↓reduceIte, W, w1, d1, true_implies, false_implies]
    simp only [wrap_i64]
    exact pair_eq (by omega) (by omega)
set_option maxRecDepth 100000 in
theorem rInt_ans (x : Int) (h : -170141183460469231731687303715884105728 ≤ x) (h' : x < 170141183460469231731687303715884105728) :
    Ans E F_sheafref1_Int [W x] (if -9223372036854775808 ≤ x ∧ x < 9223372036854775808 then .tuple #[.int .i64 x, .bool true] else .tuple #[.int .i64 0, .bool false]) := by
  have o := rOf_ans (IntKind.wrap .i64 (x % 18446744073709551616)) (by rw [wrap_i64]; omega) (by rw [wrap_i64]; omega)
  simp only [W] at o
  refine .of fn_sheafref1_Int (by simp) fun m => ?_
  have u1 := wrap_i64_id (x / 18446744073709551616) (by omega) (by omega)
  by_cases hr : -9223372036854775808 ≤ x ∧ x < 9223372036854775808
  · rw [if_pos hr]
    have e1 : IntKind.wrap .i64 (x % 18446744073709551616) = x := by rw [wrap_i64]; omega
    have d1 : (x / 18446744073709551616 == x / 18446744073709551616) = true := by simp
    rw [e1] at o
    rw [u1] at o
    simp (decide := true) (implicitDefEqProofs := false) (maxDischargeDepth := 20) only [go_sem, ↓reduceIte, W, u1, e1, o.eq, beq_self_eq_true, true_implies, false_implies]
  · rw [if_neg hr]
    obtain ⟨y, hy⟩ : ∃ y, y = IntKind.wrap .i64 (x % 18446744073709551616) := ⟨_, rfl⟩
    rw [← hy] at o
    have hy2 := hy
    rw [wrap_i64] at hy2
    have u2 := wrap_i64_id (y / 18446744073709551616) (by omega) (by omega)
    have d1 : (y / 18446744073709551616 == x / 18446744073709551616) = false := by simp; omega
    rw [u2] at o
    simp (decide := true) (implicitDefEqProofs := false) (maxDischargeDepth := 20) only [go_sem, ↓reduceIte, W, u1, ← hy, o.eq, d1, Bool.false_and, Bool.not_false, true_implies, false_implies]

set_option maxRecDepth 100000 in
theorem rOpp_at {m : Mem} (x : Int) : CallQ E F_sheafref16_opposite [W x].toArray m fun w m' => w = W (-x) ∧ Old m m' := by
  refine .enter fn_sheafref16_opposite (by simp) ?_
  have a1 := rAdd_ans (-x - 1) 1
  rw [show -x - 1 + 1 = -x by omega] at a1
  have n1 := not_hi x
  have n2 := not_lo x
  simp only [W] at a1 ⊢
  rw [show IntKind.wrap .i64 ((1 : Int) / 18446744073709551616) = 0 by decide, show (1 : Int) % 18446744073709551616 = 1 by decide] at a1
  simp (decide := true) (implicitDefEqProofs := false) (maxDischargeDepth := 20) only [go_sem, ↓reduceIte, n1, n2, a1.eq, true_implies, false_implies]

theorem imap68 : IsIMap E 68 (vI 0) := ⟨_, _, map68, rfl⟩
theorem imap93 : IsIMap E 93 (W 0) := ⟨_, _, map93, rfl⟩

theorem take1 (rs : List (List Int)) {i : Nat} (h : i < rs.length) : rs.take (i + 1) = rs.take i ++ [rs.getD i []] := by
  rw [List.take_succ_eq_append_getElem h]
  simp [List.getD_eq_getElem?_getD, h]
theorem ofE_one (r : List Int) (e : Int) : ofE [r] e = if r.getD 1 0 = e then [r] else [] := by
  unfold ofE
  by_cases h : r.getD 1 0 = e
  · rw [if_pos h, List.filter_cons_of_pos (by simpa using h)]; rfl
  · rw [if_neg h, List.filter_cons_of_neg (by simpa using h)]; rfl
theorem colS_take (c : Nat) (L : List (List Int)) {k : Nat} (hk : k < L.length) (e : Int) : colS c (ofE (L.take (k + 1)) e) = if e = (L.getD k []).getD 1 0 then colS c (ofE (L.take k) e) + (L.getD k []).getD c 0 else colS c (ofE (L.take k) e) := by
  rw [take1 L hk, ofE_append, colS_append, ofE_one]
  by_cases h : e = (L.getD k []).getD 1 0
  · rw [if_pos h, if_pos h.symm]; simp [colS]
  · rw [if_neg h, if_neg (fun k => h k.symm)]; simp [colS]

/-- The numbers so far. -/
structure DocL (m0 m : Mem) (ab mb pb : Nat) (L : List (List Int)) (p : Int) (k : Nat) (a : Option Addr) (ps : List (Nat × List Int)) (ids : List Int) : Prop where
  vec : Vec m0.size m 1 a ps.length ((ps.map rowH).map HRow.v)
  own : Own2 m0.size m ps
  xs : ps.map Prod.snd = ids.map fun e => [e]
  dis : ∀ q ∈ ps, ∀ y, a = some y → q.1 ≠ y.block
  nd : ids.Nodup
  len : ids.length ≤ k
  mem : ∀ e, e ∈ ids ↔ ∃ r ∈ L.take k, r.getD 1 0 = e
  am : ∃ f, IMap m ab f ∧ ∀ e, (f e).getD (W 0) = W (colS 4 (ofE (L.take k) e))
  mo : ∃ f, IMap m mb f ∧ ∀ e, (f e).getD (W 0) = W (colS 9 (ofE (L.take k) e))
  pa : ∃ f, IMap m pb f ∧ ∀ e, f e = if e ∈ ids then some (vI (p * e)) else none
  size : m0.size ≤ m.size
  keep : ∀ i, i < m0.size → i ≠ ab → i ≠ mb → i ≠ pb → m.get i = m0.get i


/-! ### SrdB -/

set_option maxRecDepth 100000 in
set_option maxHeartbeats 8000000 in
/-- A number that is new is written down. -/
theorem Srd_order {m : Mem} {t : Fr} {rd : Option Nat} {B pb : Nat} {a : Option Addr} {ps : List (Nat × List Int)} {ids : List Int} {e : Int} {f : Int → Option Value} (hB : B ≤ m.size) (V : Vec B m 1 a ps.length ((ps.map rowH).map HRow.v)) (O : Own2 B m ps) (hxs : ps.map Prod.snd = ids.map fun e => [e]) (hdis : ∀ q ∈ ps, ∀ y, a = some y → q.1 ≠ y.block) (hn : ps.length ≤ 100)
    (Q : IMap m pb f) (hf : (f e).isSome = decide (e ∈ ids)) (hfe : -9223372036854775808 ≤ e ∧ e < 9223372036854775808)
    (t6 : t 6 = .map (some pb)) (t10 : t 10 = .int .i64 e) (t7 : t 7 = .slice a ps.length ps.length) {K : Post3}
    (hK : ∀ t' m' a' ps' ids', Agree (writes c_sheafref16_Round_3) t t' → t' 7 = .slice a' ps'.length ps'.length → ids' = (if e ∈ ids then ids else ids ++ [e]) → Vec B m' 1 a' ps'.length ((ps'.map rowH).map HRow.v) → Own2 B m' ps' → ps'.map Prod.snd = ids'.map (fun e => [e]) → (∀ q ∈ ps', ∀ y, a' = some y → q.1 ≠ y.block) → m.size ≤ m'.size → (∀ i, i < m.size → (∀ y, a = some y → i ≠ y.block) → m'.get i = m.get i) → K .normal t' m') :
    wpM E F_sheafref16_Round 113 rd c_sheafref16_Round_3 K t m := by
  refine wpM_cut (fun t' m' => ∃ a' ps' ids', t' 7 = .slice a' ps'.length ps'.length ∧ ids' = (if e ∈ ids then ids else ids ++ [e]) ∧ Vec B m' 1 a' ps'.length ((ps'.map rowH).map HRow.v) ∧ Own2 B m' ps' ∧ ps'.map Prod.snd = ids'.map (fun e => [e]) ∧ (∀ q ∈ ps', ∀ y, a' = some y → q.1 ≠ y.block) ∧ m.size ≤ m'.size ∧ (∀ i, i < m.size → (∀ y, a = some y → i ≠ y.block) → m'.get i = m.get i)) ?_ fun t' m' ha ⟨a', ps', ids', h1, h2, h3, h4, h5, h6, h7, h8⟩ => hK t' m' a' ps' ids' ha h1 h2 h3 h4 h5 h6 h7 h8
  have look := Q.look2 imap68 e
  rw [hf] at look
  by_cases he : e ∈ ids
  · rw [decide_eq_true he] at look
    simp (decide := true) (implicitDefEqProofs := false) (maxDischargeDepth := 20) only [go_sem, ↓reduceIte, t6, t7, t10, look, true_implies, false_implies]
    exact ⟨a, ps, ids, rfl, by rw [if_pos he], V, O, hxs, hdis, fun _ _ _ => trivial⟩
  · rw [decide_eq_false he] at look
    simp (decide := true) (implicitDefEqProofs := false) (maxDischargeDepth := 20) only [go_sem, ↓reduceIte, t6, t7, t10, look, true_implies, false_implies]
    obtain ⟨rb, hrb⟩ : ∃ b, b = m.size := ⟨_, rfl⟩
    obtain ⟨mp, hmp⟩ : ∃ mp, mp = m.push (.cells false true [.int .i64 e]) := ⟨_, rfl⟩
    have sp : mp.size = m.size + 1 := by rw [hmp, size_push]
    have op : Old m mp := by rw [hmp]; exact (Old.refl m).push _
    have gr : mp.get rb = some (.cells false true (([e] : List Int).map (.int .i64))) := by rw [hmp, hrb, getM_push, if_pos rfl]; rfl
    rw [← hrb, ← hmp]
    refine (V.old op).appendQ (by omega) (by omega) rfl (by decide) (by decide +kernel) (by decide +kernel) rfl (by omega) fun m5 b5 s5 v5 k5 hb5 => ?_
    simp (decide := true) (implicitDefEqProofs := false) (maxDischargeDepth := 20) only [go_sem, ↓reduceIte, true_implies, false_implies]
    have s5' := k5.1
    have hbx : ∀ x, a = some x → x.block < m.size := fun x hx => V.lt hx
    have hpl' : (ps ++ [(rb, [e])]).length = ps.length + 1 := by simp
    have Op := O.old op
    refine ⟨some ⟨b5, 0, s5⟩, ps ++ [(rb, [e])], ids ++ [e], by rw [hpl'], by rw [if_neg he], ?_, ⟨fun q hq => ?_, fun q hq => ?_, fun q hq => ?_, ?_⟩, ?_, fun q hq y hy => ?_, by omega, fun i hi hne => ?_⟩
    · rw [hpl', List.map_append, List.map_append]
      exact v5
    · rcases List.mem_append.1 hq with hq | hq
      · rw [k5.2 q.1 (Op.lt q hq) fun y hy e => hdis q hq y hy e]
        exact Op.get q hq
      · rw [List.mem_singleton.1 hq]
        show m5.get rb = _
        rw [k5.2 rb (getM_lt gr) fun y hy e => by have := hbx y hy; omega]
        exact gr
    · rcases List.mem_append.1 hq with hq | hq
      · exact O.bd q hq
      · rw [List.mem_singleton.1 hq]
        intro x hx
        simp only [List.mem_cons, List.not_mem_nil, or_false] at hx
        rw [hx]; exact hfe
    · rcases List.mem_append.1 hq with hq | hq
      · exact O.lo q hq
      · rw [List.mem_singleton.1 hq]
        show B ≤ rb
        omega
    · rw [List.map_append, List.nodup_append]
      refine ⟨O.dis, by simp, fun x hx y hy => ?_⟩
      obtain ⟨q, hq, rfl⟩ := List.mem_map.1 hx
      simp at hy
      have := O.lt q hq
      omega
    · rw [List.map_append, List.map_append, hxs]; rfl
    · cases hy
      rcases List.mem_append.1 hq with hq | hq
      · have := O.lt q hq
        show q.1 ≠ b5
        omega
      · rw [List.mem_singleton.1 hq]
        show rb ≠ b5
        omega
    · rw [k5.2 i (by omega) hne, op.get (by omega)]

set_option maxRecDepth 100000 in
set_option maxHeartbeats 8000000 in
/-- A line's numbers go into the maps. -/
theorem Srd_maps {m : Mem} {t : Fr} {rd : Option Nat} {ab mb pb : Nat} {fa fm fp : Int → Option Value} {e x y : Int} {rad : Option Addr} {rc : Nat} {rxs : List Int} (Qa : IMap m ab fa) (Qm : IMap m mb fm) (Qp : IMap m pb fp) (hne : ab ≠ mb ∧ ab ≠ pb ∧ mb ≠ pb) (hx : (fa e).getD (W 0) = W x) (hy : (fm e).getD (W 0) = W y) (hsl : SlA m 1 rad 10 rc (rxs.map (.int .i64))) (hfit : ∀ c, -9223372036854775808 ≤ rxs.getD c 0 ∧ rxs.getD c 0 < 9223372036854775808)
    (t4 : t 4 = .map (some ab)) (t5 : t 5 = .map (some mb)) (t6 : t 6 = .map (some pb)) (t9 : t 9 = .slice rad 10 rc) (t10 : t 10 = .int .i64 e) {K : Post3}
    (hK : ∀ t' m', Agree (writes c_sheafref16_Round_5) t t' → IMap m' ab (updM fa e (W (x + rxs.getD 4 0))) → IMap m' mb (updM fm e (W (y + rxs.getD 9 0))) → IMap m' pb (updM fp e (vI (rxs.getD 7 0))) → m.size ≤ m'.size → (∀ i, i < m.size → i ≠ ab → i ≠ mb → i ≠ pb → m'.get i = m.get i) → K .normal t' m') :
    wpM E F_sheafref16_Round 113 rd c_sheafref16_Round_5 K t m := by
  refine wpM_cut (fun t' m' => IMap m' ab (updM fa e (W (x + rxs.getD 4 0))) ∧ IMap m' mb (updM fm e (W (y + rxs.getD 9 0))) ∧ IMap m' pb (updM fp e (vI (rxs.getD 7 0))) ∧ m.size ≤ m'.size ∧ (∀ i, i < m.size → i ≠ ab → i ≠ mb → i ≠ pb → m'.get i = m.get i)) ?_ fun t' m' ha ⟨h1, h2, h3, h4, h5⟩ => hK t' m' ha h1 h2 h3 h4 h5
  have hlen : rxs.length = 10 := by have := hsl.len; simpa using this
  have lab := Qa.blk
  have lmb := Qm.blk
  have lpb := Qp.blk
  obtain ⟨gb, go, gs, rfl⟩ := hsl.addr (by omega)
  have q : ∀ mm, SlA mm 1 (some ⟨gb, go, gs⟩) 10 rc (rxs.map (.int .i64)) → ∀ j, j < 10 → mm.at gb (go + j) = some (.int .i64 (rxs.getD j 0)) := fun mm h j hj => by
    have := h.at_map hj
    rw [show rxs.getD j 0 = rxs[j]'(by omega) by simp [List.getD_eq_getElem?_getD, List.getElem?_eq_getElem (show j < rxs.length by omega)]]
    exact this
  have hgb : ∃ ro tg cs, m.get gb = some (.cells ro tg cs) := by
    obtain ⟨ro, tg, cs, g, _⟩ := (hsl.rows _ rfl (by intro e; rw [List.map_eq_nil_iff] at e; rw [e] at hlen; cases hlen)).blk
    exact ⟨ro, tg, cs, g⟩
  have nab : gb ≠ ab := fun e => by subst e; obtain ⟨_, _, _, h⟩ := hgb; obtain ⟨_, _, h1, _⟩ := Qa; rw [h] at h1; cases h1
  have nmb : gb ≠ mb := fun e => by subst e; obtain ⟨_, _, _, h⟩ := hgb; obtain ⟨_, _, h1, _⟩ := Qm; rw [h] at h1; cases h1
  have npb : gb ≠ pb := fun e => by subst e; obtain ⟨_, _, _, h⟩ := hgb; obtain ⟨_, _, h1, _⟩ := Qp; rw [h] at h1; cases h1
  have lgb : gb < m.size := by obtain ⟨_, _, _, h⟩ := hgb; exact getM_lt h
  have slK : ∀ mm : Mem, mm.get gb = m.get gb → SlA mm 1 (some ⟨gb, go, gs⟩) 10 rc (rxs.map (.int .i64)) := fun mm h => hsl.keep fun b hb _ => by cases hb; exact h
  have q7 : m.at gb (go + Int.toNat 7) = _ := q m hsl 7 (by omega)
  obtain ⟨m1, hu1, Qp1, s1, g1⟩ := Qp.upd imap68 e (vI (rxs.getD 7 0))
  have Qa1 : IMap m1 ab fa := Qa.keep (g1 ab hne.2.1)
  have Qm1 : IMap m1 mb fm := Qm.keep (g1 mb hne.2.2)
  have look1 := Qa1.look imap93 e
  rw [hx] at look1
  have q4 : m1.at gb (go + Int.toNat 4) = _ := q m1 (slK m1 (g1 gb npb)) 4 (by omega)
  simp (decide := true) (implicitDefEqProofs := false) (maxDischargeDepth := 20) only [go_sem, ↓reduceIte, t4, t5, t6, t9, t10, q7, hu1, look1, q4, Option.map_some, true_implies, false_implies]
  refine ((rOf_ans (rxs.getD 4 0) (hfit 4).1 (hfit 4).2) _).mono ?_
  rintro w m2 ⟨rfl, o2⟩
  obtain ⟨el, rfl, -⟩ := o2.ugm
  have o2 : Old m1 (m1.ext el) := ⟨el, rfl⟩
  simp (decide := true) (implicitDefEqProofs := false) (maxDischargeDepth := 20) only [go_sem, ↓reduceIte, true_implies, false_implies]
  generalize m1.ext el = m2 at *
  refine ((rAdd_ans x (rxs.getD 4 0)) _).mono ?_
  rintro w m3 ⟨rfl, o3⟩
  have o13 := o2.trans o3
  have s13 := o13.size
  have Qa3 : IMap m3 ab fa := Qa1.keep (o13.get (by omega))
  obtain ⟨m4, hu4, Qa4, s4, g4⟩ := Qa3.upd imap93 e (W (x + rxs.getD 4 0))
  have k4 : ∀ i, i < m.size → i ≠ ab → i ≠ pb → m4.get i = m.get i := fun i hi h1 h2 => by rw [g4 i h1, o13.get (by omega), g1 i h2]
  have Qm4 : IMap m4 mb fm := Qm.keep (k4 mb lmb hne.1.symm hne.2.2)
  have look4 := Qm4.look imap93 e
  rw [hy] at look4
  have q9 : m4.at gb (go + Int.toNat 9) = _ := q m4 (slK m4 (k4 gb lgb nab npb)) 9 (by omega)
  simp (decide := true) (implicitDefEqProofs := false) (maxDischargeDepth := 20) only [go_sem, ↓reduceIte, t4, t5, t6, t9, t10, hu4, look4, q9, Option.map_some, true_implies, false_implies]
  refine ((rOf_ans (rxs.getD 9 0) (hfit 9).1 (hfit 9).2) _).mono ?_
  rintro w m5 ⟨rfl, o5⟩
  obtain ⟨el, rfl, -⟩ := o5.ugm
  have o5 : Old m4 (m4.ext el) := ⟨el, rfl⟩
  simp (decide := true) (implicitDefEqProofs := false) (maxDischargeDepth := 20) only [go_sem, ↓reduceIte, true_implies, false_implies]
  generalize m4.ext el = m5 at *
  refine ((rAdd_ans y (rxs.getD 9 0)) _).mono ?_
  rintro w m6 ⟨rfl, o6⟩
  have o46 := o5.trans o6
  have s46 := o46.size
  have Qm6 : IMap m6 mb fm := Qm4.keep (o46.get (by omega))
  obtain ⟨m7, hu7, Qm7, s7, g7⟩ := Qm6.upd imap93 e (W (y + rxs.getD 9 0))
  simp (decide := true) (implicitDefEqProofs := false) (maxDischargeDepth := 20) only [go_sem, ↓reduceIte, hu7, Option.map_some, true_implies, false_implies]
  refine ⟨Qa4.keep (by rw [g7 ab hne.1, o46.get (by omega)]), Qm7, Qp1.keep (by rw [g7 pb hne.2.2.symm, o46.get (by omega), g4 pb hne.2.1.symm, o13.get (by omega)]), by omega, fun i hi h1 h2 h3 => ?_⟩
  rw [g7 i h2, o46.get (by omega), k4 i hi h1 h3]

attribute [-go_sem] c_sheafref16_Round_3_at c_sheafref16_Round_5_at in
set_option maxRecDepth 100000 in
set_option maxHeartbeats 8000000 in
theorem Srd_lines {m0 : Mem} {t : Fr} {a0 : Option Addr} {n c0 ab mb pb : Nat} {rs : List HRow} {p : Int} (hs : SlA m0 1 a0 n c0 (rs.map HRow.v)) (hr : ∀ r ∈ rs, r.At m0) (h10 : ∀ r ∈ rs, r.n = 10) (hn : n ≤ 30) (hp : ∀ r ∈ rs.map HRow.xs, r.getD 7 0 = p * r.getD 1 0)
    (hab : IMap m0 ab fun _ => none) (hmb : IMap m0 mb fun _ => none) (hpb : IMap m0 pb fun _ => none) (hne : ab ≠ mb ∧ ab ≠ pb ∧ mb ≠ pb)
    (t23 : t 23 = .slice a0 n c0) (t24 : t 24 = vI (n : Nat)) (t25 : t 25 = vI 0) (t4 : t 4 = .map (some ab)) (t5 : t 5 = .map (some mb)) (t6 : t 6 = .map (some pb)) (t7 : t 7 = .slice none 0 0) {K : Post3}
    (hK : ∀ t' m' a ps ids, Agree (writes c_sheafref16_Round_14) t t' → t' 7 = .slice a ps.length ps.length → DocL m0 m' ab mb pb (rs.map HRow.xs) p n a ps ids → K .normal t' m') :
    wpM E F_sheafref16_Round 113 none c_sheafref16_Round_14 K t m0 := by
  refine wpM_cut (fun t' m' => ∃ a ps ids, t' 7 = .slice a ps.length ps.length ∧ DocL m0 m' ab mb pb (rs.map HRow.xs) p n a ps ids) ?_ fun t' m' ha ⟨a, ps, ids, h0, h1⟩ => hK t' m' a ps ids ha h0 h1
  have hl : rs.length = n := by have := hs.len; simpa using this
  obtain ⟨L, hL⟩ : ∃ L, L = rs.map HRow.xs := ⟨_, rfl⟩
  have hLl : L.length = n := by rw [hL, List.length_map, hl]
  rw [← hL] at hp ⊢
  simp only [c_sheafref16_Round_14_at, wpM_block, c_sheafref16_Round_13_at]
  have lab := hab.blk
  have lmb := hmb.blk
  have lpb := hpb.blk
  refine wpM_loopA (fun j t' m' => ∃ k a ps ids, k ≤ n ∧ j = n - k ∧ t' 25 = vI (k : Nat) ∧ t' 7 = .slice a ps.length ps.length ∧ DocL m0 m' ab mb pb L p k a ps ids) n
    ⟨0, none, [], [], by omega, rfl, t25, t7, ⟨.nil _ _ _, ⟨fun p h => by simp at h, fun p h => by simp at h, fun p h => by simp at h, by simp⟩, rfl, fun q h => by simp at h, List.nodup_nil, Nat.le_refl _, fun e => by simp, ⟨_, hab, fun e => rfl⟩, ⟨_, hmb, fun e => rfl⟩, ⟨_, hpb, fun e => rfl⟩, Nat.le_refl _, fun _ _ _ _ _ => rfl⟩⟩ ?_
  rintro j t' m' ha ⟨k, a, ps, ids, hk, rfl, e25, e7, H⟩
  have e23 := (ha 23 (by decide +kernel)).trans t23
  have e24 := (ha 24 (by decide +kernel)).trans t24
  have e4 := (ha 4 (by decide +kernel)).trans t4
  have e5 := (ha 5 (by decide +kernel)).trans t5
  have e6 := (ha 6 (by decide +kernel)).trans t6
  have hsz := H.size
  have hnm : ∀ b, b < m0.size → (∃ ro tg cs, m0.get b = some (.cells ro tg cs)) → b ≠ ab ∧ b ≠ mb ∧ b ≠ pb := fun b hb ⟨ro, tg, cs, hc⟩ => by
    refine ⟨fun e => ?_, fun e => ?_, fun e => ?_⟩
    · subst e; obtain ⟨_, _, h1, _⟩ := hab; rw [hc] at h1; cases h1
    · subst e; obtain ⟨_, _, h1, _⟩ := hmb; rw [hc] at h1; cases h1
    · subst e; obtain ⟨_, _, h1, _⟩ := hpb; rw [hc] at h1; cases h1
  by_cases hlt : k < n
  · have d1 : decide ((k : Int) < (n : Int)) = true := by simp; omega
    have w1 : IntKind.wrap .i64 ((k : Int) + 1) = ((k + 1 : Nat) : Int) := by rw [wrap_i64_id _ (by omega) (by omega)]; omega
    have z0 : (0 : Int) ≤ (k : Int) := by omega
    have z1 : (k : Int) < (n : Int) := by omega
    have keepC : ∀ b, (∃ ro tg cs, m0.get b = some (.cells ro tg cs)) → m'.get b = m0.get b := fun b hc => by
      obtain ⟨ro, tg, cs, h⟩ := hc
      have := hnm b (getM_lt h) ⟨ro, tg, cs, h⟩
      exact H.keep b (getM_lt h) this.1 this.2.1 this.2.2
    have blkC : ∀ {sz : Nat} {ad : Option Addr} {q c : Nat} {xs : List Value} (h : SlA m0 sz ad q c xs) (b : Addr), ad = some b → xs ≠ [] → ∃ ro tg cs, m0.get b.block = some (.cells ro tg cs) := fun h b hb hx => by
      obtain ⟨ro, tg, cs, g, _⟩ := (h.rows b hb hx).blk
      exact ⟨ro, tg, cs, g⟩
    have hS : SlA m' 1 a0 n c0 (rs.map HRow.v) := hs.keep fun b hb hx => keepC _ (blkC hs b hb hx)
    obtain ⟨sb, so, ssp, rfl⟩ := hS.addr (by omega)
    have r0 : m'.at sb (so + k) = some (HRow.v (rs[k]'(by omega))) := hS.at_map hlt
    have hm : rs[k]'(by omega) ∈ rs := List.getElem_mem _
    have hA0 := hr _ hm
    have hAt : (rs[k]'(by omega)).At m' := hA0.keep fun b hb hx => keepC _ (blkC hA0.sl b hb (by simpa using hx))
    have hn10 := h10 _ hm
    have eLk : L.getD k [] = (rs[k]'(by omega)).xs := by subst hL; simp [List.getD_eq_getElem?_getD, show k < rs.length by omega]
    have hcs := colS_take 4 L (k := k) (by omega)
    have hcm := colS_take 9 L (k := k) (by omega)
    have htk := take1 L (i := k) (by omega)
    have hpk := hp (rs[k]'(by omega)).xs (by subst hL; exact List.mem_map.2 ⟨_, hm, rfl⟩)
    rw [eLk] at hcs hcm htk
    generalize rs[k]'(by omega) = r at *
    obtain ⟨rad, rn, rc, rxs⟩ := r
    simp only at hn10 hcs hcm htk hpk
    subst hn10
    have hrl : rxs.length = 10 := hAt.len
    have hsl : SlA m' 1 rad 10 rc (rxs.map (.int .i64)) := hAt.sl
    obtain ⟨gb, go, gs, rfl⟩ := hsl.addr (by omega)
    have r0' : m'.at sb (so + k) = some (.slice (some ⟨gb, go, gs⟩) 10 rc) := r0
    have q : ∀ mm, SlA mm 1 (some ⟨gb, go, gs⟩) 10 rc (rxs.map (.int .i64)) → ∀ j, j < 10 → mm.at gb (go + j) = some (.int .i64 (rxs.getD j 0)) := fun mm h j hj => by
      have := h.at_map hj
      rw [show rxs.getD j 0 = rxs[j]'(by omega) by simp [List.getD_eq_getElem?_getD, List.getElem?_eq_getElem (show j < rxs.length by omega)]]
      exact this
    have q1 : m'.at gb (go + Int.toNat 1) = _ := q m' hsl 1 (by omega)
    have q7 : m'.at gb (go + Int.toNat 7) = _ := q m' hsl 7 (by omega)
    have hfit : ∀ c, -9223372036854775808 ≤ rxs.getD c 0 ∧ rxs.getD c 0 < 9223372036854775808 := fun c => by
      rw [List.getD_eq_getElem?_getD]
      cases hg : rxs[c]? with
      | none => exact ⟨by decide, by decide⟩
      | some v => exact hAt.bd v (List.mem_of_getElem? hg)
    obtain ⟨e, he⟩ : ∃ e, e = rxs.getD 1 0 := ⟨_, rfl⟩
    obtain ⟨fp, Qp, hfp⟩ := H.pa
    obtain ⟨fa, Qa, hfa⟩ := H.am
    obtain ⟨fm, Qm, hfm⟩ := H.mo
    have hel : ps.length = ids.length := by have := congrArg List.length H.xs; simpa using this
    have hil := H.len
    have hfit1 := hfit 1
    rw [← he] at hfit1 hcs hcm q1 hpk
    simp (decide := true) (implicitDefEqProofs := false) (maxDischargeDepth := 20) only [go_sem, ↓reduceIte, e23, e24, e25, d1, z0, z1, r0', q1, Int.toNat_natCast, true_implies, false_implies]
    refine Srd_order (B := m0.size) (e := e) H.size H.vec H.own H.xs H.dis (by omega) Qp (by rw [hfp]; by_cases h : e ∈ ids <;> simp [h]) hfit1 (by simp (decide := true) only [go_sem, e6, ↓reduceIte]) (by simp (decide := true) only [go_sem, ↓reduceIte]) (by simp (decide := true) only [go_sem, e7, ↓reduceIte]) fun t2 m2 a2 ps2 ids2 hag f7 hids V2 O2 xs2 dis2 s2 k2 => ?_
    have f4 := hag 4 (by decide +kernel)
    have f5 := hag 5 (by decide +kernel)
    have f6 := hag 6 (by decide +kernel)
    have f9 := hag 9 (by decide +kernel)
    have f10 := hag 10 (by decide +kernel)
    have f25 := hag 25 (by decide +kernel)
    simp (decide := true) only [go_sem, e4, e5, e6, e25, ↓reduceIte] at f4 f5 f6 f9 f10 f25
    clear hag
    have hnb : ∀ i, i < m0.size → ∀ y, a = some y → i ≠ y.block := fun i hi y hy e => by have := (H.vec.blk y hy).1; omega
    have Qa2 : IMap m2 ab fa := Qa.keep (k2 ab (by omega) (hnb ab lab))
    have Qm2 : IMap m2 mb fm := Qm.keep (k2 mb (by omega) (hnb mb lmb))
    have Qp2 : IMap m2 pb fp := Qp.keep (k2 pb (by omega) (hnb pb lpb))
    have hrb : ∀ b, (some (⟨gb, go, gs⟩ : Addr)) = some b → rxs.map (Value.int .i64) ≠ [] → b.block < m0.size := fun b hb hx => (hA0.sl.rows b hb hx).lt
    have hsl2 : SlA m2 1 (some ⟨gb, go, gs⟩) 10 rc (rxs.map (.int .i64)) := hsl.keep fun b hb hx => k2 _ (by have := hrb b hb hx; omega) (hnb _ (hrb b hb hx))
    simp (decide := true) (implicitDefEqProofs := false) (maxDischargeDepth := 20) only [go_sem, ↓reduceIte, true_implies, false_implies]
    refine Srd_maps (x := colS 4 (ofE (L.take k) e)) (y := colS 9 (ofE (L.take k) e)) Qa2 Qm2 Qp2 hne (hfa e) (hfm e) hsl2 hfit f4 f5 f6 f9 f10 fun t3 m3 hag3 Qa3 Qm3 Qp3 s3 k3 => ?_
    have g7 := hag3 7 (by decide +kernel)
    have g25 := hag3 25 (by decide +kernel)
    rw [f7] at g7
    rw [f25] at g25
    simp (decide := true) (implicitDefEqProofs := false) (maxDischargeDepth := 20) only [go_sem, ↓reduceIte, g7, g25, w1, true_implies, false_implies]
    have k30 : ∀ i, i < m0.size → i ≠ ab → i ≠ mb → i ≠ pb → m3.get i = m0.get i := fun i hi h1 h2 h3 => by rw [k3 i (by omega) h1 h2 h3, k2 i (by omega) (hnb i hi), H.keep i hi h1 h2 h3]
    refine ⟨n - (k + 1), by omega, k + 1, a2, ps2, ids2, by omega, rfl, rfl, rfl, ?_⟩
    have k32 : ∀ i, i < m2.size → m0.size ≤ i → m3.get i = m2.get i := fun i hi hlo => k3 i hi (by omega) (by omega) (by omega)
    refine ⟨V2.keep fun y hy => k32 _ (V2.lt hy) (V2.blk y hy).1, O2.keep fun q hq => k32 _ (O2.lt q hq) (O2.lo q hq), xs2, dis2, ?_, ?_, fun x => ?_, ⟨_, Qa3, fun x => ?_⟩, ⟨_, Qm3, fun x => ?_⟩, ⟨_, Qp3, fun x => ?_⟩, by omega, k30⟩
    · rw [hids]
      by_cases h : e ∈ ids
      · rw [if_pos h]; exact H.nd
      · rw [if_neg h, List.nodup_append]
        exact ⟨H.nd, by simp, fun x hx y hy => by simp at hy; subst hy; exact fun k => h (k ▸ hx)⟩
    · rw [hids]
      split
      · omega
      · simp; omega
    · rw [htk, hids]
      have hm0 := H.mem x
      constructor
      · intro hx
        by_cases h : e ∈ ids
        · rw [if_pos h] at hx
          obtain ⟨r, h1, h2⟩ := hm0.1 hx
          exact ⟨r, List.mem_append.2 (.inl h1), h2⟩
        · rw [if_neg h] at hx
          rcases List.mem_append.1 hx with hx | hx
          · obtain ⟨r, h1, h2⟩ := hm0.1 hx
            exact ⟨r, List.mem_append.2 (.inl h1), h2⟩
          · rw [List.mem_singleton.1 hx]
            exact ⟨rxs, List.mem_append.2 (.inr List.mem_cons_self), he.symm⟩
      · rintro ⟨r, h1, h2⟩
        have hin : x ∈ ids ∨ x = e := by
          rcases List.mem_append.1 h1 with h1 | h1
          · exact .inl (hm0.2 ⟨r, h1, h2⟩)
          · rw [List.mem_singleton.1 h1] at h2
            exact .inr (h2.symm.trans he.symm)
        by_cases h : e ∈ ids
        · rw [if_pos h]
          rcases hin with h3 | rfl
          · exact h3
          · exact h
        · rw [if_neg h]
          rcases hin with h3 | rfl
          · exact List.mem_append.2 (.inl h3)
          · exact List.mem_append.2 (.inr List.mem_cons_self)
    · rw [hcs]
      unfold updM
      by_cases h : x = e
      · rw [if_pos h, if_pos h, h]; rfl
      · rw [if_neg h, if_neg h]; exact hfa x
    · rw [hcm]
      unfold updM
      by_cases h : x = e
      · rw [if_pos h, if_pos h, h]; rfl
      · rw [if_neg h, if_neg h]; exact hfm x
    · rw [hids]
      unfold updM
      by_cases h : x = e
      · subst h
        rw [if_pos rfl, hpk, if_pos]
        split
        · assumption
        · exact List.mem_append.2 (.inr List.mem_cons_self)
      · rw [if_neg h, hfp]
        by_cases h2 : e ∈ ids
        · rw [if_pos h2]
        · rw [if_neg h2]
          by_cases h3 : x ∈ ids
          · rw [if_pos h3, if_pos (List.mem_append.2 (.inl h3))]
          · rw [if_neg h3, if_neg (fun k => by rcases List.mem_append.1 k with k | k; exact h3 k; exact h (List.mem_singleton.1 k))]
  · have hkk : k = n := by omega
    subst hkk
    have d1 : decide ((k : Int) < (k : Int)) = false := by simp
    simp (decide := true) (implicitDefEqProofs := false) (maxDischargeDepth := 20) only [go_sem, ↓reduceIte, e24, e25, d1, true_implies, false_implies]
    exact ⟨a, ps, ids, e7, H⟩


/-! ### SrdC -/

/-- A piece that ends, or returns. -/
def finX (N R : Fr → Mem → Prop) : Post3
  | .normal => N
  | .ret => R
  | _ => fun _ _ => False
@[go_sem] theorem finX_normal (N R : Fr → Mem → Prop) : finX N R .normal = N := rfl
@[go_sem] theorem finX_ret (N R : Fr → Mem → Prop) : finX N R .ret = R := rfl
theorem wpM_cutX {E : Env} {f n : Nat} {rd : Option Nat} {c : MC} {K : Post3} {t : Fr} {m : Mem} (P : Post3) (h : wpM E f n rd c P t m) (k : ∀ x t' m', Agree (writes c) t t' → P x t' m' → K x t' m') : wpM E f n rd c K t m :=
  wpM_mono c _ _ (fun x t' m' hk => k x t' m' hk.1 hk.2) t m (wpM_agree c t m (.refl _ _) (fun i hi => hi) h)

theorem rInt_intA (x : Int) (h : -170141183460469231731687303715884105728 ≤ x) (h' : x < 170141183460469231731687303715884105728) : Ans E F_sheafref1_Int [W x] (intA x) := rInt_ans x h h'

set_option maxRecDepth 100000 in
set_option maxHeartbeats 8000000 in
theorem Srd_out {m0 : Mem} {t : Fr} {aS : Option Addr} {N cS ab mb pb : Nat} {qs : List (Nat × List Int)} {is : List Int} {L : List (List Int)} {p : Int} (hS : SlA m0 1 aS N cS ((qs.map rowH).map HRow.v)) (hq : ∀ q ∈ qs, (rowH q).At m0) (his : qs.map Prod.snd = is.map fun e => [e]) (hN : N ≤ 30)
    (ham : ∃ f, IMap m0 ab f ∧ ∀ e, (f e).getD (W 0) = W (colS 4 (ofE L e))) (hmo : ∃ f, IMap m0 mb f ∧ ∀ e, (f e).getD (W 0) = W (colS 9 (ofE L e))) (hpa : ∃ f, IMap m0 pb f ∧ ∀ e ∈ is, (f e).getD (vI 0) = vI (p * e)) (hmid : ∀ e ∈ is, midE (colS 4 (ofE L e)) ∧ midE (colS 9 (ofE L e))) (hfit : ∀ e ∈ is, fitE e ∧ fitE (p * e))
    (t72 : t 72 = .slice aS N cS) (t73 : t 73 = vI (N : Nat)) (t74 : t 74 = vI 0) (t13 : t 13 = .slice none 0 0) (t14 : t 14 = .bool false) (t4 : t 4 = .map (some ab)) (t5 : t 5 = .map (some mb)) (t6 : t 6 = .map (some pb)) {K : Post3}
    (hK1 : ∀ t' m' a ps ov, Agree (writes c_sheafref16_Round_32) t t' → t' 14 = .bool ov → t' 13 = .slice a ps.length ps.length → Vec m0.size m' 1 a ps.length ((ps.map rowH).map HRow.v) → Own2 m0.size m' ps → docN false [] (is.map (entE p L)) = docN ov (ps.map Prod.snd) [] → Old m0 m' → K .normal t' m')
    (hK2 : ∀ t' m', t' 2 = .slice none 0 0 → t' 3 = .int .i64 4 → docN false [] (is.map (entE p L)) = ([], 4) → Old m0 m' → K .ret t' m') :
    wpM E F_sheafref16_Round 113 none c_sheafref16_Round_32 K t m0 := by
  refine wpM_cutX (finX (fun t' m' => ∃ a ps ov, t' 14 = .bool ov ∧ t' 13 = .slice a ps.length ps.length ∧ Vec m0.size m' 1 a ps.length ((ps.map rowH).map HRow.v) ∧ Own2 m0.size m' ps ∧ docN false [] (is.map (entE p L)) = docN ov (ps.map Prod.snd) [] ∧ Old m0 m')
      fun t' m' => t' 2 = .slice none 0 0 ∧ t' 3 = .int .i64 4 ∧ docN false [] (is.map (entE p L)) = ([], 4) ∧ Old m0 m') ?_ fun x t' m' ha hk => (by
    cases x with
    | normal =>
      obtain ⟨a, ps, ov, h1, h2, h3, h4, h5, h6⟩ := hk
      exact hK1 t' m' a ps ov ha h1 h2 h3 h4 h5 h6
    | ret =>
      obtain ⟨h1, h2, h3, h4⟩ := hk
      exact hK2 t' m' h1 h2 h3 h4
    | _ => exact hk.elim)
  have hql : qs.length = N := by have := hS.len; simpa using this
  have hil : is.length = N := by have := congrArg List.length his; simp at this; omega
  obtain ⟨fa, Qa, hfa⟩ := ham
  obtain ⟨fm, Qm, hfm⟩ := hmo
  obtain ⟨fp, Qp, hfp⟩ := hpa
  obtain ⟨es, hes⟩ : ∃ x, x = is.map (entE p L) := ⟨_, rfl⟩
  have hel : es.length = N := by rw [hes, List.length_map, hil]
  rw [← hes]
  simp only [c_sheafref16_Round_32_at, wpM_block, c_sheafref16_Round_31_at]
  refine wpM_loopA (fun j t' m' => ∃ (k : Nat) (a : Option Addr) (ps : List (Nat × List Int)) (ov : Bool), k ≤ N ∧ j = N - k ∧ ps.length ≤ k ∧ t' 74 = vI (k : Nat) ∧ t' 14 = .bool ov ∧ t' 13 = .slice a ps.length ps.length ∧ Vec m0.size m' 1 a ps.length ((ps.map rowH).map HRow.v) ∧ Own2 m0.size m' ps ∧ (∀ q ∈ ps, ∀ y, a = some y → q.1 ≠ y.block) ∧ docN false [] es = docN ov (ps.map Prod.snd) (es.drop k) ∧ Old m0 m') N
    ⟨0, none, [], false, by omega, rfl, by simp, t74, t14, t13, .nil _ _ _, ⟨fun p h => by simp at h, fun p h => by simp at h, fun p h => by simp at h, by simp⟩, fun q h => by simp at h, rfl, .refl _⟩ ?_
  rintro j t' m' ha ⟨k, a, ps, ov, hk, rfl, hpk, e74, e14, e13, V, O, hdis, hdoc, o⟩
  have e72 := (ha 72 (by decide +kernel)).trans t72
  have e73 := (ha 73 (by decide +kernel)).trans t73
  have e4 := (ha 4 (by decide +kernel)).trans t4
  have e5 := (ha 5 (by decide +kernel)).trans t5
  have e6 := (ha 6 (by decide +kernel)).trans t6
  have hsz := o.size
  by_cases hlt : k < N
  · have d1 : decide ((k : Int) < (N : Int)) = true := by simp; omega
    have w1 : IntKind.wrap .i64 ((k : Int) + 1) = ((k + 1 : Nat) : Int) := by rw [wrap_i64_id _ (by omega) (by omega)]; omega
    have z0 : (0 : Int) ≤ (k : Int) := by omega
    have z1 : (k : Int) < (N : Int) := by omega
    obtain ⟨sb, so, ssp, rfl⟩ := hS.addr (by omega)
    have r0 : m'.at sb (so + k) = some (HRow.v (rowH (qs[k]'(by omega)))) := by
      have := (hS.old o).at_map (show k < N by omega)
      rw [this]
      simp
    have hqm : qs[k]'(by omega) ∈ qs := List.getElem_mem _
    have hA := (hq _ hqm).old o
    have hqx : (qs[k]'(by omega)).2 = [is[k]'(by omega)] := by
      have h1 : (qs.map Prod.snd)[k]? = some (qs[k]'(by omega)).2 := by simp [show k < qs.length by omega]
      rw [his] at h1
      simpa [show k < is.length by omega] using h1.symm
    have him : is[k]'(by omega) ∈ is := List.getElem_mem _
    have hdk : es.drop k = entE p L (is[k]'(by omega)) :: es.drop (k + 1) := by
      rw [List.drop_eq_getElem_cons (by omega)]
      congr 1
      simp only [hes, List.getElem_map]
    have hmidk := hmid _ him
    have hfitk := hfit _ him
    have hfpk := hfp _ him
    rw [hdk] at hdoc
    generalize qs[k]'(by omega) = q at *
    generalize is[k]'(by omega) = e at *
    obtain ⟨qb, qx⟩ := q
    simp only at hqx
    subst hqx
    have r0' : m'.at sb (so + k) = some (.slice (some ⟨qb, 0, none⟩) 1 1) := r0
    have r1 : m'.at qb (Int.toNat 0) = some (.int .i64 e) := by
      have := hA.sl.at_map (show 0 < 1 by omega)
      simpa [rowH] using this
    have Qa' : IMap m' ab fa := Qa.keep (o.get Qa.blk)
    have Qm' : IMap m' mb fm := Qm.keep (o.get Qm.blk)
    have look := Qa'.look imap93 e
    rw [hfa e] at look
    have look2 := Qm'.look imap93 e
    rw [hfm e] at look2
    obtain ⟨x, hx⟩ : ∃ x, x = colS 4 (ofE L e) := ⟨_, rfl⟩
    obtain ⟨y, hy⟩ : ∃ y, y = colS 9 (ofE L e) := ⟨_, rfl⟩
    have hent : entE p L e = ⟨e, p * e, x, y⟩ := by rw [hx, hy]; rfl
    rw [← hx] at look hmidk
    rw [← hy] at look2 hmidk
    rw [hent] at hdoc
    have hq0 := W_eq x 0 (by have := hmidk.1.1; omega) hmidk.1.2 (by decide) (by decide)
    rw [show IntKind.wrap .i64 ((0 : Int) / 18446744073709551616) = 0 by decide, show (0 : Int) % 18446744073709551616 = 0 by decide] at hq0
    by_cases hx0 : x = 0
    · rw [decide_eq_true hx0] at hq0
      simp only [W] at look
      simp (decide := true) (implicitDefEqProofs := false) (maxDischargeDepth := 20) only [go_sem, ↓reduceIte, e4, e5, e6, e72, e73, e74, e14, d1, z0, z1, r0', r1, look, hq0, look2, Int.toNat_natCast, true_implies, false_implies]
      refine (rOpp_at y).mono ?_
      rintro w m2 ⟨rfl, o2⟩
      simp (decide := true) (implicitDefEqProofs := false) (maxDischargeDepth := 20) only [go_sem, ↓reduceIte, true_implies, false_implies]
      refine ((rInt_intA (-y) (by have := hmidk.2.1; have := hmidk.2.2; omega) (by have := hmidk.2.1; omega)) m2).mono ?_
      rintro w m3 ⟨rfl, o3⟩
      have o13 := o2.trans o3
      have o03 := o.trans o13
      have s13 := o13.size
      rw [docN_good (by exact hx0)] at hdoc
      unfold intA
      by_cases hf : -9223372036854775808 ≤ -y ∧ -y < 9223372036854775808
      · rw [if_pos hf]
        have hov : ovE ov ⟨e, p * e, x, y⟩ = ov := by unfold ovE; rw [decide_eq_true (show fitE (-y) from hf)]; cases ov <;> rfl
        rw [hov] at hdoc
        by_cases hy0 : y = 0
        · rw [if_neg (fun k => k.2 hy0)] at hdoc
          have d2 : (-y != 0) = false := by rw [hy0]; rfl
          cases ov with
          | true =>
            simp (decide := true) (implicitDefEqProofs := false) (maxDischargeDepth := 20) only [go_sem, ↓reduceIte, e4, e5, e6, e13, e14, e74, d2, w1, true_implies, false_implies]
            exact ⟨N - (k + 1), by omega, k + 1, a, ps, true, by omega, rfl, by omega, rfl, rfl, rfl, V.old o13, O.old o13, hdis, hdoc, o03⟩
          | false =>
            simp (decide := true) (implicitDefEqProofs := false) (maxDischargeDepth := 20) only [go_sem, ↓reduceIte, e4, e5, e6, e13, e14, e74, d2, w1, true_implies, false_implies]
            exact ⟨N - (k + 1), by omega, k + 1, a, ps, false, by omega, rfl, by omega, rfl, rfl, rfl, V.old o13, O.old o13, hdis, hdoc, o03⟩
        · rw [if_pos ⟨hf, hy0⟩] at hdoc
          have d2 : (-y != 0) = true := by simp; omega
          have Qp3 : IMap m3 pb fp := Qp.keep (o03.get Qp.blk)
          have look3 := Qp3.look imap68 e
          rw [hfpk] at look3
          obtain ⟨rb, hrb⟩ : ∃ b, b = m3.size := ⟨_, rfl⟩
          obtain ⟨mp, hmp⟩ : ∃ mp, mp = m3.push (.cells false true [.int .i64 e, vI (p * e), .int .i64 9999, .int .i64 (-y)]) := ⟨_, rfl⟩
          have sp : mp.size = m3.size + 1 := by rw [hmp, size_push]
          have op : Old m' mp := by rw [hmp]; exact o13.push _
          have gr : mp.get rb = some (.cells false true ((rowE ⟨e, p * e, x, y⟩).map (.int .i64))) := by rw [hmp, hrb, getM_push, if_pos rfl]; rfl
          have hfin : StepQ E (val2? (appendV E (mp.push (.cells false true [.slice (some ⟨rb, 0, none⟩) 4 4])) 40 40 (.slice a ps.length ps.length) (.slice (some ⟨mp.size, 0, none⟩) 1 1))) fun v m5 => ∃ (a5 : Option Addr) (ps5 : List (Nat × List Int)), v = .slice a5 ps5.length ps5.length ∧ ps5.length ≤ k + 1 ∧ Vec m0.size m5 1 a5 ps5.length ((ps5.map rowH).map HRow.v) ∧ Own2 m0.size m5 ps5 ∧ (∀ q ∈ ps5, ∀ y, a5 = some y → q.1 ≠ y.block) ∧ docN false [] es = docN ov (ps5.map Prod.snd) (es.drop (k + 1)) ∧ Old m0 m5 := by
            have szp := op.size
            refine (V.old op).appendQ rfl (by omega) rfl (by decide) (by decide +kernel) (by decide +kernel) rfl (by omega) fun m5 b5 s5 v5 k5 hb5 => ?_
            have s5' := k5.1
            have hbx : ∀ x, a = some x → x.block < m'.size := fun x hx => V.lt hx
            have hpl' : (ps ++ [(rb, rowE ⟨e, p * e, x, y⟩)]).length = ps.length + 1 := by simp
            have Op := O.old op
            refine ⟨some ⟨b5, 0, s5⟩, ps ++ [(rb, rowE ⟨e, p * e, x, y⟩)], by rw [hpl'], by omega, ?_, ⟨fun q hq => ?_, fun q hq => ?_, fun q hq => ?_, ?_⟩, fun q hq z hz => ?_, ?_, V.keepOld ⟨Nat.le_trans op.size k5.1, fun i hi hne => ?_⟩ o⟩
            · rw [hpl', List.map_append, List.map_append]
              exact v5
            · rcases List.mem_append.1 hq with hq | hq
              · rw [k5.2 q.1 (Op.lt q hq) fun y hy e => hdis q hq y hy e]
                exact Op.get q hq
              · rw [List.mem_singleton.1 hq]
                show m5.get rb = _
                rw [k5.2 rb (getM_lt gr) fun y hy e => by have := hbx y hy; omega]
                exact gr
            · rcases List.mem_append.1 hq with hq | hq
              · exact O.bd q hq
              · rw [List.mem_singleton.1 hq]
                intro z hz
                simp only [rowE, List.mem_cons, List.not_mem_nil, or_false] at hz
                rcases hz with rfl | rfl | rfl | rfl
                · exact hfitk.1
                · exact hfitk.2
                · omega
                · exact hf
            · rcases List.mem_append.1 hq with hq | hq
              · exact O.lo q hq
              · rw [List.mem_singleton.1 hq]
                show m0.size ≤ rb
                omega
            · rw [List.map_append, List.nodup_append]
              refine ⟨O.dis, by simp, fun x hx y hy => ?_⟩
              obtain ⟨q, hq, rfl⟩ := List.mem_map.1 hx
              simp at hy
              have := O.lt q hq
              omega
            · cases hz
              rcases List.mem_append.1 hq with hq | hq
              · have := O.lt q hq
                show q.1 ≠ b5
                omega
              · rw [List.mem_singleton.1 hq]
                show rb ≠ b5
                omega
            · rw [hdoc, List.map_append]
              rfl
            · rw [k5.2 i (by omega) hne, op.get hi]
          have hms : mp.size = m3.size + 1 := sp
          cases ov with
          | true =>
            simp (decide := true) (implicitDefEqProofs := false) (maxDischargeDepth := 20) only [go_sem, ↓reduceIte, e4, e5, e6, e13, e14, e74, d2, w1, look3, true_implies, false_implies]
            rw [← hrb, ← hmp, show rb + 1 = mp.size by omega]
            refine hfin.mono ?_
            rintro v m5 ⟨a5, ps5, rfl, h1, h2, h3, h4, h5, h6⟩
            simp (decide := true) (implicitDefEqProofs := false) (maxDischargeDepth := 20) only [go_sem, ↓reduceIte, e14, e74, w1, true_implies, false_implies]
            exact ⟨N - (k + 1), by omega, k + 1, a5, ps5, true, by omega, rfl, h1, rfl, rfl, rfl, h2, h3, h4, h5, h6⟩
          | false =>
            simp (decide := true) (implicitDefEqProofs := false) (maxDischargeDepth := 20) only [go_sem, ↓reduceIte, e4, e5, e6, e13, e14, e74, d2, w1, look3, true_implies, false_implies]
            rw [← hrb, ← hmp, show rb + 1 = mp.size by omega]
            refine hfin.mono ?_
            rintro v m5 ⟨a5, ps5, rfl, h1, h2, h3, h4, h5, h6⟩
            simp (decide := true) (implicitDefEqProofs := false) (maxDischargeDepth := 20) only [go_sem, ↓reduceIte, e14, e74, w1, true_implies, false_implies]
            exact ⟨N - (k + 1), by omega, k + 1, a5, ps5, false, by omega, rfl, h1, rfl, rfl, rfl, h2, h3, h4, h5, h6⟩
      · rw [if_neg hf]
        have hov : ovE ov ⟨e, p * e, x, y⟩ = true := by unfold ovE; rw [decide_eq_false (show ¬ fitE (-y) from hf)]; cases ov <;> rfl
        rw [hov, if_neg (fun k => hf k.1)] at hdoc
        cases ov with
        | true =>
          simp (decide := true) (implicitDefEqProofs := false) (maxDischargeDepth := 20) only [go_sem, ↓reduceIte, e4, e5, e6, e13, e14, e74, w1, true_implies, false_implies]
          exact ⟨N - (k + 1), by omega, k + 1, a, ps, true, by omega, rfl, by omega, rfl, rfl, rfl, V.old o13, O.old o13, hdis, hdoc, o03⟩
        | false =>
          simp (decide := true) (implicitDefEqProofs := false) (maxDischargeDepth := 20) only [go_sem, ↓reduceIte, e4, e5, e6, e13, e14, e74, w1, true_implies, false_implies]
          exact ⟨N - (k + 1), by omega, k + 1, a, ps, true, by omega, rfl, by omega, rfl, rfl, rfl, V.old o13, O.old o13, hdis, hdoc, o03⟩
    · rw [decide_eq_false hx0] at hq0
      simp only [W] at look
      simp (decide := true) (implicitDefEqProofs := false) (maxDischargeDepth := 20) only [go_sem, ↓reduceIte, e4, e5, e6, e72, e73, e74, e14, d1, z0, z1, r0', r1, look, hq0, Int.toNat_natCast, true_implies, false_implies]
      rw [docN_bad hx0] at hdoc
      exact ⟨hdoc, o⟩
  · have hkk : k = N := by omega
    subst hkk
    have d1 : decide ((k : Int) < (k : Int)) = false := by simp
    rw [List.drop_of_length_le (by omega)] at hdoc
    simp (decide := true) (implicitDefEqProofs := false) (maxDischargeDepth := 20) only [go_sem, ↓reduceIte, e73, e74, d1, true_implies, false_implies]
    exact ⟨a, ps, ov, e14, e13, V, O, hdoc, o⟩


/-! ### SrdD -/

theorem cmp1_le {x y : Int} (h : cmpL [x] [y] [] ≤ 0) : x ≤ y := by
  have e : cmpL [x] [y] [] = firstN [cmpI x y] := rfl
  rw [e] at h
  by_cases hxy : x ≤ y
  · exact hxy
  · have : cmpI x y = 1 := by
      unfold cmpI
      split
      · omega
      · split
        · rfl
        · omega
    rw [this] at h
    exact absurd h (by decide)

set_option maxRecDepth 100000 in
set_option maxHeartbeats 8000000 in
theorem RRound_at {m : Mem} {a0 : Option Addr} {n c0 : Nat} {rs : List HRow} {p : Int} (hs : SlA m 1 a0 n c0 (rs.map HRow.v)) (hr : ∀ r ∈ rs, r.At m) (h10 : ∀ r ∈ rs, r.n = 10) (L4 : Ln4 p (rs.map HRow.xs)) (hp : 0 ≤ p ∧ p ≤ 100000) :
    CallQ E F_sheafref16_Round [.slice a0 n c0].toArray m fun w m' => ∃ (aw : Option Addr) (ps : List (Nat × List Int)), w = .tuple #[.slice aw ps.length ps.length, .int .i64 (docN false [] (entL (rs.map HRow.xs))).2] ∧ Vec m.size m' 1 aw ps.length ((ps.map rowH).map HRow.v) ∧ Own2 m.size m' ps ∧ ps.map Prod.snd = (docN false [] (entL (rs.map HRow.xs))).1 ∧ Old m m' := by
  refine .enter fn_sheafref16_Round (by simp) ?_
  have hl : rs.length = n := by have := hs.len; simpa using this
  have hn : n ≤ 30 := by have := L4.len; simpa [hl] using this
  have mk : ∀ mm : Mem, makeMapV E mm 68 none = some (.map (some mm.size), mm.push (.map [] 0)) := fun mm => makeMapV_int imap68
  have mk2 : ∀ mm : Mem, makeMapV E mm 93 none = some (.map (some mm.size), mm.push (.map [] 0)) := fun mm => makeMapV_int imap93
  simp (decide := true) (implicitDefEqProofs := false) (maxDischargeDepth := 20) only [go_sem, mk, mk2, Option.map_none, ↓reduceIte, true_implies, false_implies]
  obtain ⟨m1, hm1⟩ : ∃ m1, m1 = ((m.push (.map [] 0)).push (.map [] 0)).push (.map [] 0) := ⟨_, rfl⟩
  obtain ⟨ab, hab⟩ : ∃ b, b = m.size := ⟨_, rfl⟩
  obtain ⟨mb, hmb⟩ : ∃ b, b = m.size + 1 := ⟨_, rfl⟩
  obtain ⟨pb, hpb⟩ : ∃ b, b = m.size + (1 + 1) := ⟨_, rfl⟩
  have gA : m1.get ab = some (.map [] 0) := by rw [hm1, getM_push, if_neg (by simp only [size_push]; omega), getM_push, if_neg (by simp only [size_push]; omega), getM_push, if_pos hab]
  have gM : m1.get mb = some (.map [] 0) := by rw [hm1, getM_push, if_neg (by simp only [size_push]; omega), getM_push, if_pos (by simp only [size_push]; omega)]
  have gP : m1.get pb = some (.map [] 0) := by rw [hm1, getM_push, if_pos (by simp only [size_push]; omega)]
  have o1 : Old m m1 := by rw [hm1]; exact .push (.push (.push (.refl m) _) _) _
  have s1 : m1.size = m.size + 3 := by rw [hm1, size_push, size_push, size_push]
  rw [← hm1, ← hpb, ← hmb, ← hab]
  obtain ⟨L, hL⟩ : ∃ L, L = rs.map HRow.xs := ⟨_, rfl⟩
  refine Srd_lines (p := p) (ab := ab) (mb := mb) (pb := pb) (hs.old o1) (fun r hx => (hr r hx).old o1) h10 hn (fun r hx => L4.parts r hx) (.new gA) (.new gM) (.new gP) (by omega)
    (by simp (decide := true) only [go_sem, ↓reduceIte]) (by simp (decide := true) only [go_sem, ↓reduceIte]) (by simp (decide := true) only [go_sem, ↓reduceIte]) (by simp (decide := true) only [go_sem, ↓reduceIte]) (by simp (decide := true) only [go_sem, ↓reduceIte]) (by simp (decide := true) only [go_sem, ↓reduceIte]) (by simp (decide := true) only [go_sem, ↓reduceIte]) fun t2 m2 a ps ids hag e7 H => ?_
  have e4 := hag 4 (by decide +kernel)
  have e5 := hag 5 (by decide +kernel)
  have e6 := hag 6 (by decide +kernel)
  simp (decide := true) only [go_sem, ↓reduceIte] at e4 e5 e6
  clear hag
  rw [← hL] at H L4 ⊢
  have hLl : L.length = n := by rw [hL, List.length_map, hl]
  have htk : L.take n = L := List.take_of_length_le (by omega)
  have hpl : ps.length = ids.length := by have := congrArg List.length H.xs; simpa using this
  have hil := H.len
  have sH := H.size
  have hp1 : ∀ q ∈ ps, ∃ e, q.2 = [e] := fun q hq => by
    have h1 : q.2 ∈ ps.map Prod.snd := List.mem_map.2 ⟨q, hq, rfl⟩
    rw [H.xs] at h1
    obtain ⟨e, _, he⟩ := List.mem_map.1 h1
    exact ⟨e, he.symm⟩
  simp (decide := true) (implicitDefEqProofs := false) (maxDischargeDepth := 20) only [go_sem, e4, e5, e6, e7, ↓reduceIte, true_implies, false_implies]
  refine (Sorted_at (cols := []) H.vec.sl (fun r hr => by
      obtain ⟨q, hq, rfl⟩ := List.mem_map.1 hr
      exact H.own.at_ q hq) (fun r hr => by
      obtain ⟨q, hq, rfl⟩ := List.mem_map.1 hr
      obtain ⟨e, he⟩ := hp1 q hq
      show q.2.length ≤ _
      rw [he]; simp) (.empty 1) (by omega) (by omega)).mono ?_
  rintro w m3 ⟨bS, sS, rfl, VS, o3⟩
  obtain ⟨qs, hqp, hqs⟩ := perm_of_map (sortL_perm [] (ps.map rowH)).symm ps rfl
  have hsrt := sortL_sorted [] (ps.map rowH)
  rw [hqs] at VS hsrt
  have O3 : Own2 m1.size m3 qs := (H.own.old o3).perm hqp
  obtain ⟨is, hip, his⟩ := perm_of_map (hqp.map Prod.snd).symm ids H.xs
  have hrise : is.Pairwise (· < ·) := by
    have h1 : (qs.map Prod.snd).Pairwise (fun x y => cmpL x y [] ≤ 0) := by
      rw [List.pairwise_map] at hsrt ⊢
      exact hsrt
    rw [his, List.pairwise_map] at h1
    have h2 : is.Nodup := hip.nodup_iff.2 H.nd
    exact (h1.and h2).imp fun ⟨h3, h4⟩ => by
      have := cmp1_le h3
      omega
  have hent : entL L = is.map (entE p L) := L4.ids is hrise fun i => by rw [hip.mem_iff, H.mem i, htk]
  have hid : ∀ e ∈ is, 1 ≤ e ∧ e ≤ 4 := fun e he => by
    obtain ⟨r, h1, h2⟩ := (H.mem e).1 (hip.mem_iff.1 he)
    rw [htk] at h1
    rw [← h2]
    exact L4.id r h1
  have hmid : ∀ e ∈ is, midE (colS 4 (ofE L e)) ∧ midE (colS 9 (ofE L e)) := fun e he => L4.mid (entE p L e) (by rw [hent]; exact List.mem_map.2 ⟨e, he, rfl⟩)
  have hfit : ∀ e ∈ is, fitE e ∧ fitE (p * e) := fun e he => by
    have h1 := hid e he
    have h2 : p * e ≤ p * 4 := Int.mul_le_mul_of_nonneg_left h1.2 hp.1
    have h3 : 0 ≤ p * e := Int.mul_nonneg hp.1 (by omega)
    unfold fitE
    generalize p * e = pe at *
    omega
  obtain ⟨fa, Qa, hfa⟩ := H.am
  obtain ⟨fm, Qm, hfm⟩ := H.mo
  obtain ⟨fp, Qp, hfp⟩ := H.pa
  rw [htk] at hfa hfm
  rw [hent]
  have o03 : Old m m3 := by
    refine .of_get (by have := o3.size; omega) fun i hi => ?_
    rw [o3.get (by omega), H.keep i (by omega) (by omega) (by omega) (by omega), o1.get hi]
  have s03 := o03.size
  simp (decide := true) (implicitDefEqProofs := false) (maxDischargeDepth := 20) only [go_sem, e4, e5, e6, ↓reduceIte, true_implies, false_implies]
  refine Srd_out (N := ps.length) (qs := qs) (is := is) (L := L) (p := p) VS.sl (fun q hq => O3.at_ q hq) his (by omega) ⟨fa, Qa.keep (o3.get Qa.blk), hfa⟩ ⟨fm, Qm.keep (o3.get Qm.blk), hfm⟩ ⟨fp, Qp.keep (o3.get Qp.blk), fun e he => by rw [hfp, if_pos (hip.mem_iff.1 he)]; rfl⟩ hmid hfit
    (by simp (decide := true) only [go_sem, ↓reduceIte]) (by simp (decide := true) only [go_sem, ↓reduceIte]) (by simp (decide := true) only [go_sem, ↓reduceIte]) (by simp (decide := true) only [go_sem, ↓reduceIte]) (by simp (decide := true) only [go_sem, ↓reduceIte]) (by simp (decide := true) only [go_sem, e4, ↓reduceIte]) (by simp (decide := true) only [go_sem, e5, ↓reduceIte]) (by simp (decide := true) only [go_sem, e6, ↓reduceIte]) (fun t4 m4 a4 ps4 ov hag f14 f13 V4 O4 hdoc o34 => ?_) fun t4 m4 f2 f3 hdoc o34 => ?_
  · cases ov with
    | true =>
      simp (decide := true) (implicitDefEqProofs := false) (maxDischargeDepth := 20) only [go_sem, f13, f14, ↓reduceIte, true_implies, false_implies]
      rw [hdoc]
      exact ⟨none, [], rfl, .nil _ _ _, ⟨fun p h => by simp at h, fun p h => by simp at h, fun p h => by simp at h, by simp⟩, rfl, o03.trans o34⟩
    | false =>
      simp (decide := true) (implicitDefEqProofs := false) (maxDischargeDepth := 20) only [go_sem, f13, f14, ↓reduceIte, true_implies, false_implies]
      rw [hdoc]
      exact ⟨a4, ps4, rfl, V4.mono (by omega), ⟨O4.get, O4.bd, fun q hq => by have := O4.lo q hq; omega, O4.dis⟩, rfl, o03.trans o34⟩
  · simp (decide := true) (implicitDefEqProofs := false) (maxDischargeDepth := 20) only [go_sem, f2, f3, ↓reduceIte, true_implies, false_implies]
    rw [hdoc]
    exact ⟨none, [], rfl, .nil _ _ _, ⟨fun p h => by simp at h, fun p h => by simp at h, fun p h => by simp at h, by simp⟩, rfl, o03.trans o34⟩


/-! ### SrdE -/

/-- Rows in blocks of their own, and nothing else. -/
structure RowL (m0 m : Mem) (a : Option Addr) (ps : List (Nat × List Int)) (xss : List (List Int)) : Prop where
  vec : Vec m0.size m 1 a ps.length ((ps.map rowH).map HRow.v)
  own : Own2 m0.size m ps
  xs : ps.map Prod.snd = xss
  dis : ∀ q ∈ ps, ∀ y, a = some y → q.1 ≠ y.block
  old : Old m0 m
theorem RowL.old' {m0 m m' : Mem} {a : Option Addr} {ps : List (Nat × List Int)} {xss : List (List Int)} (H : RowL m0 m a ps xss) (o : Old m m') : RowL m0 m' a ps xss := ⟨H.vec.old o, H.own.old o, H.xs, H.dis, H.old.trans o⟩
theorem RowL.more {m0 m mp m5 : Mem} {a : Option Addr} {ps : List (Nat × List Int)} {xss : List (List Int)} (H : RowL m0 m a ps xss) (op : Old m mp) {rb : Nat} {r : List Int} (hrb : m.size ≤ rb) (gr : mp.get rb = some (.cells false true (r.map (.int .i64)))) (hfit : ∀ x ∈ r, -9223372036854775808 ≤ x ∧ x < 9223372036854775808)
    {b5 : Nat} {s5 : Option Nat} (v5 : Vec m0.size m5 1 (some ⟨b5, 0, s5⟩) (ps.length + 1) ((ps.map rowH).map HRow.v ++ [.slice (some ⟨rb, 0, none⟩) r.length r.length])) (k5 : KeepA a mp m5) (hb5 : mp.size ≤ b5) : RowL m0 m5 (some ⟨b5, 0, s5⟩) (ps ++ [(rb, r)]) (xss ++ [r]) := by
  have s5' := k5.1
  have szp := op.size
  have sz0 := H.old.size
  have lrb := getM_lt gr
  have hbx : ∀ x, a = some x → x.block < m.size := fun x hx => H.vec.lt hx
  have hpl' : (ps ++ [(rb, r)]).length = ps.length + 1 := by simp
  have Op := H.own.old op
  refine ⟨?_, ⟨fun q hq => ?_, fun q hq => ?_, fun q hq => ?_, ?_⟩, ?_, fun q hq z hz => ?_, H.vec.keepOld ⟨Nat.le_trans op.size k5.1, fun i hi hne => ?_⟩ H.old⟩
  · rw [hpl', List.map_append, List.map_append]
    exact v5
  · rcases List.mem_append.1 hq with hq | hq
    · rw [k5.2 q.1 (Op.lt q hq) fun y hy e => H.dis q hq y hy e]
      exact Op.get q hq
    · rw [List.mem_singleton.1 hq]
      show m5.get rb = _
      rw [k5.2 rb lrb fun y hy e => by have := hbx y hy; omega]
      exact gr
  · rcases List.mem_append.1 hq with hq | hq
    · exact H.own.bd q hq
    · rw [List.mem_singleton.1 hq]; exact hfit
  · rcases List.mem_append.1 hq with hq | hq
    · exact H.own.lo q hq
    · rw [List.mem_singleton.1 hq]
      show m0.size ≤ rb
      omega
  · rw [List.map_append, List.nodup_append]
    refine ⟨H.own.dis, by simp, fun x hx y hy => ?_⟩
    obtain ⟨q, hq, rfl⟩ := List.mem_map.1 hx
    simp at hy
    have := H.own.lt q hq
    omega
  · rw [List.map_append, H.xs]; rfl
  · cases hz
    rcases List.mem_append.1 hq with hq | hq
    · have := H.own.lt q hq
      show q.1 ≠ b5
      omega
    · rw [List.mem_singleton.1 hq]
      show rb ≠ b5
      omega
  · rw [k5.2 i (by omega) hne, op.get hi]

/-! ### the lines -/
def eQ (z : List Int) : Int := 1 + z.getD 0 0 % (3 - 1 + 1)
def nQ (z : List Int) : Int := -99 + z.getD 2 0 % (99 - -99 + 1)
theorem eQ_bd (z : List Int) : 1 ≤ eQ z ∧ eQ z ≤ 3 := by unfold eQ; rw [show (3 - 1 + 1 : Int) = 3 from rfl]; omega
theorem nQ_bd (z : List Int) : -99 ≤ nQ z ∧ nQ z ≤ 99 := by unfold nQ; rw [show (99 - -99 + 1 : Int) = 199 from rfl]; omega
def row1Q (z : List Int) (i : Int) : List Int := [2 * i + 1, eQ z, 1, 10, nQ z, 0, 1, 1000 * eQ z, 5, z.getD 5 0]
def row2Q (z : List Int) (i : Int) : List Int := [2 * i + 2, eQ z, 1, 10, -nQ z, 0, 1, 1000 * eQ z, 6, z.getD 3 0]
def rowsQ (zs : List (List Int)) (ev : Bool) : Nat → List (List Int)
  | 0 => []
  | k + 1 => if ev then (rowsQ zs ev k ++ [row1Q (zs.getD k []) k]) ++ [row2Q (zs.getD k []) k] else rowsQ zs ev k ++ [row1Q (zs.getD k []) k]
theorem rowsQ_mem (zs : List (List Int)) (ev : Bool) : ∀ k : Nat, ∀ r ∈ rowsQ zs ev k, ∃ (i : Nat), i < k ∧ (r = row1Q (zs.getD i []) i ∨ r = row2Q (zs.getD i []) i)
  | 0, r, h => by cases h
  | k + 1, r, h => by
    have old : r ∈ rowsQ zs ev k → ∃ (i : Nat), i < k + 1 ∧ (r = row1Q (zs.getD i []) i ∨ r = row2Q (zs.getD i []) i) := fun h => by
      obtain ⟨i, h1, h2⟩ := rowsQ_mem zs ev k r h
      exact ⟨i, by omega, h2⟩
    unfold rowsQ at h
    split at h
    · rcases List.mem_append.1 h with h | h
      · rcases List.mem_append.1 h with h | h
        · exact old h
        · exact ⟨k, by omega, .inl (List.mem_singleton.1 h)⟩
      · exact ⟨k, by omega, .inr (List.mem_singleton.1 h)⟩
    · rcases List.mem_append.1 h with h | h
      · exact old h
      · exact ⟨k, by omega, .inl (List.mem_singleton.1 h)⟩
theorem rowsQ_len (zs : List (List Int)) (ev : Bool) : ∀ k : Nat, (rowsQ zs ev k).length ≤ 2 * k
  | 0 => Nat.le_refl _
  | k + 1 => by
    have := rowsQ_len zs ev k
    unfold rowsQ
    split <;> simp <;> omega

set_option maxRecDepth 100000 in
set_option maxHeartbeats 8000000 in
theorem Rq_lines {m0 : Mem} {t : Fr} {a0 : Option Addr} {n c0 : Nat} {zs : List (List Int)} {ev : Bool} (h : SlA m0 7 a0 n c0 ((zs.map fun z => z.map (.int .i64)).flatten)) (hl : zs.length = n) (hz : ∀ z ∈ zs, z.length = 7 ∧ ∀ x ∈ z, -9223372036854775808 ≤ x ∧ x < 9223372036854775808)
    (t0 : t 0 = .slice a0 n c0) (t1 : t 1 = .bool ev) (t5 : t 5 = .slice none 0 0) (t6 : t 6 = .int .i64 0) {K : Post3}
    (hK : ∀ t' m' a ps, Agree (writes c_sheaflaw19_SumsRound_11) t t' → t' 5 = .slice a ps.length ps.length → RowL m0 m' a ps (rowsQ zs ev (min n 15)) → K .normal t' m') :
    wpM E F_sheaflaw19_SumsRound 110 none c_sheaflaw19_SumsRound_11 K t m0 := by
  refine wpM_cut (fun t' m' => ∃ a ps, t' 5 = .slice a ps.length ps.length ∧ RowL m0 m' a ps (rowsQ zs ev (min n 15))) ?_ fun t' m' ha ⟨a, ps, h0, h1⟩ => hK t' m' a ps ha h0 h1
  simp only [c_sheaflaw19_SumsRound_11_at, wpM_block, c_sheaflaw19_SumsRound_10_at]
  refine wpM_loopA (fun j t' m' => ∃ k a ps, k ≤ min n 15 ∧ j = min n 15 - k ∧ t' 6 = .int .i64 (k : Nat) ∧ t' 5 = .slice a ps.length ps.length ∧ RowL m0 m' a ps (rowsQ zs ev k)) (min n 15)
    ⟨0, none, [], by omega, rfl, t6, t5, ⟨.nil _ _ _, ⟨fun p h => by simp at h, fun p h => by simp at h, fun p h => by simp at h, by simp⟩, rfl, fun q h => by simp at h, .refl _⟩⟩ ?_
  rintro j t' m' ha ⟨k, a, ps, hk, rfl, e6, e5, H⟩
  have e0 := (ha 0 (by decide +kernel)).trans t0
  have e1 := (ha 1 (by decide +kernel)).trans t1
  have hsz := H.old.size
  by_cases hlt : k < min n 15
  · have d1 : decide ((k : Int) < (n : Int)) = true := by simp; omega
    have d2 : decide ((k : Int) < 15) = true := by simp; omega
    have w1 : IntKind.wrap .i64 ((k : Int) + 1) = ((k + 1 : Nat) : Int) := by rw [wrap_i64_id _ (by omega) (by omega)]; omega
    have z0 : (0 : Int) ≤ (k : Int) := by omega
    have z1 : (k : Int) < (n : Int) := by omega
    have hS : SlA m' 7 a0 n c0 ((zs.map fun z => z.map (.int .i64)).flatten) := h.old H.old
    obtain ⟨ab, ao, asp, rfl⟩ := hS.addr (by omega)
    have hkl : k < zs.length := by omega
    have hzk := hz zs[k] (List.getElem_mem _)
    have R : ∀ mm, Old m' mm → Rw mm ab (ao + k * 7) ((zs[k]).map (.int .i64)) := fun mm o => by
      have := (hS.old o).srow (fun z hz' => (hz z hz').1) (by decide) hkl
      unfold Rw
      rw [List.length_map, hzk.1]
      exact this
    have eg : zs.getD k [] = zs[k] := by simp [List.getD_eq_getElem?_getD, hkl]
    have erow : rowsQ zs ev (k + 1) = if ev then (rowsQ zs ev k ++ [row1Q zs[k] k]) ++ [row2Q zs[k] k] else rowsQ zs ev k ++ [row1Q zs[k] k] := by rw [← eg]; rfl
    generalize zs[k] = z at *
    obtain ⟨hz7, hzb⟩ := hzk
    have rr : ∀ mm, Old m' mm → ∀ i, i < 7 → mm.at ab (ao + (k * 7 + i)) = some (.int .i64 (z.getD i 0)) := fun mm o i hi => by
      have := (R mm o).at (i := i) (by simp [hz7]; omega)
      simpa [List.getD_eq_getElem?_getD, hz7, hi, Nat.add_assoc] using this
    have r0 : m'.at ab (ao + k * 7) = some (.int .i64 (z.getD 0 0)) := rr m' (.refl _) 0 (by omega)
    have bz : ∀ i, i < 7 → -9223372036854775808 ≤ z.getD i 0 ∧ z.getD i 0 < 9223372036854775808 := fun i hi => hzb _ (by simp [List.getD_eq_getElem?_getD, hz7, hi])
    have hel : ps.length ≤ 2 * k := by
      have h1 := congrArg List.length H.xs
      have h2 := rowsQ_len zs ev k
      rw [List.length_map] at h1
      omega
    have b0 := bz 0 (by omega)
    have b2 := bz 2 (by omega)
    have b3 := bz 3 (by omega)
    have b5' := bz 5 (by omega)
    simp (decide := true) (implicitDefEqProofs := false) (maxDischargeDepth := 20) only [go_sem, ↓reduceIte, e0, e1, e5, e6, d1, d2, r0, z0, z1, Int.toNat_natCast, true_implies, false_implies]
    refine ((Within_ans (z.getD 0 0) 1 3 b0.1 b0.2 (by omega) (by omega) (by omega) (by omega)) _).mono ?_
    rintro w m2 ⟨rfl, o2⟩
    have hE : 1 + z.getD 0 0 % (3 - 1 + 1) = eQ z := rfl
    rw [hE]
    have r2 := rr m2 o2 2 (by omega)
    simp (decide := true) (implicitDefEqProofs := false) (maxDischargeDepth := 20) only [go_sem, ↓reduceIte, e0, e1, e5, e6, r2, z0, z1, Int.toNat_natCast, true_implies, false_implies]
    refine ((Within_ans (z.getD 2 0) (-99) 99 b2.1 b2.2 (by omega) (by omega) (by omega) (by omega)) _).mono ?_
    rintro w m3 ⟨rfl, o3⟩
    have hN : -99 + z.getD 2 0 % (99 - -99 + 1) = nQ z := rfl
    rw [hN]
    have o13 := o2.trans o3
    have r5 := rr m3 o13 5 (by omega)
    have eb := eQ_bd z
    have nb := nQ_bd z
    have w2 : IntKind.wrap .i64 (2 * (k : Int)) = 2 * (k : Int) := wrap_i64_id _ (by omega) (by omega)
    have w3 : IntKind.wrap .i64 (2 * (k : Int) + 1) = 2 * (k : Int) + 1 := wrap_i64_id _ (by omega) (by omega)
    have w4 : IntKind.wrap .i64 (2 * (k : Int) + 2) = 2 * (k : Int) + 2 := wrap_i64_id _ (by omega) (by omega)
    have w5 : IntKind.wrap .i64 (1000 * eQ z) = 1000 * eQ z := wrap_i64_id _ (by omega) (by omega)
    have w6' : IntKind.wrap .i64 (0 - nQ z) = -nQ z := by rw [Int.zero_sub]; exact wrap_i64_id _ (by omega) (by omega)
    simp (decide := true) (implicitDefEqProofs := false) (maxDischargeDepth := 20) only [go_sem, ↓reduceIte, e0, e1, e5, e6, r5, z0, z1, w2, w3, w5, Int.toNat_natCast, true_implies, false_implies]
    obtain ⟨rb, hrb⟩ : ∃ b, b = m3.size := ⟨_, rfl⟩
    obtain ⟨mp, hmp⟩ : ∃ mp, mp = m3.push (.cells false true ((row1Q z k).map (.int .i64))) := ⟨_, rfl⟩
    have sp : mp.size = m3.size + 1 := by rw [hmp, size_push]
    have s13 := o13.size
    rw [← hrb, show rb + 1 = mp.size by omega]
    refine (show StepQ E (val2? (appendV E ((m3.push (.cells false true ((row1Q z k).map (.int .i64)))).push (.cells false true [.slice (some ⟨rb, 0, none⟩) 10 10])) 40 40 (.slice a ps.length ps.length) (.slice (some ⟨mp.size, 0, none⟩) 1 1))) _ from ?_)
    rw [← hmp]
    have op : Old m' mp := by rw [hmp]; exact o13.push _
    have gr1 : mp.get rb = some (.cells false true ((row1Q z k).map (.int .i64))) := by rw [hmp, hrb, getM_push, if_pos rfl]
    have szp := op.size
    refine (H.vec.old op).appendQ rfl (by omega) rfl (by decide) (by decide +kernel) (by decide +kernel) rfl (by omega) fun m5 b5 s5 v5 k5 hb5 => ?_
    have hfit1 : ∀ x ∈ row1Q z k, -9223372036854775808 ≤ x ∧ x < 9223372036854775808 := fun x hx => by
      simp only [row1Q, List.mem_cons, List.not_mem_nil, or_false] at hx
      omega
    have H1 := H.more op (by omega) gr1 hfit1 v5 k5 hb5
    have hp1 : (ps ++ [(rb, row1Q z k)]).length = ps.length + 1 := by simp
    cases ev with
    | false =>
      rw [if_neg Bool.noConfusion] at erow
      simp (decide := true) (implicitDefEqProofs := false) (maxDischargeDepth := 20) only [go_sem, ↓reduceIte, e0, e1, e6, w1, true_implies, false_implies]
      exact ⟨min n 15 - (k + 1), by omega, k + 1, some ⟨b5, 0, s5⟩, _, by omega, rfl, rfl, by rw [hp1], by rw [erow]; exact H1⟩
    | true =>
      rw [if_pos rfl] at erow
      have hS5 : SlA m5 7 (some ⟨ab, ao, asp⟩) n c0 ((zs.map fun z => z.map (.int .i64)).flatten) := h.old H1.old
      have r3 : m5.at ab (ao + (k * 7 + 3)) = some (.int .i64 (z.getD 3 0)) := by
        have h1 := rr m' (.refl _) 3 (by omega)
        have hab : ab < m0.size := (h.rows _ rfl (by
          intro e
          have h2 := congrArg List.length e
          have h3 := h.len
          rw [h3] at h2
          simp at h2
          omega)).lt
        unfold Mem.at at h1 ⊢
        rw [H1.old.get hab, ← H.old.get hab]
        exact h1
      simp (decide := true) (implicitDefEqProofs := false) (maxDischargeDepth := 20) only [go_sem, ↓reduceIte, e0, e1, e6, w2, w4, w5, w6', r3, z0, z1, Int.toNat_natCast, true_implies, false_implies]
      obtain ⟨rb2, hrb2⟩ : ∃ b, b = m5.size := ⟨_, rfl⟩
      obtain ⟨mp2, hmp2⟩ : ∃ mp, mp = m5.push (.cells false true ((row2Q z k).map (.int .i64))) := ⟨_, rfl⟩
      have sp2 : mp2.size = m5.size + 1 := by rw [hmp2, size_push]
      rw [← hrb2, show rb2 + 1 = mp2.size by omega, ← hp1]
      refine (show StepQ E (val2? (appendV E ((m5.push (.cells false true ((row2Q z k).map (.int .i64)))).push (.cells false true [.slice (some ⟨rb2, 0, none⟩) 10 10])) 40 40 (.slice (some ⟨b5, 0, s5⟩) (ps ++ [(rb, row1Q z k)]).length (ps ++ [(rb, row1Q z k)]).length) (.slice (some ⟨mp2.size, 0, none⟩) 1 1))) _ from ?_)
      rw [← hmp2]
      have op2 : Old m5 mp2 := by rw [hmp2]; exact (Old.refl m5).push _
      have gr2 : mp2.get rb2 = some (.cells false true ((row2Q z k).map (.int .i64))) := by rw [hmp2, hrb2, getM_push, if_pos rfl]
      have sz5 := H1.old.size
      refine (H1.vec.old op2).appendQ rfl (by omega) rfl (by decide) (by decide +kernel) (by decide +kernel) rfl (by omega) fun m6 b6 s6 v6 k6 hb6 => ?_
      have hfit2 : ∀ x ∈ row2Q z k, -9223372036854775808 ≤ x ∧ x < 9223372036854775808 := fun x hx => by
        simp only [row2Q, List.mem_cons, List.not_mem_nil, or_false] at hx
        omega
      have H2 := H1.more op2 (by omega) gr2 hfit2 v6 k6 hb6
      have hp2 : ((ps ++ [(rb, row1Q z k)]) ++ [(rb2, row2Q z k)]).length = (ps ++ [(rb, row1Q z k)]).length + 1 := by simp
      simp (decide := true) (implicitDefEqProofs := false) (maxDischargeDepth := 20) only [go_sem, ↓reduceIte, e6, w1, true_implies, false_implies]
      exact ⟨min n 15 - (k + 1), by omega, k + 1, some ⟨b6, 0, s6⟩, _, by omega, rfl, rfl, by rw [hp2], by rw [erow]; exact H2⟩
  · have hkk : k = min n 15 := by omega
    subst hkk
    by_cases h12 : min n 15 < n
    · have d1 : decide (((min n 15 : Nat) : Int) < (n : Int)) = true := by simp; omega
      have d2 : decide (((min n 15 : Nat) : Int) < 15) = false := by simp; omega
      simp (decide := true) (implicitDefEqProofs := false) (maxDischargeDepth := 20) only [go_sem, ↓reduceIte, e0, e5, e6, d1, d2, true_implies, false_implies]
      exact ⟨a, ps, rfl, H⟩
    · have d1 : decide (((min n 15 : Nat) : Int) < (n : Int)) = false := by simp; omega
      simp (decide := true) (implicitDefEqProofs := false) (maxDischargeDepth := 20) only [go_sem, ↓reduceIte, e0, e5, e6, d1, true_implies, false_implies]
      exact ⟨a, ps, rfl, H⟩


/-! ### SrdF -/

set_option maxRecDepth 100000 in
theorem SRound_at {m : Mem} {sf : Fn} {sa sb : Array Value} : CallQ E F_sums_Round [.func sf sa sb].toArray m fun w m' => ∃ b, w = .func (.func F_sums_Round_1) #[] #[ptr b] ∧ cap1 m' b (.func sf sa sb) ∧ m.size ≤ b ∧ Old m m' := by
  refine .enter fn_sums_Round (by simp) ?_
  simp (decide := true) (implicitDefEqProofs := false) (maxDischargeDepth := 20) only [go_sem, ↓reduceIte, true_implies, false_implies]
  refine ⟨m.size, rfl, ?_, by omega⟩
  unfold cap1
  rw [getM_push, if_pos rfl]

theorem statC_inl : ∀ xs : List (List Int), statC (xs.map .inl) = 0 ∧ gotC (xs.map .inl) = xs
  | [] => ⟨rfl, rfl⟩
  | x :: xs => ⟨(statC_inl xs).1, by show x :: gotC (xs.map .inl) = _; rw [(statC_inl xs).2]⟩
theorem statC_inr (s : Int) (r : List REl) : ∀ xs : List (List Int), statC (xs.map .inl ++ .inr s :: r) = s
  | [] => rfl
  | x :: xs => statC_inr s r xs

/-- The rows so far, and the status. -/
def RqJ (ob sb : Nat) (cs : List REl) : Nat → Mem → Set' → Prop := fun k m A => (∃ xs : List (List Int), cs.take k = xs.map .inl ∧ ∃ ag os, ListJ 0 ob xs m A ag os ∧ ∀ y, ag = some y → y.block ≠ sb) ∧ cap1 m sb (.int .i64 0) ∧ A sb
def RqD (sb : Nat) (cs : List REl) : Nat → Exit → Mem → Set' → Prop := fun k x m A => x = .exit 2 ∧ ∃ s, cap1 m sb (.int .i64 s) ∧ A sb ∧ cs[k]? = some (.inr s) ∧ ∃ xs : List (List Int), cs.take k = xs.map .inl
theorem RqJ.loc (ob sb : Nat) (cs : List REl) (k : Nat) : LocP (RqJ ob sb cs k) := by
  rintro m m' A ⟨⟨xs, h1, ag, os, h2, h3⟩, h4, h5⟩ hk hs
  refine ⟨⟨xs, h1, ag, os, ?_, h3⟩, (hk _ h5).trans h4, h5⟩
  exact ⟨(hk _ h2.ao).trans h2.box, h2.vec.keep fun x hx => hk _ (h2.own x hx).1, h2.xs, fun g hg => (h2.row g hg).keep fun x hx _ => hk _ (h2.blk g hg x hx).1, h2.blk, h2.own, h2.ao⟩
theorem RqD.loc (sb : Nat) (cs : List REl) (k : Nat) (x : Exit) : LocP (RqD sb cs k x) := by
  rintro m m' A ⟨h1, s, h2, h3, h4⟩ hk hs
  exact ⟨h1, s, (hk _ h3).trans h2, h3, h4⟩

set_option maxRecDepth 100000 in
set_option maxHeartbeats 8000000 in
theorem Rq_range {m : Mem} {t : Fr} {ob sb : Nat} {s : Value} {cs : List REl} (it : Iter E (butL m [ob, sb]) none' s cs.length anyO (rndEl cs)) (hinr : ∀ s, .inr s ∈ cs → s ≠ 0) (hinl : ∀ r, .inl r ∈ cs → ∀ x ∈ r, -9223372036854775808 ≤ x ∧ x < 9223372036854775808) (hlen : cs.length ≤ 1000) (go : cap1 m ob (.slice none 0 0)) (gs : cap1 m sb (.int .i64 0)) (hne : ob ≠ sb)
    (t80 : t 80 = s) (t9 : t 9 = ptr ob) (t10 : t 10 = ptr sb) {K : Post3}
    (hK : ∀ m', cap1 m' sb (.int .i64 (statC cs)) → (statC cs = 0 → ∃ (ag : Option Addr) (os : List HRow), cap1 m' ob (.slice ag os.length os.length) ∧ SlA m' 1 ag os.length os.length (os.map HRow.v) ∧ os.map HRow.xs = gotC cs ∧ ∀ r ∈ os, r.At m') → m.size ≤ m'.size → (∀ i, i < m.size → i ≠ ob → i ≠ sb → m'.get i = m.get i) → K .normal t m') :
    wpM E F_sheaflaw19_SumsRound 110 none c_sheaflaw19_SumsRound_23 K t m := by
  simp only [c_sheaflaw19_SumsRound_23_at, wpM_block, c_sheaflaw19_SumsRound_22_at]
  have lo := getM_lt go
  have ls := getM_lt gs
  refine wpM_rangeP (A := fun i => i = ob ∨ i = sb) it (fun t => upd (upd t 12 (t 81)) 13 (t 82)) (by simp (decide := true) only [go_sem, t80, ↓reduceIte]) rfl asg_sheaflaw19_SumsRound_0 body_sheaflaw19_SumsRound_0 (by decide) (fun K l t m h => by simp (decide := true) only [go_sem, ↓reduceIte]; exact h)
    (RqJ ob sb cs) (RqD sb cs) (RqJ.loc ob sb cs) (RqD.loc sb cs) (butL_frozen _ _) (fun i hi => by rcases hi with rfl | rfl; exact ⟨lo, butL_no (by simp), fun h => h.elim⟩; exact ⟨ls, butL_no (by simp), fun h => h.elim⟩) (fun i hi => hi.elim) trivial
    ⟨⟨[], rfl, none, [], ⟨go, .nil _ _ _, rfl, (fun g h => by simp at h), (fun g h => by simp at h), (fun y h => by cases h), .inl rfl⟩, fun y h => by cases h⟩, gs, .inr rfl⟩ ?_ ?_ ?_
  · rintro k vs m4 A B l hk' z4 oA oB dis - ⟨⟨xs, hxs, ag, os, J, hag⟩, gs4, hAs⟩ hel hin hms
    have hol : os.length = k := by
      have h1 := congrArg List.length J.xs
      have h2 := congrArg List.length hxs
      simp at h1 h2
      omega
    have lA : ∀ i, A i → i < m4.size := fun i hi => (oA i hi).1
    have lB : ∀ i, B i → i < m4.size := fun i hi => (oB i hi).1
    have ls4 := getM_lt gs4
    rcases hel with ⟨r, b, hg, rfl, gb, hB⟩ | ⟨st, hg, rfl, hB⟩
    · refine ⟨rfl, ?_⟩
      have rO := get_at0 J.box
      simp (decide := true) (implicitDefEqProofs := false) (maxDischargeDepth := 20) only [go_sem, t9, t10, rO, ↓reduceIte, true_implies, false_implies]
      refine J.vec.append1' (Nat.zero_le _) rfl (by decide) (by decide +kernel) (by decide +kernel) rfl (by omega) fun m5 b5 s5 v5 k5 hb5 => ?_
      have gO5 : m5.get ob = _ := (k5.2 ob (getM_lt J.box) fun y hy e => (J.own y hy).2 e.symm).trans J.box
      simp (decide := true) (implicitDefEqProofs := false) (maxDischargeDepth := 20) only [go_sem, t9, t10, gO5, ↓reduceIte, true_implies, false_implies]
      have hrow : (⟨some ⟨b, 0, none⟩, r.length, r.length, r⟩ : HRow).At m4 := ⟨.new gb (by simp) rfl, rfl, hinl r (List.mem_of_getElem? hg)⟩
      obtain ⟨J', T⟩ := J.more (B := B) hrow lA lB dis (fun x hx => by cases hx; exact (hB _).2 rfl) v5 k5 hb5 rfl
      refine ⟨_, T.c, T.n, ⟨xs ++ [r], ?_, _, _, J', fun y hy => by cases hy; show b5 ≠ sb; omega⟩, ?_, .inl (.inl hAs)⟩
      · obtain ⟨hlt, he⟩ := List.getElem?_eq_some_iff.1 hg
        rw [List.take_succ_eq_append_getElem hlt, he, hxs, List.map_append] <;> rfl
      · unfold cap1
        rw [getM_put, if_neg (fun e => hne e.1.symm), k5.2 sb ls4 fun y hy e => hag y hy e.symm]
        exact gs4
    · refine ⟨rfl, ?_⟩
      have hs0 := hinr st (List.mem_of_getElem? hg)
      have d1 : (st != 0) = true := by simpa using hs0
      unfold cap1 at gs4
      simp (decide := true) (implicitDefEqProofs := false) (maxDischargeDepth := 20) only [go_sem, t9, t10, gs4, ls4, d1, ↓reduceIte, true_implies, false_implies]
      refine ⟨fun i => A i ∨ B i, ⟨by rw [size_put]; exact Nat.le_refl _, fun i hi hna => by rw [getM_put, if_neg (show ¬ (i = sb ∧ _) from fun e => hna (.inl (e.1 ▸ hAs)))]⟩, fun i hi => ⟨by rw [size_put]; exact hi.elim (lA i) (lB i), .inl hi⟩, .inr ⟨2, rfl⟩, rfl, st, ?_, .inl hAs, hg, xs, hxs⟩
      unfold cap1
      rw [getM_put, if_pos ⟨rfl, ls4⟩]
  · rintro m4 A' z4 o4 - ⟨⟨xs, hxs, ag, os, J, hag⟩, gs4, hAs⟩ c1' c2'
    rw [List.take_length] at hxs
    have h0 := statC_inl xs
    rw [← hxs] at h0
    simp (decide := true) (implicitDefEqProofs := false) (maxDischargeDepth := 20) only [go_sem, ↓reduceIte, true_implies, false_implies]
    exact hK m4 (by rw [h0.1]; exact gs4) (fun _ => ⟨ag, os, J.box, J.vec.sl, by rw [h0.2]; exact J.xs, J.row⟩) c1'.size fun i hi h1 h2 => c1'.get i hi fun e => e.elim (fun e => e.elim h1 h2) fun e => e
  · rintro k x m4 A' hk' z4 o4 - hx ⟨rfl, st, gs4, hAs, hg, xs, hxs⟩ c1' c2'
    obtain ⟨hlt, he⟩ := List.getElem?_eq_some_iff.1 hg
    have hsp : cs = xs.map .inl ++ .inr st :: cs.drop (k + 1) := by
      rw [← hxs, ← he, ← List.drop_eq_getElem_cons hlt, List.take_append_drop]
    have h0 : statC cs = st := by rw [hsp]; exact statC_inr st _ xs
    have hs0 := hinr st (List.mem_of_getElem? hg)
    simp (decide := true) (implicitDefEqProofs := false) (maxDischargeDepth := 20) only [go_sem, ↓reduceIte, true_implies, false_implies]
    exact hK m4 (by rw [h0]; exact gs4) (fun h => absurd (h0 ▸ h) hs0) c1'.size fun i hi h1 h2 => c1'.get i hi fun e => e.elim (fun e => e.elim h1 h2) fun e => e

theorem cell_at (x : List Int) (c : Nat) (h : c < x.length) : cell x (c : Int) = some (x.getD c 0) := by
  unfold cell
  rw [if_pos (by omega), Int.toNat_natCast, List.getElem?_eq_getElem h]
  simp [List.getD_eq_getElem?_getD, h]
theorem col_of_cmp (x y : List Int) (c : Nat) (cs : List Int) (hx : c < x.length) (hy : c < y.length) (h : cmpL x y ((c : Int) :: cs) ≤ 0) : x.getD c 0 ≤ y.getD c 0 := by
  unfold cmpL at h
  rw [List.cons_append, List.map_cons] at h
  have e : colL x y (c : Int) = cmpI (x.getD c 0) (y.getD c 0) := by unfold colL; rw [cell_at x c hx, cell_at y c hy]; rfl
  rw [e] at h
  unfold firstN at h
  unfold cmpI at h
  split at h <;> (try split at h) <;> (try split at h) <;> omega

set_option maxRecDepth 100000 in
set_option maxHeartbeats 16000000 in
theorem SumsRound_law (m : Mem) (hro : ∀ i c, m.get i = some c → c.writable = false)
    (a0 : Option Addr) (l0 c0 : Nat) (zs : List (List Int)) (hs0 : SlA m 7 a0 l0 c0 ((zs.map fun z => z.map (.int .i64)).flatten)) (hl0 : zs.length = l0) (hz0 : ∀ z ∈ zs, z.length = 7 ∧ ∀ x ∈ z, -9223372036854775808 ≤ x ∧ x < 9223372036854775808)
    (ev : Bool) :
    CallQ E F_sheaflaw19_SumsRound [.slice a0 l0 c0, .bool ev].toArray m fun v _ => v = .bool true := by
  refine .enter fn_sheaflaw19_SumsRound (by simp) ?_
  simp (decide := true) (implicitDefEqProofs := false) (maxDischargeDepth := 20) only [go_sem, ↓reduceIte, true_implies, false_implies]
  refine Rq_lines (ev := ev) hs0 hl0 hz0 (by simp (decide := true) only [go_sem, ↓reduceIte]) (by simp (decide := true) only [go_sem, ↓reduceIte]) (by simp (decide := true) only [go_sem, ↓reduceIte]) (by simp (decide := true) only [go_sem, ↓reduceIte]) fun t2 m2 a ps hag e5 H => ?_
  clear hag
  have sH := H.old.size
  obtain ⟨N, hN⟩ : ∃ N, N = min l0 15 := ⟨_, rfl⟩
  rw [← hN] at H
  have hpl : ps.length ≤ 30 := by
    have h1 := congrArg List.length H.xs
    have h2 := rowsQ_len zs ev N
    rw [List.length_map] at h1
    omega
  have h10 : ∀ r ∈ ps.map Prod.snd, r.length = 10 ∧ (1 ≤ r.getD 1 0 ∧ r.getD 1 0 ≤ 3) ∧ r.getD 7 0 = 1000 * r.getD 1 0 ∧ (-99 ≤ r.getD 4 0 ∧ r.getD 4 0 ≤ 99) ∧ -9223372036854775808 ≤ r.getD 9 0 ∧ r.getD 9 0 ≤ 9223372036854775808 := fun r hr => by
    rw [H.xs] at hr
    obtain ⟨i, hi, h⟩ := rowsQ_mem zs ev N r hr
    have hzi : ∀ c, -9223372036854775808 ≤ (zs.getD i []).getD c 0 ∧ (zs.getD i []).getD c 0 ≤ 9223372036854775808 := fun c => by
      have hil : i < zs.length := by omega
      have e : zs.getD i [] = zs[i] := by simp [List.getD_eq_getElem?_getD, hil]
      have hb := (hz0 zs[i] (List.getElem_mem _)).2
      rw [e, List.getD_eq_getElem?_getD]
      cases hg : zs[i][c]? with
      | none => exact ⟨by decide, by decide⟩
      | some v => have := hb v (List.mem_of_getElem? hg); show _ ≤ v ∧ v ≤ _; omega
    have h5 := hzi 5
    have h3 := hzi 3
    generalize zs.getD i [] = z at *
    have e := eQ_bd z
    have n := nQ_bd z
    rcases h with rfl | rfl
    · exact ⟨rfl, e, rfl, n, h5⟩
    · refine ⟨rfl, e, rfl, ?_, h3⟩
      show -99 ≤ -nQ z ∧ -nQ z ≤ 99
      omega
  simp (decide := true) (implicitDefEqProofs := false) (maxDischargeDepth := 20) only [go_sem, e5, ↓reduceIte, true_implies, false_implies]
  have hC : SlA (m2.push (.cells false true [.int .i64 1])) 1 (some ⟨m2.size, 0, none⟩) 1 1 (([((1 : Nat) : Int)] : List Int).map (.int .i64)) := .new (by rw [getM_push, if_pos rfl]; rfl) rfl rfl
  have o2p : Old m2 (m2.push (.cells false true [.int .i64 1])) := .push (.refl m2) _
  refine (Sorted_at (H.vec.sl.old o2p) (fun r hr => by
      obtain ⟨q, hq, rfl⟩ := List.mem_map.1 hr
      exact (H.own.at_ q hq).old o2p) (fun r hr => by
      obtain ⟨q, hq, rfl⟩ := List.mem_map.1 hr
      have := (h10 q.2 (List.mem_map.2 ⟨q, hq, rfl⟩)).1
      show q.2.length ≤ _
      omega) hC (by omega) (by omega)).mono ?_
  rintro w m3 ⟨bS, sS, rfl, VS, o3⟩
  have o23 := o2p.trans o3
  obtain ⟨qs, hqp, hqs⟩ := perm_of_map (sortL_perm [((1 : Nat) : Int)] (ps.map rowH)).symm ps rfl
  have hsrt := sortL_sorted [((1 : Nat) : Int)] (ps.map rowH)
  rw [hqs] at VS hsrt
  have O3 : Own2 m.size m3 qs := (H.own.old o23).perm hqp
  have hql : qs.length = ps.length := hqp.length_eq
  have h10q : ∀ q ∈ qs, q.2.length = 10 ∧ (1 ≤ q.2.getD 1 0 ∧ q.2.getD 1 0 ≤ 3) ∧ q.2.getD 7 0 = 1000 * q.2.getD 1 0 ∧ (-99 ≤ q.2.getD 4 0 ∧ q.2.getD 4 0 ≤ 99) ∧ -9223372036854775808 ≤ q.2.getD 9 0 ∧ q.2.getD 9 0 ≤ 9223372036854775808 := fun q hq => h10 q.2 (List.mem_map.2 ⟨q, hqp.mem_iff.1 hq, rfl⟩)
  obtain ⟨ls, hls⟩ : ∃ x, x = qs.map rowH := ⟨_, rfl⟩
  have hlx : ls.map HRow.xs = qs.map Prod.snd := by rw [hls, List.map_map]; rfl
  have L4 : Ln4 1000 (ls.map HRow.xs) := by
    rw [hlx]
    have hm : ∀ r ∈ qs.map Prod.snd, ∃ q ∈ qs, q.2 = r := fun r hr => by
      obtain ⟨q, hq, h⟩ := List.mem_map.1 hr
      exact ⟨q, hq, h⟩
    refine ⟨?_, fun r hr => ?_, fun r hr => ?_, fun r hr => ?_, fun r hr => ?_, by rw [List.length_map]; omega⟩
    · rw [List.pairwise_map]
      rw [List.pairwise_map] at hsrt
      refine hsrt.imp_of_mem fun {p q} hp hq h => ?_
      exact col_of_cmp _ _ 1 [] (by rw [(h10q p hp).1]; omega) (by rw [(h10q q hq).1]; omega) h
    · obtain ⟨q, hq, rfl⟩ := hm r hr; have := (h10q q hq).2.1; omega
    · obtain ⟨q, hq, rfl⟩ := hm r hr; exact (h10q q hq).2.2.1
    · obtain ⟨q, hq, rfl⟩ := hm r hr; have := (h10q q hq).2.2.2.1; omega
    · obtain ⟨q, hq, rfl⟩ := hm r hr; exact (h10q q hq).2.2.2.2
  rw [← hls] at VS
  have A3 : ∀ r ∈ ls, r.At m3 := fun r hr => by
    rw [hls] at hr
    obtain ⟨q, hq, rfl⟩ := List.mem_map.1 hr
    exact O3.at_ q hq
  have lt3 : ∀ r ∈ ls, ∀ b, r.ad = some b → b.block < m3.size := fun r hr b hb => by
    rw [hls] at hr
    obtain ⟨q, hq, rfl⟩ := List.mem_map.1 hr
    cases hb
    exact O3.lt q hq
  have hll : ls.length = ps.length := by rw [hls, List.length_map, hql]
  have hl10 : ∀ r ∈ ls, r.n = 10 := fun r hr => by
    rw [hls] at hr
    obtain ⟨q, hq, rfl⟩ := List.mem_map.1 hr
    exact (h10q q hq).1
  have hbS := VS.lt rfl
  simp only at hbS
  -- the boxes
  simp (decide := true) (implicitDefEqProofs := false) (maxDischargeDepth := 20) only [go_sem, ↓reduceIte, true_implies, false_implies]
  obtain ⟨ob, hob⟩ : ∃ b, b = m3.size := ⟨_, rfl⟩
  obtain ⟨sb, hsb⟩ : ∃ b, b = m3.size + 1 := ⟨_, rfl⟩
  obtain ⟨m4, hm4⟩ : ∃ m4, m4 = ((m3.push (.cells false true [.slice none 0 0])).push (.cells false true [.int .i64 0])).put sb (some (.cells false true [.int .i64 0])) := ⟨_, rfl⟩
  have o34 : Old m3 m4 := by rw [hm4]; exact .put (.push (.push (.refl m3) _) _) _ _ (by omega)
  have gO4 : cap1 m4 ob (.slice none 0 0) := by unfold cap1; rw [hm4, getM_put, if_neg (by omega), getM_push, if_neg (by rw [size_push]; omega), getM_push, if_pos hob]
  have gS4 : cap1 m4 sb (.int .i64 0) := by unfold cap1; rw [hm4, getM_put, if_pos ⟨rfl, by simp only [size_push]; omega⟩]
  have s4 : m4.size = m3.size + 2 := by rw [hm4, size_put, size_push, size_push]
  rw [← hsb, ← hob, ← hm4]
  refine (From_at).mono ?_
  rintro w m5 ⟨bv, rfl, cv, hbv, o45⟩
  simp (decide := true) (implicitDefEqProofs := false) (maxDischargeDepth := 20) only [go_sem, ↓reduceIte, true_implies, false_implies]
  refine (SRound_at).mono ?_
  rintro w m6 ⟨br, rfl, cr, hbr, o56⟩
  have s45 := o45.size
  have s56 := o56.size
  have o46 := o45.trans o56
  have o36 := o34.trans o46
  have gO6 := gO4.old o46
  have gS6 := gS4.old o46
  have S6 : SlA m6 1 (some ⟨bS, 0, sS⟩) ps.length ps.length (ls.map HRow.v) := VS.sl.old o36
  have A6 : ∀ r ∈ ls, r.At m6 := fun r hr => (A3 r hr).old o36
  have hR : ∀ m', Frozen (butL m6 [ob, sb]) m' → ∀ k, (ls.getD k noRow).At m' := rows_getD (l := [ob, sb]) A6 (fun r hr b hb hx => by have := lt3 r hr b hb; simp; omega)
  have it := RoundI (F := none') (ValuesR (n := ps.length) (butL_at (cv.old o56) (by simp; omega)) (fun m' z => sla_but S6 z fun b hb hx => by cases hb; simp; exact ⟨by show bS ≠ ob; omega, by show bS ≠ sb; omega⟩) (by omega)) hR hll (butL_at cr (by simp; omega)) L4.mid
  obtain ⟨es, hes⟩ : ∃ x, x = entL (ls.map HRow.xs) := ⟨_, rfl⟩
  have hmid := L4.mid
  rw [← hes] at it hmid
  have heb : ∀ e ∈ es, fitE e.id ∧ fitE e.parts := fun e he => by
    rw [hes, L4.ents] at he
    obtain ⟨i, hi, h⟩ := List.mem_filterMap.1 he
    have hi := (irange_mem 4 1 i).1 hi
    unfold entOf at h
    split at h
    · cases h
    · cases h
      unfold fitE
      simp only
      omega
  have hlen : es.length ≤ 4 := by
    rw [hes, L4.ents]
    exact Nat.le_trans (List.length_filterMap_le ..) (by decide)
  simp (decide := true) (implicitDefEqProofs := false) (maxDischargeDepth := 20) only [go_sem, ↓reduceIte, true_implies, false_implies]
  refine Rq_range (ob := ob) (sb := sb) it (cutN_inr es false) (fun r hr => by
      obtain ⟨e, he, rfl, hf⟩ := cutN_inl es false r hr
      have := heb e he
      unfold fitE at this hf
      intro x hx
      simp only [rowE, List.mem_cons, List.not_mem_nil, or_false] at hx
      omega) (by have := cutN_len es false; omega) gO6 gS6 (by omega) (by simp (decide := true) only [go_sem, ↓reduceIte]) (by simp (decide := true) only [go_sem, ↓reduceIte]) (by simp (decide := true) only [go_sem, ↓reduceIte]) fun m7 gs7 hgot s67 k67 => ?_
  have k37 : ∀ i, i < m3.size → m7.get i = m3.get i := fun i hi => by rw [k67 i (by have := o36.size; omega) (by omega) (by omega), o36.get hi]
  have s36 := o36.size
  have S7 : SlA m7 1 (some ⟨bS, 0, sS⟩) ps.length ps.length (ls.map HRow.v) := VS.sl.keep fun b hb hx => by cases hb; exact k37 bS hbS
  have A7 : ∀ r ∈ ls, r.At m7 := fun r hr => (A3 r hr).keep fun b hb hx => k37 _ (lt3 r hr b hb)
  simp (decide := true) (implicitDefEqProofs := false) (maxDischargeDepth := 20) only [go_sem, ↓reduceIte, true_implies, false_implies]
  refine (RRound_at S7 A7 hl10 L4 (by omega)).mono ?_
  rintro w m8 ⟨aw, ws, rfl, VW, OW, hws, o78⟩
  rw [← hes] at hws
  rw [← hes]
  obtain ⟨hd1, hd2⟩ := doc_cut es false []
  have gs8 := gs7.old o78
  have rs8 := get_at0 gs8
  rw [hd1]
  have deq : (statC (cutN false es) == statC (cutN false es)) = true := by simp
  by_cases h0 : statC (cutN false es) = 0
  · obtain ⟨ag, os, gO7, SG, hox, hoA⟩ := hgot h0
    have gO8 := gO7.old o78
    have rO8 := get_at0 gO8
    have d0 : (statC (cutN false es) != 0) = false := by rw [h0]; rfl
    have hws2 : ws.map Prod.snd = gotC (cutN false es) := by rw [hws, hd2 h0]; rfl
    have hgm : ∀ r ∈ gotC (cutN false es), r.length = 4 := fun r hr => by
      have hin : ∀ (cs : List REl), r ∈ gotC cs → .inl r ∈ cs := fun cs => by
        induction cs with
        | nil => intro h; cases h
        | cons c cs ih =>
          intro h
          cases c with
          | inl x =>
            rcases List.mem_cons.1 h with rfl | h
            · exact List.mem_cons_self
            · exact List.mem_cons_of_mem _ (ih h)
          | inr s => cases h
      obtain ⟨e, _, rfl, _⟩ := cutN_inl es false r (hin _ hr)
      rfl
    have hol : os.length ≤ 1000 := by
      have h1 := congrArg List.length hox
      rw [List.length_map] at h1
      have h2 : ∀ cs : List REl, (gotC cs).length ≤ cs.length := fun cs => by
        induction cs with
        | nil => exact Nat.le_refl _
        | cons c cs ih =>
          cases c with
          | inl x => simp only [gotC, List.length_cons]; omega
          | inr s => simp [gotC]
      have h3 := h2 (cutN false es)
      have h4 := cutN_len es false
      omega
    have hwl : ws.length = os.length := by
      have h1 := congrArg List.length hox
      have h2 := congrArg List.length hws2
      rw [List.length_map] at h1 h2
      omega
    have GA : ∀ r ∈ os, r.At m8 ∧ r.n ≤ 1000000 := fun r hr => by
      refine ⟨(hoA r hr).old o78, ?_⟩
      have h3 : r.xs ∈ gotC (cutN false es) := by rw [← hox]; exact List.mem_map.2 ⟨r, hr, rfl⟩
      rw [← (hoA r hr).len, hgm _ h3]
      omega
    have WA : ∀ r ∈ ws.map rowH, r.At m8 ∧ r.n ≤ 1000000 := fun r hr => by
      obtain ⟨q, hq, rfl⟩ := List.mem_map.1 hr
      have h3 : q.2 ∈ gotC (cutN false es) := by rw [← hws2]; exact List.mem_map.2 ⟨q, hq, rfl⟩
      refine ⟨OW.at_ q hq, ?_⟩
      show q.2.length ≤ _
      rw [hgm _ h3]
      omega
    simp (decide := true) (implicitDefEqProofs := false) (maxDischargeDepth := 20) only [go_sem, rs8, rO8, deq, d0, ↓reduceIte, true_implies, false_implies]
    refine (Rows_at (SG.old o78) VW.sl GA WA (by omega) (by omega)).mono ?_
    rintro w m9 ⟨rfl, o89⟩
    have hsame : decide (os.map HRow.xs = (ws.map rowH).map HRow.xs) = true := by
      have : (ws.map rowH).map HRow.xs = ws.map Prod.snd := by rw [List.map_map]; rfl
      rw [this, hox, hws2]
      simp
    rw [hsame]
    simp (decide := true) (implicitDefEqProofs := false) (maxDischargeDepth := 20) only [go_sem, ↓reduceIte, true_implies, false_implies]
  · have d0 : (statC (cutN false es) != 0) = true := by simpa using h0
    simp (decide := true) (implicitDefEqProofs := false) (maxDischargeDepth := 20) only [go_sem, rs8, deq, d0, ↓reduceIte, true_implies, false_implies]

end Go.Proofs.Ytjmppooebppecaa.W
