/-
  A heap of texts in memory (turned from HeapA .. HeapD by genheapt.py).
-/
import Derived.Test.YthlcbacmbcmgfaaHeapA
namespace Go.Proofs.Ythlcbacmbcmgfaa.W
open Go.Abs
set_option linter.unusedSimpArgs false
set_option linter.unusedVariables false


/-! ### HeapA, turned -/

abbrev vS (x : ByteArray) : Value := .string x
abbrev bE : ByteArray := ⟨#[]⟩

/-- A function value that compares, and leaves all as it is. -/
def LessT (Z : Nat → Option Blk) (fv : Value) (lt : ByteArray → ByteArray → Bool) : Prop := ∀ a b m, Frozen Z m → CallF E fv [vS a, vS b] m fun w m' => w = .bool (lt a b) ∧ Old m m'

/-- The object, and the block of its list. -/
structure HeapBT (m : Mem) (h : Nat) (fv : Value) (n c b : Nat) (s : Option Nat) (tg : Bool) (L : List ByteArray) : Prop where
  obj : m.get h = some (.cells false true [fv, .slice (some ⟨b, 0, s⟩) n c])
  blk : m.get b = some (.cells false tg (L.map vS))
  ne : h ≠ b
  cap : c = L.length
  le : n ≤ c
  loose : looseOk ⟨b, 0, s⟩ 1 = true

/-- A heap with these in it; A are its blocks. -/
def HeapAtT (m : Mem) (h : Nat) (fv : Value) (l : List ByteArray) (A : Set') : Prop :=
  (m.get h = some (.cells false true [fv, .slice none 0 0]) ∧ l = [] ∧ ∀ i, A i ↔ i = h) ∨
  ∃ c b s tg rest, HeapBT m h fv l.length c b s tg (l ++ rest) ∧ ∀ i, A i ↔ i = h ∨ i = b

theorem HeapBT.keep {m m' : Mem} {h : Nat} {fv : Value} {n c b : Nat} {s : Option Nat} {tg : Bool} {L : List ByteArray} (H : HeapBT m h fv n c b s tg L) (k1 : m'.get h = m.get h) (k2 : m'.get b = m.get b) : HeapBT m' h fv n c b s tg L :=
  ⟨k1.trans H.obj, k2.trans H.blk, H.ne, H.cap, H.le, H.loose⟩
theorem HeapAtT.loc (h : Nat) (fv : Value) (l : List ByteArray) : LocP fun m A => HeapAtT m h fv l A := by
  rintro m m' A (⟨h1, h2, h3⟩ | ⟨c, b, s, tg, rest, H, hA⟩) hk hs
  · exact .inl ⟨by rw [hk h ((h3 h).2 rfl)]; exact h1, h2, h3⟩
  · exact .inr ⟨c, b, s, tg, rest, H.keep (hk h ((hA h).2 (.inl rfl))) (hk b ((hA b).2 (.inr rfl))), hA⟩
theorem HeapAtT.lt {m : Mem} {h : Nat} {fv : Value} {l : List ByteArray} {A : Set'} (H : HeapAtT m h fv l A) : ∀ i, A i → i < m.size := by
  rcases H with ⟨h1, h2, h3⟩ | ⟨c, b, s, tg, rest, H, hA⟩
  · intro i hi; rw [(h3 i).1 hi]; exact getM_lt h1
  · intro i hi
    rcases (hA i).1 hi with rfl | rfl
    · exact getM_lt H.obj
    · exact getM_lt H.blk
theorem HeapAtT.old {m m' : Mem} {h : Nat} {fv : Value} {l : List ByteArray} {A : Set'} (H : HeapAtT m h fv l A) (o : Old m m') : HeapAtT m' h fv l A := HeapAtT.loc h fv l m m' A H (fun i hi => o.get (H.lt i hi)) o.size

set_option maxRecDepth 100000 in
theorem NewT_at {m : Mem} {f : Fn} {fa fb : Array Value} : CallQ E F_heap_New_string [.func f fa fb].toArray m fun w m' => w = ptr m.size ∧ HeapAtT m' m.size (.func f fa fb) [] (fun i => i = m.size) ∧ Old m m' := by
  refine .enter fn_heap_New_string (by simp) ?_
  simp (decide := true) (implicitDefEqProofs := false) (maxDischargeDepth := 20) only [go_sem, ↓reduceIte, true_implies, false_implies]
  exact .inl ⟨by rw [getM_push, if_pos rfl], rfl, fun _ => Iff.rfl⟩

set_option maxRecDepth 100000 in
theorem LenT_at {m : Mem} {h : Nat} {fv : Value} {l : List ByteArray} {A : Set'} (H : HeapAtT m h fv l A) : CallQ E F_heap_Heap_string_Len [ptr h].toArray m fun w m' => w = .int .i64 l.length ∧ m' = m := by
  refine .enter fn_heap_Heap_string_Len (by simp) ?_
  rcases H with ⟨h1, rfl, h3⟩ | ⟨c, b, s, tg, rest, H, hA⟩
  · have r : m.at h (0 + 1) = some (.slice none 0 0) := by unfold Mem.at; rw [h1]; rfl
    simp (decide := true) (implicitDefEqProofs := false) (maxDischargeDepth := 20) only [go_sem, nilOk, r, ↓reduceIte, true_implies, false_implies]
    first | done | rfl
  · have r : m.at h (0 + 1) = some (.slice (some ⟨b, 0, s⟩) l.length c) := by unfold Mem.at; rw [H.obj]; rfl
    simp (decide := true) (implicitDefEqProofs := false) (maxDischargeDepth := 20) only [go_sem, nilOk, r, ↓reduceIte, true_implies, false_implies]

set_option maxRecDepth 100000 in
theorem TopT_at {m : Mem} {h : Nat} {fv : Value} {l : List ByteArray} {A : Set'} (H : HeapAtT m h fv l A) : CallQ E F_heap_Heap_string_Top [ptr h].toArray m fun w m' => w = .tuple #[vS (if l = [] then bE else gt l 0), .bool (!l.isEmpty)] ∧ m' = m := by
  refine .enter fn_heap_Heap_string_Top (by simp) ?_
  rcases H with ⟨h1, rfl, h3⟩ | ⟨c, b, s, tg, rest, H, hA⟩
  · have r : m.at h (0 + 1) = some (.slice none 0 0) := by unfold Mem.at; rw [h1]; rfl
    simp (decide := true) (implicitDefEqProofs := false) (maxDischargeDepth := 20) only [go_sem, nilOk, r, ↓reduceIte, true_implies, false_implies]
    first | done | rfl | exact ⟨rfl, rfl⟩
  · have r : m.at h (0 + 1) = some (.slice (some ⟨b, 0, s⟩) l.length c) := by unfold Mem.at; rw [H.obj]; rfl
    cases l with
    | nil =>
      simp (decide := true) (implicitDefEqProofs := false) (maxDischargeDepth := 20) only [go_sem, nilOk, r, List.length_nil, ↓reduceIte, true_implies, false_implies]
      first | done | rfl | exact ⟨rfl, rfl⟩
    | cons x t =>
      have d1 : (((t.length + 1 : Nat) : Int) == 0) = false := by rw [beq_eq_false_iff_ne]; omega
      have z1 : (0 : Int) < ((t.length + 1 : Nat) : Int) := by omega
      have rb : m.at b (Int.toNat 0) = some (vS x) := by unfold Mem.at; rw [H.blk]; rfl
      simp (decide := true) (implicitDefEqProofs := false) (maxDischargeDepth := 20) only [go_sem, nilOk, r, d1, z1, rb, List.length_cons, ↓reduceIte, true_implies, false_implies]
      first | done | rfl | exact ⟨rfl, rfl⟩


/-! ### HeapB, turned -/

theorem HeapBT.at1 {m : Mem} {h : Nat} {fv : Value} {n c b : Nat} {s : Option Nat} {tg : Bool} {L : List ByteArray} (H : HeapBT m h fv n c b s tg L) : m.at h 1 = some (.slice (some ⟨b, 0, s⟩) n c) := by unfold Mem.at; rw [H.obj]; rfl
theorem HeapBT.at0 {m : Mem} {h : Nat} {fv : Value} {n c b : Nat} {s : Option Nat} {tg : Bool} {L : List ByteArray} (H : HeapBT m h fv n c b s tg L) : m.at h 0 = some fv := by unfold Mem.at; rw [H.obj]; rfl
theorem HeapBT.el {m : Mem} {h : Nat} {fv : Value} {n c b : Nat} {s : Option Nat} {tg : Bool} {L : List ByteArray} (H : HeapBT m h fv n c b s tg L) {i : Nat} (hi : i < L.length) : m.at b i = some (vS (gt L i)) := by
  unfold Mem.at
  rw [H.blk, gt_getElem L hi]
  simp [Blk.at, hi]
theorem HeapBT.old {m m' : Mem} {h : Nat} {fv : Value} {n c b : Nat} {s : Option Nat} {tg : Bool} {L : List ByteArray} (H : HeapBT m h fv n c b s tg L) (o : Old m m') : HeapBT m' h fv n c b s tg L := H.keep (o.get (getM_lt H.obj)) (o.get (getM_lt H.blk))

theorem gt_leftT (l r : List ByteArray) {i : Nat} (h : i < l.length) : gt (l ++ r) i = gt l i := by
  unfold gt
  simp only [List.getD_eq_getElem?_getD, List.getElem?_append_left h]
theorem swp_leftT (l r : List ByteArray) {i j : Nat} (hi : i < l.length) (hj : j < l.length) : swp (l ++ r) i j = swp l i j ++ r := by
  unfold swp
  rw [gt_leftT l r hi, gt_leftT l r hj, List.set_append_left _ _ hi, List.set_append_left _ _ (by simp; omega)]

theorem map_swpT (l rest : List ByteArray) {i j : Nat} (hi : i < l.length) (hj : j < l.length) : (((l ++ rest).map vS).set i (vS (gt l j))).set j (vS (gt l i)) = (swp l i j ++ rest).map vS := by
  rw [← swp_leftT l rest hi hj]
  unfold swp
  rw [gt_leftT l rest hi, gt_leftT l rest hj, List.map_set, List.map_set]
theorem HeapBT.put2 {m : Mem} {h : Nat} {fv : Value} {n c b : Nat} {s : Option Nat} {tg : Bool} {L : List ByteArray} (H : HeapBT m h fv n c b s tg L) (L2 : List ByteArray) (hl : L2.length = L.length) (X : List Value) :
    HeapBT ((m.put b (some (.cells false tg X))).put b (some (.cells false tg (L2.map vS)))) h fv n c b s tg L2 := by
  have lb := getM_lt H.blk
  refine ⟨?_, ?_, H.ne, H.cap.trans hl.symm, H.le, H.loose⟩
  · rw [getM_put, if_neg (fun e => H.ne e.1), getM_put, if_neg (fun e => H.ne e.1)]
    exact H.obj
  · rw [getM_put, if_pos ⟨rfl, by rw [size_put]; exact lb⟩]
set_option maxRecDepth 100000 in
set_option maxHeartbeats 4000000 in
theorem PushT_loop {Z : Nat → Option Blk} {m : Mem} {t : Fr} {h c b : Nat} {fv : Value} {lt : ByteArray → ByteArray → Bool} {s : Option Nat} {tg : Bool} {l rest : List ByteArray} (H : HeapBT m h fv l.length c b s tg (l ++ rest)) (hf : LessT Z fv lt) (z : Frozen Z m) (hz : Z h = none ∧ Z b = none)
    (hn : l.length ≤ 1000000) (i0 : Nat) (hi0 : i0 < l.length) (t0 : t 0 = ptr h) (t4 : t 4 = .int .i64 (i0 : Nat)) {K : Post3}
    (hK : ∀ x t' m', (x = .normal ∨ x = .ret) → HeapBT m' h fv l.length c b s tg (upL lt (i0 + 1) l i0 ++ rest) → ChgS (fun i => i = h ∨ i = b) m m' → K x t' m') :
    wpM E F_heap_Heap_string_Push 74 none c_heap_Heap_string_Push_10 K t m := by
  obtain ⟨R, hR⟩ : ∃ R, R = upL lt (i0 + 1) l i0 := ⟨_, rfl⟩
  rw [← hR] at hK
  simp only [c_heap_Heap_string_Push_10_at, wpM_block, c_heap_Heap_string_Push_9_at]
  refine wpM_loopA (fun j t' m' => ∃ i l' k, j = i ∧ i < l.length ∧ i < k ∧ l'.length = l.length ∧ t' 4 = .int .i64 (i : Nat) ∧ HeapBT m' h fv l.length c b s tg (l' ++ rest) ∧ upL lt k l' i = R ∧ ChgS (fun i => i = h ∨ i = b) m m' ∧ Frozen Z m') i0 ⟨i0, l, i0 + 1, rfl, hi0, by omega, rfl, t4, H, hR.symm, .refl _ _, z⟩ ?_
  rintro j t' m' ha ⟨i, l', k, rfl, hi, hik, hl', e4, H', hup, hc, z'⟩
  have a0 := (ha 0 (by decide +kernel)).trans t0
  have hcap := H'.cap
  rw [List.length_append] at hcap
  have le := H'.le
  obtain ⟨k, rfl⟩ : ∃ k', k = k' + 1 := ⟨k - 1, by omega⟩
  by_cases h0 : j = 0
  · subst h0
    have d1 : decide (((0 : Nat) : Int) > 0) = false := by decide
    simp only [upL, if_true] at hup
    simp (decide := true) (implicitDefEqProofs := false) (maxDischargeDepth := 20) only [go_sem, a0, e4, d1, ↓reduceIte, true_implies, false_implies]
    refine hK _ _ _ (.inl rfl) ?_ hc
    rw [← hup]
    exact H'
  · have d1 : decide ((j : Int) > 0) = true := by simp; omega
    have w1 : IntKind.wrap .i64 (Int.tdiv (IntKind.wrap .i64 ((j : Int) - 1)) 2) = (((j - 1) / 2 : Nat) : Int) := by
      have e1 : IntKind.wrap .i64 ((j : Int) - 1) = ((j - 1 : Nat) : Int) := by rw [wrap_i64_id _ (by omega) (by omega)]; omega
      rw [e1, Int.tdiv_eq_ediv_of_nonneg (by omega), wrap_i64_id _ (by omega) (by omega)]
      omega
    simp only [upL, if_neg h0] at hup
    obtain ⟨p, hp⟩ : ∃ p, p = (j - 1) / 2 := ⟨_, rfl⟩
    rw [← hp] at w1 hup
    have r1 := H'.at1
    have r0 := H'.at0
    have rj := H'.el (i := j) (by rw [List.length_append]; omega)
    have rp := H'.el (i := p) (by rw [List.length_append]; omega)
    rw [gt_leftT _ _ (by omega)] at rj rp
    have z0 : (0 : Int) ≤ (j : Int) := by omega
    have z1 : (j : Int) < (l.length : Int) := by omega
    have z2 : (0 : Int) ≤ (p : Int) := by omega
    have z3 : (p : Int) < (l.length : Int) := by omega
    simp (decide := true) (implicitDefEqProofs := false) (maxDischargeDepth := 20) only [go_sem, a0, e4, d1, w1, nilOk, r0, r1, rj, rp, z0, z1, z2, z3, Int.toNat_natCast, ↓reduceIte, true_implies, false_implies]
    refine CallF.step ((hf (gt l' j) (gt l' p) m' z').mono ?_)
    rintro w m2 ⟨rfl, o2⟩
    have H2 := H'.old o2
    have z2' := z'.old o2
    have hc2 : ChgS (fun i => i = h ∨ i = b) m m2 := hc.trans (o2.chg none') (fun _ h => h) (fun _ _ h => h.elim)
    cases hlt : lt (gt l' j) (gt l' p) with
    | false =>
      rw [hlt] at hup
      simp (decide := true) (implicitDefEqProofs := false) (maxDischargeDepth := 20) only [go_sem, ↓reduceIte, true_implies, false_implies]
      refine hK _ _ _ (.inr rfl) ?_ hc2
      simp only [Bool.false_eq_true, if_false] at hup
      rw [← hup]
      exact H2
    | true =>
      rw [hlt] at hup
      simp only [if_true] at hup
      have r1 := H2.at1
      have r0 := H2.at0
      have rj := H2.el (i := j) (by rw [List.length_append]; omega)
      have rp := H2.el (i := p) (by rw [List.length_append]; omega)
      rw [gt_leftT _ _ (by omega)] at rj rp
      have gb := H2.blk
      have lb := getM_lt gb
      have lj : j + 1 ≤ (l' ++ rest).length := by rw [List.length_append]; omega
      have lp : p + 1 ≤ (l' ++ rest).length := by rw [List.length_append]; omega
      simp (decide := true) (implicitDefEqProofs := false) (maxDischargeDepth := 20) only [go_sem, a0, e4, nilOk, r0, r1, rj, rp, z0, z1, z2, z3, gb, lb, lj, lp, List.length_map, Int.toNat_natCast, ↓reduceIte, true_implies, false_implies]
      have hj : j < l'.length := by omega
      have hpl : p < l'.length := by omega
      rw [map_swpT l' rest hj hpl]
      have hB := H2.put2 (swp l' j p ++ rest) (by simp [swp_length]) ((l' ++ rest).map vS |>.set j (vS (gt l' p)))
      refine ⟨p, by omega, p, swp l' j p, k, rfl, by omega, by omega, by rw [swp_length, hl'], rfl, hB, hup, (hc2.put _ _ (.inl (.inr rfl))).put _ _ (.inl (.inr rfl)), ?_⟩
      exact (z2'.put hz.2 _).put hz.2 _

set_option maxRecDepth 100000 in
/-- append to the heap's list. -/
theorem heap_appendT {m : Mem} {h : Nat} {fv : Value} {l : List ByteArray} {A : Set'} (H : HeapAtT m h fv l A) (x : ByteArray) (hn : l.length ≤ 1000000) {a : Option Addr} {c : Nat} (hs : m.at h 1 = some (.slice a l.length c)) {st xt : TypeId} (ht : isSl E st 1 = true) (ht' : isSl E xt 1 = true) {K : Value → Mem → Prop}
    (hK : ∀ m' c' b s tg rest, m'.get h = m.get h → m'.get b = some (.cells false tg ((l ++ [x] ++ rest).map vS)) → looseOk ⟨b, 0, s⟩ 1 = true → h ≠ b → c' = l.length + 1 + rest.length → m.size ≤ m'.size → (∀ i, i < m.size → ¬ A i → m'.get i = m.get i) → (A b ∨ m.size ≤ b) →
      K (.slice (some ⟨b, 0, s⟩) (l.length + 1) c') m') :
    StepQ E (val2? (appendV E (m.push (.cells false true [vS x])) st xt (.slice a l.length c) (.slice (some ⟨m.size, 0, none⟩) 1 1))) K := by
  have S1 : SlA (m.push (.cells false true [vS x])) 1 (some ⟨m.size, 0, none⟩) 1 1 [vS x] := SlA.new (by rw [getM_push, if_pos rfl]) (by simp) rfl
  have hx := S1.appended' ht' (by decide)
  rcases H with ⟨h1, rfl, h3⟩ | ⟨c0, b, s, tg, rest, H, hA⟩
  · have : m.at h 1 = some (.slice none 0 0) := by unfold Mem.at; rw [h1]; rfl
    rw [this] at hs
    cases hs
    have hl := getM_lt h1
    refine append_new (n := 0) (c := 0) (xs := []) (a := none) (.empty 1) (by omega) ⟨fun _ e => by cases e⟩ hx (by simp) ht rfl (by omega) fun m' z g u _ => ?_
    rw [size_push] at z g u ⊢
    refine hK m' 1 _ _ _ [] ?_ g (by simp [looseOk]) (by omega) rfl (by omega) (fun i hi _ => ?_) (.inr (by omega))
    · rw [u h (by omega) (fun _ e => by cases e), getM_push, if_neg (by omega)]
    · rw [u i (by omega) (fun _ e => by cases e), getM_push, if_neg (by omega)]
  · rw [H.at1] at hs
    cases hs
    have hl := getM_lt H.obj
    have hbl := getM_lt H.blk
    have hcap := H.cap
    rw [List.length_append] at hcap
    have gb : (m.push (.cells false true [vS x])).get b = some (.cells false tg ((l ++ rest).map vS)) := by rw [getM_push, if_neg (by omega)]; exact H.blk
    cases rest with
    | nil =>
      have SL : SlA (m.push (.cells false true [vS x])) 1 (some ⟨b, 0, s⟩) l.length c (l.map vS) := by
        have := SlA.new (sz := 1) (n := l.length) (s := s) gb (by simp) H.loose
        simp only [List.append_nil] at this
        have e : c = l.length := by simpa using hcap
        rw [e]
        exact this
      refine append_new SL (by simp at hcap; omega) ⟨fun q hq => by cases hq; exact ⟨false, tg, _, gb, .inr rfl, by simp⟩⟩ hx (by simp) ht rfl (by omega) fun m' z g u _ => ?_
      rw [size_push] at z g u ⊢
      refine hK m' (l.length + 1) _ _ _ [] ?_ (by simpa using g) (by simp [looseOk]) (by omega) (by simp) (by omega) (fun i hi hna => ?_) (.inr (by omega))
      · rw [u h (by omega) (fun q hq => by cases hq; exact H.ne), getM_push, if_neg (by omega)]
      · rw [u i (by omega) (fun q hq e => by cases hq; exact hna ((hA i).2 (.inr e))), getM_push, if_neg (by omega)]
    | cons y rest =>
      refine append_in (sz := 1) (o := 0) (k := 1) H.loose gb (by simp at hcap; omega) hx (by simp) ht rfl (by simp) fun m' u z g => ?_
      have e1 : List.take (0 + l.length * 1) ((l ++ y :: rest).map vS) = l.map vS := by
        rw [List.map_append, List.take_append_of_le_length (by simp), List.take_of_length_le (by simp)]
      have e2 : List.drop (0 + l.length * 1 + [vS x].length) ((l ++ y :: rest).map vS) = rest.map vS := by
        rw [List.map_append, List.map_cons, List.drop_append]
        simp
      rw [e1, e2] at g
      refine hK m' c b s tg rest ?_ (by rw [g]; simp) H.loose H.ne (by simp at hcap; omega) (by rw [z, size_push]; omega) (fun i hi hna => ?_) (.inl ((hA b).2 (.inr rfl)))
      · rw [u.get h (by rw [size_push]; omega) H.ne, getM_push, if_neg (by omega)]
      · rw [u.get i (by rw [size_push]; omega) (fun e => hna ((hA i).2 (.inr e))), getM_push, if_neg (by omega)]

theorem HeapAtT.slice {m : Mem} {h : Nat} {fv : Value} {l : List ByteArray} {A : Set'} (H : HeapAtT m h fv l A) : (∃ a c, m.get h = some (.cells false true [fv, .slice a l.length c])) ∧ A h := by
  rcases H with ⟨h1, rfl, h3⟩ | ⟨c, b, s, tg, rest, H, hA⟩
  · exact ⟨⟨none, 0, h1⟩, (h3 h).2 rfl⟩
  · exact ⟨⟨_, _, H.obj⟩, (hA h).2 (.inl rfl)⟩

set_option maxRecDepth 100000 in
set_option maxHeartbeats 4000000 in
theorem PushT_at {Z : Nat → Option Blk} {m : Mem} {h : Nat} {fv : Value} {lt : ByteArray → ByteArray → Bool} {l : List ByteArray} {A : Set'} (H : HeapAtT m h fv l A) (hf : LessT Z fv lt) (z : Frozen Z m) (hz : ∀ i, A i → Z i = none) (hn : l.length ≤ 1000) (x : ByteArray) :
    CallQ E F_heap_Heap_string_Push [ptr h, vS x].toArray m fun _ m' => ∃ A', HeapAtT m' h fv (pushL lt l x) A' ∧ Trs A m m' A' := by
  obtain ⟨⟨a, c, g⟩, hAh⟩ := H.slice
  have r : m.at h (0 + 1) = some (.slice a l.length c) := by unfold Mem.at; rw [g]; rfl
  refine .enter fn_heap_Heap_string_Push (by simp) ?_
  simp (decide := true) (implicitDefEqProofs := false) (maxDischargeDepth := 20) only [go_sem, nilOk, r, ↓reduceIte, true_implies, false_implies]
  refine heap_appendT H x (by omega) r (by decide +kernel) (by decide +kernel) fun m1 c1 b s tg rest k1 k2 k3 k4 k5 k6 k7 k8 => ?_
  have g1 : m1.get h = some (.cells false true [fv, .slice a l.length c]) := k1.trans g
  have hh1 := getM_lt g1
  have hb1 := getM_lt k2
  have w1 : IntKind.wrap .i64 (((l.length + 1 : Nat) : Int) - 1) = ((l.length : Nat) : Int) := by rw [wrap_i64_id _ (by omega) (by omega)]; omega
  have hl1 : (l ++ [x]).length = l.length + 1 := by simp
  have H0 : HeapBT (m1.put h (some (.cells false true [fv, .slice (some ⟨b, 0, s⟩) (l.length + 1) c1]))) h fv (l ++ [x]).length c1 b s tg ((l ++ [x]) ++ rest) := by
    refine ⟨?_, ?_, k4, by simp; omega, by rw [hl1]; omega, k3⟩
    · rw [getM_put, if_pos ⟨rfl, hh1⟩, hl1]
    · rw [getM_put, if_neg (fun e => k4 e.1.symm)]; exact k2
  simp (decide := true) (implicitDefEqProofs := false) (maxDischargeDepth := 20) only [go_sem, nilOk, g1, hh1, w1, ↓reduceIte, true_implies, false_implies]
  have zb : Z h = none ∧ Z b = none := ⟨hz h hAh, k8.elim (hz b) z.free⟩
  have c1' : ChgS A m (m1.put h (some (.cells false true [fv, .slice (some ⟨b, 0, s⟩) (l.length + 1) c1]))) := ChgS.put ⟨k6, k7⟩ _ _ (.inl hAh)
  refine PushT_loop H0 hf (z.chg c1' hz) zb (by omega) l.length (by omega) (by simp (decide := true) only [go_sem, ↓reduceIte]) (by simp (decide := true) only [go_sem, w1, ↓reduceIte]) fun xx t' m' hx H' hc => ?_
  have res : ∃ A', HeapAtT m' h fv (pushL lt l x) A' ∧ Trs A m m' A' := by
    refine ⟨fun i => i = h ∨ i = b, .inr ⟨c1, b, s, tg, rest, ?_, fun _ => Iff.rfl⟩, ⟨⟨by have := c1'.size; have := hc.size; omega, fun i hi hna => ?_⟩, fun i hi => ?_⟩⟩
    · rw [pushL_length, ← hl1]
      unfold pushL
      exact H'
    · rw [hc.get i (by have := c1'.size; omega) (by
        rintro (rfl | rfl)
        · exact hna hAh
        · exact k8.elim hna fun e => by omega), c1'.get i hi hna]
    · rcases hi with rfl | rfl
      · exact ⟨getM_lt H'.obj, .inl hAh⟩
      · exact ⟨getM_lt H'.blk, k8⟩
  rcases hx with rfl | rfl <;> exact res


/-! ### HeapC, turned -/

/-- The first, then the second one below: which is least so far. -/
def leastKT (lt : ByteArray → ByteArray → Bool) (l : List ByteArray) (i : Nat) : Nat → Nat
  | 0 => i
  | 1 => if 2 * i + 1 < l.length ∧ lt (gt l (2 * i + 1)) (gt l i) = true then 2 * i + 1 else i
  | _ => leastL lt l i
theorem leastKT_bd (lt : ByteArray → ByteArray → Bool) (l : List ByteArray) (i k : Nat) (hi : i < l.length) : leastKT lt l i k < l.length := by
  match k with
  | 0 => exact hi
  | 1 =>
    simp only [leastKT]
    split
    · rename_i h; exact h.1
    · exact hi
  | k + 2 =>
    show leastL lt l i < l.length
    rcases leastL_bd (lt := lt) l i with e | e
    · rw [e]; exact hi
    · exact e.2
theorem leastKT_step (lt : ByteArray → ByteArray → Bool) (l : List ByteArray) (i k : Nat) (hk : k < 2) : leastKT lt l i (k + 1) = if 2 * i + 1 + k < l.length ∧ lt (gt l (2 * i + 1 + k)) (gt l (leastKT lt l i k)) = true then 2 * i + 1 + k else leastKT lt l i k := by
  match k, hk with
  | 0, _ => rfl
  | 1, _ => rfl

set_option maxRecDepth 100000 in
set_option maxHeartbeats 4000000 in
/-- The two below. -/
theorem SinkT_two {Z : Nat → Option Blk} {m : Mem} {t : Fr} {h c b q : Nat} {fv : Value} {lt : ByteArray → ByteArray → Bool} {s : Option Nat} {tg tq : Bool} {l rest : List ByteArray} (H : HeapBT m h fv l.length c b s tg (l ++ rest)) (hf : LessT Z fv lt) (z : Frozen Z m)
    (hn : l.length ≤ 1000000) (i : Nat) (hi : i ≤ l.length) (hq : m.get q = some (.cells false tq [vI ((2 * i + 1 : Nat) : Int), vI ((2 * i + 2 : Nat) : Int)])) (t0 : t 0 = ptr h) (t3 : t 3 = .int .i64 (i : Nat)) (t13 : t 13 = .slice (some ⟨q, 0, none⟩) 2 2) (t14 : t 14 = .int .i64 2) (t15 : t 15 = .int .i64 0) {K : Post3}
    (hK : ∀ t' m', Agree (writes c_heap_Heap_string_sink_9) t t' → t' 3 = .int .i64 (leastL lt l i : Nat) → Old m m' → K .normal t' m') :
    wpM E F_heap_Heap_string_sink 79 none c_heap_Heap_string_sink_9 K t m := by
  refine wpM_cut (fun t' m' => t' 3 = .int .i64 (leastL lt l i : Nat) ∧ Old m m') ?_ fun t' m' hag ⟨h1, h2⟩ => hK t' m' hag h1 h2
  simp only [c_heap_Heap_string_sink_9_at, wpM_block, c_heap_Heap_string_sink_8_at]
  refine wpM_loopA (fun j t' m' => ∃ k : Nat, k ≤ 2 ∧ j = 2 - k ∧ t' 15 = .int .i64 (k : Nat) ∧ t' 3 = .int .i64 (leastKT lt l i k : Nat) ∧ Old m m') 2 ⟨0, by omega, rfl, t15, t3, .refl m⟩ ?_
  rintro j t' m' ha ⟨k, hk, rfl, e15, e3, o⟩
  have a0 := (ha 0 (by decide +kernel)).trans t0
  have a13 := (ha 13 (by decide +kernel)).trans t13
  have a14 := (ha 14 (by decide +kernel)).trans t14
  have H' := H.old o
  have r1 := H'.at1
  have r0 := H'.at0
  by_cases hlt : k < 2
  · have d1 : decide ((k : Int) < 2) = true := by simp; omega
    have w1 : IntKind.wrap .i64 ((k : Int) + 1) = ((k + 1 : Nat) : Int) := by rw [wrap_i64_id _ (by omega) (by omega)]; omega
    have z0 : (0 : Int) ≤ (k : Int) := by omega
    have z1 : (k : Int) < ((2 : Nat) : Int) := by omega
    have gq : m'.get q = _ := (o.get (getM_lt hq)).trans hq
    have rq : m'.at q k = some (vI ((2 * i + 1 + k : Nat) : Int)) := by
      unfold Mem.at
      rw [gq]
      match k, hlt with
      | 0, _ => rfl
      | 1, _ => rfl
    have step := leastKT_step lt l i k hlt
    by_cases hin : 2 * i + 1 + k < l.length
    · have d2 : decide (((2 * i + 1 + k : Nat) : Int) < (l.length : Int)) = true := by rw [decide_eq_true_eq]; omega
      have x0 : (0 : Int) ≤ ((2 * i + 1 + k : Nat) : Int) := by omega
      have x1 : ((2 * i + 1 + k : Nat) : Int) < (l.length : Int) := by omega
      have lb := leastKT_bd lt l i k (by omega)
      have re := H'.el (i := leastKT lt l i k) (by rw [List.length_append]; omega)
      rw [gt_leftT _ _ lb] at re
      generalize leastKT lt l i k = e at *
      have y0 : (0 : Int) ≤ (e : Int) := by omega
      have y1 : (e : Int) < (l.length : Int) := by omega
      have rk := H'.el (i := 2 * i + 1 + k) (by rw [List.length_append]; omega)
      rw [gt_leftT _ _ hin] at rk
      generalize 2 * i + 1 + k = kk at *
      simp (decide := true) (implicitDefEqProofs := false) (maxDischargeDepth := 20) only [go_sem, a0, a13, a14, e15, e3, d1, d2, nilOk, r0, r1, rq, re, rk, z0, z1, y0, y1, x0, x1, Int.toNat_natCast, ↓reduceIte, true_implies, false_implies]
      refine CallF.step ((hf (gt l kk) (gt l e) m' (z.old o)).mono ?_)
      rintro w m2 ⟨rfl, o2⟩
      cases hl : lt (gt l kk) (gt l e) with
      | true =>
        rw [if_pos ⟨hin, hl⟩] at step
        simp (decide := true) (implicitDefEqProofs := false) (maxDischargeDepth := 20) only [go_sem, a0, a13, a14, e15, e3, w1, ↓reduceIte, true_implies, false_implies]
        exact ⟨2 - (k + 1), by omega, k + 1, by omega, rfl, rfl, by rw [step], o.trans o2⟩
      | false =>
        rw [if_neg (fun h => by rw [hl] at h; cases h.2)] at step
        simp (decide := true) (implicitDefEqProofs := false) (maxDischargeDepth := 20) only [go_sem, a0, a13, a14, e15, e3, w1, ↓reduceIte, true_implies, false_implies]
        exact ⟨2 - (k + 1), by omega, k + 1, by omega, rfl, rfl, by rw [step], o.trans o2⟩
    · have d2 : decide (((2 * i + 1 + k : Nat) : Int) < (l.length : Int)) = false := by rw [decide_eq_false_iff_not]; omega
      rw [if_neg (fun h => hin h.1)] at step
      generalize 2 * i + 1 + k = kk at *
      simp (decide := true) (implicitDefEqProofs := false) (maxDischargeDepth := 20) only [go_sem, a0, a13, a14, e15, e3, d1, d2, w1, nilOk, r0, r1, rq, z0, z1, Int.toNat_natCast, ↓reduceIte, true_implies, false_implies]
      exact ⟨2 - (k + 1), by omega, k + 1, by omega, rfl, rfl, by rw [step], o⟩
  · have hk2 : k = 2 := by omega
    subst hk2
    have d1 : decide (((2 : Nat) : Int) < 2) = false := by decide
    simp (decide := true) (implicitDefEqProofs := false) (maxDischargeDepth := 20) only [go_sem, a0, a13, a14, e15, e3, d1, ↓reduceIte, true_implies, false_implies]
    exact ⟨rfl, o⟩

set_option maxRecDepth 100000 in
set_option maxHeartbeats 4000000 in
theorem SinkT_at {Z : Nat → Option Blk} {m : Mem} {h c b : Nat} {fv : Value} {lt : ByteArray → ByteArray → Bool} {s : Option Nat} {tg : Bool} {l rest : List ByteArray} (H : HeapBT m h fv l.length c b s tg (l ++ rest)) (hf : LessT Z fv lt) (z : Frozen Z m) (hz : Z h = none ∧ Z b = none) (hn : l.length ≤ 1000000) :
    CallQ E F_heap_Heap_string_sink [ptr h].toArray m fun _ m' => HeapBT m' h fv l.length c b s tg (downL lt l.length l 0 ++ rest) ∧ ChgS (fun i => i = h ∨ i = b) m m' := by
  refine .enter fn_heap_Heap_string_sink (by simp) ?_
  obtain ⟨R, hR⟩ : ∃ R, R = downL lt l.length l 0 := ⟨_, rfl⟩
  rw [← hR]
  simp (decide := true) (implicitDefEqProofs := false) (maxDischargeDepth := 20) only [go_sem, ↓reduceIte, true_implies, false_implies]
  simp only [c_heap_Heap_string_sink_19_at, wpM_block, c_heap_Heap_string_sink_18_at]
  refine wpM_loopA (fun j t' m' => ∃ i l' k, j = l.length - i ∧ i ≤ l.length ∧ l.length ≤ i + k ∧ l'.length = l.length ∧ t' 2 = .int .i64 (i : Nat) ∧ HeapBT m' h fv l.length c b s tg (l' ++ rest) ∧ downL lt k l' i = R ∧ ChgS (fun i => i = h ∨ i = b) m m' ∧ Frozen Z m') l.length
    ⟨0, l, l.length, rfl, by omega, by omega, rfl, by simp (decide := true) only [go_sem, ↓reduceIte]; try rfl, H, hR.symm, .refl _ _, z⟩ ?_
  rintro j t' m' ha ⟨i, l', k, rfl, hi, hik, hl', e2, H', hdn, hc, z'⟩
  have a0 := ha 0 (by decide +kernel)
  simp (decide := true) only [go_sem, ↓reduceIte] at a0
  have hcap := H'.cap
  rw [List.length_append] at hcap
  have w1 : IntKind.wrap .i64 (IntKind.wrap .i64 (2 * (i : Int)) + 1) = ((2 * i + 1 : Nat) : Int) := by rw [wrap_i64_id (2 * (i : Int)) (by omega) (by omega), wrap_i64_id _ (by omega) (by omega)]; omega
  have w2 : IntKind.wrap .i64 (IntKind.wrap .i64 (2 * (i : Int)) + 2) = ((2 * i + 2 : Nat) : Int) := by rw [wrap_i64_id (2 * (i : Int)) (by omega) (by omega), wrap_i64_id _ (by omega) (by omega)]; omega
  simp (decide := true) (implicitDefEqProofs := false) (maxDischargeDepth := 20) only [go_sem, a0, e2, w1, w2, ↓reduceIte, true_implies, false_implies]
  have om : Old m' (m'.push (.cells false true [vI ((2 * i + 1 : Nat) : Int), vI ((2 * i + 2 : Nat) : Int)])) := .push (.refl _) _
  have hq : (m'.push (.cells false true [vI ((2 * i + 1 : Nat) : Int), vI ((2 * i + 2 : Nat) : Int)])).get m'.size = some (.cells false true [vI ((2 * i + 1 : Nat) : Int), vI ((2 * i + 2 : Nat) : Int)]) := by rw [getM_push, if_pos rfl]
  have H0 := H'.old om
  rw [← hl'] at H0
  refine SinkT_two (tq := true) H0 hf (z'.old om) (by omega) i (by omega) hq (by simp (decide := true) only [go_sem, a0, ↓reduceIte]) (by simp (decide := true) only [go_sem, ↓reduceIte]) (by simp (decide := true) only [go_sem, ↓reduceIte]) (by simp (decide := true) only [go_sem, ↓reduceIte]; try rfl) (by simp (decide := true) only [go_sem, ↓reduceIte]) fun t2 m2 hag e3 o2 => ?_
  have b0 := hag 0 (by decide +kernel)
  have b2 := hag 2 (by decide +kernel)
  simp (decide := true) only [go_sem, a0, e2, ↓reduceIte] at b0 b2
  have o12 := om.trans o2
  have H2 := H'.old o12
  have z2 := z'.old o12
  have hc2 : ChgS (fun i => i = h ∨ i = b) m m2 := hc.trans (o12.chg none') (fun _ h => h) (fun _ _ h => h.elim)
  by_cases he : leastL lt l' i = i
  · have d1 : (((leastL lt l' i : Nat) : Int) == (i : Int)) = true := by rw [he]; simp
    have hR2 : l' = R := by
      rw [← hdn]
      cases k with
      | zero => rfl
      | succ k => simp only [downL]; rw [if_pos he]
    simp (decide := true) (implicitDefEqProofs := false) (maxDischargeDepth := 20) only [go_sem, b0, b2, e3, d1, ↓reduceIte, true_implies, false_implies]
    rw [← hR2]
    exact ⟨H2, hc2⟩
  · have d1 : (((leastL lt l' i : Nat) : Int) == (i : Int)) = false := by rw [beq_eq_false_iff_ne]; omega
    have hbd := leastL_bd (lt := lt) l' i
    obtain ⟨k, rfl⟩ : ∃ k', k = k' + 1 := ⟨k - 1, by omega⟩
    simp only [downL] at hdn
    rw [if_neg he] at hdn
    generalize leastL lt l' i = p at *
    have hip : i < l'.length := by omega
    have hpl : p < l'.length := by omega
    have r1 := H2.at1
    have ri := H2.el (i := i) (by rw [List.length_append]; omega)
    have rp := H2.el (i := p) (by rw [List.length_append]; omega)
    rw [gt_leftT _ _ (by omega)] at ri rp
    have gb := H2.blk
    have lb := getM_lt gb
    have z0 : (0 : Int) ≤ (i : Int) := by omega
    have z1 : (i : Int) < (l.length : Int) := by omega
    have y0 : (0 : Int) ≤ (p : Int) := by omega
    have y1 : (p : Int) < (l.length : Int) := by omega
    have lj : i + 1 ≤ (l' ++ rest).length := by rw [List.length_append]; omega
    have lp : p + 1 ≤ (l' ++ rest).length := by rw [List.length_append]; omega
    simp (decide := true) (implicitDefEqProofs := false) (maxDischargeDepth := 20) only [go_sem, b0, b2, e3, d1, nilOk, r1, ri, rp, z0, z1, y0, y1, gb, lb, lj, lp, List.length_map, Int.toNat_natCast, ↓reduceIte, true_implies, false_implies]
    rw [map_swpT l' rest hip hpl]
    have hB := H2.put2 (swp l' i p ++ rest) (by simp [swp_length]) ((l' ++ rest).map vS |>.set i (vS (gt l' p)))
    exact ⟨l.length - p, by omega, p, swp l' i p, k, rfl, by omega, by omega, by rw [swp_length, hl'], rfl, hB, hdn, (hc2.put _ _ (.inl (.inr rfl))).put _ _ (.inl (.inr rfl)), (z2.put hz.2 _).put hz.2 _⟩


/-! ### HeapD, turned -/

theorem HeapBT.sl {m : Mem} {h : Nat} {fv : Value} {c b : Nat} {s : Option Nat} {tg : Bool} {l rest : List ByteArray} (H : HeapBT m h fv l.length c b s tg (l ++ rest)) : SlA m 1 (some ⟨b, 0, s⟩) l.length c (l.map vS) where
  len := by simp
  cap := H.le
  loose := fun x hx => by cases hx; exact H.loose
  rows := fun x hx _ => by
    cases hx
    exact .of_blk H.blk (by simp) (by simp)
  nil := fun e => by cases e

theorem cut_eqT (l rest : List ByteArray) (h : 0 < l.length) : (((l ++ rest).map vS).set 0 (vS (gt l (l.length - 1)))).set (l.length - 1) (vS bE) = (cutL l ++ (bE :: rest)).map vS := by
  rw [← List.map_set, ← List.map_set]
  congr 1
  rw [List.set_append_left _ _ h, List.set_append_left _ _ (by simp; omega)]
  have e : (l.set 0 (gt l (l.length - 1))).set (l.length - 1) bE = cutL l ++ [bE] := by
    unfold cutL
    generalize hq : l.set 0 (gt l (l.length - 1)) = q
    have hl : q.length = l.length := by rw [← hq]; simp
    have hq0 : q = q.take (l.length - 1) ++ [q[l.length - 1]'(by omega)] := by
      conv => lhs; rw [← List.take_length (l := q), hl, show l.length = (l.length - 1) + 1 by omega, List.take_succ_eq_append_getElem (by omega)]
    have e2 : ∀ y, q.set (l.length - 1) y = q.take (l.length - 1) ++ [y] := by
      intro y
      conv => lhs; rw [hq0]
      have e3 : (q.take (l.length - 1)).length = l.length - 1 := by rw [List.length_take, hl]; omega
      rw [List.set_append_right _ _ (by omega), e3, Nat.sub_self]
      rfl
    exact e2 bE
  rw [e, List.append_assoc]
  rfl

set_option maxRecDepth 100000 in
set_option maxHeartbeats 4000000 in
theorem PopT_at {Z : Nat → Option Blk} {m : Mem} {h : Nat} {fv : Value} {lt : ByteArray → ByteArray → Bool} {l : List ByteArray} {A : Set'} (H : HeapAtT m h fv l A) (hf : LessT Z fv lt) (z : Frozen Z m) (hz : ∀ i, A i → Z i = none) (hn : l.length ≤ 1000) :
    CallQ E F_heap_Heap_string_Pop [ptr h].toArray m fun w m' => w = .tuple #[vS (if l = [] then bE else gt l 0), .bool (!l.isEmpty)] ∧ HeapAtT m' h fv (popL lt l) A ∧ ChgS A m m' := by
  refine .enter fn_heap_Heap_string_Pop (by simp) ?_
  simp (decide := true) (implicitDefEqProofs := false) (maxDischargeDepth := 20) only [go_sem, ↓reduceIte, true_implies, false_implies]
  refine (TopT_at H).mono ?_
  rintro w m1 ⟨rfl, rfl⟩
  by_cases hl : l = []
  · subst hl
    simp (decide := true) (implicitDefEqProofs := false) (maxDischargeDepth := 20) only [go_sem, List.isEmpty_nil, ↓reduceIte, true_implies, false_implies]
    exact ⟨rfl, H, .refl _ _⟩
  · have hl0 : 0 < l.length := List.length_pos_iff.2 hl
    have he : l.isEmpty = false := by simpa using hl
    rcases H with ⟨_, h2, _⟩ | ⟨c, b, s, tg, rest, H, hA⟩
    · exact absurd h2 hl
    have r1 := H.at1
    have ra := H.el (i := l.length - 1) (by rw [List.length_append]; omega)
    rw [gt_leftT _ _ (by omega)] at ra
    have gb := H.blk
    have lb := getM_lt gb
    have go := H.obj
    have lo := getM_lt go
    have w1 : IntKind.wrap .i64 ((l.length : Int) - 1) = ((l.length - 1 : Nat) : Int) := by rw [wrap_i64_id _ (by omega) (by omega)]; omega
    have z0 : (0 : Int) ≤ ((l.length - 1 : Nat) : Int) := by omega
    have z1 : ((l.length - 1 : Nat) : Int) < (l.length : Int) := by omega
    have z2 : (0 : Int) < (l.length : Int) := by omega
    have l1 : Int.toNat 0 + 1 ≤ (l ++ rest).length := by rw [List.length_append]; simp; omega
    have l2 : l.length - 1 + 1 ≤ (l ++ rest).length := by rw [List.length_append]; omega
    have sl := (H.sl.sliceTo (E := E) (k := .i64) (show l.length - 1 ≤ l.length by omega)).1 46 (by decide +kernel)
    have nhb := H.ne
    have nbh : ¬ b = h := fun e => nhb e.symm
    simp (decide := true) (implicitDefEqProofs := false) (maxDischargeDepth := 20) only [go_sem, he, nilOk, r1, ra, w1, z0, z1, z2, gb, lb, go, lo, l1, l2, sl, nhb, nbh, List.length_map, Int.toNat_natCast, ↓reduceIte, true_implies, false_implies]
    have ecut := cut_eqT l rest hl0
    have e0 : Int.toNat 0 = 0 := rfl
    rw [e0, ecut]
    generalize hX : ((l ++ rest).map vS).set 0 (vS (gt l (l.length - 1))) = X
    have hlc : (cutL l).length = l.length - 1 := cutL_length l
    have hcap := H.cap
    rw [List.length_append] at hcap
    have H3 : HeapBT (((m1.put b (some (.cells false tg X))).put b (some (.cells false tg ((cutL l ++ (bE :: rest)).map vS)))).put h (some (.cells false true [fv, .slice (some ⟨b, 0, s⟩) (l.length - 1) c]))) h fv (cutL l).length c b s tg (cutL l ++ (bE :: rest)) := by
      refine ⟨?_, ?_, nhb, by simp [hlc]; omega, by omega, H.loose⟩
      · rw [getM_put, if_pos ⟨rfl, by rw [size_put, size_put]; exact lo⟩, hlc]
      · rw [getM_put, if_neg (fun e => nbh e.1), getM_put, if_pos ⟨rfl, by rw [size_put]; exact lb⟩]
    have Ah : A h := (hA h).2 (.inl rfl)
    have Ab : A b := (hA b).2 (.inr rfl)
    have c1 : ChgS A m1 (((m1.put b (some (.cells false tg X))).put b (some (.cells false tg ((cutL l ++ (bE :: rest)).map vS)))).put h (some (.cells false true [fv, .slice (some ⟨b, 0, s⟩) (l.length - 1) c]))) :=
      (((ChgS.refl A m1).put _ _ (.inl Ab)).put _ _ (.inl Ab)).put _ _ (.inl Ah)
    refine (SinkT_at H3 hf (z.chg c1 hz) ⟨hz h Ah, hz b Ab⟩ (by omega)).mono ?_
    rintro w m2 ⟨H4, c2⟩
    have epop : downL lt (cutL l).length (cutL l) 0 = popL lt l := by
      unfold popL
      rw [hlc]
      rfl
    rw [epop, hlc] at H4
    simp (decide := true) (implicitDefEqProofs := false) (maxDischargeDepth := 20) only [go_sem, ↓reduceIte, true_implies, false_implies]
    refine ⟨rfl, .inr ⟨c, b, s, tg, bE :: rest, ?_, hA⟩, c1.trans c2 (fun _ h => h) fun i _ hi => (hA i).2 hi⟩
    rw [popL_length]
    exact H4

end Go.Proofs.Ythlcbacmbcmgfaa.W
