/-
  A heap of pairs in memory: Push (turned from HeapB).
-/
import Derived.Test.YthlcbacmbcmgfaaHeapSB
namespace Go.Proofs.Ythlcbacmbcmgfaa.W
open Go.Abs
set_option linter.unusedSimpArgs false
set_option linter.unusedVariables false

set_option maxRecDepth 100000 in
/-- append to the heap's list. -/
theorem heap_appendP {m : Mem} {h : Nat} {fv : Value} {l : List (Int × Int)} {A : Set'} (H : HeapAtP m h fv l A) (x : Int × Int) (hn : l.length ≤ 1000000) {a : Option Addr} {c : Nat} (hs : m.at h 1 = some (.slice a l.length c)) {st xt : TypeId} (ht : isSl E st 2 = true) (ht' : isSl E xt 2 = true) {K : Value → Mem → Prop}
    (hK : ∀ m' c' b s tg rest, m'.get h = m.get h → m'.get b = some (.cells false tg (pC (l ++ [x] ++ rest))) → looseOk ⟨b, 0, s⟩ 2 = true → h ≠ b → c' = l.length + 1 + rest.length → m.size ≤ m'.size → (∀ i, i < m.size → ¬ A i → m'.get i = m.get i) → (A b ∨ m.size ≤ b) →
      K (.slice (some ⟨b, 0, s⟩) (l.length + 1) c') m') :
    StepQ E (val2? (appendV E (m.push (.cells false true (p2 x))) st xt (.slice a l.length c) (.slice (some ⟨m.size, 0, none⟩) 1 1))) K := by
  have S1 : SlA (m.push (.cells false true (p2 x))) 2 (some ⟨m.size, 0, none⟩) 1 1 (p2 x) := SlA.new (by rw [getM_push, if_pos rfl]) (by simp [p2]) rfl
  have hx := S1.appended' ht' (by decide)
  rcases H with ⟨h1, rfl, h3⟩ | ⟨c0, b, s, tg, rest, H, hA⟩
  · have : m.at h 1 = some (.slice none 0 0) := by unfold Mem.at; rw [h1]; rfl
    rw [this] at hs
    cases hs
    have hl := getM_lt h1
    refine append_new (n := 0) (c := 0) (xs := []) (a := none) (.empty 2) (by omega) ⟨fun _ e => by cases e⟩ hx (by simp [p2]) ht rfl (by omega) fun m' z g u _ => ?_
    rw [size_push] at z g u ⊢
    refine hK m' 1 _ _ _ [] ?_ (by rw [g]; rfl) (by simp [looseOk]) (by omega) rfl (by omega) (fun i hi _ => ?_) (.inr (by omega))
    · rw [u h (by omega) (fun _ e => by cases e), getM_push, if_neg (by omega)]
    · rw [u i (by omega) (fun _ e => by cases e), getM_push, if_neg (by omega)]
  · rw [H.at1] at hs
    cases hs
    have hl := getM_lt H.obj
    have hbl := getM_lt H.blk
    have hcap := H.cap
    rw [List.length_append] at hcap
    have gb : (m.push (.cells false true (p2 x))).get b = some (.cells false tg (pC (l ++ rest))) := by rw [getM_push, if_neg (by omega)]; exact H.blk
    cases rest with
    | nil =>
      have SL : SlA (m.push (.cells false true (p2 x))) 2 (some ⟨b, 0, s⟩) l.length c (pC l) := by
        have := SlA.new (sz := 2) (n := l.length) (s := s) gb (by simp [pC_len]) H.loose
        simp only [List.append_nil] at this
        have e : c = l.length := by simpa using hcap
        rw [e]
        exact this
      refine append_new SL (by simp at hcap; omega) ⟨fun q hq => by cases hq; exact ⟨false, tg, _, gb, .inr rfl, by simp [pC_len]⟩⟩ hx (by simp [p2]) ht rfl (by omega) fun m' z g u _ => ?_
      rw [size_push] at z g u ⊢
      refine hK m' (l.length + 1) _ _ _ [] ?_ (by rw [g, List.append_nil, pC_append]; rfl) (by simp [looseOk]) (by omega) (by simp) (by omega) (fun i hi hna => ?_) (.inr (by omega))
      · rw [u h (by omega) (fun q hq => by cases hq; exact H.ne), getM_push, if_neg (by omega)]
      · rw [u i (by omega) (fun q hq e => by cases hq; exact hna ((hA i).2 (.inr e))), getM_push, if_neg (by omega)]
    | cons y rest =>
      refine append_in (sz := 2) (o := 0) (k := 1) H.loose gb (by simp at hcap; omega) hx (by simp [p2]) ht rfl (by rw [pC_len]; simp; omega) fun m' u z g => ?_
      have e1 : List.take (0 + l.length * 2) (pC (l ++ y :: rest)) = pC l := by
        rw [Nat.zero_add, pC_take, List.take_left]
      have e2 : List.drop (0 + l.length * 2 + (p2 x).length) (pC (l ++ y :: rest)) = pC rest := by
        rw [pC_append, pC_cons, Nat.zero_add, ← pC_len l, ← List.drop_drop, List.drop_left]
        rfl
      rw [e1, e2] at g
      refine hK m' c b s tg rest ?_ (by rw [g, pC_append, pC_append]; rfl) H.loose H.ne (by simp at hcap; omega) (by rw [z, size_push]; omega) (fun i hi hna => ?_) (.inl ((hA b).2 (.inr rfl)))
      · rw [u.get h (by rw [size_push]; omega) H.ne, getM_push, if_neg (by omega)]
      · rw [u.get i (by rw [size_push]; omega) (fun e => hna ((hA i).2 (.inr e))), getM_push, if_neg (by omega)]

theorem HeapAtP.slice {m : Mem} {h : Nat} {fv : Value} {l : List (Int × Int)} {A : Set'} (H : HeapAtP m h fv l A) : (∃ a c, m.get h = some (.cells false true [fv, .slice a l.length c])) ∧ A h := by
  rcases H with ⟨h1, rfl, h3⟩ | ⟨c, b, s, tg, rest, H, hA⟩
  · exact ⟨⟨none, 0, h1⟩, (h3 h).2 rfl⟩
  · exact ⟨⟨_, _, H.obj⟩, (hA h).2 (.inl rfl)⟩

set_option maxRecDepth 100000 in
set_option maxHeartbeats 4000000 in
theorem PushP_at {Z : Nat → Option Blk} {m : Mem} {h : Nat} {fv : Value} {lt : Int × Int → Int × Int → Bool} {l : List (Int × Int)} {A : Set'} (H : HeapAtP m h fv l A) (hf : LessP Z fv lt) (z : Frozen Z m) (hz : ∀ i, A i → Z i = none) (hn : l.length ≤ 1000) (x : Int × Int) :
    CallQ E F_heap_Heap_runs_Item_string_Push [ptr h, pV x].toArray m fun _ m' => ∃ A', HeapAtP m' h fv (pushL lt l x) A' ∧ Trs A m m' A' := by
  obtain ⟨⟨a, c, g⟩, hAh⟩ := H.slice
  have r : m.at h (0 + 1) = some (.slice a l.length c) := by unfold Mem.at; rw [g]; rfl
  refine .enter fn_heap_Heap_runs_Item_string_Push (by simp) ?_
  have nh : ¬ h = m.size := by have := getM_lt g; omega
  have lh := getM_lt g
  have oP : Old m (m.push (.cells false true [vI x.1, sv x.2])) := .push (.refl m) _
  have H1 := H.old oP
  have g := (oP.get lh).trans g
  have r1 : (m.push (.cells false true [vI x.1, sv x.2])).at h 1 = some (.slice a l.length c) := by unfold Mem.at; rw [g]; rfl
  simp (decide := true) (implicitDefEqProofs := false) (maxDischargeDepth := 20) only [go_sem, nilOk, pV, r, nh, lh, ↓reduceIte, true_implies, false_implies]
  have zP : Frozen Z (m.push (.cells false true [vI x.1, sv x.2])) := z.old oP
  have sP : (m.push (.cells false true [vI x.1, sv x.2])).size = m.size + 1 := by simp
  generalize m.push (.cells false true [vI x.1, sv x.2]) = mP at *
  have ez : (((zeroRow [Value.int IntKind.i64 0, Value.string ⟨#[]⟩] 1).set 0 (vI x.1)).set 1 (sv x.2)) = p2 x := rfl
  rw [ez, ← sP]
  refine heap_appendP H1 x (by omega) r1 (by decide +kernel) (by decide +kernel) fun m1 c1 b s tg rest k1 k2 k3 k4 k5 k6 k7 k8 => ?_
  have g1 : m1.get h = some (.cells false true [fv, .slice a l.length c]) := k1.trans g
  have hh1 := getM_lt g1
  have hb1 := getM_lt k2
  have w1 : IntKind.wrap .i64 (((l.length + 1 : Nat) : Int) - 1) = ((l.length : Nat) : Int) := by rw [wrap_i64_id _ (by omega) (by omega)]; omega
  have hl1 : (l ++ [x]).length = l.length + 1 := by simp
  have H0 : HeapBP (m1.put h (some (.cells false true [fv, .slice (some ⟨b, 0, s⟩) (l.length + 1) c1]))) h fv (l ++ [x]).length c1 b s tg ((l ++ [x]) ++ rest) := by
    refine ⟨?_, ?_, k4, by simp; omega, by rw [hl1]; omega, k3⟩
    · rw [getM_put, if_pos ⟨rfl, hh1⟩, hl1]
    · rw [getM_put, if_neg (fun e => k4 e.1.symm)]; exact k2
  simp (decide := true) (implicitDefEqProofs := false) (maxDischargeDepth := 20) only [go_sem, nilOk, g1, hh1, w1, ↓reduceIte, true_implies, false_implies]
  have zb : Z h = none ∧ Z b = none := ⟨hz h hAh, k8.elim (hz b) zP.free⟩
  have c1' : ChgS A mP (m1.put h (some (.cells false true [fv, .slice (some ⟨b, 0, s⟩) (l.length + 1) c1]))) := ChgS.put ⟨k6, k7⟩ _ _ (.inl hAh)
  refine PushP_loop H0 hf (zP.chg c1' hz) zb (by omega) l.length (by omega) (by simp (decide := true) only [go_sem, ↓reduceIte]) (by simp (decide := true) only [go_sem, w1, ↓reduceIte]) fun xx t' m' hx H' hc => ?_
  have res : ∃ A', HeapAtP m' h fv (pushL lt l x) A' ∧ Trs A m m' A' := by
    refine ⟨fun i => i = h ∨ i = b, .inr ⟨c1, b, s, tg, rest, ?_, fun _ => Iff.rfl⟩, ⟨⟨by have := c1'.size; have := hc.size; omega, fun i hi hna => ?_⟩, fun i hi => ?_⟩⟩
    · rw [pushL_length, ← hl1]
      unfold pushL
      exact H'
    · rw [hc.get i (by have := c1'.size; omega) (by
        rintro (rfl | rfl)
        · exact hna hAh
        · exact k8.elim hna fun e => by omega), c1'.get i (by omega) hna, oP.get hi]
    · rcases hi with rfl | rfl
      · exact ⟨getM_lt H'.obj, .inl hAh⟩
      · exact ⟨getM_lt H'.blk, k8.elim .inl fun e => .inr (by omega)⟩
  rcases hx with rfl | rfl <;> exact res
end Go.Proofs.Ythlcbacmbcmgfaa.W
