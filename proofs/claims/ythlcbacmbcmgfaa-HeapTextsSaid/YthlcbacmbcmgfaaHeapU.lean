/-
  HeapTexts: the law.
-/
import Derived.Test.YthlcbacmbcmgfaaHeapT
import Derived.Test.YthlcbacmbcmgfaaCodeLaw
import Derived.Test.YthlcbacmbcmgfaaAbs31
namespace Go.Proofs.Ythlcbacmbcmgfaa.W
open Go.Abs
set_option linter.unusedSimpArgs false
set_option linter.unusedVariables false

abbrev lessTV : Value := .func (.func F_sheaflaw8_HeapTexts_1) #[] #[]
abbrev ltT (a b : ByteArray) : Bool := decide ((a.size : Int) < (b.size : Int))
def noZT : Nat → Option Blk := fun _ => none
theorem noZT_frozen (m : Mem) : Frozen noZT m := fun _ _ h => by cases h
theorem ltT_ord : Ord ltT := ⟨fun a b h => by simp at h ⊢; omega, fun a b c h k => by simp at h k ⊢; omega⟩
set_option maxRecDepth 100000 in
theorem someT1 : (E.fn F_sheaflaw8_HeapTexts_1).isSome = true := by kernel_rfl
theorem lessT_ok : LessT noZT lessTV ltT := by
  intro a b m _
  rw [CallF_func]
  refine ⟨someT1, ?_⟩
  have e : (#[] ++ [vS a, vS b].toArray ++ #[] : Array Value) = [vS a, vS b].toArray := by simp
  rw [e]
  refine .enter fn_sheaflaw8_HeapTexts_1 (by simp) ?_
  simp (decide := true) (implicitDefEqProofs := false) (maxDischargeDepth := 20) only [go_sem, ↓reduceIte, true_implies, false_implies]

theorem kmap50 : IsKMap keyS E 50 (vI 0) := ⟨_, _, map50, rfl⟩
theorem mk50 (m : Mem) : makeMapV E m 50 none = some (.map (some m.size), m.push (.map [] 0)) := makeMapV_K kmap50
theorem look50 {m : Mem} {b N : Nat} {f : ByteArray → Option Value} (h : KMap keyS m b f N) (x : ByteArray) : lookupV E m 50 (.map (some b)) (.string x) false = some ((f x).getD (vI 0)) := h.look kmap50 x
theorem upd50 {m : Mem} {b N : Nat} {f : ByteArray → Option Value} (h : KMap keyS m b f N) (x : ByteArray) (v : Value) : ∃ m', mapUpdateV E m 50 (.map (some b)) (.string x) v = some m' ∧ KMap keyS m' b (updK f x v) (if (f x).isSome then N else N + 1) ∧ m'.size = m.size ∧ ∀ i, i ≠ b → m'.get i = m.get i := h.upd kmap50 x v

theorem CallX_enterT {f : FuncId} {n i : Nat} {c : MC} (hf : FnIs E f n [.tmp i] c) (hmo : ((E.fn f).map fun i => mapsOk E i.code) = some true) {args : List Value} (hs : args.length ≤ n) {m : Mem}
    (hro : ∀ i c, m.get i = some c → c.writable = false) (h : WpX E f n c (retK fun t m' => resultsF E m' t [.tmp i] = some [.bool true]) (initU 0 args undefF) m) : CallX Try.prog tab f args m :=
  CallX.of_wpx facts hf hmo hs hro h

/-- How often a text is there. -/
def cT (l : List ByteArray) (y : ByteArray) : Nat := l.countP fun z => decide (z = y)
theorem cT_perm {l r : List ByteArray} (h : l.Perm r) (y : ByteArray) : cT l y = cT r y := h.countP_eq _
theorem cT_cons (x : ByteArray) (l : List ByteArray) (y : ByteArray) : cT (x :: l) y = cT l y + if y = x then 1 else 0 := by
  unfold cT
  rw [List.countP_cons]
  by_cases h : y = x
  · subst h; simp
  · have : ¬ x = y := fun e => h e.symm
    simp [h, this]
theorem cT_le (l : List ByteArray) (y : ByteArray) : cT l y ≤ l.length := List.countP_le_length
theorem cT_mem {l : List ByteArray} {y : ByteArray} (h : 0 < cT l y) : y ∈ l := by
  unfold cT at h
  obtain ⟨z, hz, e⟩ := List.countP_pos_iff.1 h
  have e := of_decide_eq_true e
  exact e ▸ hz

/-- A heap of texts, and a map that counts them. -/
def TxS (m0 : Mem) (h qb : Nat) (m : Mem) (H : List ByteArray) : Prop := ∃ f N A, HeapAtT m h lessTV H A ∧ IsHeap ltT H ∧ KMap keyS m qb f N ∧ (∀ y, (f y).getD (vI 0) = vI (cT H y)) ∧ (∀ j, j < m0.size → m.get j = m0.get j) ∧ m0.size ≤ m.size ∧ (∀ j, A j → m0.size ≤ j ∧ j ≠ qb) ∧ m0.size ≤ qb

theorem TxS.old {m0 m m' : Mem} {h qb : Nat} {H : List ByteArray} (S : TxS m0 h qb m H) (o : Old m m') : TxS m0 h qb m' H := by
  obtain ⟨f, N, A, h1, h2, h3, h4, h5, h6, h7, h8⟩ := S
  have := o.size
  exact ⟨f, N, A, h1.old o, h2, h3.old o, h4, fun j hj => by rw [o.get (by omega), h5 j hj], by omega, h7, h8⟩

set_option maxRecDepth 100000 in
set_option maxHeartbeats 8000000 in
theorem TxS.push {m0 m : Mem} {h qb : Nat} {H : List ByteArray} (S : TxS m0 h qb m H) (hn : H.length ≤ 1000) (x : ByteArray) {K : Value → Mem → Prop}
    (hK : ∀ w m2, lookupV E m2 50 (.map (some qb)) (.string x) false = some (vI (cT H x)) → (∃ m3, mapUpdateV E m2 50 (.map (some qb)) (.string x) (vI ((cT H x : Int) + 1)) = some m3 ∧ TxS m0 h qb m3 (pushL ltT H x)) → K w m2) :
    CallQ E F_heap_Heap_string_Push [ptr h, vS x].toArray m K := by
  obtain ⟨f, N, A, h1, h2, h3, h4, h5, h6, h7, h8⟩ := S
  refine (PushT_at h1 lessT_ok (noZT_frozen m) (fun _ _ => rfl) hn x).mono ?_
  rintro w m2 ⟨A', k1, k2⟩
  have hq : m2.get qb = m.get qb := k2.c.get qb h3.blk (fun e => (h7 _ e).2 rfl)
  have h32 := h3.keep hq
  have l2 := look50 h32 x
  rw [h4] at l2
  obtain ⟨m3, u1, u2, u3, u4⟩ := upd50 h32 x (vI ((cT H x : Int) + 1))
  have z2 := k2.c.size
  have hA' : ∀ j, A' j → m0.size ≤ j ∧ j ≠ qb := fun j hj => by
    rcases (k2.n j hj).2 with e | e
    · exact h7 j e
    · have := h3.blk; exact ⟨by omega, by omega⟩
  refine hK w m2 l2 ⟨m3, u1, _, _, A', HeapAtT.loc h lessTV _ m2 m3 A' k1 (fun j hj => u4 j (hA' j hj).2) (by omega), pushL_heap ltT_ord _ _ h2, u2, fun y => ?_, fun j hj => ?_, by omega, hA', h8⟩
  · rw [cT_perm (pushL_perm (lt := ltT) H x) y, cT_cons]
    unfold updK
    by_cases hy : y = x
    · subst hy
      rw [if_pos rfl, if_pos rfl]
      simp
    · rw [if_neg hy, if_neg hy, Nat.add_zero, h4]
  · rw [u4 j (by omega), k2.c.get j (by omega) (fun e => by have := (h7 _ e).1; omega), h5 j hj]

set_option maxRecDepth 100000 in
set_option maxHeartbeats 8000000 in
theorem TxS.pop {m0 m : Mem} {h qb : Nat} {H : List ByteArray} (S : TxS m0 h qb m H) (hn : H.length ≤ 1000) (hne : H ≠ []) {K : Value → Mem → Prop}
    (hK : ∀ m2, lookupV E m2 50 (.map (some qb)) (.string (gt H 0)) false = some (vI (cT H (gt H 0))) → 0 < cT H (gt H 0) → (∃ m3, mapUpdateV E m2 50 (.map (some qb)) (.string (gt H 0)) (vI ((cT H (gt H 0) : Int) - 1)) = some m3 ∧ TxS m0 h qb m3 (popL ltT H)) → K (.tuple #[vS (gt H 0), .bool true]) m2) :
    CallQ E F_heap_Heap_string_Pop [ptr h].toArray m K := by
  obtain ⟨f, N, A, h1, h2, h3, h4, h5, h6, h7, h8⟩ := S
  refine (PopT_at h1 lessT_ok (noZT_frozen m) (fun _ _ => rfl) hn).mono ?_
  rintro w m2 ⟨rfl, k1, k2⟩
  have hem : H.isEmpty = false := by simpa using hne
  rw [if_neg hne, hem]
  have hq : m2.get qb = m.get qb := k2.get qb h3.blk (fun e => (h7 _ e).2 rfl)
  have h32 := h3.keep hq
  have l2 := look50 h32 (gt H 0)
  rw [h4] at l2
  have hp := popL_perm (lt := ltT) H hne
  have hc : cT H (gt H 0) = cT (popL ltT H) (gt H 0) + 1 := by rw [← cT_perm hp, cT_cons, if_pos rfl]
  obtain ⟨m3, u1, u2, u3, u4⟩ := upd50 h32 (gt H 0) (vI ((cT H (gt H 0) : Int) - 1))
  have z2 := k2.size
  refine hK m2 l2 (by omega) ⟨m3, u1, _, _, A, HeapAtT.loc h lessTV _ m2 m3 A k1 (fun j hj => u4 j (h7 j hj).2) (by omega), popL_heap ltT_ord _ h2, u2, fun y => ?_, fun j hj => ?_, by omega, h7, h8⟩
  · unfold updK
    by_cases hy : y = gt H 0
    · rw [if_pos hy, hy]
      show vI ((cT H (gt H 0) : Int) - 1) = _
      rw [hc]
      congr 1
      omega
    · rw [if_neg hy, h4, ← cT_perm hp y, cT_cons, if_neg hy, Nat.add_zero]
  · rw [u4 j (by omega), k2.get j (by omega) (fun e => by have := (h7 _ e).1; omega), h5 j hj]

theorem TxS.len {m0 m : Mem} {h qb : Nat} {H : List ByteArray} (S : TxS m0 h qb m H) : CallQ E F_heap_Heap_string_Len [ptr h].toArray m fun w m' => w = vI H.length ∧ m' = m := by
  obtain ⟨f, N, A, h1, _⟩ := S
  exact LenT_at h1

theorem bound_min (s : ByteArray) : sliceV E 9 (.string s) none (some (.int .i64 (min (s.size : Int) 9))) = some (.string (s.extract 0 (min s.size 9))) := by
  unfold sliceV
  rw [desc9]
  have h : (min (s.size : Int) 9) = ((min s.size 9 : Nat) : Int) := by omega
  rw [h]
  have hb : bound (some (.int .i64 ((min s.size 9 : Nat) : Int))) s.size s.size = some (min s.size 9) := by
    unfold bound
    simp [asI]
    omega
  simp only [hb]
  rfl

set_option maxRecDepth 100000 in
set_option maxHeartbeats 8000000 in
theorem HeapTexts_law (m : Mem) (hro : ∀ i c, m.get i = some c → c.writable = false)
    (a0 : Option Addr) (l0 c0 : Nat) (ss : List ByteArray) (A0 : SlA m 1 a0 l0 c0 (ss.map .string)) (hl0 : ss.length = l0)
    (a1 : Option Addr) (l1 c1 : Nat) (bs : List Bool) (A1 : SlA m 1 a1 l1 c1 (bs.map .bool)) (hl1 : bs.length = l1) :
    CallX Try.prog tab F_sheaflaw8_HeapTexts [.slice a0 l0 c0, .slice a1 l1 c1] m := by
  refine CallX_enterT fn_sheaflaw8_HeapTexts (by kernel_rfl) (by simp) hro ?_
  refine .pre ?_
  simp (decide := true) (implicitDefEqProofs := false) (maxDischargeDepth := 20) only [go_sem, ↓reduceIte, true_implies, false_implies]
  refine .pre ?_
  simp (decide := true) (implicitDefEqProofs := false) (maxDischargeDepth := 20) only [go_sem, ↓reduceIte, true_implies, false_implies]
  refine (NewT_at).mono ?_
  rintro w m1 ⟨rfl, hH, o1⟩
  obtain ⟨h, hh⟩ : ∃ q, q = m.size := ⟨_, rfl⟩
  rw [← hh] at hH ⊢
  simp (decide := true) (implicitDefEqProofs := false) (maxDischargeDepth := 20) only [go_sem, ↓reduceIte, true_implies, false_implies]
  refine .pre ?_
  simp (decide := true) (implicitDefEqProofs := false) (maxDischargeDepth := 20) only [go_sem, nilOk, ↓reduceIte, true_implies, false_implies]
  refine .pre ?_
  simp (decide := true) (implicitDefEqProofs := false) (maxDischargeDepth := 20) only [go_sem, mk50, ↓reduceIte, true_implies, false_implies]
  obtain ⟨qb, hqb⟩ : ∃ q, q = m1.size := ⟨_, rfl⟩
  have g2 : (m1.push (.map [] 0)).get m1.size = some (.map [] 0) := by rw [getM_push, if_pos rfl]
  have o2 : Old m1 (m1.push (.map [] 0)) := .push (.refl _) _
  generalize m1.push (.map [] 0) = m2 at *
  rw [← hqb] at g2 ⊢
  have z1 := o1.size
  have z2 := o2.size
  have lh := hH.lt h rfl
  have S0 : TxS m h qb m2 [] := ⟨fun _ => none, 0, fun i => i = h, hH.old o2, heap_nil, .new g2, fun y => rfl, fun j hj => by rw [o2.get (by omega), o1.get hj], by omega, fun j hj => ⟨by omega, by omega⟩, by omega⟩
  refine .pre ?_
  simp (decide := true) (implicitDefEqProofs := false) (maxDischargeDepth := 20) only [go_sem, ↓reduceIte, true_implies, false_implies]
  refine .post ?_
  refine .pre ?_
  simp (decide := true) (implicitDefEqProofs := false) (maxDischargeDepth := 20) only [go_sem, ↓reduceIte, true_implies, false_implies]
  refine .block (.loop (fun k t' m' => ∃ (i : Nat) (H : List ByteArray), i ≤ 40 ∧ i ≤ l0 ∧ k = 40 - i ∧ H.length ≤ i ∧ t' 0 = .slice a0 l0 c0 ∧ t' 1 = .slice a1 l1 c1 ∧ t' 5 = ptr h ∧ t' 6 = .map (some qb) ∧ t' 7 = vI H.length ∧ t' 8 = .int .i64 (i : Nat) ∧ TxS m h qb m' H) 40
    ⟨0, [], by omega, by omega, by omega, by simp, by simp (decide := true) only [go_sem, ↓reduceIte], by simp (decide := true) only [go_sem, ↓reduceIte], by simp (decide := true) only [go_sem, ↓reduceIte], by simp (decide := true) only [go_sem, ↓reduceIte], by simp (decide := true) only [go_sem, ↓reduceIte]; rfl, by simp (decide := true) only [go_sem, ↓reduceIte]; rfl, S0⟩ ?_)
  rintro k t' m' ⟨i, H, hi, hil, rfl, hHi, e0, e1, e5, e6, e7, e8, S⟩
  refine .pre ?_
  by_cases hlt : i < l0 ∧ i < 40
  · obtain ⟨hlt, hlt40⟩ := hlt
    have d1 : decide ((i : Int) < (l0 : Int)) = true := by simp; omega
    have d2 : decide ((i : Int) < 40) = true := by simp; omega
    simp (decide := true) (implicitDefEqProofs := false) (maxDischargeDepth := 20) only [go_sem, e0, e8, d1, d2, ↓reduceIte, true_implies, false_implies]
    refine .seq (fun t'' m'' => ∃ H' : List ByteArray, H'.length ≤ i + 1 ∧ t'' 0 = .slice a0 l0 c0 ∧ t'' 1 = .slice a1 l1 c1 ∧ t'' 5 = ptr h ∧ t'' 6 = .map (some qb) ∧ t'' 7 = vI H'.length ∧ t'' 8 = .int .i64 (i : Nat) ∧ TxS m h qb m'' H') ?_ ?_
    · refine .block (.pre ?_)
      have M : ∀ j, j < m.size → m'.get j = m.get j := by obtain ⟨_, _, _, _, _, _, _, h5, _⟩ := S; exact h5
      have B0 : SlA m' 1 a0 l0 c0 (ss.map .string) := A0.keep fun x hx hne => M _ (A0.rows x hx hne).lt
      obtain ⟨ab, ao, asp, rfl⟩ := B0.addr (by omega)
      have r0 : m'.at ab (ao + i) = some (.string (ss[i]'(by omega))) := B0.at_map (show i < l0 by omega)
      obtain ⟨s, hs⟩ : ∃ s, s = ss[i]'(by omega) := ⟨_, rfl⟩
      rw [← hs] at r0
      have z0 : (0 : Int) ≤ (i : Int) := by omega
      have bm := bound_min s
      obtain ⟨x, hx⟩ : ∃ x, x = s.extract 0 (min s.size 9) := ⟨_, rfl⟩
      rw [← hx] at bm
      have x1 : (i : Int) < (l0 : Int) := by omega
      simp (decide := true) (implicitDefEqProofs := false) (maxDischargeDepth := 20) only [go_sem, e0, e8, r0, bm, z0, x1, Int.toNat_natCast, ↓reduceIte, true_implies, false_implies]
      refine .pre ?_
      simp (decide := true) (implicitDefEqProofs := false) (maxDischargeDepth := 20) only [go_sem, e5, ↓reduceIte, true_implies, false_implies]
      refine S.push (by omega) x fun w m2 lk2 ⟨m3, up3, S3⟩ => ?_
      have hc := cT_le H x
      have w1 : IntKind.wrap .i64 ((cT H x : Int) + 1) = (cT H x : Int) + 1 := wrap_i64_id _ (by omega) (by omega)
      simp (decide := true) (implicitDefEqProofs := false) (maxDischargeDepth := 20) only [go_sem, e5, ↓reduceIte, true_implies, false_implies]
      refine .pre ?_
      simp (decide := true) (implicitDefEqProofs := false) (maxDischargeDepth := 20) only [go_sem, e6, lk2, w1, up3, Option.map_some, ↓reduceIte, true_implies, false_implies]
      refine .pre ?_
      have hpl : (pushL ltT H x).length = H.length + 1 := pushL_length _ _ _
      have w2 : IntKind.wrap .i64 ((H.length : Int) + 1) = ((H.length + 1 : Nat) : Int) := by rw [wrap_i64_id _ (by omega) (by omega)]; omega
      simp (decide := true) (implicitDefEqProofs := false) (maxDischargeDepth := 20) only [go_sem, e7, w2, ↓reduceIte, true_implies, false_implies]
      refine .seq (fun t'' m'' => ∃ H' : List ByteArray, H'.length ≤ i + 1 ∧ t'' 0 = .slice (some ⟨ab, ao, asp⟩) l0 c0 ∧ t'' 1 = .slice a1 l1 c1 ∧ t'' 5 = ptr h ∧ t'' 6 = .map (some qb) ∧ t'' 7 = vI H'.length ∧ t'' 8 = .int .i64 (i : Nat) ∧ TxS m h qb m'' H') ?_ ?_
      · obtain ⟨p, hp⟩ : ∃ p : Bool, p = (decide (i < l1) && bs.getD i false) := ⟨_, rfl⟩
        have M3 : ∀ j, j < m.size → m3.get j = m.get j := by obtain ⟨_, _, _, _, _, _, _, h5, _⟩ := S3; exact h5
        have B1 : SlA m3 1 a1 l1 c1 (bs.map .bool) := A1.keep fun x hx hne => M3 _ (A1.rows x hx hne).lt
        refine .pre ?_
        have hH3 : pushL ltT H x ≠ [] := fun e => by rw [e] at hpl; simp at hpl
        have hl3 : (pushL ltT H x).length ≤ 1000 := by omega
        generalize pushL ltT H x = H3 at *
        by_cases hil1 : i < l1
        · have d3 : decide ((i : Int) < (l1 : Int)) = true := by simp; omega
          obtain ⟨bb, bo, bsp, rfl⟩ := B1.addr (by omega)
          have r1 : m3.at bb (bo + i) = some (.bool (bs[i]'(by omega))) := B1.at_map (show i < l1 by omega)
          obtain ⟨q, hq⟩ : ∃ q, q = bs[i]'(by omega) := ⟨_, rfl⟩
          rw [← hq] at r1
          have y1 : (i : Int) < (l1 : Int) := by omega
          simp (decide := true) (implicitDefEqProofs := false) (maxDischargeDepth := 20) only [go_sem, e1, e8, d3, r1, z0, y1, Int.toNat_natCast, ↓reduceIte, true_implies, false_implies]
          cases q with
          | false =>
            refine .m ?_
            simp (decide := true) (implicitDefEqProofs := false) (maxDischargeDepth := 20) only [go_sem, e0, e1, e5, e6, e8, ↓reduceIte, true_implies, false_implies]
            exact ⟨H3, by omega, by rw [hpl], S3⟩
          | true =>
            refine .cond true (by simp (decide := true) only [go_sem, ↓reduceIte]) (fun _ => ?_) (fun h => by cases h)
            refine .pre ?_
            simp (decide := true) (implicitDefEqProofs := false) (maxDischargeDepth := 20) only [go_sem, e5, ↓reduceIte, true_implies, false_implies]
            refine S3.pop hl3 hH3 fun m4 lk4 hc0 ⟨m5, up5, S5⟩ => ?_
            have hc1 := cT_le H3 (gt H3 0)
            have hpp : (popL ltT H3).length = H3.length - 1 := popL_length _ _
            have least : ∀ y, y ∈ popL ltT H3 → ltT y (gt H3 0) = false := fun y hy => by
              obtain ⟨j, hj, e⟩ := gt_mem H3 ((popL_perm (lt := ltT) H3 hH3).subset (List.mem_cons_of_mem _ hy))
              obtain ⟨_, _, _, _, g2, _⟩ := S3
              rw [← e]
              exact heap_top ltT_ord H3 g2 j hj
            generalize popL ltT H3 = H5 at *
            generalize gt H3 0 = x5 at *
            have d4 : decide ((cT H3 x5 : Int) < 1) = false := by simp; omega
            have w3 : IntKind.wrap .i64 ((cT H3 x5 : Int) - 1) = (cT H3 x5 : Int) - 1 := wrap_i64_id _ (by omega) (by omega)
            have w4 : IntKind.wrap .i64 (((H.length + 1 : Nat) : Int) - 1) = (H5.length : Int) := by rw [wrap_i64_id _ (by omega) (by omega)]; omega
            simp (decide := true) (implicitDefEqProofs := false) (maxDischargeDepth := 20) only [go_sem, ↓reduceIte, true_implies, false_implies]
            refine .pre ?_
            simp (decide := true) (implicitDefEqProofs := false) (maxDischargeDepth := 20) only [go_sem, e6, lk4, d4, ↓reduceIte, true_implies, false_implies]
            refine .pre ?_
            simp (decide := true) (implicitDefEqProofs := false) (maxDischargeDepth := 20) only [go_sem, e6, lk4, w3, up5, Option.map_some, ↓reduceIte, true_implies, false_implies]
            refine .pre ?_
            simp (decide := true) (implicitDefEqProofs := false) (maxDischargeDepth := 20) only [go_sem, w4, ↓reduceIte, true_implies, false_implies]
            have S5' := S5
            obtain ⟨f5, N5, A5, _, _, K5, v5, _⟩ := S5
            obtain ⟨es, clock, hg, hnd, hltc, _, hent⟩ := K5.ents
            show WpX E 6 98 (rangeC 77 78 79 80 81 2 3 50 (.tmp 6) [⟨some 82, .extract (.tmp 81) 0, none⟩, ⟨some 83, .extract (.tmp 81) 1, none⟩, ⟨some 12, .assign (.tmp 82), none⟩, ⟨some 13, .assign (.tmp 83), none⟩] c_sheaflaw8_HeapTexts_11) _ _ _
            refine .range (mb := qb) (es := es) (clock := clock) (by simp (decide := true) only [go_sem, e6, ↓reduceIte]) hg map50 hnd hltc (by decide +kernel) (fun en hen tg mm ho hag => ?_) fun tg m8 o8 hag => ?_
            · obtain ⟨y, hky, hv⟩ := hent en hen
              have hky : en.key = .string y := hky
              have hv0 : en.val = vI (cT H5 y) := by
                have := v5 y
                rw [hv] at this
                exact this
              have q10 := hag 10 (by decide +kernel)
              simp (decide := true) only [go_sem, ↓reduceIte] at q10
              by_cases hc : 0 < cT H5 y
              · have d5 : decide ((cT H5 y : Int) > 0) = true := by simp; omega
                have d6 : decide ((y.size : Int) < (x5.size : Int)) = false := least y (cT_mem hc)
                simp (decide := true) (implicitDefEqProofs := false) (maxDischargeDepth := 20) only [go_sem, hky, hv0, q10, d5, d6, ↓reduceIte, true_implies, false_implies]
              · have d5 : decide ((cT H5 y : Int) > 0) = false := by simp; omega
                simp (decide := true) (implicitDefEqProofs := false) (maxDischargeDepth := 20) only [go_sem, hky, hv0, q10, d5, ↓reduceIte, true_implies, false_implies]
            · refine ⟨H5, by omega, (hag 0 (by decide +kernel)).trans (by simp (decide := true) only [go_sem, e0, ↓reduceIte]), (hag 1 (by decide +kernel)).trans (by simp (decide := true) only [go_sem, e1, ↓reduceIte]), (hag 5 (by decide +kernel)).trans (by simp (decide := true) only [go_sem, e5, ↓reduceIte]), (hag 6 (by decide +kernel)).trans (by simp (decide := true) only [go_sem, e6, ↓reduceIte]), (hag 7 (by decide +kernel)).trans (by simp (decide := true) only [go_sem, ↓reduceIte]), (hag 8 (by decide +kernel)).trans (by simp (decide := true) only [go_sem, e8, ↓reduceIte]), S5'.old o8⟩
        · have d3 : decide ((i : Int) < (l1 : Int)) = false := by simp; omega
          simp (decide := true) (implicitDefEqProofs := false) (maxDischargeDepth := 20) only [go_sem, e1, e8, d3, ↓reduceIte, true_implies, false_implies]
          refine .m ?_
          simp (decide := true) (implicitDefEqProofs := false) (maxDischargeDepth := 20) only [go_sem, e0, e1, e5, e6, e8, ↓reduceIte, true_implies, false_implies]
          exact ⟨H3, by omega, by rw [hpl], S3⟩
      · rintro t3 m4 ⟨H', hH', f0, f1, f5, f6, f7, f8, S4⟩
        refine .m ?_
        simp (decide := true) (implicitDefEqProofs := false) (maxDischargeDepth := 20) only [go_sem, f5, ↓reduceIte, true_implies, false_implies]
        refine S4.len.mono ?_
        rintro w m5 ⟨rfl, rfl⟩
        simp (decide := true) (implicitDefEqProofs := false) (maxDischargeDepth := 20) only [go_sem, f5, f7, bne_self_eq_false, ↓reduceIte, true_implies, false_implies]
        exact ⟨H', hH', f0, f1, f6, rfl, f8, S4⟩
    · rintro t'' m'' ⟨H', hH', f0, f1, f5, f6, f7, f8, S4⟩
      have w1 : IntKind.wrap .i64 ((i : Int) + 1) = ((i + 1 : Nat) : Int) := by rw [wrap_i64_id _ (by omega) (by omega)]; omega
      refine .m ?_
      simp (decide := true) (implicitDefEqProofs := false) (maxDischargeDepth := 20) only [go_sem, f0, f1, f5, f6, f7, f8, w1, ↓reduceIte, true_implies, false_implies]
      exact ⟨40 - (i + 1), by omega, i + 1, H', by omega, by omega, rfl, hH', rfl, rfl, S4⟩
  · have d1 : decide ((i : Int) < (l0 : Int)) = true ∧ decide ((i : Int) < 40) = false ∨ decide ((i : Int) < (l0 : Int)) = false := by
      by_cases h1 : i < l0
      · left; constructor
        · simp; omega
        · simp; omega
      · right; simp; omega
    rcases d1 with ⟨d1, d2⟩ | d1
    · simp (decide := true) (implicitDefEqProofs := false) (maxDischargeDepth := 20) only [go_sem, e0, e8, d1, d2, ↓reduceIte, true_implies, false_implies]
      refine .m ?_
      simp (decide := true) (implicitDefEqProofs := false) (maxDischargeDepth := 20) only [go_sem, ↓reduceIte, true_implies, false_implies]
      exact resultsF_1 (by simp (decide := true) only [go_sem, ↓reduceIte])
    · simp (decide := true) (implicitDefEqProofs := false) (maxDischargeDepth := 20) only [go_sem, e0, e8, d1, ↓reduceIte, true_implies, false_implies]
      refine .m ?_
      simp (decide := true) (implicitDefEqProofs := false) (maxDischargeDepth := 20) only [go_sem, ↓reduceIte, true_implies, false_implies]
      exact resultsF_1 (by simp (decide := true) only [go_sem, ↓reduceIte])

/-- A slice of texts. -/
theorem Wf_strs {P : Program} {m : Mem} {n : Nat} {t e : TypeId} {a : Value} (ht : P.underlying t = some (.slice e)) (he : P.underlying e = some .string) (hc : P.cellsOf e = 1) (h : Wf P m n t [a]) :
    ∃ ad len cap, ∃ xs : List ByteArray, a = .slice ad len cap ∧ SlA m 1 ad len cap (xs.map .string) ∧ xs.length = len := by
  obtain ⟨ad, len, cap, els, h1, h2, h3, _, _, h4⟩ := h.slice ht
  obtain ⟨xs, h5, h6⟩ := singles (f := Value.string) (p := fun _ => True) els fun x hx => by
    obtain ⟨hl, n', hw⟩ := h4 x hx
    rw [hc] at hl
    obtain ⟨v, rfl⟩ := List.length_eq_one_iff.1 hl
    cases n' with
    | zero => exact hw.elim
    | succ n' =>
      unfold Wf at hw
      rw [he] at hw
      obtain ⟨z, h1, _⟩ := hw
      exact ⟨z, h1, trivial⟩
  rw [h5, flatten_singles, hc] at h2
  exact ⟨ad, len, cap, xs, h1, h2, by rw [← h3, h5]; simp⟩
end Go.Proofs.Ythlcbacmbcmgfaa.W
