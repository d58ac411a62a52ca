/-
  A heap of pairs in memory: Pop.
-/
import Derived.Test.YthlcbacmbcmgfaaHeapSD
namespace Go.Proofs.Ythlcbacmbcmgfaa.W
open Go.Abs
set_option linter.unusedSimpArgs false
set_option linter.unusedVariables false

theorem HeapBP.sl {m : Mem} {h : Nat} {fv : Value} {c b : Nat} {s : Option Nat} {tg : Bool} {l rest : List (Int × Int)} (H : HeapBP m h fv l.length c b s tg (l ++ rest)) : SlA m 2 (some ⟨b, 0, s⟩) l.length c (pC l) where
  len := pC_len l
  cap := H.le
  loose := fun x hx => by cases hx; exact H.loose
  rows := fun x hx _ => by
    cases hx
    exact .of_blk H.blk (by simp [pC_len]; omega) (by rw [pC_append]; simp)
  nil := fun e => by cases e

theorem cut_eqP (l rest : List (Int × Int)) (h : 0 < l.length) : ((((pC (l ++ rest)).set (0 * 2) (vI (gt l (l.length - 1)).1)).set (0 * 2 + 1) (sv (gt l (l.length - 1)).2)).set ((l.length - 1) * 2) (vI 0)).set ((l.length - 1) * 2 + 1) (.string ⟨#[]⟩) = pC (cutL l ++ ((0, 0) :: rest)) := by
  rw [sv0]
  rw [pC_set _ 0 (gt l (l.length - 1)) (by simp; omega)]
  rw [pC_set ((l ++ rest).set 0 (gt l (l.length - 1))) (l.length - 1) (0, 0) (by simp; omega)]
  congr 1
  rw [List.set_append_left _ _ h, List.set_append_left _ _ (by simp; omega)]
  have e : (l.set 0 (gt l (l.length - 1))).set (l.length - 1) (0, 0) = cutL l ++ [(0, 0)] := by
    unfold cutL
    generalize hq : l.set 0 (gt l (l.length - 1)) = q
    have hl : q.length = l.length := by rw [← hq]; simp
    have hq0 : q = q.take (l.length - 1) ++ [q[l.length - 1]'(by omega)] := by
      conv => lhs; rw [← List.take_length (l := q), hl, show l.length = (l.length - 1) + 1 by omega, List.take_succ_eq_append_getElem (by omega)]
    have e2 : ∀ y, q.set (l.length - 1) y = q.take (l.length - 1) ++ [y] := by
      intro y
      conv => lhs; rw [hq0]
      have e3 : (q.take (l.length - 1)).length = l.length - 1 := by rw [List.length_take, hl]; omega
      rw [List.set_append_right _ _ (by omega), e3, Nat.sub_self]
      rfl
    exact e2 (0, 0)
  rw [e, List.append_assoc]
  rfl

/-- A store into another block while one is kept. -/
theorem get_gm1 (m : Mem) (x i : Nat) (h : ¬ i = x) : (m.gm [x]).get i = m.get i := by rw [get_gm, if_neg (by simpa using h)]
theorem ugm_put1 (m : Mem) (x i : Nat) (c : Option Blk) (h : ¬ i = x) : m.ugm ((m.gm [x]).put i c) [x] = m.put i c := by
  have e := ugm_gm m [x]
  unfold Mem.ugm Mem.gm at *
  simp only [List.isEmpty_cons, Bool.false_eq_true, if_false] at *
  unfold Mem.unguard Mem.guard Mem.put at *
  have e2 := congrArg Mem.bl e
  congr 1
  apply List.ext_getElem?
  intro j
  have e3 := congrArg (fun l => l[j]?) e2
  simp only [List.getElem?_mapIdx, List.getElem?_set, List.length_mapIdx] at e3 ⊢
  by_cases hj : i = j
  · subst hj
    rw [if_pos rfl, if_pos rfl]
    split
    · rename_i hh
      exact absurd (by simpa using hh) h
    · simp
  · rw [if_neg hj, if_neg hj]
    exact e3

theorem pop_mem (P : Mem → Prop) (m1 : Mem) (b h : Nat) (tg : Bool) (zs qs X Y os : List Value) (hb : b < m1.size) (hh : h < m1.size) (hne : h ≠ b)
    (hP : ∀ m', m'.get m1.size = some (.cells false true qs) → m'.get b = some (.cells false tg Y) → m'.get h = some (.cells false true os) → (∀ i, i < m1.size → i ≠ b → i ≠ h → m'.get i = m1.get i) → m1.size ≤ m'.size → P m') :
    P ((((((m1.push (.cells false true zs)).put m1.size (some (.cells false true qs))).push (.cells false true zs)).put b (some (.cells false tg X))).put b (some (.cells false tg Y))).put h (some (.cells false true os))) := by
  refine hP _ ?_ ?_ ?_ (fun i hi h1 h2 => ?_) (by simp; omega)
  · rw [getM_put, if_neg (by omega), getM_put, if_neg (by omega), getM_put, if_neg (by omega), getM_push, if_neg (by simp), getM_put, if_pos ⟨rfl, by simp⟩]
  · rw [getM_put, if_neg (fun e => hne e.1.symm), getM_put, if_pos ⟨rfl, by simp; omega⟩]
  · rw [getM_put, if_pos ⟨rfl, by simp; omega⟩]
  · rw [getM_put, if_neg (fun e => h2 e.1), getM_put, if_neg (fun e => h1 e.1), getM_put, if_neg (fun e => h1 e.1), getM_push, if_neg (by simp; omega), getM_put, if_neg (by omega), getM_push, if_neg (by omega)]

set_option maxRecDepth 100000 in
set_option maxHeartbeats 4000000 in
theorem PopP_at {Z : Nat → Option Blk} {m : Mem} {h : Nat} {fv : Value} {lt : Int × Int → Int × Int → Bool} {l : List (Int × Int)} {A : Set'} (H : HeapAtP m h fv l A) (hf : LessP Z fv lt) (z : Frozen Z m) (hz : ∀ i, A i → Z i = none) (hn : l.length ≤ 1000) :
    CallQ E F_heap_Heap_runs_Item_string_Pop [ptr h].toArray m fun w m' => w = .tuple #[pV (if l = [] then (0, 0) else gt l 0), .bool (!l.isEmpty)] ∧ HeapAtP m' h fv (popL lt l) A ∧ ChgS A m m' := by
  refine .enter fn_heap_Heap_runs_Item_string_Pop (by simp) ?_
  simp (decide := true) (implicitDefEqProofs := false) (maxDischargeDepth := 20) only [go_sem, ↓reduceIte, true_implies, false_implies]
  have o0 : Old m (m.push (.cells false true [.int .i64 0, .string ⟨#[]⟩])) := .push (.refl m) _
  have g2 : (m.push (.cells false true [.int .i64 0, .string ⟨#[]⟩])).get m.size = some (.cells false true [.int .i64 0, .string ⟨#[]⟩]) := by rw [getM_push, if_pos rfl]
  refine (TopP_at (H.old o0)).mono ?_
  rintro w m1 ⟨rfl, o1⟩
  have g2 := (o1.get (getM_lt g2)).trans g2
  have l2 := getM_lt g2
  obtain ⟨rb, hrb⟩ : ∃ b, b = m.size := ⟨_, rfl⟩
  rw [← hrb] at g2 l2 ⊢
  obtain ⟨q, hq⟩ : ∃ q, q = (if l = [] then ((0, 0) : Int × Int) else gt l 0) := ⟨_, rfl⟩
  rw [← hq]
  have o01 := o0.trans o1
  have H1 := H.old o01
  have nr : ¬ rb = m1.size := by omega
  by_cases hl : l = []
  · subst hl
    simp (decide := true) (implicitDefEqProofs := false) (maxDischargeDepth := 20) only [go_sem, pV, List.isEmpty_nil, g2, l2, nr, ↓reduceIte, true_implies, false_implies]
    have hA : ∀ i, A i → i < m.size := H.lt
    have gE : ∀ i, i < m.size → (((m1.push (.cells false true [.int .i64 0, .string ⟨#[]⟩])).put m1.size (some (.cells false true [vI q.1, sv q.2]))).put rb (some (.cells false true [vI q.1, sv q.2]))).get i = m.get i := fun i hi => by
      have := o01.size
      rw [getM_put, if_neg (by omega), getM_put, if_neg (by omega), getM_push, if_neg (by omega), o01.get hi]
    have sE : m.size ≤ (((m1.push (.cells false true [.int .i64 0, .string ⟨#[]⟩])).put m1.size (some (.cells false true [vI q.1, sv q.2]))).put rb (some (.cells false true [vI q.1, sv q.2]))).size := by
      have := o01.size
      rw [size_put, size_put, size_push]
      omega
    exact ⟨rfl, HeapAtP.loc h fv [] m _ A H (fun i hi => gE i (hA i hi)) sE, ⟨sE, fun i hi _ => gE i hi⟩⟩
  · have hl0 : 0 < l.length := List.length_pos_iff.2 hl
    have he : l.isEmpty = false := by simpa using hl
    rcases H1 with ⟨_, h2, _⟩ | ⟨c, b, s, tg, rest, H1, hA⟩
    · exact absurd h2 hl
    have r1 : m1.at h 1 = some (.slice (some ⟨b, 0, s⟩) l.length c) := H1.at1
    have ra := H1.row (i := l.length - 1) (by rw [List.length_append]; omega)
    rw [gt_leftP _ _ (by omega)] at ra
    have gb := H1.blk
    have lb := getM_lt gb
    have go := H1.obj
    have lo := getM_lt go
    have hm : h < m.size ∧ b < m.size := ⟨H.lt h ((hA h).2 (.inl rfl)), H.lt b ((hA b).2 (.inr rfl))⟩
    have s01 := o01.size
    have a1 : ¬ h = m1.size := by omega
    have a2 : ¬ b = m1.size := by omega
    have a3 : ¬ h = m1.size + 1 := by omega
    have a4 : ¬ b = m1.size + 1 := by omega
    have a5 : ¬ h = rb := by omega
    have a6 : ¬ b = rb := by omega
    have a7 : ¬ rb = m1.size + 1 := by omega
    have q1 : b < m1.size + (1 + 1) := by omega
    have q2 : h < m1.size + (1 + 1) := by omega
    have q3 : rb < m1.size + (1 + 1) := by omega
    have q4 : m1.size < m1.size + (1 + 1) := by omega
    have w1 : IntKind.wrap .i64 ((l.length : Int) - 1) = ((l.length - 1 : Nat) : Int) := by rw [wrap_i64_id _ (by omega) (by omega)]; omega
    have z0 : (0 : Int) ≤ ((l.length - 1 : Nat) : Int) := by omega
    have z1 : ((l.length - 1 : Nat) : Int) < (l.length : Int) := by omega
    have z2 : (0 : Int) < (l.length : Int) := by omega
    have l1 : Int.toNat 0 * 2 + 2 ≤ (l ++ rest).length * 2 := by rw [List.length_append]; simp; omega
    have l2' : (l.length - 1) * 2 + 2 ≤ (l ++ rest).length * 2 := by rw [List.length_append]; omega
    have sl := (H1.sl.sliceTo (E := E) (k := .i64) (show l.length - 1 ≤ l.length by omega)).1 74 (by decide +kernel)
    have nhb := H1.ne
    have nbh : ¬ b = h := fun e => nhb e.symm
    simp (decide := true) (implicitDefEqProofs := false) (maxDischargeDepth := 20) only [go_sem, pV, he, nilOk, get_gm1, ugm_put1, g2, l2, nr, a1, a2, a3, a4, a5, a6, a7, q1, q2, q3, q4, r1, ra, w1, z0, z1, z2, gb, lb, go, lo, l1, l2', sl, nhb, nbh, pC_len, List.length_set, Int.toNat_natCast, ↓reduceIte, true_implies, false_implies]
    have e0 : Int.toNat 0 = 0 := rfl
    rw [e0, cut_eqP l rest hl0]
    refine pop_mem (fun mm => CallQ E _ _ mm _) m1 b h tg _ [vI q.1, sv q.2] _ (pC (cutL l ++ ((0, 0) :: rest))) _ lb lo nhb fun mD k1 k2 k3 k4 k5 => ?_
    have hlc : (cutL l).length = l.length - 1 := cutL_length l
    have hcap := H1.cap
    rw [List.length_append] at hcap
    have H3 : HeapBP mD h fv (cutL l).length c b s tg (cutL l ++ ((0, 0) :: rest)) := ⟨by rw [hlc]; exact k3, k2, nhb, by simp [hlc]; omega, by omega, H1.loose⟩
    have Ah : A h := (hA h).2 (.inl rfl)
    have Ab : A b := (hA b).2 (.inr rfl)
    have c1 : ChgS A m mD := ⟨by omega, fun i hi hna => by
      rw [k4 i (by omega) (fun e => hna (e ▸ Ab)) (fun e => hna (e ▸ Ah)), o01.get hi]⟩
    refine (SinkP_at H3 hf (z.chg c1 hz) ⟨hz h Ah, hz b Ab⟩ (by omega)).mono ?_
    rintro w mE ⟨H4, c2⟩
    have epop : downL lt (cutL l).length (cutL l) 0 = popL lt l := by
      unfold popL
      rw [hlc]
      rfl
    rw [epop, hlc] at H4
    have gx : mE.get m1.size = some (.cells false true [vI q.1, sv q.2]) := by rw [c2.get _ (getM_lt k1) (by omega), k1]
    have lx := getM_lt gx
    have gr : mE.get rb = some (.cells false true [.int .i64 0, .string ⟨#[]⟩]) := by rw [c2.get rb (by omega) (by omega), k4 rb (by omega) (fun e => a6 e.symm) (fun e => a5 e.symm), g2]
    have lr := getM_lt gr
    have rx : mE.rows m1.size 0 2 = some [vI q.1, sv q.2] := by unfold Mem.rows; rw [gx]; rfl
    simp (decide := true) (implicitDefEqProofs := false) (maxDischargeDepth := 20) only [go_sem, rx, gx, lx, gr, lr, ↓reduceIte, true_implies, false_implies]
    refine ⟨rfl, .inr ⟨c, b, s, tg, (0, 0) :: rest, ?_, hA⟩, ⟨by have := c1.size; have := c2.size; rw [size_put]; omega, fun i hi hna => ?_⟩⟩
    · rw [popL_length]
      exact H4.keep (by rw [getM_put, if_neg (fun e => a5 e.1)]) (by rw [getM_put, if_neg (fun e => a6 e.1)])
    · have := c1.size
      rw [getM_put, if_neg (by omega), c2.get i (by omega) (fun e => hna ((hA i).2 e)), c1.get i hi hna]
end Go.Proofs.Ythlcbacmbcmgfaa.W
