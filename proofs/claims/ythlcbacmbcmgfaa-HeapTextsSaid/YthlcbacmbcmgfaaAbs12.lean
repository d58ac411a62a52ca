/-
  A region whose order is open: the steps, and the whole.
-/
import Derived.Test.YthlcbacmbcmgfaaAbs11
namespace Go.Abs
variable {C : FuncId → Code → Prop} {P : Program} {E : Env}

def Mem.only (m : Mem) (q : Nat → Bool) : Mem := ⟨m.bl.mapIdx fun i b => if q i then b else none⟩

theorem only_get (m : Mem) (q : Nat → Bool) (i : Nat) : (m.only q).get i = if q i then m.get i else none := by
  unfold Mem.only Mem.get
  simp only [List.getElem?_mapIdx]
  cases h : m.bl[i]? with
  | none => simp
  | some c => simp only [Option.map_some, Option.getD_some]

@[simp] theorem only_size (m : Mem) (q : Nat → Bool) : (m.only q).size = m.size := by simp [Mem.only, Mem.size]

theorem gm_get {m : Mem} {ids : List Nat} {i : Nat} {c : Blk} (h : (m.gm ids).get i = some c) : m.get i = some c ∨ ∃ ro t cs, c = .cells true t cs ∧ m.get i = some (.cells ro t cs) := by
  unfold Mem.gm at h
  split at h
  · exact .inl h
  · rw [getM_guard] at h
    split at h
    · cases hm : m.get i with
      | none => rw [hm] at h; cases h
      | some d => cases d with
        | loop _ _ _ _ _ _ _ => rw [hm] at h; exact .inl h
        | map _ _ => rw [hm] at h; cases h
        | cells ro t cs => rw [hm] at h; cases h; exact .inr ⟨ro, t, cs, rfl, rfl⟩
    · exact .inl h

theorem gm_cases {m m1 : Mem} {ids : List Nat} (h : Keeps (m.gm ids) m1) (i : Nat) :
    (∃ ro t cs, m.get i = some (.cells ro t cs) ∧ (m.gm ids).get i = some (.cells true t cs) ∧ m1.get i = some (.cells true t cs) ∧ (m.ugm m1 ids).get i = some (.cells ro t cs)) ∨
    (∃ es c, m.get i = some (.map es c) ∧ (m.gm ids).get i = none ∧ m1.get i = none ∧ (m.ugm m1 ids).get i = some (.map es c)) ∨
    ((m.gm ids).get i = m.get i ∧ (m.ugm m1 ids).get i = m1.get i) := by
  unfold Mem.gm at h ⊢
  unfold Mem.ugm
  split
  · exact .inr (.inr ⟨rfl, rfl⟩)
  · rename_i he
    rw [if_neg he] at h
    exact unguard_cases h i

theorem gm_ro {m : Mem} {ids : List Nat} {i : Nat} (hi : i ∈ ids) {ro t : Bool} {cs : List Value} (h : m.get i = some (.cells ro t cs)) : (m.gm ids).get i = some (.cells true t cs) := by
  unfold Mem.gm
  split
  · rename_i he
    cases ids with
    | nil => cases hi
    | cons a r => cases he
  · rw [getM_guard, if_pos (by simpa using hi), h]
theorem gm_map {m : Mem} {ids : List Nat} {i : Nat} (hi : i ∈ ids) {es : List MapEntry} {c : Nat} (h : m.get i = some (.map es c)) : (m.gm ids).get i = none := by
  unfold Mem.gm
  split
  · rename_i he
    cases ids with
    | nil => cases hi
    | cons a r => cases he
  · rw [getM_guard, if_pos (by simpa using hi), h]

theorem BRel.weaken {ρ : Inj} {w : World} {e : Ent} {ro t : Bool} {cs : List Value} (h : BRel C ρ w e (.cells ro t cs)) : BRel C ρ w e (.cells true t cs) := by
  obtain ⟨c, el, fr, h1, h2, h3, h4, _⟩ := h
  exact ⟨c, el, fr, h1, h2, h3, h4, fun h => by cases h⟩

theorem Sim.empty (ρ : Inj) (w : World) : Sim C 0 ρ ⟨[]⟩ w :=
  ⟨⟨fun i b h => by simp [Mem.get] at h, fun i j bi bj ei ej h => by simp [Mem.get] at h⟩, fun _ _ _ => .inr (Nat.zero_le _)⟩

section region
variable {f : FuncId} {id : Nat} {ops : Array Oper} {b : Array Nat} {l : List Nat} {T : Nat → Array Value} {M : Nat → Mem} {G : Nat → List (Nat × Nat)} {V : Nat → Value}
variable (ok : DOk E f id ops b l) (tr : Trace C P E f id ops l T M G V)
variable {B : Nat} {ρ0 : Inj} {w0 : World} {ds : List Deferred} {S : Nat → Bool} {p : Nat} {ρ : Inj} {a : Act} {w : World}
include ok tr

theorem DInv.toHeavy (h : DInv C E ops b l T M V B ρ0 w0 ds S p ρ a w) {k : Nat} (hk : k < ops.size) (hS : S k = false) (hr : ∀ j, j < ops.size → bef b l j k = true → S j = true) (hc : cls E (opAt ops l k) = .H) : DInv C E ops b l T M V B ρ0 w0 ds S k ρ a w := by
  have hpk : p ≤ k := by
    have := h.hv k hk hc
    rw [hS] at this
    simp at this
    omega
  refine (h.advTo ok tr (Nat.le_of_lt hk) hpk fun q h1 h2 _ => ?_).1
  have hq := ok.pair k q hk h2
  simp only [pairOk, Bool.and_eq_true, Bool.or_eq_true, hc] at hq
  refine ⟨fun e => ?_, fun e => ?_⟩
  · rcases hq.2 with h3 | h3
    · have := (h.hv q (by omega) e).1 (hr q (by omega) h3)
      omega
    · rw [e] at h3; simp [clsOk] at h3
  · rcases hq.2 with h3 | h3
    · exact hr q (by omega) h3
    · rw [e] at h3; simp [clsOk] at h3

theorem DInv.simH {k : Nat} (h : DInv C E ops b l T M V B ρ0 w0 ds S k ρ a w) (hnB : (M ops.size).size ≤ B) (hk : k < ops.size) (hS : S k = false) (ids : List Nat) : Sim C (M (k + 1)).size ρ ((M k).gm ids) w := by
  refine ⟨⟨fun i c hc => ?_, fun i j bi bj ei ej hi hj hne hw he he' => ?_⟩, fun i e he => ?_⟩
  · rcases gm_get hc with h1 | ⟨ro, t, cs, rfl, h1⟩
    · exact h.rel i c (.inl h1)
    · obtain ⟨e, he, hb⟩ := h.rel i _ (.inl h1)
      exact ⟨e, he, hb.weaken⟩
  · have hi' : (M k).get i = some bi := by
      rcases gm_get hi with h1 | ⟨ro, t, cs, rfl, h1⟩
      · exact h1
      · cases hw
    obtain ⟨cj, hj'⟩ : ∃ cj, (M k).get j = some cj := by
      rcases gm_get hj with h1 | ⟨ro, t, cs, rfl, h1⟩
      · exact ⟨_, h1⟩
      · exact ⟨_, h1⟩
    exact h.inj i j bi cj ei ej (.inl hi') (.inl hj') hne hw he he'
  · rw [size_gm]
    rcases h.dom i e he with h1 | ⟨q, h1, h2, h3, h4, h5⟩ | h1
    · exact .inl h1
    · have hne : q ≠ k := fun e => by subst e; rw [hS] at h3; cases h3
      have := (tr_keeps ok tr (Nat.le_of_lt h2) (show k + 1 ≤ q by omega)).size
      exact .inr (by omega)
    · have := (tr_keeps ok tr (Nat.le_refl _) (show k + 1 ≤ ops.size by omega)).size
      exact .inr (by omega)

theorem DInv.heavy {k : Nat} (h : DInv C E ops b l T M V B ρ0 w0 ds S k ρ a w) (hk : k < ops.size) (hS : S k = false) (hr : ∀ j, j < ops.size → bef b l j k = true → S j = true) (hc : cls E (opAt ops l k) = .H)
    {m2 : Mem} (hkeep : Keeps ((M k).gm (guarded E f id (at' l k) (G k))) m2) (hM : M (k + 1) = (M k).ugm m2 (guarded E f id (at' l k) (G k))) {ρ' : Inj} {w' : World} {v' : Value}
    (hpost : Post C (M (k + 1)).size ρ ((M k).gm (guarded E f id (at' l k) (G k))) w ρ' m2 w') (hv : VRel ρ' (V k) v') :
    DInv C E ops b l T M V B ρ0 w0 ds (fun j => S j || j == k) (k + 1) ρ' (a.put (opAt ops l k).dst v') w' := by
  have hsz : m2.size = (M (k + 1)).size := by rw [hM, size_ugm]
  have h0k := (tr_keeps ok tr (Nat.le_of_lt hk) (Nat.zero_le _)).size
  have hkn := (tr_keeps ok tr (Nat.le_refl _) (show k + 1 ≤ ops.size by omega)).size
  refine h.grow ok tr hk hS hr (.inr ⟨rfl, rfl, hc⟩) hpost hv ?_ ?_ ?_ ?_ ?_
  · intro i c hi hw
    rcases gm_get hi with h1 | ⟨ro, t, cs, rfl, h1⟩
    · exact ⟨c, .inl h1, hw⟩
    · cases hw
  · intro i c hvw
    rcases hvw with h1 | ⟨q, h1, h2, h3, h4, h5, h6⟩
    · rw [hM] at h1
      rcases gm_cases hkeep i with ⟨ro, t, cs, k1, k2, k3, k4⟩ | ⟨es, cl, k1, k2, k3, k4⟩ | ⟨k1, k2⟩
      · rw [k4] at h1; cases h1
        refine .inr ⟨.inl k1, fun j d hj hw e => ?_⟩
        subst e
        rw [k2] at hj; cases hj; cases hw
      · rw [k4] at h1; cases h1
        refine .inr ⟨.inl k1, fun j d hj hw e => ?_⟩
        subst e
        rw [k2] at hj; cases hj
      · rw [k2] at h1
        exact .inl h1
    · have hne : (q == k) = false := by simp; omega
      simp only [hne, Bool.or_false] at h3
      refine .inr ⟨.inr ⟨q, by omega, h2, h3, h4, h5, h6⟩, fun j d hj hw e => ?_⟩
      have h7 := getM_lt hj
      rw [size_gm] at h7
      have h8 := (tr_keeps ok tr (Nat.le_of_lt h2) (show k ≤ q by omega)).size
      omega
  · intro j c hj hw
    by_cases h1 : j < ((M k).gm (guarded E f id (at' l k) (G k))).size
    · obtain ⟨d, h2, _⟩ := hkeep.old j c h1 hj
      rcases gm_get h2 with h3 | ⟨ro, t, cs, _, h3⟩
      · exact ⟨_, .inl h3⟩
      · exact ⟨_, .inl h3⟩
    · have := hkeep.new j c (by omega) hj
      rw [hw] at this; cases this
  · intro i e he hi
    rcases hpost.new i e he with h1 | h1
    · rw [hi] at h1; cases h1
    · rw [size_gm] at h1
      exact ⟨by omega, by omega, .inl (by omega)⟩
  · intro _ _ q hq h1 h2 h3 i h4 c h5
    have h6 := h.ld q hq h1 h2 h3 i h4 c h5
    rcases tr_light ok tr (k := q) (by omega) h2 with ⟨k1, _⟩ | ⟨_, k1, k2⟩
    · rw [h3] at k1; cases k1
    obtain ⟨hL, h7⟩ := load_cells k2 k1 h2 h4
    rw [h5] at h7
    have hp := ok.pair k q hk hq
    simp only [pairOk, Bool.and_eq_true, Bool.or_eq_true, hL, hc] at hp
    have hin : i ∈ guarded E f id (at' l k) (G k) := by
      rcases hp.2 with h9 | h9
      · have := hr q (by omega) h9; rw [h1] at this; cases this
      · have h8 := h9.2
        simp only [clsOk, Bool.false_or, List.contains_iff_mem] at h8
        unfold guarded
        rw [List.mem_filterMap]
        exact ⟨_, h8, by rw [tr_log ok tr (by omega) h3 h4 k hq (by omega)]; rfl⟩
    rw [hM]
    rcases gm_cases hkeep i with ⟨ro', t', cs', k1, k2, k3, k4⟩ | ⟨es, cl, k1, k2, k3, k4⟩ | ⟨k1, k2⟩
    · rw [k4, ← k1]; exact h6
    · rw [k4, ← k1]; exact h6
    · rw [k2]
      rcases h7 with ⟨ro, t, cs, h7⟩ | ⟨es, cl, h7⟩
      · cases h7
        have hg := gm_ro hin h6
        have e : some (Blk.cells true t cs) = some (Blk.cells ro t cs) := hg.symm.trans (k1.trans h6)
        cases e
        exact hkeep.ro i _ hg rfl
      · cases h7
        have hg := gm_map hin h6
        rw [hg, h6] at k1; cases k1

/-- An operation that does nothing to the memory. -/
theorem DInv.still {k p' : Nat} (h : DInv C E ops b l T M V B ρ0 w0 ds S p ρ a w) (hk : k < ops.size) (hS : S k = false) (hr : ∀ j, j < ops.size → bef b l j k = true → S j = true)
    (hp : (p' = p ∧ cls E (opAt ops l k) ≠ .H) ∨ (p = k ∧ p' = k + 1 ∧ cls E (opAt ops l k) = .H)) (hM : M (k + 1) = M k) {v' : Value} (hv : VRel ρ (V k) v') :
    DInv C E ops b l T M V B ρ0 w0 ds (fun j => S j || j == k) p' ρ (a.put (opAt ops l k).dst v') w := by
  refine h.grow ok tr hk hS hr hp (Post.refl (Sim.empty ρ w)) hv ?_ ?_ ?_ ?_ ?_
  · intro i c hi; simp [Mem.get] at hi
  · intro i c hvw
    refine .inr ⟨?_, fun j d hj => by simp [Mem.get] at hj⟩
    rcases hvw with h1 | ⟨q, h1, h2, h3, h4, h5, h6⟩
    · rcases hp with h2 | ⟨h2, h3, _⟩
      · rw [h2.1] at h1; exact .inl h1
      · rw [h3, hM] at h1; rw [h2]; exact .inl h1
    · have hne : q ≠ k := fun e => by subst e; rw [hM] at h5; omega
      have hne' : (q == k) = false := by simpa using hne
      simp only [hne', Bool.or_false] at h3
      exact .inr ⟨q, by omega, h2, h3, h4, h5, h6⟩
  · intro j c hj; simp [Mem.get] at hj
  · intro i e he hi; rw [hi] at he; cases he
  · intro h1 h2 q hq h3 h4 h5 i h6 c h7
    rw [hM, ← h1]
    exact h.ld q (by omega) h3 h4 h5 i h6 c h7

theorem DInv.wanted (h : DInv C E ops b l T M V B ρ0 w0 ds S p ρ a w) {k : Nat} (hk : k < ops.size) (hS : S k = false) (hr : ∀ j, j < ops.size → bef b l j k = true → S j = true) :
    Region.wanted (opAt ops l k) (yielded ops a.tmps) = Region.wanted (opAt ops l k) (yielded ops (T k)) := by
  rw [yielded_rel h.tm]
  unfold Region.wanted
  cases hg : (opAt ops l k).guard with
  | none => rfl
  | some g =>
    obtain ⟨g, want⟩ := g
    simp only
    congr 1
    unfold yielded
    cases hd : (ops[g]?).bind (·.dst) with
    | none => rfl
    | some d =>
      simp only [Option.bind_some]
      have := h.looks ok tr hk hS hr (x := d) (by
        unfold Oper.looksAt
        rw [hg]
        simp [hd])
      rw [this]

theorem DInv.opnds (h : DInv C E ops b l T M V B ρ0 w0 ds S p ρ a w) {k : Nat} (hk : k < ops.size) (hS : S k = false) (hr : ∀ j, j < ops.size → bef b l j k = true → S j = true) (ho : opOk (opAt ops l k) = true) {m : Mem} {st : Step} (hv : opV E (opAt ops l k) (ev (T k)) m = some st) :
    ∀ x ∈ (opAt ops l k).op.operands.toList, VRel ρ (ev (T k) x) (a.eval x) := by
  intro x hx
  have e : ev (T k) x = ev (TSf ops.size (fun k => (opAt ops l k).dst) V (T 0) S) x := by
    cases x with
    | tmp t =>
      have := h.looks ok tr hk hS hr (x := t) (by
        unfold Oper.looksAt
        exact List.mem_append_left _ (List.mem_filterMap.2 ⟨.tmp t, hx, rfl⟩))
      simp only [ev, Array.getD_eq_getD_getElem?, this]
    | _ => rfl
  rw [e]
  exact ev_rel h.tm (opOk_runs ho hv x hx)

/-- A ready operation runs. -/
theorem DInv.step (hE : E.Ok P) (h : DInv C E ops b l T M V B ρ0 w0 ds S p ρ a w) (hnB : (M ops.size).size ≤ B) {k : Nat} (hk : k < ops.size) (hS : S k = false) (hr : ∀ j, j < ops.size → bef b l j k = true → S j = true)
    (ho : opOk (opAt ops l k) = true) {rdr : Option Nat} {N : Nat} {Q : Exit → Act → World → Prop} {K : Act → World → Prop}
    (hK : ∀ p' ρ' a' w', DInv C E ops b l T M V B ρ0 w0 ds (fun j => S j || j == k) p' ρ' a' w' → K a' w') : wpOpIn (FW rdr) N P ops Q (at' l k) K a w := by
  obtain ⟨hop, hT, hpos⟩ := tr_at ok tr hk
  unfold wpOpIn
  simp only [hop]
  rw [h.wanted ok tr hk hS hr]
  have hrel0 := fun (m : Mem) (st : Step) (hv : opV E (opAt ops l k) (ev (T k)) m = some st) => h.opnds ok tr hk hS hr ho hv
  have hkn := (tr_keeps ok tr (Nat.le_refl _) (show k + 1 ≤ ops.size by omega)).size
  have h0k := (tr_keeps ok tr (Nat.le_of_lt hk) (Nat.zero_le _)).size
  by_cases hc : cls E (opAt ops l k) = .H
  · have hH := h.toHeavy ok tr hk hS hr hc
    rcases hpos with ⟨k1, k2, k3, _⟩ | ⟨k1, _, k2⟩
    · rw [k1]
      simp only [Bool.false_eq_true, if_false]
      exact ⟨fun _ _ => trivial, hK _ _ _ _ (hH.still ok tr hk hS hr (.inr ⟨rfl, rfl, hc⟩) k3 (by rw [k2]; exact .undef))⟩
    · rw [k1]
      simp only [if_true]
      have hsim := hH.simH ok tr hnB hk hS (guarded E f id (at' l k) (G k))
      cases k2 with
      | @val m1 hv e =>
        have hrel := hrel0 _ _ hv
        refine wp_val hE hsim hv (fun _ => by rw [e, size_ugm]; exact Nat.le_refl _) hrel fun ρ' w' v' hp hvr => ?_
        exact hK _ _ _ _ (hH.heavy ok tr hk hS hr hc (opV_keeps hv) e hp hvr)
      | @enter g args m1 m2 hv hs hkk e =>
        have hrel := hrel0 _ _ hv
        refine wp_enter hE hsim hv (by rw [e, size_ugm]; exact Nat.le_refl _) hrel hs fun ρ' w' v' hp hvr => ?_
        exact hK _ _ _ _ (hH.heavy ok tr hk hS hr hc ((opV_keeps hv).trans hkk) e hp hvr)
      | @round g args m1 m2 hv hs hkk e =>
        have hrel := hrel0 _ _ hv
        refine wp_round hE hsim hv (by rw [e, size_ugm]; exact Nat.le_refl _) hrel hs fun ρ' w' v' hp hvr => ?_
        exact hK _ _ _ _ (hH.heavy ok tr hk hS hr hc ((opV_keeps hv).trans hkk) e hp hvr)
  · rcases tr_light ok tr hk hc with ⟨k1, k2, k3⟩ | ⟨k1, hv, hloc⟩
    · rw [k1]
      simp only [Bool.false_eq_true, if_false]
      exact ⟨fun _ _ => trivial, hK _ _ _ _ (h.still ok tr hk hS hr (.inl ⟨rfl, hc⟩) k3 (by rw [k2]; exact .undef))⟩
    · rw [k1]
      simp only [if_true]
      have hrel := hrel0 _ _ hv
      have hloc0 := hloc
      refine ⟨fun _ _ => trivial, ?_⟩
      rw [Oper.semAt_eq _ _ _ (opV_notDefer hv)]
      rcases hloc with ⟨hA, hM, hat⟩ | ⟨hA, c, hcw, hM, hat⟩
      · -- it reads at most one block
        have hq : quiet E (opAt ops l k) := by
          unfold quiet
          cases hcl : cls E (opAt ops l k) with
          | P => exact .inl rfl
          | L => exact .inr rfl
          | A => exact absurd hcl hA
          | H => exact absurd hcl hc
        have hsim : Sim C 0 ρ ((M k).only fun i => loadBlock (opAt ops l k) (ev (T k)) == some i) w := by
          refine ⟨⟨fun i c hc' => ?_, fun i j bi bj ei ej hi hj hne => ?_⟩, fun _ _ _ => .inr (Nat.zero_le _)⟩
          · rw [only_get] at hc'
            split at hc'
            · rename_i hi
              have hi : loadBlock (opAt ops l k) (ev (T k)) = some i := by simpa using hi
              obtain ⟨hL, _⟩ := load_cells hloc0 hv hc hi
              -- the block is in sight
              by_cases hkp : k < p
              · exact h.rel i c (.inl (h.ld k hkp hS hc k1 i hi c hc'))
              · have hno : ∀ q, p ≤ q → q < k → cls E (opAt ops l q) ≠ .H := fun q h1 h2 e => by
                  have hp := ok.pair k q hk h2
                  simp only [pairOk, Bool.and_eq_true, Bool.or_eq_true, hL, e] at hp
                  rcases hp.2 with h3 | h3
                  · have := (h.hv q (by omega) e).1 (hr q (by omega) h3)
                    omega
                  · simp [clsOk] at h3
                have hρ : ∃ e, ρ i = some e := by
                  unfold loadBlock at hi
                  split at hi
                  · rename_i t x hox
                    split at hi
                    · rename_i ad hx
                      cases hi
                      have := hrel x (by rw [hox]; simp [Op.operands])
                      rw [hx] at this
                      obtain ⟨e, he, _⟩ := this.ptr_some
                      exact ⟨e, he⟩
                    · cases hi
                  · rename_i s d x hox
                    split at hi
                    · rename_i ad n cp hx
                      cases hi
                      have := hrel x (by rw [hox]; simp [Op.operands])
                      rw [hx] at this
                      generalize a.eval x = y at this
                      cases this with
                      | sl he => exact ⟨_, he⟩
                      | slOdd he => exact ⟨_, he⟩
                    · cases hi
                  · rename_i s x kx okx hox
                    split at hi
                    · rename_i mb hx
                      subst hi
                      have := hrel x (by rw [hox]; simp [Op.operands])
                      rw [hx] at this
                      generalize a.eval x = y at this
                      cases this with
                      | map he => exact ⟨_, he⟩
                    · cases hi
                  · cases hi
                obtain ⟨e, he⟩ := hρ
                have hik := getM_lt hc'
                have hkk := (tr_keeps ok tr (k := k + 1) (by omega) (Nat.le_succ k)).size
                rcases h.dom i e he with h1 | ⟨q, h1, h2, h3, h4, h5⟩ | h1
                · refine h.rel i c (.inl ?_)
                  rw [← tr_seg ok tr (Nat.le_of_lt hk) (by omega) hno h1]
                  exact hc'
                · have hqk : q < k := by
                    rcases Nat.lt_or_ge q k with h6 | h6
                    · exact h6
                    · have := (tr_keeps ok tr (Nat.le_of_lt h2) h6).size
                      omega
                  refine h.rel i c (.inr ⟨q, h1, h2, h3, h4, h5, ?_⟩)
                  rw [← tr_seg ok tr (j := q + 1) (k := k) (Nat.le_of_lt hk) hqk (fun r h6 h7 => hno r (by omega) h7) (by omega)]
                  exact hc'
                · omega
            · cases hc'
          · rw [only_get] at hi hj
            split at hi
            · rename_i h1
              split at hj
              · rename_i h2
                have h1 : loadBlock (opAt ops l k) (ev (T k)) = some i := by simpa using h1
                have h2 : loadBlock (opAt ops l k) (ev (T k)) = some j := by simpa using h2
                rw [h1] at h2; cases h2
                exact absurd rfl hne
              · cases hj
            · cases hi
        have hv2 := hat ((M k).only fun i => loadBlock (opAt ops l k) (ev (T k)) == some i) fun i hi => by
          rw [only_get, if_pos (by simpa using hi)]
        obtain ⟨w', ρ', v', hrun, hp, hvr, hquiet⟩ := opV_run hE hsim hv2 (fun v m' e => by cases e; intro h; omega) hrel
        obtain ⟨rfl, rfl⟩ := hquiet hq
        have hfin := hK _ _ _ _ (h.still ok tr hk hS hr (.inl ⟨rfl, hc⟩) hM hvr)
        rcases hrun with hrun | ⟨hrun, rfl⟩
        · rw [hrun]; exact hfin
        · rw [hrun]; exact hfin
      · -- a new block
        have hpk : p ≤ k := by
          rcases Nat.lt_or_ge k p with h1 | h1
          · have := h.al k h1 hA; rw [hS] at this; cases this
          · exact h1
        have hszk : (M (k + 1)).size = (M k).size + 1 := by rw [hM]; simp
        have hpksz := (tr_keeps ok tr (Nat.le_of_lt hk) hpk).size
        have hne : ∀ i e, ρ i = some e → i ≠ (M k).size := by
          intro i e he
          rcases h.dom i e he with h1 | ⟨q, h1, h2, h3, h4, h5⟩ | h1
          · omega
          · have hqk : q ≠ k := fun e => by subst e; rw [hS] at h3; cases h3
            rcases Nat.lt_or_ge q k with h6 | h6
            · have := (tr_keeps ok tr (Nat.le_of_lt hk) (show q + 1 ≤ k by omega)).size
              omega
            · have := (tr_keeps ok tr (Nat.le_of_lt h2) (show k + 1 ≤ q by omega)).size
              omega
          · omega
        have hnone : ∀ i, ((M k).only fun _ => false).get i = none := fun i => by rw [only_get]; rfl
        have hsim : Sim C ((M k).size + 1) ρ ((M k).only fun _ => false) w := by
          refine ⟨⟨fun i c hc' => (by rw [hnone] at hc'; cases hc'), fun i j bi bj ei ej hi => (by rw [hnone] at hi; cases hi)⟩, fun i e he => ?_⟩
          have := hne i e he
          rw [only_size]
          omega
        have hv2 := hat ((M k).only fun _ => false) (only_size _ _)
        obtain ⟨w', ρ', v', hrun, hp, hvr, _⟩ := opV_run hE hsim hv2 (fun v m' e => by cases e; intro _; simp) hrel
        have hinv : DInv C E ops b l T M V B ρ0 w0 ds (fun j => S j || j == k) p ρ' (a.put (opAt ops l k).dst v') w' := by
          refine h.grow ok tr hk hS hr (.inl ⟨rfl, hc⟩) hp hvr ?_ ?_ ?_ ?_ ?_
          · intro i c hi; rw [hnone] at hi; cases hi
          · intro i c' hvw
            rcases hvw with h1 | ⟨q, h1, h2, h3, h4, h5, h6⟩
            · exact .inr ⟨.inl h1, fun j d hj => by rw [hnone] at hj; cases hj⟩
            · by_cases e : q = k
              · subst e
                refine .inl ?_
                rw [hM, getM_push, if_pos h4] at h6
                rw [getM_push, only_size, if_pos h4]
                exact h6
              · have hne' : (q == k) = false := by simpa using e
                simp only [hne', Bool.or_false] at h3
                exact .inr ⟨.inr ⟨q, h1, h2, h3, h4, h5, h6⟩, fun j d hj => by rw [hnone] at hj; cases hj⟩
          · intro j c' hj hw
            rw [getM_push] at hj
            split at hj
            · cases hj; rw [hcw] at hw; cases hw
            · rw [hnone] at hj; cases hj
          · intro i e he hi
            rcases hp.new i e he with h1 | h1
            · rw [hi] at h1; cases h1
            · simp only [size_push, only_size] at h1
              have hi' : i = (M k).size := by omega
              exact ⟨by omega, by omega, .inr ⟨k, hpk, hk, by simp, hi', by omega⟩⟩
          · intro h1 h2; omega
        have hfin := hK _ _ _ _ hinv
        rcases hrun with hrun | ⟨hrun, rfl⟩
        · rw [hrun]; exact hfin
        · rw [hrun]; exact hfin

/-- Every order that may be drawn. -/
theorem drawn_any (hE : E.Ok P) (hnB : (M ops.size).size ≤ B) (ho : ∀ o ∈ ops.toList, opOk o = true) {rdr : Option Nat} {N : Nat} {Q : Exit → Act → World → Prop}
    (hQ : ∀ ρ' w' a', Post C B ρ0 (M 0) w0 ρ' (M ops.size) w' → ARel ρ' (T ops.size) a'.tmps → a'.defers = ds → Q .normal a' w') :
    ∀ (fuel : Nat) (listed : Array Bool) (S : Nat → Bool) (p : Nat) (ρ : Inj) (a : Act) (w : World), listed.size = ops.size → (∀ k, k < ops.size → S k = listed.getD (at' l k) false) → DInv C E ops b l T M V B ρ0 w0 ds S p ρ a w →
      (List.range ops.size).countP (fun i => !listed.getD i false) ≤ fuel → wpAnyIn (FW rdr) N P .any ops Q fuel listed a w := by
  have hoAt : ∀ k, k < ops.size → opOk (opAt ops l k) = true := fun k hk => by
    have := Array.mem_of_getElem? (tr_at ok tr hk).1
    exact ho _ (by simpa using this)
  have fin : ∀ (S : Nat → Bool) (p : Nat) (ρ : Inj) (a : Act) (w : World), DInv C E ops b l T M V B ρ0 w0 ds S p ρ a w → (∀ k, k < ops.size → S k = true) → Q .normal a w := by
    intro S p ρ a w h hs
    obtain ⟨h1, h2, h3⟩ := h.final ok tr hs
    exact hQ _ _ _ h1 h2 h3
  have getTF : ∀ (listed : Array Bool), listed.size = ops.size → ∀ i, i < ops.size → listed.getD i true = listed.getD i false := by
    intro listed hsz i hi
    simp [Array.getD, hsz, hi]
  -- nothing is ready: all is done
  have stuck : ∀ (listed : Array Bool) (S : Nat → Bool), listed.size = ops.size → (∀ k, k < ops.size → S k = listed.getD (at' l k) false) → Region.ready .any ops listed = [] → ∀ k, k < ops.size → S k = true := by
    intro listed S hsz hS hready k
    induction k using Nat.strongRecOn with
    | ind k ih =>
      intro hk
      cases e : S k with
      | true => rfl
      | false =>
        exfalso
        have hop := (tr_at ok tr hk).1
        have hlt : at' l k < ops.size := (Array.getElem?_eq_some_iff.1 hop).1
        have : at' l k ∈ Region.ready .any ops listed := by
          unfold Region.ready
          rw [List.mem_filter]
          refine ⟨List.mem_range.2 hlt, ?_⟩
          rw [getTF listed hsz _ hlt, ← hS k hk, e, hop]
          simp only [Option.map_some, Option.getD_some, Bool.not_false, Bool.true_and, ← Array.all_toList, List.all_eq_true]
          intro ed hed
          cases hb : Region.binds .any ed with
          | false => rfl
          | true =>
            obtain ⟨h1, h2⟩ := ok.edge _ _ hop ed hed hb
            obtain ⟨j, hj, hje⟩ := ok.pos h1
            have hbef : bef b l j k = true := by unfold bef; rw [hje]; exact h2
            rcases Nat.lt_trichotomy j k with h3 | h3 | h3
            · have := ih j h3 hj
              rw [hS j hj, hje] at this
              simp [this]
            · subst h3
              have := ok.irr _ hlt
              unfold bef at hbef
              rw [this] at hbef; cases hbef
            · have hp := ok.pair j k hj h3
              simp [pairOk, hbef] at hp
        rw [hready] at this
        cases this
  intro fuel
  induction fuel with
  | zero =>
    intro listed S p ρ a w hsz hS h hcount
    have hall : ∀ k, k < ops.size → S k = true := by
      intro k hk
      have h0 : (List.range ops.size).countP (fun i => !listed.getD i false) = 0 := by omega
      rw [List.countP_eq_zero] at h0
      have hlt : at' l k < ops.size := (Array.getElem?_eq_some_iff.1 (tr_at ok tr hk).1).1
      have := h0 _ (List.mem_range.2 hlt)
      rw [hS k hk]
      simpa using this
    refine ⟨?_, fin S p ρ a w h hall⟩
    unfold Region.ready
    rw [List.filter_eq_nil_iff]
    intro i hi
    have hi := List.mem_range.1 hi
    obtain ⟨k, hk, e⟩ := ok.pos hi
    rw [getTF listed hsz i hi, ← e, ← hS k hk, hall k hk]
    simp
  | succ fuel ih =>
    intro listed S p ρ a w hsz hS h hcount
    refine ⟨fun hready => fin S p ρ a w h (stuck listed S hsz hS hready), fun i hi => ?_⟩
    unfold Region.ready at hi
    rw [List.mem_filter] at hi
    obtain ⟨hi, hrd⟩ := hi
    have hi := List.mem_range.1 hi
    obtain ⟨k, hk, e⟩ := ok.pos hi
    subst e
    have hop := (tr_at ok tr hk).1
    rw [getTF listed hsz _ hi, hop] at hrd
    simp only [Option.map_some, Option.getD_some, Bool.and_eq_true, ← Array.all_toList, List.all_eq_true] at hrd
    obtain ⟨hrd1, hrd2⟩ := hrd
    have hSk : S k = false := by
      rw [hS k hk]
      simpa using hrd1
    have hr : ∀ j, j < ops.size → bef b l j k = true → S j = true := by
      intro j hj hb
      have hltj : at' l j < ops.size := (Array.getElem?_eq_some_iff.1 (tr_at ok tr hj).1).1
      obtain ⟨ed, hed, hbd, h3⟩ := ok.clo _ _ (at' l j) hop hltj hb
      have h4 := hrd2 ed hed
      simp only [hbd, Bool.not_true, Bool.false_or] at h4
      rcases h3 with h3 | h3
      · rw [hS j hj, ← h3]; exact h4
      · obtain ⟨h5, _⟩ := ok.edge _ _ hop ed hed hbd
        obtain ⟨q, hq, hqe⟩ := ok.pos h5
        have hSq : S q = true := by rw [hS q hq, hqe]; exact h4
        exact h.closed q hq hSq j hj (by unfold bef; rw [hqe]; exact h3)
    refine h.step ok tr hE hnB hk hSk hr (hoAt k hk) fun p' ρ' a' w' h' => ?_
    refine ih _ (fun j => S j || j == k) p' ρ' a' w' (by simpa using hsz) (fun j hj => ?_) h' ?_
    · have hltj : at' l j < ops.size := (Array.getElem?_eq_some_iff.1 (tr_at ok tr hj).1).1
      simp only [Array.getD_eq_getD_getElem?, Array.getElem?_setIfInBounds]
      by_cases e : at' l k = at' l j
      · have := ok.inj hk hj e
        subst this
        simp [hsz, hi]
      · have hne : (j == k) = false := by
          simp only [beq_eq_false_iff_ne]
          intro e'; subst e'; exact e rfl
        rw [hne, Bool.or_false, if_neg e, hS j hj, Array.getD_eq_getD_getElem?]
    · have : ∀ (L : List Nat), at' l k ∈ L → L.countP (fun i => !(listed.setIfInBounds (at' l k) true).getD i false) < L.countP (fun i => !listed.getD i false) := by
        have hset : ∀ i, (listed.setIfInBounds (at' l k) true).getD i false = if i = at' l k then true else listed.getD i false := by
          intro i
          simp only [Array.getD_eq_getD_getElem?, Array.getElem?_setIfInBounds]
          by_cases e : at' l k = i
          · subst e; simp [hsz, hi]
          · rw [if_neg e, if_neg (fun h => e h.symm)]
        have hk0 : listed.getD (at' l k) false = false := by simpa using hrd1
        intro L
        induction L with
        | nil => intro h; cases h
        | cons x L ihL =>
          intro hx
          have hle : L.countP (fun i => !(listed.setIfInBounds (at' l k) true).getD i false) ≤ L.countP (fun i => !listed.getD i false) := by
            apply List.countP_mono_left
            intro i _ h1
            rw [hset] at h1
            split at h1
            · cases h1
            · exact h1
          rw [List.countP_cons, List.countP_cons]
          by_cases e : x = at' l k
          · subst e
            rw [hset, hk0]
            simp only [if_true, Bool.not_true, Bool.not_false, Bool.false_eq_true, if_false]
            omega
          · have hx' : at' l k ∈ L := by
              rcases List.mem_cons.1 hx with h1 | h1
              · exact absurd h1.symm e
              · exact h1
            have := ihL hx'
            rw [hset, if_neg e]
            omega
      have := this _ (List.mem_range.2 hi)
      omega

end region

theorem drawSound (hE : E.Ok P) (hm : P.follows .mixedOrders = true) : DrawSound C P E drawOk := by
  intro f id ops t m t' m' hok hops hd B ρ w a rdr N Q hB hs ha hQ
  have ok := DOk.of hok
  obtain ⟨T, M, G, V, e1, e2, e3, e4, e5, tr⟩ := hd.trace
  rw [ok.len] at e4 e5
  refine wpIn_region_any hm ?_
  have hdrew := Post.drew hs (w.drawn + 1)
  have hs' := hdrew.sim
  subst e1; subst e2; subst e4; subst e5
  refine drawn_any ok tr (B := B) (ρ0 := ρ) (w0 := { w with drawn := w.drawn + 1 }) (ds := a.defers) hE hB hops (fun ρ' w' a' hp ha' hd => hQ ρ' w' a' (hdrew.trans hp) ha' hd) ops.size (Array.replicate ops.size false) (fun _ => false) 0 ρ a _ (by simp) (fun k _ => by simp [Array.getD]) ?_ ?_
  · have hTS : TSf ops.size (fun k => (opAt ops ((E.ord f id).getD (List.range ops.size)) k).dst) V (T 0) (fun _ => false) = T 0 := by
      have h1 := TSf_lt (n := ops.size) (d := fun k => (opAt ops ((E.ord f id).getD (List.range ops.size)) k).dst) (V := V) (T := T) (fun k hk => (tr_at ok tr hk).2.1) (Nat.zero_le _)
      simpa using h1
    have view : ∀ i c, View M ops.size (fun _ => false) 0 i c → (M 0).get i = some c := by
      intro i c h
      rcases h with h | ⟨k, _, _, h, _⟩
      · exact h
      · cases h
    exact { pn := Nat.zero_le _, hv := fun k _ _ => (by simp), al := fun k h => (by omega), ld := fun k h => (by omega), closed := fun k _ h => (by cases h),
            dom := fun i e he => (hs'.dom i e he).imp (fun h => h) .inr, rel := fun i c h => hs'.sim.rel i c (view i c h), inj := fun i j bi bj ei ej hi hj => hs'.sim.inj i j bi bj ei ej (view _ _ hi) (view _ _ hj),
            tm := (by rw [hTS]; exact ha), df := rfl, le := Inj.le_refl ρ, new := fun i e h => .inl h, os := rfl, tape := rfl, output := rfl, size := Nat.le_refl _, frame := fun _ _ _ => rfl,
            img := fun i c e h hw he => .inr ⟨i, c, e, view i c h, hw, he, rfl⟩ }
  · have := List.countP_le_length (l := List.range ops.size) (p := fun i => !(Array.replicate ops.size false).getD i false)
    simpa using this

end Go.Abs
