/-
  What a run keeps of the abstract memory: blocks that may not be written; nothing that was let go comes back.
-/
import Derived.Test.YthlcbacmbcmgfaaAbs7
namespace Go.Abs

structure Keeps (m m' : Mem) : Prop where
  size : m.size ≤ m'.size
  ro : ∀ i b, m.get i = some b → b.writable = false → m'.get i = some b
  old : ∀ i b, i < m.size → m'.get i = some b → ∃ c, m.get i = some c ∧ c.writable = b.writable
  new : ∀ i b, m.size ≤ i → m'.get i = some b → b.writable = true

theorem Keeps.refl (m : Mem) : Keeps m m where
  size := Nat.le_refl _
  ro _ _ h _ := h
  old _ b _ h := ⟨b, h, rfl⟩
  new i _ h k := by have := getM_lt k; omega

theorem Keeps.trans {m m' m'' : Mem} (h : Keeps m m') (k : Keeps m' m'') : Keeps m m'' where
  size := Nat.le_trans h.size k.size
  ro i b h1 h2 := k.ro i b (h.ro i b h1 h2) h2
  old i b h1 h2 := by
    obtain ⟨c, h3, h4⟩ := k.old i b (Nat.lt_of_lt_of_le h1 h.size) h2
    obtain ⟨d, h5, h6⟩ := h.old i c h1 h3
    exact ⟨d, h5, h6.trans h4⟩
  new i b h1 h2 := by
    by_cases h3 : i < m'.size
    · obtain ⟨c, h4, h5⟩ := k.old i b h3 h2
      rw [← h5]
      exact h.new i c h1 h4
    · exact k.new i b (by omega) h2

theorem Keeps.push (m : Mem) {b : Blk} (hb : b.writable = true) : Keeps m (m.push b) where
  size := by simp
  ro i c h _ := by rw [getM_push, if_neg (by have := getM_lt h; omega)]; exact h
  old i c h1 h2 := by
    rw [getM_push, if_neg (by omega)] at h2
    exact ⟨c, h2, rfl⟩
  new i c h1 h2 := by
    rw [getM_push] at h2
    split at h2
    · cases h2; exact hb
    · have := getM_lt h2; omega

theorem Keeps.put {m : Mem} {i : Nat} {c : Blk} {b' : Option Blk} (hi : m.get i = some c) (hw : c.writable = true) (hb : ∀ b, b' = some b → b.writable = true) : Keeps m (m.put i b') where
  size := by simp
  ro j b h1 h2 := by
    rw [getM_put, if_neg]
    · exact h1
    · rintro ⟨rfl, _⟩
      rw [hi] at h1; cases h1
      rw [hw] at h2; cases h2
  old j b h1 h2 := by
    rw [getM_put] at h2
    split at h2
    · rename_i k
      rw [k.1]
      exact ⟨c, hi, hw.trans (hb b h2).symm⟩
    · exact ⟨b, h2, rfl⟩
  new j b h1 h2 := by
    rw [getM_put] at h2
    split at h2
    · exact hb b h2
    · have := getM_lt h2; omega

theorem write_keeps {m m' : Mem} {a : Addr} {vs : List Value} (h : m.write a vs = some m') : Keeps m m' := by
  unfold Mem.write at h
  split at h
  · rename_i tg cs hg
    split at h
    · cases h
      exact .put hg rfl fun b hb => by cases hb; rfl
    · cases h
  · cases h

section ops
variable {E : Env} {m : Mem}

theorem appendV_keeps {st xt : TypeId} {s x v : Value} {m' : Mem} (h : appendV E m st xt s x = some (v, m')) : Keeps m m' := by
  unfold appendV at h
  split at h
  · split at h
    · cases h
    · split at h
      · cases h
      · split at h
        · split at h
          · cases h; exact .refl m
          · cases h; exact .refl m
          · obtain ⟨m1, h1, h2⟩ := Option.map_eq_some_iff.1 h
            cases h2
            exact write_keeps h1
          · cases h
        · split at h
          · split at h
            · split at h
              · cases h
                exact .push m rfl
              · cases h
            · split at h
              · rename_i old b hold hget
                split at h
                · rename_i hok
                  cases h
                  simp only [Bool.and_eq_true] at hok
                  split
                  · exact .push m rfl
                  · rename_i ht
                    refine (Keeps.put (b' := none) hget ?_ fun b hb => by cases hb).trans (.push _ rfl)
                    have := hok.1.2
                    cases b with
                    | cells ro tg cs =>
                      simp only [Blk.isTight] at ht
                      simp only [Blk.free, Blk.writable] at this ⊢
                      cases tg
                      · simpa using this
                      · exact absurd rfl ht
                    | loop => rfl
                    | map => rfl
                · cases h
              · cases h
          · cases h
  · cases h

theorem copyV_keeps {dt : TypeId} {d s v : Value} {m' : Mem} (h : copyV E m dt d s = some (v, m')) : Keeps m m' := by
  unfold copyV at h
  split at h
  · split at h
    · split at h
      · cases h
      · split at h
        · cases h; exact .refl m
        · cases h; exact .refl m
        · split at h
          · obtain ⟨m1, h1, h2⟩ := Option.map_eq_some_iff.1 h
            cases h2
            exact write_keeps h1
          · cases h
    · cases h
  · cases h

theorem convV_keeps {s d : TypeId} {x v : Value} {m' : Mem} (h : convV E s d x m = some (v, m')) : m' = m := by
  unfold convV at h
  split at h
  · cases h; rfl
  · cases h; rfl
  · split at h
    · cases h; rfl
    · obtain ⟨l, _, h2⟩ := Option.map_eq_some_iff.1 h
      cases h2; rfl
    · cases h
  · split at h
    · split at h
      · cases h; rfl
      · cases h
    · cases h
  · cases h

theorem storeV_keeps {t : TypeId} {p v : Value} {m' : Mem} (h : storeV E m t p v = some m') : Keeps m m' := by
  unfold storeV at h
  split at h
  · split at h
    · exact write_keeps h
    · cases h
  · cases h

theorem buildSliceV_keeps {t : TypeId} {len : Nat} {parts : List (Nat × Value)} {v : Value} {m' : Mem} (h : buildSliceV E m t len parts = some (v, m')) : Keeps m m' := by
  unfold buildSliceV at h
  split at h
  · split at h
    · split at h
      · obtain ⟨l, _, he⟩ := Option.map_eq_some_iff.1 h
        cases he
        exact .push m rfl
      · cases h
    · cases h
  · cases h

theorem makeV_keeps {t : TypeId} {l c v : Value} {m' : Mem} (h : makeV E m t l c = some (v, m')) : Keeps m m' := by
  unfold makeV at h
  split at h
  · split at h
    · split at h
      · cases h
        exact .push m rfl
      · cases h
    · cases h
  · cases h

/-- The memory behind a step. -/
def Step.mem : Step → Mem
  | .val _ m => m
  | .enter _ _ m => m
  | .round _ _ m => m

theorem val?_keeps {v : Option Value} {st : Step} (h : val? m v = some st) : Keeps m st.mem := by
  obtain ⟨x, _, rfl⟩ := Option.map_eq_some_iff.1 h
  exact .refl m

theorem val2?_keeps {v : Option (Value × Mem)} {st : Step} (h : val2? v = some st) (k : ∀ x m', v = some (x, m') → Keeps m m') : Keeps m st.mem := by
  obtain ⟨⟨x, m'⟩, h1, rfl⟩ := Option.map_eq_some_iff.1 h
  exact k x m' h1

theorem putMap_keeps {r : Nat} {es es' : List MapEntry} {c c' : Nat} (h : m.get r = some (.map es c)) : Keeps m (m.put r (some (.map es' c'))) := .put h rfl fun b hb => by cases hb; rfl
theorem makeMapV_keeps {t : TypeId} {h0 : Option Value} {v : Value} {m' : Mem} (h : makeMapV E m t h0 = some (v, m')) : Keeps m m' := by
  unfold makeMapV at h
  split at h
  · cases h; exact .push m rfl
  · cases h; exact .push m rfl
  · cases h
theorem mapUpdateV_keeps {t : TypeId} {x k v : Value} {m' : Mem} (h : mapUpdateV E m t x k v = some m') : Keeps m m' := by
  unfold mapUpdateV at h
  split at h
  · split at h
    · rename_i hg
      split at h
      · split at h
        · cases h; exact putMap_keeps hg
        · cases h; exact putMap_keeps hg
        · cases h
      · cases h
    · cases h
  · cases h
theorem mapEntryV_keeps {t : TypeId} {x k v : Value} {m' : Mem} (h : mapEntryV E m t x k = some (v, m')) : Keeps m m' := by
  unfold mapEntryV at h
  split at h
  · split at h
    · rename_i hg
      split at h
      · split at h
        · cases h; exact putMap_keeps hg
        · cases h; exact putMap_keeps hg
        · cases h
      · cases h
    · cases h
  · cases h
theorem entryStoreV_keeps {x s v : Value} {m' : Mem} (h : entryStoreV m x s v = some m') : Keeps m m' := by
  unfold entryStoreV at h
  split at h
  · split at h
    · rename_i hg
      split at h
      · cases h; exact putMap_keeps hg
      · cases h
    · cases h
  · cases h

theorem opV_keeps {o : Oper} {r : Operand → Value} {st : Step} (h : opV E o r m = some st) : Keeps m st.mem := by
  unfold opV at h
  split at h
  · cases h; exact .refl m
  · cases h; exact .refl m
  · split at h
    · cases h; exact .refl m
    · cases h
  · obtain ⟨i, _, rfl⟩ := Option.map_eq_some_iff.1 h
    exact .push m rfl
  · cases h; exact .push m rfl
  · exact val?_keeps h
  · exact val2?_keeps h fun _ _ => buildSliceV_keeps
  · exact val?_keeps h
  · obtain ⟨m', h1, rfl⟩ := Option.map_eq_some_iff.1 h
    exact storeV_keeps h1
  · split at h
    · cases h; exact .refl m
    · cases h
  · exact val?_keeps h
  · exact val?_keeps h
  · exact val2?_keeps h fun _ _ k => by rw [convV_keeps k]; exact .refl m
  · split at h
    · cases h; exact .refl m
    · cases h
  · exact val2?_keeps h fun _ _ => makeV_keeps
  · exact val?_keeps h
  · exact val?_keeps h
  · exact val?_keeps h
  · exact val?_keeps h
  · exact val?_keeps h
  · exact val?_keeps h
  · split at h
    · exact val?_keeps h
    · cases h
  · unfold callV at h
    split at h
    · split at h
      · split at h
        · cases h; exact .refl m
        · split at h
          · exact val?_keeps h
          · cases h
      · cases h; exact .refl m
      · cases h
    · split at h
      · exact val?_keeps h
      · exact val?_keeps h
      · exact val?_keeps h
      · exact val2?_keeps h fun _ _ => appendV_keeps
      · exact val2?_keeps h fun _ _ => copyV_keeps
      · cases h
    · cases h
  · exact val2?_keeps h fun _ _ => makeMapV_keeps
  · exact val?_keeps h
  · obtain ⟨m', hm, rfl⟩ := Option.map_eq_some_iff.1 h
    exact mapUpdateV_keeps hm
  · exact val2?_keeps h fun _ _ => mapEntryV_keeps
  · obtain ⟨m', hm, rfl⟩ := Option.map_eq_some_iff.1 h
    exact entryStoreV_keeps hm
  · cases h

end ops

/-! ### Guards -/
theorem getM_guard (m : Mem) (ids : List Nat) (i : Nat) : (m.guard ids).get i = if ids.contains i then (match m.get i with | some (.cells _ t cs) => some (.cells true t cs) | some (.map _ _) => none | b => b) else m.get i := by
  unfold Mem.get Mem.guard
  simp only [List.getElem?_mapIdx]
  cases h : m.bl[i]? with
  | none => simp
  | some b =>
    simp only [Option.map_some, Option.getD_some]
    rfl

theorem getM_unguard (m0 m : Mem) (ids : List Nat) (i : Nat) : (m0.unguard m ids).get i = if i < m.size ∧ ids.contains i = true then (match m0.get i with | some (.cells ro t cs) => some (.cells ro t cs) | some (.map es c) => some (.map es c) | _ => m.get i) else m.get i := by
  unfold Mem.unguard Mem.size
  rw [Mem.get]
  simp only [List.getElem?_mapIdx]
  cases h : m.bl[i]? with
  | none =>
    have : ¬ i < m.bl.length := by
      intro k
      rw [List.getElem?_eq_getElem k] at h
      cases h
    simp only [this, false_and, if_false, Mem.get, h, Option.map_none]
  | some b =>
    have hl := (List.getElem?_eq_some_iff.1 h).1
    have hm : m.get i = b := by simp [Mem.get, h]
    simp only [Option.map_some, Option.getD_some, hl, true_and, hm]
    cases m0.get i with
    | none => rfl
    | some c => cases c <;> rfl

/-- A guarded block of cells is back as it was; every other block is as the run left it. -/
theorem unguard_cases {m m1 : Mem} {ids : List Nat} (h : Keeps (m.guard ids) m1) (i : Nat) :
    (∃ ro t cs, m.get i = some (.cells ro t cs) ∧ (m.guard ids).get i = some (.cells true t cs) ∧ m1.get i = some (.cells true t cs) ∧ (m.unguard m1 ids).get i = some (.cells ro t cs)) ∨
    (∃ es c, m.get i = some (.map es c) ∧ (m.guard ids).get i = none ∧ m1.get i = none ∧ (m.unguard m1 ids).get i = some (.map es c)) ∨
    ((m.guard ids).get i = m.get i ∧ (m.unguard m1 ids).get i = m1.get i) := by
  have hs := h.size
  rw [show (m.guard ids).size = m.size by simp [Mem.guard, Mem.size]] at hs
  cases hc : ids.contains i with
  | false => exact .inr (.inr ⟨by rw [getM_guard, hc]; rfl, by rw [getM_unguard, hc]; simp⟩)
  | true =>
    cases hm : m.get i with
    | none => exact .inr (.inr ⟨by rw [getM_guard, hc, hm]; rfl, by rw [getM_unguard, hc, hm]; split <;> rfl⟩)
    | some b => cases b with
      | loop _ _ _ _ _ _ _ => exact .inr (.inr ⟨by rw [getM_guard, hc, hm]; rfl, by rw [getM_unguard, hc, hm]; split <;> rfl⟩)
      | map es c =>
        have hg : (m.guard ids).get i = none := by rw [getM_guard, hc, hm]; rfl
        have := getM_lt hm
        refine .inr (.inl ⟨es, c, rfl, hg, ?_, by rw [getM_unguard, hc, hm, if_pos ⟨by omega, rfl⟩]⟩)
        cases h1 : m1.get i with
        | none => rfl
        | some b =>
          obtain ⟨d, hd, _⟩ := h.old i b (by simp [Mem.guard, Mem.size] at this ⊢; exact this) h1
          rw [hg] at hd; cases hd
      | cells ro t cs =>
        have hg : (m.guard ids).get i = some (.cells true t cs) := by rw [getM_guard, hc, hm]; rfl
        refine .inl ⟨ro, t, cs, rfl, hg, h.ro i _ hg rfl, ?_⟩
        have := getM_lt hm
        rw [getM_unguard, hc, hm, if_pos ⟨by omega, rfl⟩]

@[simp] theorem size_guard (m : Mem) (ids : List Nat) : (m.guard ids).size = m.size := by simp [Mem.guard, Mem.size]
@[simp] theorem size_unguard (m0 m : Mem) (ids : List Nat) : (m0.unguard m ids).size = m.size := by simp [Mem.unguard, Mem.size]
@[simp] theorem size_gm (m : Mem) (ids : List Nat) : (m.gm ids).size = m.size := by unfold Mem.gm; split <;> simp
@[simp] theorem size_ugm (m0 m : Mem) (ids : List Nat) : (m0.ugm m ids).size = m.size := by unfold Mem.ugm; split <;> simp

theorem ugm_keeps {m m1 : Mem} {ids : List Nat} (h : Keeps (m.gm ids) m1) : Keeps m (m.ugm m1 ids) := by
  unfold Mem.gm at h
  unfold Mem.ugm
  split
  · rename_i he
    rw [if_pos he] at h
    exact h
  · rename_i he
    rw [if_neg he] at h
    have hs := h.size
    rw [size_guard] at hs
    refine ⟨by simpa using hs, fun i b h1 h2 => ?_, fun i b h1 h2 => ?_, fun i b h1 h2 => ?_⟩
    · rcases unguard_cases h i with ⟨ro, t, cs, k1, k2, k3, k4⟩ | ⟨es, c, k1, k2, k3, k4⟩ | ⟨k1, k2⟩
      · rw [k4, ← k1]; exact h1
      · rw [k4, ← k1]; exact h1
      · rw [k2]; exact h.ro i b (k1.trans h1) h2
    · rcases unguard_cases h i with ⟨ro, t, cs, k1, k2, k3, k4⟩ | ⟨es, c, k1, k2, k3, k4⟩ | ⟨k1, k2⟩
      · rw [k4] at h2; cases h2
        exact ⟨_, k1, rfl⟩
      · rw [k4] at h2; cases h2
        exact ⟨_, k1, rfl⟩
      · rw [k2] at h2
        obtain ⟨c, h3, h4⟩ := h.old i b (by simpa using h1) h2
        exact ⟨c, k1 ▸ h3, h4⟩
    · rcases unguard_cases h i with ⟨ro, t, cs, k1, k2, k3, k4⟩ | ⟨es, c, k1, k2, k3, k4⟩ | ⟨k1, k2⟩
      · have := getM_lt k1; omega
      · have := getM_lt k1; omega
      · rw [k2] at h2
        exact h.new i b (by simpa using h1) h2

/-! ### Runs -/
theorem stepT_keeps {E : Env} {rn : Task → Mem → Option Out} (ih : ∀ T m o, rn T m = some o → Keeps m o.m) (T : Task) (m : Mem) (o : Out) (h : stepT E rn T m = some o) : Keeps m o.m := by
  cases T with
  | code rd f c t =>
    simp only [stepT] at h
    cases c with
    | skip => cases h; exact .refl m
    | exit id => cases h; exact .refl m
    | ret => cases h; exact .refl m
    | scope b => cases h
    | label l => cases h
    | goto l => cases h
    | refuse s => cases h
    | seq x y =>
      dsimp only at h
      split at h
      · rename_i t1 m1 hx
        exact (ih _ _ _ hx).trans (ih _ _ _ h)
      · exact ih _ _ _ h
    | cond c x y =>
      dsimp only at h
      split at h
      · exact ih _ _ _ h
      · exact ih _ _ _ h
      · cases h
    | block id b =>
      dsimp only at h
      split at h
      · rename_i i t1 m1 hx
        have := ih _ _ _ hx
        split at h
        · cases h; exact this
        · cases h; exact this
      · exact ih _ _ _ h
    | loop b =>
      dsimp only at h
      split at h
      · rename_i t1 m1 hx
        exact (ih _ _ _ hx).trans (ih _ _ _ h)
      · exact ih _ _ _ h
    | region id ops draw =>
      dsimp only at h
      split at h
      · exact ih _ _ _ h
      · exact ih _ _ _ h
    | rangeFunc g ps asg body =>
      dsimp only at h
      split at h
      · split at h
        · split at h
          · rename_i t2 m1 hcall
            split at h
            · rename_i st pend f' t' ps' asg' body' hl
              split at h
              · cases h
              · have k := ((Keeps.push m (b := .loop .ready none f t ps asg body) rfl).trans (ih _ _ _ hcall)).trans (Keeps.put (b' := some (.loop .exhausted pend f' t' ps' asg' body')) hl rfl fun b hb => by cases hb; rfl)
                split at h <;> first | (cases h; exact k) | cases h
            · cases h
          · cases h
        · cases h
      · cases h
  | ops ops l t =>
    cases l with
    | nil => simp only [stepT, Option.some.injEq] at h; subst h; exact .refl m
    | cons i rest =>
      simp only [stepT] at h
      split at h
      · cases h
      · split at h
        · split at h
          · rename_i v m1 hv
            exact (opV_keeps hv).trans (ih _ _ _ h)
          · rename_i g args m1 hv
            split at h
            · rename_i r m2 hc
              exact ((opV_keeps hv).trans (ih _ _ _ hc)).trans (ih _ _ _ h)
            · cases h
          · rename_i g args m1 hv
            split at h
            · rename_i r m2 hc
              exact ((opV_keeps hv).trans (ih _ _ _ hc)).trans (ih _ _ _ h)
            · cases h
          · cases h
        · exact ih _ _ _ h
  | draw f id ops l log t =>
    cases l with
    | nil => simp only [stepT, Option.some.injEq] at h; subst h; exact .refl m
    | cons i rest =>
      simp only [stepT] at h
      split at h
      · cases h
      · split at h
        · split at h
          · rename_i v m1 hv
            exact (ugm_keeps (opV_keeps hv)).trans (ih _ _ _ h)
          · rename_i g args m1 hv
            split at h
            · rename_i r m2 hc
              exact (ugm_keeps ((opV_keeps hv).trans (ih _ _ _ hc))).trans (ih _ _ _ h)
            · cases h
          · rename_i g args m1 hv
            split at h
            · rename_i r m2 hc
              exact (ugm_keeps ((opV_keeps hv).trans (ih _ _ _ hc))).trans (ih _ _ _ h)
            · cases h
          · cases h
        · exact ih _ _ _ h
  | call f args =>
    simp only [stepT] at h
    split at h
    · split at h
      · cases h; exact .refl m
      · cases h
    split at h
    · cases h
    · split at h
      · rename_i x t m1 hrun
        have k := ih _ _ _ hrun
        split at h
        · obtain ⟨vs, _, rfl⟩ := Option.map_eq_some_iff.1 h; exact k
        · obtain ⟨vs, _, rfl⟩ := Option.map_eq_some_iff.1 h; exact k
        · cases h
      · cases h
  | round l args =>
    simp only [stepT] at h
    split at h
    · split at h
      · split at h
        · rename_i t1 m1 hasg
          split at h
          · rename_i pend f' t' ps' asg' body' hg1
            split at h
            · rename_i x t2 m2 hbody
              split at h
              · rename_i st2 pend2 f2 t2' ps2 asg2 body2 hg2
                have k := ((ih _ _ _ hasg).trans (Keeps.put (b' := some (.loop .busy pend f' t' ps' asg' body')) hg1 rfl fun b hb => by cases hb; rfl)).trans (ih _ _ _ hbody)
                split at h
                · cases h; exact k.trans (.put hg2 rfl fun b hb => by cases hb; rfl)
                · cases h; exact k.trans (.put hg2 rfl fun b hb => by cases hb; rfl)
                · cases h; exact k.trans (.put hg2 rfl fun b hb => by cases hb; rfl)
                · cases h
              · cases h
            · cases h
          · cases h
        · cases h
      · cases h
    · cases h

theorem run_keeps {E : Env} : ∀ (n : Nat) (T : Task) (m : Mem) (o : Out), run E n T m = some o → Keeps m o.m
  | 0, T, m, o, h => by simp [run] at h
  | n + 1, T, m, o, h => stepT_keeps (run_keeps n) T m o h

end Go.Abs
