/-
  What an operation looks at of the memory: for regions whose order is open.
-/
import Derived.Test.YthlcbacmbcmgfaaAbs8
namespace Go.Abs
variable {C : FuncId → Code → Prop} {B : Nat} {E : Env}

def LocalOf (E : Env) (o : Oper) (r : Operand → Value) (m : Mem) (v : Value) (m1 : Mem) : Prop :=
  (cls E o ≠ .A ∧ m1 = m ∧ ∀ m2, (∀ b, loadBlock o r = some b → m2.get b = m.get b) → opV E o r m2 = some (.val v m2)) ∨
  (cls E o = .A ∧ ∃ b : Blk, b.writable = true ∧ m1 = m.push b ∧ ∀ m2 : Mem, m2.size = m.size → opV E o r m2 = some (.val v (m2.push b)))

theorem row_of {m m2 : Mem} {a : Addr} (h : m2.get a.block = m.get a.block) (n : Nat) : m2.row a n = m.row a n := by
  unfold Mem.row; rw [h]

theorem cell_of {m m2 : Mem} {a : Addr} (h : m2.get a.block = m.get a.block) : m2.cell a = m.cell a := by
  unfold Mem.cell; rw [h]

theorem opV_local {o : Oper} {r : Operand → Value} {m : Mem} {st : Step} (h : opV E o r m = some st) (hc : cls E o ≠ .H) : ∃ v m1, st = .val v m1 ∧ LocalOf E o r m v m1 := by
  have h0 := h
  unfold opV at h
  split at h
  · rename_i x ho
    cases h
    exact ⟨_, _, rfl, .inl ⟨by simp [cls, ho], rfl, fun m2 _ => by simp [opV, ho]⟩⟩
  · rename_i x ho
    cases h
    exact ⟨_, _, rfl, .inl ⟨by simp [cls, ho], rfl, fun m2 _ => by simp [opV, ho]⟩⟩
  · rename_i c a b ho
    split at h
    · rename_i p hp
      cases h
      exact ⟨_, _, rfl, .inl ⟨by simp [cls, ho], rfl, fun m2 _ => by simp [opV, ho, hp]⟩⟩
    · cases h
  · rename_i t ho
    obtain ⟨i, hi, rfl⟩ := Option.map_eq_some_iff.1 h
    exact ⟨_, _, rfl, .inr ⟨by simp [cls, ho], _, rfl, rfl, fun m2 hm => by simp [opV, ho, hi, newBlock, hm]⟩⟩
  · rename_i t x ho
    cases h
    exact ⟨_, _, rfl, .inr ⟨by simp [cls, ho], _, rfl, rfl, fun m2 hm => by simp [opV, ho, newBlock, hm]⟩⟩
  · rename_i t parts ho
    obtain ⟨v, hv, rfl⟩ := Option.map_eq_some_iff.1 h
    exact ⟨_, _, rfl, .inl ⟨by simp [cls, ho], rfl, fun m2 _ => by simp only [opV, ho]; rw [hv]; rfl⟩⟩
  · rename_i t len parts ho
    obtain ⟨⟨v, m'⟩, hv, rfl⟩ := Option.map_eq_some_iff.1 h
    refine ⟨_, _, rfl, .inr ⟨by simp [cls, ho], ?_⟩⟩
    unfold buildSliceV at hv
    split at hv
    · rename_i e hd
      split at hv
      · rename_i i hi
        split at hv
        · rename_i hl
          obtain ⟨l, h1, h2⟩ := Option.map_eq_some_iff.1 hv
          cases h2
          refine ⟨_, rfl, rfl, fun m2 hm => ?_⟩
          simp only [opV, ho, buildSliceV, hd, hi, if_pos hl, h1, hm]
          rfl
        · cases hv
      · cases hv
    · cases hv
  · rename_i t a ho
    obtain ⟨v, hv, rfl⟩ := Option.map_eq_some_iff.1 h
    refine ⟨_, _, rfl, .inl ⟨by simp [cls, ho], rfl, fun m2 hb => ?_⟩⟩
    have e : loadV E m2 t (r a) = loadV E m t (r a) := by
      unfold loadV at hv ⊢
      split at hv
      · rename_i i ad hi hp
        have hb := hb ad.block (by simp only [loadBlock, ho, hp])
        simp only [row_of hb, cell_of hb]
      · cases hv
    simp only [opV, ho]
    rw [e, hv]
    rfl
  · rename_i t a x ho
    simp [cls, ho] at hc
  · rename_i x ho
    split at h
    · rename_i hn
      cases h
      exact ⟨_, _, rfl, .inl ⟨by simp [cls, ho], rfl, fun m2 _ => by simp [opV, ho, hn]⟩⟩
    · cases h
  · rename_i op t x y yt ho
    obtain ⟨v, hv, rfl⟩ := Option.map_eq_some_iff.1 h
    exact ⟨_, _, rfl, .inl ⟨by simp [cls, ho], rfl, fun m2 _ => by simp only [opV, ho]; rw [hv]; rfl⟩⟩
  · rename_i op t x ho
    obtain ⟨v, hv, rfl⟩ := Option.map_eq_some_iff.1 h
    exact ⟨_, _, rfl, .inl ⟨by simp [cls, ho], rfl, fun m2 _ => by simp only [opV, ho]; rw [hv]; rfl⟩⟩
  · rename_i s d x ho
    obtain ⟨⟨v, m'⟩, hv, rfl⟩ := Option.map_eq_some_iff.1 h
    have hm := convV_keeps hv
    subst hm
    have hA : cls E o ≠ .A := by
      simp only [cls, ho]
      split <;> simp
    refine ⟨_, _, rfl, .inl ⟨hA, rfl, fun m2 hb => ?_⟩⟩
    have e : convV E s d (r x) m2 = some (v, m2) := by
      have hv0 := hv
      unfold convV at hv ⊢
      split at hv
      · rename_i h1 h2 h3; cases hv; rfl
      · rename_i h1 h2 h3; cases hv; rfl
      · rename_i e _ _ _ _ _ _ a n c h1 h2 h3
        cases a with
        | none =>
          cases hd : E.desc e with
          | none => simp [hd] at hv
          | some dd => cases dd with
            | int k => cases k <;> simp_all
            | _ => simp [hd] at hv
        | some a =>
          have hb := hb a.block (by simp only [loadBlock, ho, h3])
          cases hd : E.desc e with
          | none => simp [hd] at hv
          | some dd => cases dd with
            | int k =>
              cases k with
              | u8 =>
                simp only [hd] at hv ⊢
                obtain ⟨l, h5, h6⟩ := Option.map_eq_some_iff.1 hv
                cases h6
                rw [row_of hb, h5]
                rfl
              | _ => simp [hd] at hv
            | _ => simp [hd] at hv
      · rename_i e _ _ _ _ _ _ _ a n c h1 h2 h3
        exfalso
        apply hc
        simp only [cls, ho, Env.desc, h1, h2]
      · cases hv
    simp only [opV, ho]
    rw [e]
    rfl
  · rename_i fn first captured ho
    split at h
    · rename_i g
      cases h
      exact ⟨_, _, rfl, .inl ⟨by simp [cls, ho], rfl, fun m2 _ => by simp [opV, ho]⟩⟩
    · cases h
  · rename_i t l c ho
    obtain ⟨⟨v, m'⟩, hv, rfl⟩ := Option.map_eq_some_iff.1 h
    refine ⟨_, _, rfl, .inr ⟨by simp [cls, ho], ?_⟩⟩
    unfold makeV at hv
    split at hv
    · rename_i e l' c' h1 h2 h3
      split at hv
      · rename_i i hi
        split at hv
        · rename_i hl
          cases hv
          refine ⟨_, rfl, rfl, fun m2 hm => ?_⟩
          simp only [opV, ho, makeV, h1, h2, h3, hi, if_pos hl, hm]
          rfl
        · cases hv
      · cases hv
    · cases hv
  · rename_i t x lo hi ho
    obtain ⟨v, hv, rfl⟩ := Option.map_eq_some_iff.1 h
    exact ⟨_, _, rfl, .inl ⟨by simp [cls, ho], rfl, fun m2 _ => by simp only [opV, ho]; rw [hv]; rfl⟩⟩
  · rename_i t x lo hi mx ho
    obtain ⟨v, hv, rfl⟩ := Option.map_eq_some_iff.1 h
    exact ⟨_, _, rfl, .inl ⟨by simp [cls, ho], rfl, fun m2 _ => by simp only [opV, ho]; rw [hv]; rfl⟩⟩
  · rename_i t x f ho
    obtain ⟨v, hv, rfl⟩ := Option.map_eq_some_iff.1 h
    exact ⟨_, _, rfl, .inl ⟨by simp [cls, ho], rfl, fun m2 _ => by simp only [opV, ho]; rw [hv]; rfl⟩⟩
  · rename_i t x f ho
    obtain ⟨v, hv, rfl⟩ := Option.map_eq_some_iff.1 h
    exact ⟨_, _, rfl, .inl ⟨by simp [cls, ho], rfl, fun m2 _ => by simp only [opV, ho]; rw [hv]; rfl⟩⟩
  · rename_i t x i ho
    obtain ⟨v, hv, rfl⟩ := Option.map_eq_some_iff.1 h
    exact ⟨_, _, rfl, .inl ⟨by simp [cls, ho], rfl, fun m2 _ => by simp only [opV, ho]; rw [hv]; rfl⟩⟩
  · rename_i t x i ho
    obtain ⟨v, hv, rfl⟩ := Option.map_eq_some_iff.1 h
    exact ⟨_, _, rfl, .inl ⟨by simp [cls, ho], rfl, fun m2 _ => by simp only [opV, ho]; rw [hv]; rfl⟩⟩
  · rename_i x i ho
    split at h
    · rename_i vs hvs
      obtain ⟨v, hv, rfl⟩ := Option.map_eq_some_iff.1 h
      exact ⟨_, _, rfl, .inl ⟨by simp [cls, ho], rfl, fun m2 _ => by simp only [opV, ho, hvs]; rw [hv]; rfl⟩⟩
    · cases h
  · rename_i c ho
    unfold callV at h
    split at h
    · rename_i f hf
      simp [cls, ho, hf] at hc
    · rename_i b hb
      split at h
      · rename_i x t h1 h2
        obtain ⟨v, hv, rfl⟩ := Option.map_eq_some_iff.1 h
        exact ⟨_, _, rfl, .inl ⟨by simp [cls, ho, hb], rfl, fun m2 _ => by simp only [opV, ho, callV, hb, h1, h2]; rw [hv]; rfl⟩⟩
      · rename_i x rest h1
        obtain ⟨v, hv, rfl⟩ := Option.map_eq_some_iff.1 h
        exact ⟨_, _, rfl, .inl ⟨by simp [cls, ho, hb], rfl, fun m2 _ => by simp only [opV, ho, callV, hb, h1]; rw [hv]; rfl⟩⟩
      · rename_i x rest h1
        obtain ⟨v, hv, rfl⟩ := Option.map_eq_some_iff.1 h
        exact ⟨_, _, rfl, .inl ⟨by simp [cls, ho, hb], rfl, fun m2 _ => by simp only [opV, ho, callV, hb, h1]; rw [hv]; rfl⟩⟩
      · simp [cls, ho, hb] at hc
      · simp [cls, ho, hb] at hc
      · cases h
    · cases h
  · rename_i ho; simp [cls, ho] at hc
  · rename_i t x k ok ho
    obtain ⟨v, hv, rfl⟩ := Option.map_eq_some_iff.1 h
    refine ⟨_, _, rfl, .inl ⟨by simp [cls, ho], rfl, fun m2 hb => ?_⟩⟩
    have e : lookupV E m2 t (r x) (r k) ok = lookupV E m t (r x) (r k) ok := by
      have he : entriesV m2 (r x) = entriesV m (r x) := by
        unfold entriesV
        cases hx : r x with
        | map b =>
          cases b with
          | none => rfl
          | some b =>
            have hb := hb b (by simp only [loadBlock, ho, hx])
            simp only [hb]
        | _ => rfl
      unfold lookupV
      rw [he]
    simp only [opV, ho]
    rw [e, hv]
    rfl
  · rename_i ho; simp [cls, ho] at hc
  · rename_i ho; simp [cls, ho] at hc
  · rename_i ho; simp [cls, ho] at hc
  · cases h

end Go.Abs
