/-
  Arguments with slices: a memory of kept blocks that mirrors what a call is given.
-/
import Derived.Test.YthlcbacmbcmgfaaAbs18
import Derived.ChangeStays
import Derived.OpenShut
namespace Go.Abs
variable {P : Program} {T : Tab}

/-- A well-formed abstract value of a type; what it points at is in the memory, and kept. -/
def Wf (P : Program) (m : Mem) : Nat → TypeId → List Value → Prop
  | 0, _, _ => False
  | n + 1, t, cs => match P.underlying t with
    | some .bool => ∃ b, cs = [.bool b]
    | some (.int k) => ∃ z, cs = [.int k z] ∧ (Lit.int k z).wf = true
    | some .string => ∃ s : ByteArray, cs = [.string s] ∧ s.size ≤ maxLen
    | some (.slice e) => cs = [.slice none 0 0] ∨ ∃ b len cap, ∃ els : List (List Value), cs = [.slice (some ⟨b, 0, none⟩) len cap] ∧ b < m.size ∧ len ≤ cap ∧ cap ≤ maxLen ∧ els.length = cap ∧
        (0 < cap → m.get b = some (.cells true true els.flatten)) ∧ ∀ x ∈ els, x.length = P.cellsOf e ∧ Wf P m n e x
    | some (.struct fs) => ∃ ps : List (List Value), cs = ps.flatten ∧ ps.length = fs.size ∧ ∀ (i : Nat) f p, fs[i]? = some f → ps[i]? = some p → p.length = P.cellsOf f.type ∧ Wf P m n f.type p
    | _ => False

theorem Wf.old {m m' : Mem} (h : Old m m') : ∀ (n : Nat) (t : TypeId) (cs : List Value), Wf P m n t cs → Wf P m' n t cs := by
  intro n
  induction n with
  | zero => intro t cs hw; exact hw
  | succ n ih =>
    intro t cs hw
    unfold Wf at hw ⊢
    split at hw
    · exact hw
    · exact hw
    · exact hw
    · rcases hw with hw | ⟨b, len, cap, els, h1, h2, h3, h4, h5, h6, h7⟩
      · exact .inl hw
      · exact .inr ⟨b, len, cap, els, h1, Nat.lt_of_lt_of_le h2 h.size, h3, h4, h5, fun hc => by rw [h.get h2]; exact h6 hc, fun x hx => ⟨(h7 x hx).1, ih _ _ (h7 x hx).2⟩⟩
    · obtain ⟨ps, h1, h2, h3⟩ := hw
      exact ⟨ps, h1, h2, fun i f p hf hp => ⟨(h3 i f p hf hp).1, ih _ _ (h3 i f p hf hp).2⟩⟩
    · exact hw

/-- The memory stands for the world, and is kept. -/
structure Laid (P : Program) (T : Tab) (W : World) (m : Mem) (ρ : Inj) : Prop where
  sim : GSim (CG P T) ρ m.get W
  dom : ∀ i e, ρ i = some e → i < m.size
  ro : ∀ i c, m.get i = some c → c.writable = false

/-- No address of an empty slice is odd. -/
def Clean (cs : List Value) : Prop := ∀ v ∈ cs, ∀ a n c, v = .slice (some a) n c → a.spot = none

/-- Types without slices. -/
structure Flat (P : Program) (F : TypeId → Prop) : Prop where
  is : ∀ t, F t → (P.underlying t = some .bool ∨ (∃ k, P.underlying t = some (.int k)) ∨ P.underlying t = some .string ∨
    ∃ fs, P.underlying t = some (.struct fs) ∧ (∀ f ∈ fs.toList, F f.type) ∧ P.cellsOf t = (fs.toList.map fun f => P.cellsOf f.type).sum ∧ ∀ (j : Nat) f, fs.toList[j]? = some f → f.offset = ((fs.toList.take j).map fun f => P.cellsOf f.type).sum)

/-- The types of arguments that are taken. -/
structure Plain (P : Program) (K F : TypeId → Prop) : Prop where
  flat : Flat P F
  is : ∀ t, K t → (P.underlying t = some .bool ∨ (∃ k, P.underlying t = some (.int k)) ∨ P.underlying t = some .string ∨ (∃ e, P.underlying t = some (.slice e) ∧ K e ∧ 0 < P.cellsOf e) ∨
    ∃ fs, P.underlying t = some (.struct fs) ∧ (∀ f ∈ fs.toList, K f.type) ∧ P.cellsOf t = (fs.toList.map fun f => P.cellsOf f.type).sum ∧ ∀ (j : Nat) f, fs.toList[j]? = some f → f.offset = ((fs.toList.take j).map fun f => P.cellsOf f.type).sum)

section lay
variable {W : World} {H : Type} {enc : TypeId × Value → H} {K F : TypeId → Prop}

/-- What is claimed of each type's cells. -/
def LayOk (P : Program) (T : Tab) (W : World) (n : Nat) (t : TypeId) (cs : List Value) : Prop :=
  ∀ m ρ, Laid P T W m ρ → ∃ l ρ' cs', Laid P T W (m.ext l) ρ' ∧ ρ.le ρ' ∧ LRel ρ' cs' cs ∧ Wf P (m.ext l) n t cs'

/-- Many, one behind the other. -/
theorem lay_many {n : Nat} : ∀ (l : List (TypeId × List Value)), (∀ x ∈ l, LayOk P T W n x.1 x.2) → ∀ m ρ, Laid P T W m ρ →
    ∃ l' ρ', ∃ ps : List (List Value), Laid P T W (m.ext l') ρ' ∧ ρ.le ρ' ∧ ps.length = l.length ∧ (∀ (i : Nat) x p, l[i]? = some x → ps[i]? = some p → LRel ρ' p x.2 ∧ Wf P (m.ext l') n x.1 p)
  | [], _, m, ρ, h => ⟨[], ρ, [], by rw [ext_nil]; exact h, Inj.le_refl ρ, rfl, fun i x p hx => by simp at hx⟩
  | x :: l, hl, m, ρ, h => by
    obtain ⟨l1, ρ1, c1, h1, h2, h3, h4⟩ := hl x (by simp) m ρ h
    obtain ⟨l2, ρ2, ps, k1, k2, k3, k4⟩ := lay_many l (fun y hy => hl y (by simp [hy])) _ ρ1 h1
    refine ⟨l1 ++ l2, ρ2, c1 :: ps, by rw [← ext_ext]; exact k1, Inj.le_trans h2 k2, by simp [k3], fun i y p hy hp => ?_⟩
    rw [← ext_ext]
    cases i with
    | zero =>
      simp only [List.getElem?_cons_zero, Option.some.injEq] at hy hp
      subst hy hp
      exact ⟨h3.mono k2, h4.old ⟨l2, rfl⟩⟩
    | succ i => exact k4 i y p (by simpa using hy) (by simpa using hp)

theorem LRel.flatten {ρ : Inj} : ∀ {a b : List (List Value)}, a.length = b.length → (∀ (i : Nat) x y, a[i]? = some x → b[i]? = some y → LRel ρ x y) → LRel ρ a.flatten b.flatten
  | [], [], _, _ => .nil
  | x :: a, y :: b, h, k => by
    rw [List.flatten_cons, List.flatten_cons]
    exact (k 0 x y rfl rfl).append (LRel.flatten (by simpa using h) fun i x y h1 h2 => k (i + 1) x y (by simpa using h1) (by simpa using h2))

/-- Rows of one length. -/
theorem flatten_get {sz : Nat} : ∀ {els : List (List Value)}, (∀ x ∈ els, x.length = sz) → ∀ (k : Nat) (v : Value), els.flatten[k]? = some v → ∃ x, els[k / sz]? = some x ∧ x[k % sz]? = some v
  | [], _, k, v, h => by simp at h
  | x :: els, hx, k, v, h => by
    have h0 : x.length = sz := hx x (by simp)
    rw [List.flatten_cons] at h
    by_cases hk : k < sz
    · rw [List.getElem?_append_left (by omega)] at h
      rw [Nat.div_eq_of_lt hk, Nat.mod_eq_of_lt hk]
      exact ⟨x, rfl, h⟩
    · rw [List.getElem?_append_right (by omega), h0] at h
      obtain ⟨y, h1, h2⟩ := flatten_get (fun y hy => hx y (by simp [hy])) _ _ h
      have hs : 0 < sz := by
        rcases Nat.eq_zero_or_pos sz with e | e
        · subst e
          have := (List.getElem?_eq_some_iff.1 h2).1
          have := hx y (List.mem_cons_of_mem _ (List.mem_of_getElem? h1))
          omega
        · exact e
      have e1 : k / sz = (k - sz) / sz + 1 := by rw [Nat.div_eq_sub_div hs (by omega)]
      have e2 : k % sz = (k - sz) % sz := Nat.mod_eq_sub_mod (by omega)
      rw [e1, e2]
      exact ⟨y, by simpa using h1, h2⟩

theorem length_flatten {sz : Nat} : ∀ {els : List (List Value)}, (∀ x ∈ els, x.length = sz) → els.flatten.length = els.length * sz
  | [], _ => by simp
  | x :: els, h => by rw [List.flatten_cons, List.length_append, length_flatten fun y hy => h y (by simp [hy]), h x (by simp), List.length_cons, Nat.add_mul]; omega

theorem flatten_pieces : ∀ (cs : List Value) (sz : List Nat), cs.length = sz.sum → ∃ ps : List (List Value), cs = ps.flatten ∧ ps.length = sz.length ∧ ∀ (i : Nat) p, ps[i]? = some p → p = (cs.drop (sz.take i).sum).take (sz.getD i 0) ∧ p.length = sz.getD i 0
  | cs, [], h => ⟨[], by simpa using h, rfl, fun i p hp => by simp at hp⟩
  | cs, k :: sz, h => by
    have h0 : cs.length = k + sz.sum := by simpa using h
    have h' : (cs.drop k).length = sz.sum := by rw [List.length_drop]; omega
    obtain ⟨ps, h1, h2, h3⟩ := flatten_pieces (cs.drop k) sz h'
    refine ⟨cs.take k :: ps, by rw [List.flatten_cons, ← h1, List.take_append_drop], by simp [h2], fun i p hp => ?_⟩
    cases i with
    | zero =>
      simp only [List.getElem?_cons_zero, Option.some.injEq] at hp
      subst hp
      refine ⟨by simp, ?_⟩
      rw [List.length_take]
      show min k cs.length = k
      omega
    | succ i =>
      obtain ⟨h4, h5⟩ := h3 i p (by simpa using hp)
      refine ⟨by rw [h4, List.drop_drop]; simp, by simpa using h5⟩

theorem pieces_of {fs : Array Field} {cs : List Value} {t : TypeId} (hsz : P.cellsOf t = (fs.toList.map fun f => P.cellsOf f.type).sum) (hoff : ∀ (j : Nat) f, fs.toList[j]? = some f → f.offset = ((fs.toList.take j).map fun f => P.cellsOf f.type).sum) (hl : cs.length = P.cellsOf t) :
    ∃ ps : List (List Value), cs = ps.flatten ∧ ps.length = fs.size ∧ ∀ (i : Nat) f p, fs[i]? = some f → ps[i]? = some p → p = (cs.drop f.offset).take (P.cellsOf f.type) ∧ p.length = P.cellsOf f.type := by
  obtain ⟨ps, h1, h2, h3⟩ := flatten_pieces cs (fs.toList.map fun f => P.cellsOf f.type) (hl.trans hsz)
  refine ⟨ps, h1, by simpa using h2, fun i f p hf hp => ?_⟩
  obtain ⟨h4, h5⟩ := h3 i p hp
  have hf' : fs.toList[i]? = some f := by simpa using hf
  have e : (fs.toList.map fun f => P.cellsOf f.type).getD i 0 = P.cellsOf f.type := by simp [List.getD_eq_getElem?_getD, hf]
  rw [e] at h4 h5
  rw [← List.map_take, ← hoff i f hf'] at h4
  exact ⟨h4, h5⟩

theorem lay (hK : Plain P K F) : ∀ (n : Nat) (t : TypeId) (cs : List Value) (x : DataW H × List MemPlace), K t → DataW.trod enc P W 0 (fun _ => true) true n t cs = some x → LayOk P T W n t cs := by
  intro n
  induction n with
  | zero => intro t cs x _ h; simp [DataW.trod] at h
  | succ n ih =>
    intro t cs x ht h m ρ hm
    rcases hK.is t ht with hu | ⟨k, hu⟩ | hu | ⟨e, hu, he, he0⟩ | ⟨fs, hu, hf, hsz, hoff⟩
    · obtain ⟨b, rfl, _⟩ := DataW.trod_bool hu h
      exact ⟨[], ρ, [.bool b], by rw [ext_nil]; exact hm, Inj.le_refl ρ, .cons (.bool b) .nil, by unfold Wf; rw [hu]; exact ⟨b, rfl⟩⟩
    · obtain ⟨z, rfl, _, hz⟩ := DataW.trod_int hu h
      exact ⟨[], ρ, [.int k z], by rw [ext_nil]; exact hm, Inj.le_refl ρ, .cons (.int k z) .nil, by unfold Wf; rw [hu]; exact ⟨z, rfl, hz⟩⟩
    · obtain ⟨s, rfl, _, hs⟩ := DataW.trod_string hu h
      exact ⟨[], ρ, [.string s], by rw [ext_nil]; exact hm, Inj.le_refl ρ, .cons (.string s) .nil, by unfold Wf; rw [hu]; exact ⟨s, rfl, hs⟩⟩
    · rcases DataW.trod_slice hu h with ⟨rfl, _⟩ | ⟨a, len, cap, elems, rest, n', hn, rfl, _, _, hl, hc, hlen, hel, hsp, _⟩
      · exact ⟨[], ρ, [.slice none 0 0], by rw [ext_nil]; exact hm, Inj.le_refl ρ, .cons (.slNil 0 0) .nil, by unfold Wf; rw [hu]; exact .inl rfl⟩
      cases hn
      obtain ⟨hrl, hr⟩ := hsp rfl
      -- the elements' cells
      have each : ∀ i, i < cap → ∃ cs', W.cells? 0 (a.add (i * P.cellsOf e)) (P.cellsOf e) = some cs' ∧ LayOk P T W n e cs' := by
        intro i hi
        have : ∃ y, (W.cells? 0 (a.add (i * P.cellsOf e)) (P.cellsOf e)).bind (DataW.trod enc P W 0 (fun _ => true) true n e) = some y := by
          by_cases h1 : i < len
          · exact ⟨_, (hel i h1).trans (List.getElem?_eq_getElem (by omega))⟩
          · have := hr (i - len) (by omega)
            rw [show len + (i - len) = i by omega] at this
            exact ⟨_, this.trans (List.getElem?_eq_getElem (by omega))⟩
        obtain ⟨y, hy⟩ := this
        obtain ⟨cs', h1, h2⟩ := Option.bind_eq_some_iff.1 hy
        exact ⟨cs', h1, ih e cs' y he h2⟩
      let re : List (TypeId × List Value) := (List.range cap).map fun i => (e, (W.cells? 0 (a.add (i * P.cellsOf e)) (P.cellsOf e)).getD [])
      have hre : ∀ x ∈ re, LayOk P T W n x.1 x.2 := by
        intro x hx
        obtain ⟨i, hi, rfl⟩ := List.mem_map.1 hx
        obtain ⟨cs', h1, h2⟩ := each i (List.mem_range.1 hi)
        simp only [h1, Option.getD_some]
        exact h2
      obtain ⟨l', ρ', ps, k1, k2, k3, k4⟩ := lay_many re hre m ρ hm
      have k3' : ps.length = cap := by simpa [re] using k3
      have hps : ∀ (i : Nat) p, ps[i]? = some p → ∃ cs', W.cells? 0 (a.add (i * P.cellsOf e)) (P.cellsOf e) = some cs' ∧ LRel ρ' p cs' ∧ Wf P (m.ext l') n e p := by
        intro i p hp
        have hi : i < cap := by have := (List.getElem?_eq_some_iff.1 hp).1; omega
        obtain ⟨cs', h1, _⟩ := each i hi
        obtain ⟨h3, h4⟩ := k4 i (e, cs') p (by simp [re, hi, h1]) hp
        exact ⟨cs', h1, h3, h4⟩
      have hsize : ∀ p ∈ ps, p.length = P.cellsOf e := by
        intro p hp
        obtain ⟨i, hi⟩ := List.getElem?_of_mem hp
        obtain ⟨cs', h1, h2, _⟩ := hps i p hi
        rw [h2.length, (World.cells?_some h1).2.1]
      have spot : ∀ v, W.cell? a = some v → a.spot = none := by
        intro v hv
        unfold World.cell? at hv
        split at hv
        · split at hv
          · cases hv
          · rename_i hs; simpa using hs
        · cases hv
      have hspot0 : 0 < cap → a.spot = none := by
        intro hc
        obtain ⟨cs', h1, _⟩ := each 0 hc
        obtain ⟨_, h2, h3⟩ := World.cells?_some h1
        have h4 := h3 0 he0
        rw [List.getElem?_eq_getElem (by omega)] at h4
        refine spot _ (?_ : W.cell? a = some (cs'[0]'(by omega)))
        rw [← h4]
        simp [Addr.add]
      -- the new block
      let en : Ent := ⟨a.block, a.off, 0, 0, true⟩
      have fresh : ρ' (m.ext l').size = none := by
        cases hq : ρ' (m.ext l').size with
        | none => rfl
        | some e' => have := k1.dom _ _ hq; omega
      have cellsAt : ∀ (k : Nat) v, ps.flatten[k]? = some v → ∃ v', W.cell? (a.add k) = some v' ∧ VRel ρ' v v' := by
        intro k v hv
        obtain ⟨p, h1, h2⟩ := flatten_get hsize k v hv
        obtain ⟨cs', h3, h4, _⟩ := hps _ p h1
        obtain ⟨v', h5, h6⟩ := h4.get h2
        obtain ⟨_, h7, h8⟩ := World.cells?_some h3
        have hk := (List.getElem?_eq_some_iff.1 h5).1
        have := h8 (k % P.cellsOf e) (by omega)
        rw [h5] at this
        refine ⟨v', ?_, h6⟩
        have e1 : (a.add (k / P.cellsOf e * P.cellsOf e)).add (k % P.cellsOf e) = a.add k := by
          have ha : a = ⟨a.block, a.off, none⟩ := by
            rw [← hspot0 (by have := Nat.lt_of_le_of_lt (Nat.zero_le _) (List.getElem?_eq_some_iff.1 h1).1; omega)]
          rw [ha, add_none, add_none, add_none]
          have := Nat.div_add_mod k (P.cellsOf e)
          rw [Nat.mul_comm] at this
          congr 1
          omega
        rw [← e1]
        exact this
      by_cases hpos : 0 < ps.flatten.length
      · -- there are cells
        obtain ⟨v0, hv0, _⟩ := cellsAt 0 _ (List.getElem?_eq_getElem hpos)
        have hv0' : W.cell? a = some v0 := by simpa [Addr.add] using hv0
        have hspot := spot v0 hv0'
        obtain ⟨c, el, fr, hheap⟩ : ∃ c el fr, W.heap[a.block]? = some (.cells c el fr) := by
          unfold World.cell? at hv0'
          split at hv0'
          · rename_i c el fr hh; exact ⟨c, el, fr, hh⟩
          · cases hv0'
        have hle : ρ'.le (ρ'.ext (m.ext l').size en) := Inj.le_ext en fresh
        refine ⟨l' ++ [some (.cells true true ps.flatten)], ρ'.ext (m.ext l').size en, [.slice (some ⟨(m.ext l').size, 0, none⟩) len cap], ?_, Inj.le_trans k2 hle, ?_, ?_⟩
        · rw [← ext_ext]
          have hpush : (m.ext l').ext [some (.cells true true ps.flatten)] = (m.ext l').push (.cells true true ps.flatten) := rfl
          rw [hpush]
          refine ⟨⟨fun i b hb => ?_, fun i j bi bj ei ej h1 h2 h3 h4 => ?_⟩, fun i e' he' => ?_, fun i c' hc' => ?_⟩
          · rw [getM_push] at hb
            split at hb
            · rename_i hi
              cases hb
              refine ⟨en, by simp [Inj.ext, hi], c, el, fr, hheap, rfl, fun k v hv => ?_, fun h => Bool.noConfusion h, fun h => Bool.noConfusion h⟩
              obtain ⟨v', h1, h2⟩ := cellsAt k v hv
              refine ⟨v', ?_, h2.mono hle⟩
              have ha : a = ⟨a.block, a.off, none⟩ := by rw [← hspot]
              rw [ha, add_none] at h1
              unfold World.cell? at h1
              dsimp only at h1
              rw [hheap] at h1
              dsimp only at h1
              split at h1
              · cases h1
              · exact h1
            · obtain ⟨e', h1, h2⟩ := k1.sim.rel i b hb
              exact ⟨e', hle _ _ h1, h2.mono hle rfl⟩
          · rw [getM_push] at h1
            split at h1
            · cases h1; cases h4
            · have := k1.ro i bi h1
              rw [this] at h4; cases h4
          · rw [size_push]
            unfold Inj.ext at he'
            split at he'
            · omega
            · have := k1.dom _ _ he'; omega
          · rw [getM_push] at hc'
            split at hc'
            · cases hc'; rfl
            · exact k1.ro i c' hc'
        · refine .cons ?_ .nil
          have ha : a = ⟨a.block, a.off, none⟩ := by rw [← hspot]
          rw [ha]
          exact VRel.sl (e := en) (by simp [Inj.ext]) 0 a.off len cap cap (fun _ => rfl) hl (Nat.le_refl _) (fun _ => rfl) (fun h => by cases h)
        · unfold Wf
          rw [hu]
          refine .inr ⟨(m.ext l').size, len, cap, ps, rfl, by rw [← ext_ext, size_ext _ [some _]]; simp, hl, hc, k3', fun _ => ?_, fun p hp => ⟨hsize p hp, ?_⟩⟩
          · rw [← ext_ext]
            show ((m.ext l').push (.cells true true ps.flatten)).get _ = _
            rw [getM_push, if_pos rfl]
          · obtain ⟨i, hi⟩ := List.getElem?_of_mem hp
            obtain ⟨_, _, _, h4⟩ := hps i p hi
            rw [← ext_ext]
            exact h4.old ⟨_, rfl⟩
      · -- an empty one
        have hc0 : cap = 0 := by
          rcases Nat.eq_zero_or_pos cap with h0 | h0
          · exact h0
          · have := length_flatten hsize
            have := Nat.mul_pos (show 0 < ps.length by omega) he0
            omega
        have hle : ρ'.le (ρ'.ext (m.ext l').size en) := Inj.le_ext en fresh
        have hget : ∀ i, ((m.ext l').ext [none]).get i = (m.ext l').get i := by
          intro i
          by_cases hi : i < (m.ext l').size
          · exact get_ext _ _ _ hi
          · rw [getM_none hi]
            unfold Mem.ext Mem.get Mem.size at *
            rw [List.getElem?_append_right (by omega)]
            cases i - (m.bl ++ l').length with
            | zero => rfl
            | succ k => simp
        refine ⟨l' ++ [none], ρ'.ext (m.ext l').size en, [.slice (some ⟨(m.ext l').size, 0, none⟩) len cap], ?_, Inj.le_trans k2 hle, ?_, ?_⟩
        · rw [← ext_ext]
          refine ⟨⟨fun i b hb => ?_, fun i j bi bj ei ej h1 h2 h3 h4 => ?_⟩, fun i e' he' => ?_, fun i c' hc' => ?_⟩
          · rw [hget] at hb
            obtain ⟨e', h1, h2⟩ := k1.sim.rel i b hb
            exact ⟨e', hle _ _ h1, h2.mono hle rfl⟩
          · rw [hget] at h1
            have := k1.ro i bi h1
            rw [this] at h4; cases h4
          · rw [size_ext]
            unfold Inj.ext at he'
            split at he'
            · simp; omega
            · have := k1.dom _ _ he'; simp; omega
          · rw [hget] at hc'
            exact k1.ro i c' hc'
        · refine .cons ?_ .nil
          have hl0 : len = 0 := by omega
          subst hc0 hl0
          exact VRel.slOdd (e := en) (by simp [Inj.ext]) rfl 0 a
        · unfold Wf
          rw [hu]
          refine .inr ⟨(m.ext l').size, len, cap, ps, rfl, by rw [← ext_ext, size_ext _ [none]]; simp, hl, hc, k3', fun h0 => by omega, fun p hp => ⟨hsize p hp, ?_⟩⟩
          obtain ⟨i, hi⟩ := List.getElem?_of_mem hp
          obtain ⟨_, _, _, h4⟩ := hps i p hi
          rw [← ext_ext]
          exact h4.old ⟨_, rfl⟩
    · obtain ⟨xs, n', hn, _, hl, hxs, heach⟩ := DataW.trod_struct hu h
      cases hn
      obtain ⟨qs, h1, h2, h3⟩ := pieces_of hsz hoff hl
      let re : List (TypeId × List Value) := (List.range fs.size).map fun i => ((fs.toList.map (·.type)).getD i 0, qs.getD i [])
      have at_ : ∀ i, (hi : i < fs.size) → ∃ q, qs[i]? = some q ∧ re[i]? = some (fs[i].type, q) := by
        intro i hi
        refine ⟨qs[i]'(by omega), List.getElem?_eq_getElem (by omega), ?_⟩
        simp [re, hi, List.getD_eq_getElem?_getD, List.getElem?_eq_getElem (show i < qs.length by omega)]
      have hre : ∀ x ∈ re, LayOk P T W n x.1 x.2 := by
        intro x hx
        obtain ⟨i, hi⟩ := List.getElem?_of_mem hx
        have hi' : i < fs.size := by have := (List.getElem?_eq_some_iff.1 hi).1; simpa [re] using this
        obtain ⟨q, hq, hr⟩ := at_ i hi'
        rw [hr] at hi
        cases hi
        have hf' : fs[i]? = some fs[i] := Array.getElem?_eq_getElem hi'
        obtain ⟨h4, _⟩ := h3 i _ q hf' hq
        have h5 := heach i _ hf'
        rw [← h4, List.getElem?_eq_getElem (by omega)] at h5
        exact ih _ _ _ (hf _ (by simp)) h5
      obtain ⟨l', ρ', ps, k1, k2, k3, k4⟩ := lay_many re hre m ρ hm
      have k3' : ps.length = fs.size := by simpa [re] using k3
      have hps : ∀ (i : Nat) p, ps[i]? = some p → ∃ (hi : i < fs.size) (q : List Value), qs[i]? = some q ∧ LRel ρ' p q ∧ Wf P (m.ext l') n fs[i].type p := by
        intro i p hp
        have hi : i < fs.size := by have := (List.getElem?_eq_some_iff.1 hp).1; omega
        obtain ⟨q, hq, hr⟩ := at_ i hi
        obtain ⟨h4, h5⟩ := k4 i _ p hr hp
        exact ⟨hi, q, hq, h4, h5⟩
      refine ⟨l', ρ', ps.flatten, k1, k2, ?_, ?_⟩
      · rw [h1]
        refine LRel.flatten (by omega) fun i p q hp hq => ?_
        obtain ⟨_, q', hq', h4, _⟩ := hps i p hp
        rw [hq] at hq'
        cases hq'
        exact h4
      · unfold Wf
        rw [hu]
        refine ⟨ps, rfl, k3', fun i f p hf' hp => ?_⟩
        obtain ⟨hi, q, hq, h4, h5⟩ := hps i p hp
        have e : fs[i] = f := by
          have := Array.getElem?_eq_getElem hi
          rw [hf'] at this
          exact (Option.some.inj this).symm
        rw [e] at h5
        exact ⟨by rw [h4.length]; exact (h3 i f q hf' hq).2, h5⟩

/-- An argument is one cell, and its address is none of a cell's part. -/
def OneArg (v : Value) : Prop := v.cells.toList = [v] ∧ Clean [v]

/-- A law's call on what its arguments read. -/
theorem calls_of_args (hF : Facts P T) (hK : Plain P K F) {f : FuncId} {ts : List TypeId} {vs : List Value} {ds : List (DataW H)} {ps : List MemPlace} (hA : DataW.TrodAll enc P W 0 (fun _ => true) true ts vs ds ps)
    (hT : ∀ t ∈ ts, K t) (h1 : ∀ v ∈ vs, OneArg v)
    (law : ∀ (m : Mem) (as : List Value), (∀ i c, m.get i = some c → c.writable = false) → as.length = ts.length → (∀ (i : Nat) t a, ts[i]? = some t → as[i]? = some a → ∃ n, Wf P m n t [a]) → CallQ (envOf P T) f as.toArray m fun v _ => v = .bool true) :
    Calls P f vs.toArray W fun e w' => e = .returned (.bool true) ∧ Kept W w' := by
  have key : ∀ (ts : List TypeId) (vs : List Value) (ds : List (DataW H)) (ps : List MemPlace), DataW.TrodAll enc P W 0 (fun _ => true) true ts vs ds ps → (∀ t ∈ ts, K t) → (∀ v ∈ vs, OneArg v) → ∀ m ρ, Laid P T W m ρ →
      ∃ l ρ' as, Laid P T W (m.ext l) ρ' ∧ ρ.le ρ' ∧ LRel ρ' as vs ∧ as.length = ts.length ∧ ∀ (i : Nat) t a, ts[i]? = some t → as[i]? = some a → ∃ n, Wf P (m.ext l) n t [a] := by
    intro ts
    induction ts with
    | nil =>
      intro vs ds ps h _ _ m ρ hm
      obtain ⟨rfl, rfl, rfl⟩ := ChangeShapes.trodAll_nil h
      exact ⟨[], ρ, [], by rw [ext_nil]; exact hm, Inj.le_refl ρ, .nil, rfl, fun i t a ht => by simp at ht⟩
    | cons t ts ih =>
      intro vs ds ps h hT h1 m ρ hm
      obtain ⟨v, vs', d, ds', p, q, rfl, rfl, rfl, ⟨n, hn⟩, hr⟩ := ChangeShapes.trodAll_cons h
      obtain ⟨o1, _⟩ := h1 v (by simp)
      rw [o1] at hn
      obtain ⟨l1, ρ1, c1, a1, a2, a3, a4⟩ := lay (T := T) hK n t [v] _ (hT t (by simp)) hn m ρ hm
      obtain ⟨l2, ρ2, as, b1, b2, b3, b4, b5⟩ := ih vs' ds' q hr (fun t ht => hT t (by simp [ht])) (fun v hv => h1 v (by simp [hv])) _ ρ1 a1
      cases a3 with
      | cons hv hnil =>
        cases hnil
        rename_i av
        refine ⟨l1 ++ l2, ρ2, av :: as, by rw [← ext_ext]; exact b1, Inj.le_trans a2 b2, .cons (hv.mono b2) b3, by simp [b4], fun i t' a ht' ha => ?_⟩
        rw [← ext_ext]
        cases i with
        | zero =>
          simp only [List.getElem?_cons_zero, Option.some.injEq] at ht' ha
          subst ht' ha
          exact ⟨n, a4.old ⟨l2, rfl⟩⟩
        | succ i => exact b5 i t' a (by simpa using ht') (by simpa using ha)
  obtain ⟨l, ρ, as, a1, _, a3, a4, a5⟩ := key ts vs ds ps hA hT h1 ⟨[]⟩ (fun _ => none) ⟨⟨fun i b h => (nomatch h), fun i j bi bj ei ej h => (nomatch h)⟩, fun _ _ h => (nomatch h), fun i c h => (nomatch h)⟩
  refine calls_of_callQ hF (law _ as a1.ro a4 a5) a1.sim a1.dom a1.ro ?_
  show LRel _ as.toArray.toList vs.toArray.toList
  simpa using a3

/-- What was read is read again behind the call. -/
theorem trodAll_kept {KK : TypeId → Prop} (hk : Kids P KK) (hz : ∀ {t e : TypeId}, KK t → P.underlying t = some (.slice e) → 0 < P.cellsOf e) {W' : World} (hW : Kept W W') : ∀ {ts : List TypeId} {vs : List Value} {ds : List (DataW H)} {ps : List MemPlace},
    (∀ t ∈ ts, KK t) → DataW.TrodAll enc P W 0 (fun _ => true) true ts vs ds ps → (∀ p ∈ ps, W.sameAt W' p) → ∀ sp : Nat → Bool, (∀ p ∈ ps, sp p.block = true) → DataW.TrodAll enc P W' 0 sp true ts vs ds ps
  | [], [], [], _, _, h, _, _, _ => h
  | _ :: _, _ :: _, _ :: _, _, hT, ⟨p, q, ⟨n, h1⟩, h2, e⟩, hsame, sp, hs => ⟨p, q, ⟨n, DataW.trod_stays hk hz (fun h => by cases h) (hT _ (by simp)) h1 (fun x hx => hsame x (by rw [e]; exact List.mem_append_left _ hx)) (fun x hx => hs x (by rw [e]; exact List.mem_append_left _ hx))⟩,
      trodAll_kept hk hz hW (fun t ht => hT t (by simp [ht])) h2 (fun x hx => hsame x (by rw [e]; exact List.mem_append_right _ hx)) sp (fun x hx => hs x (by rw [e]; exact List.mem_append_right _ hx)), e⟩
end lay
end Go.Abs
