/-
  Each operation on both sides: those that make or write memory.
-/
import Derived.Test.YthlcbacmbcmgfaaAbs4
namespace Go.Abs
variable {C : FuncId → Code → Prop} {B : Nat}

theorem LRel.const {ρ : Inj} {v : Value} (h : constOk v = true) : LRel ρ v.cells.toList v.cells.toList := by
  have := (VRel.const (ρ := ρ) h).cells
  exact this

theorem LRel.const_mem {ρ : Inj} {l : List Value} (h : LRel ρ l l) : ∀ x ∈ l, VRel ρ x x := fun x hx => by
  obtain ⟨k, hk, e⟩ := List.getElem_of_mem hx
  obtain ⟨v', h1, h2⟩ := h.get (i := k) (v := x) (by simp [hk, e])
  rw [List.getElem?_eq_getElem hk, e] at h1
  cases h1
  exact h2

theorem zeroRow_real (z : Array Value) (n : Nat) : (List.range (n * z.size)).map (fun k => z[k % z.size]!) = zeroRow z.toList n := by
  have hb : ∀ k, k < z.size → z[k]! = z.toList.getD k undef := fun k hk => by simp [hk, List.getD, getElem!_pos]
  unfold zeroRow
  split
  · rename_i v hv
    have hz : z = #[v] := by rw [← Array.toArray_toList (xs := z), hv]
    subst hz
    apply List.ext_getElem
    · simp
    · intro i h1 h2
      simp [Nat.mod_one]
  · rename_i hz
    simp only [Array.length_toList]
    apply List.map_congr_left
    intro k hk
    apply hb
    rw [List.mem_range] at hk
    exact Nat.mod_lt _ (Nat.pos_of_ne_zero fun h0 => by rw [h0] at hk; simp at hk)

theorem LRel.zeroRow {ρ : Inj} {z : List Value} (h : LRel ρ z z) (n : Nat) : LRel ρ (zeroRow z n) (zeroRow z n) := by
  refine .refl_of fun x hx => ?_
  unfold Abs.zeroRow at hx
  split at hx
  · rename_i v
    rw [List.eq_of_mem_replicate hx]
    exact h.const_mem _ (by simp)
  · obtain ⟨k, _, rfl⟩ := List.mem_map.1 hx
    rw [List.getD_eq_getElem?_getD]
    cases hk : z[k % z.length]? with
    | none => exact .undef
    | some v => exact h.const_mem _ (List.mem_of_getElem? hk)

/-! ### Literals -/
theorem foldl_setRow : ∀ (l : List Value) (off k : Nat) (a : Array Value), (l.zipIdx k).foldl (fun (cs : Array Value) (x : Value × Nat) => cs.setIfInBounds (off + x.2) x.1) a = (setRow a.toList (off + k) l).toArray
  | [], _, _, a => by simp [setRow]
  | v :: l, off, k, a => by
    simp only [List.zipIdx_cons, List.foldl_cons, setRow]
    rw [foldl_setRow l off (k + 1)]
    simp [Nat.add_assoc]

theorem fill_rel {ρ : Inj} {place place' : Nat → Option (Nat × Nat)} (hp : ∀ i x, place i = some x → place' i = some x) : ∀ (parts parts' : List (Nat × Value)) (cells l : List Value) (cells' : Array Value),
    fillAt place cells parts = some l → LRel ρ cells cells'.toList → (parts.length = parts'.length ∧ ∀ (k : Nat) p, parts[k]? = some p → ∃ v', parts'[k]? = some (p.1, v') ∧ VRel ρ p.2 v') →
    ∃ c', Instr.fill place' cells' parts' = some c' ∧ LRel ρ l c'.toList
  | [], parts', cells, l, cells', h, hc, ⟨hl, _⟩ => by
    have e : parts' = [] := List.eq_nil_of_length_eq_zero (by simpa using hl.symm)
    subst e
    simp only [fillAt, Option.some.injEq] at h
    subst h
    exact ⟨cells', rfl, hc⟩
  | (i, v) :: rest, parts', cells, l, cells', h, hc, ⟨hl, hv⟩ => by
    cases parts' with
    | nil => simp at hl
    | cons q rest' =>
      obtain ⟨v', h1, h2⟩ := hv 0 (i, v) rfl
      simp only [List.getElem?_cons_zero, Option.some.injEq] at h1
      subst h1
      simp only [fillAt] at h
      split at h
      · cases h
      · rename_i off size hpl
        split at h
        · rename_i hs
          have hcs := h2.cells
          have hsz := hcs.size
          have hlen := hc.length
          obtain ⟨c', k1, k2⟩ := fill_rel hp rest rest' (setRow cells off v.cells.toList) l (setRow cells'.toList off v'.cells.toList).toArray h (by simpa using LRel.setRow hcs hc off)
            ⟨by simpa using hl, fun k p hk => hv (k + 1) p (by simpa using hk)⟩
          refine ⟨c', ?_, k2⟩
          simp only [Instr.fill, hp _ _ hpl]
          simp only [Bool.and_eq_true, decide_eq_true_eq] at hs
          have g1 : v'.cells.size = size := by rw [← hsz]; exact hs.1
          have g2 : ¬ (off + size > cells'.size) := by
            have := hs.2
            simp only [Array.length_toList] at hlen
            omega
          rw [if_neg (by simp [g1]; omega)]
          have e := foldl_setRow v'.cells.toList off 0 cells'
          rw [Nat.add_zero] at e
          rw [← k1, ← e]
          congr 1
          rw [← Array.foldl_toList, Array.toList_zipIdx]
        · cases h

section ops
variable {P : Program} {E : Env} (hE : E.Ok P) {ρ : Inj} {m : Mem} {w : World}
include hE

theorem mapM_places (fields : List Field) (h : ∀ f ∈ fields, (E.ti f.type).isSome = true) (w : World) :
    ∃ ps : List (Nat × Nat), (fields.mapM fun (f : Field) => (do pure (f.offset, ← sizeOf f.type) : Sem (Nat × Nat))).run P w = .ok ps w ∧ ps.length = fields.length ∧
      ∀ (i : Nat) (f : Field), fields[i]? = some f → ∃ t, E.ti f.type = some t ∧ ps[i]? = some (f.offset, t.size) := by
  induction fields with
  | nil => exact ⟨[], by simp, rfl, fun i f hf => by simp at hf⟩
  | cons f fs ih =>
    obtain ⟨ps, h1, h2, h3⟩ := ih fun g hg => h g (by simp [hg])
    obtain ⟨t, ht⟩ := Option.isSome_iff_exists.1 (h f (by simp))
    refine ⟨(f.offset, t.size) :: ps, ?_, by simp [h2], fun i g hg => ?_⟩
    · simp only [List.mapM_cons, Sem.run_bind, hE.run_size ht, Result.andThen_ok, Sem.run_pure, h1]
    · cases i with
      | zero => simp at hg; subst hg; exact ⟨t, ht, rfl⟩
      | succ i => simpa using h3 i g (by simpa using hg)

theorem buildV_run {t : TypeId} {parts parts' : List (Nat × Value)} {v : Value} (h : buildV E t parts = some v)
    (hv : parts.length = parts'.length ∧ ∀ (k : Nat) p, parts[k]? = some p → ∃ v', parts'[k]? = some (p.1, v') ∧ VRel ρ p.2 v') : ∃ v', (Instr.build t parts'.toArray).run P w = .ok v' w ∧ VRel ρ v v' := by
  unfold buildV at h
  split at h
  · rename_i fields sz zero bytes hti
    split at h
    · rename_i hall
      obtain ⟨l, hl, rfl⟩ := Option.map_eq_some_iff.1 h
      have hz := (hE.ti t _ hti).zero
      obtain ⟨ps, h1, h2, h3⟩ := mapM_places hE fields.toList (fun f hf => List.all_eq_true.1 hall f hf) w
      obtain ⟨c', k1, k2⟩ := fill_rel (ρ := ρ) (place' := fun i => ps.toArray[i]?) (fun i x hx => by
        split at hx
        · rename_i f hf
          obtain ⟨t', ht', hp⟩ := h3 i f (by simpa using hf)
          rw [ht'] at hx
          simp only [Option.map_some, Option.some.injEq] at hx
          subst hx
          simpa using hp
        · cases hx) parts parts' zero.cells.toList l zero.cells hl (LRel.const hz) hv
      refine ⟨.agg c', ?_, .agg_of (by simpa [ARel] using k2)⟩
      have hm : (fields.mapM fun (f : Field) => (do pure (f.offset, ← sizeOf f.type) : Sem (Nat × Nat))).run P w = .ok ps.toArray w := by
        rw [Array.mapM_eq_mapM_toList]
        simp only [Sem.run_map, h1, Result.andThen_ok]
      simp only [Instr.build, Sem.run_bind, hE.run_zero hti, Result.andThen_ok, hE.run_und' hti, hm, k1, Sem.run_pure]
    · cases h
  · rename_i len e sz zero bytes hti
    split at h
    · rename_i i hi
      obtain ⟨l, hl, rfl⟩ := Option.map_eq_some_iff.1 h
      have hz := (hE.ti t _ hti).zero
      obtain ⟨c', k1, k2⟩ := fill_rel (ρ := ρ) (place' := fun k => some (k * i.size, i.size)) (fun _ _ h => h) parts parts' zero.cells.toList l zero.cells hl (LRel.const hz) hv
      refine ⟨.agg c', ?_, .agg_of (by simpa [ARel] using k2)⟩
      simp only [Instr.build, Sem.run_bind, hE.run_zero hti, Result.andThen_ok, hE.run_und' hti, hE.run_size hi, k1, Sem.run_pure]
    · cases h
  · cases h


/-! ### New blocks -/
omit hE in
theorem wrap_small {n : Int} (h0 : 0 ≤ n) (h1 : n ≤ (roomMost : Nat)) : IntKind.i64.wrap n = n := by
  have e : (IntKind.i64.bits) = 64 := rfl
  unfold roomMost at h1
  have e1 : n % (2 ^ 64 : Int) = n := Int.emod_eq_of_lt h0 (by omega)
  simp only [IntKind.wrap, e, e1]
  rw [if_neg]
  simp only [Bool.and_eq_true, decide_eq_true_eq, not_and]
  intro _
  omega

omit hE in
/-- A row that is new on both sides, cell by cell. -/
theorem newRow_run (hs : Sim C B ρ m w) (hB : m.size < B) (tight : Bool) (es : Nat) (cs : List Value) (c : Array Value) (el : TypeId) (lim : Nat) (hc : LRel ρ cs c.toList) (hl : tight = false → lim ≤ c.size) :
    (newRow el c).run P w = .ok ⟨w.heap.size, 0, none⟩ (w.alloc (.cells c el)) ∧
      Post C B ρ m w (ρ.ext m.size ⟨w.heap.size, 0, lim, es, tight⟩) (m.push (.cells false tight cs)) (w.alloc (.cells c el)) :=
  ⟨by simp [newRow], hs.alloc_cells hB tight es cs c el lim (fun k v hk => by
    obtain ⟨v', h1, h2⟩ := hc.get hk
    exact ⟨v', by simpa using h1, h2⟩) hl⟩

omit hE in
theorem box_run (hs : Sim C B ρ m w) (hB : m.size < B) (t : TypeId) {x x' : Value} (hx : VRel ρ x x') :
    ∃ w' ρ' v', (Instr.box t x').run P w = .ok v' w' ∧ Post C B ρ m w ρ' (newBlock m true x.cells.toList).2 w' ∧ VRel ρ' (newBlock m true x.cells.toList).1 v' := by
  obtain ⟨h1, h2⟩ := newRow_run (P := P) hs hB true 0 x.cells.toList x'.cells t 0 hx.cells (fun h => by cases h)
  exact ⟨_, _, .pointer (some ⟨w.heap.size, 0, none⟩), by simp [Instr.box, newVar, h1], h2, by simpa [newBlock] using VRel.new ρ m.size ⟨w.heap.size, 0, 0, 0, true⟩ 0⟩

theorem alloc_run (hs : Sim C B ρ m w) (hB : m.size < B) {t : TypeId} {i : TI} (hi : E.ti t = some i) :
    ∃ w' ρ' v', (Instr.alloc t true (.tuple #[])).run P w = .ok v' w' ∧ Post C B ρ m w ρ' (newBlock m true i.zero.cells.toList).2 w' ∧ VRel ρ' (newBlock m true i.zero.cells.toList).1 v' := by
  obtain ⟨h1, h2⟩ := newRow_run (P := P) hs hB true 0 i.zero.cells.toList i.zero.cells t 0 (LRel.const (hE.ti t i hi).zero) (fun h => by cases h)
  exact ⟨_, _, .pointer (some ⟨w.heap.size, 0, none⟩), by simp [Instr.alloc, hE.run_zero hi, newVar, h1], h2, by simpa [newBlock] using VRel.new ρ m.size ⟨w.heap.size, 0, 0, 0, true⟩ 0⟩

theorem zeros_real {t : TypeId} {i : TI} (hi : E.ti t = some i) (n : Nat) :
    (n * i.size = 0 → (Array.range (n * i.size)).map (fun k => (#[] : Array Value)[k % (#[] : Array Value).size]!) = (zeroRow i.zero.cells.toList n).toArray) ∧
      (Array.range (n * i.size)).map (fun k => i.zero.cells[k % i.zero.cells.size]!) = (zeroRow i.zero.cells.toList n).toArray := by
  have hz := (hE.ti t i hi).zsize
  have key : (Array.range (n * i.size)).map (fun k => i.zero.cells[k % i.zero.cells.size]!) = (zeroRow i.zero.cells.toList n).toArray := by
    rw [← zeroRow_real, hz]
    apply Array.toList_inj.1
    simp
  refine ⟨fun h0 => ?_, key⟩
  rw [← key, h0]
  simp

theorem buildSliceV_run (hs : Sim C B ρ m w) (hB : m.size < B) {t : TypeId} {len : Nat} {parts parts' : List (Nat × Value)} {v : Value} {m' : Mem} (h : buildSliceV E m t len parts = some (v, m'))
    (hv : parts.length = parts'.length ∧ ∀ (k : Nat) p, parts[k]? = some p → ∃ v', parts'[k]? = some (p.1, v') ∧ VRel ρ p.2 v') :
    ∃ w' ρ' v', (Instr.buildSlice t len parts'.toArray).run P w = .ok v' w' ∧ Post C B ρ m w ρ' m' w' ∧ VRel ρ' v v' := by
  unfold buildSliceV at h
  split at h
  · rename_i e hd
    split at h
    · rename_i i hi
      split at h
      · rename_i hl
        obtain ⟨l, hl', he⟩ := Option.map_eq_some_iff.1 h
        cases he
        obtain ⟨z1, z2⟩ := zeros_real hE hi len
        obtain ⟨c', k1, k2⟩ := fill_rel (ρ := ρ) (place' := fun k => some (k * i.size, i.size)) (fun _ _ h => h) parts parts' _ l (zeroRow i.zero.cells.toList len).toArray hl'
          (by simpa using LRel.zeroRow (LRel.const (hE.ti e i hi).zero) len) hv
        obtain ⟨r1, r2⟩ := newRow_run (P := P) hs hB true 0 l c' e 0 k2 (fun h => by cases h)
        refine ⟨_, _, .slice (some ⟨w.heap.size, 0, none⟩) len len, ?_, r2, ?_⟩
        · have hl2 : ¬ (len * i.size > 2 ^ 24) := by omega
          simp only [Instr.buildSlice, Sem.run_bind, hE.run_und hd, Result.andThen_ok, hE.run_size hi, hl2, if_false]
          by_cases h0 : len * i.size = 0
          · rw [if_pos h0]
            simp only [Sem.run_bind, Sem.run_pure, Result.andThen_ok, z1 h0, k1, r1]
          · rw [if_neg h0]
            simp only [Sem.run_bind, Sem.run_pure, Result.andThen_ok, hE.run_zero hi, z2, k1, r1]
        · exact .sl (e := ⟨w.heap.size, 0, 0, 0, true⟩) (by simp [Inj.ext]) 0 0 len len len (fun _ => rfl) (Nat.le_refl _) (Nat.le_refl _) (fun _ => rfl) (fun h => by cases h)
      · cases h
    · cases h
  · cases h

theorem makeV_run (hs : Sim C B ρ m w) (hB : m.size < B) {t : TypeId} {l c l' c' v : Value} {m' : Mem} (h : makeV E m t l c = some (v, m')) (hl : VRel ρ l l') (hc : VRel ρ c c') :
    ∃ w' ρ' v', (Instr.makeSlice t l' c').run P w = .ok v' w' ∧ Post C B ρ m w ρ' m' w' ∧ VRel ρ' v v' := by
  unfold makeV at h
  split at h
  · rename_i e nl nc hd hnl hnc
    obtain ⟨kl, rfl⟩ := asI_rel hnl hl
    obtain ⟨kc, rfl⟩ := asI_rel hnc hc
    split at h
    · rename_i i hi
      split at h
      · rename_i hb
        cases h
        obtain ⟨b1, b2, b3, b4⟩ := hb
        obtain ⟨info, f1, f2⟩ := hE.run_info hi
        obtain ⟨z1, z2⟩ := zeros_real hE hi nc.toNat
        obtain ⟨r1, r2⟩ := newRow_run (P := P) hs hB true 0 (zeroRow i.zero.cells.toList nc.toNat) (zeroRow i.zero.cells.toList nc.toNat).toArray e 0
          (by simpa using LRel.zeroRow (LRel.const (hE.ti e i hi).zero) nc.toNat) (fun h => by cases h)
        refine ⟨_, _, .slice (some ⟨w.heap.size, 0, none⟩) nl.toNat nc.toNat, ?_, r2, ?_⟩
        · have w1 : IntKind.i64.wrap nl = nl := wrap_small (by omega) (by omega)
          have w2 : IntKind.i64.wrap nc = nc := wrap_small (by omega) b3
          have w3 : ((info.bytes : Int) * nc > 2 ^ 48) = False := by
            rw [f1, Int.mul_comm]
            unfold roomMost at b4
            simp only [eq_iff_iff, iff_false]
            omega
          simp only [Instr.makeSlice, Sem.run_bind, hE.run_und hd, Result.andThen_ok, asInt, asIntOf, Sem.run_pure, f2, w1, w2, w3]
          rw [if_neg (by simp; omega)]
          simp only [Sem.run_bind, run_askRoom, Result.andThen_ok, hE.run_size hi]
          by_cases h0 : nc.toNat * i.size = 0
          · rw [if_pos h0]
            simp only [Sem.run_bind, Sem.run_pure, Result.andThen_ok, z1 h0, r1]
          · rw [if_neg h0]
            simp only [Sem.run_bind, Sem.run_pure, Result.andThen_ok, hE.run_zero hi, z2, r1]
        · exact .sl (e := ⟨w.heap.size, 0, 0, 0, true⟩) (by simp [Inj.ext]) 0 0 _ _ _ (fun _ => rfl) (by omega) (Nat.le_refl _) (fun _ => rfl) (fun h => by cases h)
      · cases h
    · cases h
  · cases h

/-! ### Stores -/
theorem storeV_run (hs : Sim C B ρ m w) {t : TypeId} {p p' v v' : Value} {m' : Mem} (h : storeV E m t p v = some m') (hp : VRel ρ p p') (hv : VRel ρ v v') :
    ∃ w', (Instr.storeAt t p' v').run P w = .ok () w' ∧ Post C B ρ m w ρ m' w' := by
  unfold storeV at h
  split at h
  · rename_i i a hi
    split at h
    · rename_i hz
      obtain ⟨b, o, sp⟩ := a
      obtain ⟨e, he, rfl, _⟩ := hp.ptr_some
      have hvc := hv.cells
      obtain ⟨w', h1, h2⟩ := hs.write (P := P) h he hvc
      refine ⟨w', ?_, h2⟩
      have hsz := hvc.size
      have : v'.cells.size = i.size := by rw [← hsz]; exact hz
      simp [Instr.storeAt, Instr.sureAddr, storeVar, hE.run_size hi, this, h1]
    · cases h
  · cases h

end ops
end Go.Abs
