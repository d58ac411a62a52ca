/-
  Each operation on both sides: those that read.
-/
import Derived.Test.YthlcbacmbcmgfaaAbs3
namespace Go.Abs
variable {C : FuncId → Code → Prop} {B : Nat}
section ops
variable {P : Program} {E : Env} (hE : E.Ok P) {ρ : Inj} {m : Mem} {w : World}
include hE

theorem binV_run {op : BinOp} {t : TypeId} {x y x' y' v : Value} (h : binV E op t x y = some v) (hx : VRel ρ x x') (hy : VRel ρ y y') (p q : Operand) :
    ∃ v', (do eqGuard op t p q x' y'; binOp op t x' y').run P w = .ok v' w ∧ VRel ρ v v' := by
  unfold binV at h
  split at h
  · rename_i k a k' b
    cases hx; cases hy
    have hg : (eqGuard op t p q (.int k a) (.int k' b)).run P w = .ok () w := by cases op <;> simp [eqGuard]
    simp only [Sem.run_bind, hg, Result.andThen_ok]
    split at h
    · split at h
      · cases h
      · rename_i hb; cases h
        exact ⟨_, by simp [binOp, Op.shift, hb], .int _ _⟩
    · split at h
      · cases h
      · rename_i hb; cases h
        exact ⟨_, by simp [binOp, Op.shift, hb], .int _ _⟩
    · split at h
      · rename_i hk; subst hk
        obtain ⟨h1, h2⟩ := binInt_run (P := P) (w := w) h t
        exact ⟨v, h1, .const h2⟩
      · cases h
  · rename_i a b
    cases hx; cases hy
    have hg : (eqGuard op t p q (.string a) (.string b)).run P w = .ok () w := by cases op <;> simp [eqGuard]
    simp only [Sem.run_bind, hg, Result.andThen_ok]
    obtain ⟨h1, h2⟩ := binStr_run (P := P) (w := w) h t
    exact ⟨v, h1, .const h2⟩
  · split at h
    · cases hb : eqV E t x y with
      | none => rw [hb] at h; cases h
      | some b =>
        rw [hb] at h; cases h
        exact ⟨_, eqV_run hE hb hx hy p q false, .bool _⟩
    · cases hb : eqV E t x y with
      | none => rw [hb] at h; cases h
      | some b =>
        rw [hb] at h; cases h
        exact ⟨_, eqV_run hE hb hx hy p q true, .bool _⟩
    · cases h

omit hE in
theorem unV_run {op : UnOp} {x x' v : Value} (h : unV op x = some v) (hx : VRel ρ x x') : ∃ v', (Op.unary op x').run P w = .ok v' w ∧ VRel ρ v v' := by
  unfold unV at h
  split at h
  · cases h; cases hx
    exact ⟨_, by simp [Op.unary, Op.intArith], .int _ _⟩
  · cases h; cases hx
    exact ⟨_, by simp [Op.unary, Op.intBits], .int _ _⟩
  · cases h; cases hx
    exact ⟨_, by simp [Op.unary], .bool _⟩
  · cases h

omit hE in
theorem asI_rel {x x' : Value} {n : Int} (h : asI x = some n) (hx : VRel ρ x x') : ∃ k, x' = .int k n := by
  unfold asI at h
  split at h
  · cases h; cases hx; exact ⟨_, rfl⟩
  · cases h

/-! ### Slices and indices -/
omit hE in
theorem bound_run {x x' : Option Value} {dflt y b y' : Nat} (h : bound x dflt y = some b) (hy : y ≤ y') (hx : ∀ v, x = some v → ∃ v', x' = some v' ∧ VRel ρ v v') (hn : x = none → x' = none) (code : BoundsCode) :
    (∀ v', x' = some v' → (Instr.sliceBound v' y' code).run P w = .ok b w ∧ b ≤ y) ∧ (x' = none → b = dflt) := by
  unfold bound at h
  cases x with
  | none =>
    rw [hn rfl]
    cases h
    exact ⟨fun v' h => (by cases h), fun _ => rfl⟩
  | some v =>
    obtain ⟨v', rfl, hv⟩ := hx v rfl
    dsimp only at h
    cases hi : asI v with
    | none => rw [hi] at h; cases h
    | some i =>
      rw [hi] at h
      dsimp only at h
      split at h
      · rename_i hc
        cases h
        obtain ⟨k, rfl⟩ := asI_rel hi hv
        refine ⟨fun u hu => ?_, fun h => (by cases h)⟩
        cases hu
        have : 0 ≤ i ∧ i ≤ (y' : Int) := by omega
        exact ⟨by simp [Instr.sliceBound, asIntOf, this], by omega⟩
      · cases h

omit hE in
theorem bounds_run {lo hi lo' hi' : Option Value} {len cap cap' h l : Nat} (hh : bound hi len cap = some h) (hl : bound lo 0 h = some l) (hc : cap ≤ cap')
    (hlo : ∀ v, lo = some v → ∃ v', lo' = some v' ∧ VRel ρ v v') (hlon : lo = none → lo' = none) (hhi : ∀ v, hi = some v → ∃ v', hi' = some v' ∧ VRel ρ v v') (hhin : hi = none → hi' = none) (b : Bool) :
    (Instr.sliceBounds b len cap' lo' hi' none).run P w = .ok (l, h, cap') w ∧ l ≤ h ∧ (len ≤ cap → h ≤ cap) := by
  obtain ⟨r1, r2⟩ := bound_run (P := P) (w := w) hh hc hhi hhin (if b then .sliceAcap else .sliceAlen)
  obtain ⟨q1, q2⟩ := bound_run (P := P) (w := w) hl (Nat.le_refl _) hlo hlon .sliceB
  cases hi' with
  | none =>
    obtain rfl := r2 rfl
    cases lo' with
    | none =>
      obtain rfl := q2 rfl
      exact ⟨by simp [Instr.sliceBounds], by omega, fun h => h⟩
    | some v =>
      obtain ⟨q3, q4⟩ := q1 v rfl
      exact ⟨by simp [Instr.sliceBounds, q3], by omega, fun h => h⟩
  | some u =>
    obtain ⟨r3, r4⟩ := r1 u rfl
    cases lo' with
    | none =>
      obtain rfl := q2 rfl
      exact ⟨by simp [Instr.sliceBounds, r3], by omega, fun _ => r4⟩
    | some v =>
      obtain ⟨q3, q4⟩ := q1 v rfl
      exact ⟨by simp [Instr.sliceBounds, r3, q3], by omega, fun _ => r4⟩

theorem sliceV_run {t : TypeId} {x x' v : Value} {lo hi lo' hi' : Option Value} (h : sliceV E t x lo hi = some v) (hx : VRel ρ x x')
    (hlo : ∀ v, lo = some v → ∃ v', lo' = some v' ∧ VRel ρ v v') (hlon : lo = none → lo' = none) (hhi : ∀ v, hi = some v → ∃ v', hi' = some v' ∧ VRel ρ v v') (hhin : hi = none → hi' = none) :
    ∃ v', (Instr.sliceAt t x' lo' hi' none).run P w = .ok v' w ∧ VRel ρ v v' := by
  unfold sliceV at h
  split at h
  · rename_i s hd
    cases hx
    split at h
    · rename_i hb hbe
      obtain ⟨l, hl, rfl⟩ := Option.map_eq_some_iff.1 h
      obtain ⟨r, _⟩ := bounds_run (P := P) (w := w) hbe hl (Nat.le_refl _) hlo hlon hhi hhin false
      refine ⟨_, ?_, .string _⟩
      simp [Instr.sliceAt, Instr.slice, hE.run_und hd, r]
    · cases h
  · rename_i e a len cap hd
    split at h
    · rename_i i hb hi0 hbe
      split at h
      · rename_i hlo0
        obtain ⟨l, hl, rfl⟩ := Option.map_eq_some_iff.1 h
        cases hx with
        | slNil =>
          obtain ⟨r, _⟩ := bounds_run (P := P) (w := w) hbe hl (Nat.le_refl _) hlo hlon hhi hhin true
          refine ⟨.slice none (hb - l) (cap - l), ?_, ?_⟩
          · simp only [Instr.sliceAt, Instr.slice, Sem.run_bind, hE.run_und hd, Result.andThen_ok, r, Sem.run_pure, hE.run_size hi0]
            simp
          · simp only [Option.map_none, ite_self]
            exact .slNil _ _
        | slOdd hρ ht o a' =>
          obtain ⟨r, hlh, hhc⟩ := bounds_run (P := P) (w := w) hbe hl (Nat.le_refl _) hlo hlon hhi hhin true
          have hhc := hhc (Nat.le_refl _)
          have hl0 : l = 0 := by omega
          have hb0 : hb = 0 := by omega
          subst hl0 hb0
          refine ⟨.slice (some a') 0 0, ?_, ?_⟩
          · simp only [Instr.sliceAt, Instr.slice, Sem.run_bind, hE.run_und hd, Result.andThen_ok, r, Sem.run_pure, hE.run_size hi0]
            simp
          · exact .slOdd hρ ht o a'
        | sl hρ o o' _ _ c' ho hn hc ht hlim =>
          rename_i ib en
          obtain ⟨r, hlh, hhc⟩ := bounds_run (P := P) (w := w) hbe hl hc hlo hlon hhi hhin true
          have hhc := hhc hn
          refine ⟨.slice (some (if c' = l then ⟨en.blk, o', none⟩ else ⟨en.blk, o' + l * i.size, none⟩)) (hb - l) (c' - l), ?_, ?_⟩
          · simp only [Instr.sliceAt, Instr.slice, Sem.run_bind, hE.run_und hd, Result.andThen_ok, r, Sem.run_pure, hE.run_size hi0]
            by_cases e1 : c' = l
            · simp [e1]
            · simp [e1, add_none]
          · have sz : en.tight = false → en.es = i.size := fun h => by
              simpa [looseOk, h] using hlo0
            have key : ∀ x y : Nat, (0 < cap - l → y = en.sh + x) → (en.tight = false → y + (c' - l) * en.es ≤ en.lim) →
                VRel ρ (.slice (some ⟨ib, x, if en.tight then none else some en.es⟩) (hb - l) (cap - l)) (.slice (some ⟨en.blk, y, none⟩) (hb - l) (c' - l)) :=
              fun x y h1 h2 => .sl hρ x y _ _ _ h1 (by omega) (by omega) (fun h => by have := ht h; omega) h2
            have hmul : ∀ n : Nat, l ≤ c' → o' + l * n + (c' - l) * n = o' + c' * n := fun n hh => by
              have : l * n + (c' - l) * n = c' * n := by rw [← Nat.add_mul]; congr 1; omega
              omega
            by_cases e1 : cap = l
            · rw [if_pos e1]
              by_cases e2 : c' = l
              · rw [if_pos e2]
                exact key _ _ (by omega) (fun h => by have := hlim h; rw [e2, Nat.sub_self]; omega)
              · rw [if_neg e2]
                exact key _ _ (by omega) (fun h => by have := hlim h; rw [sz h] at this ⊢; rw [hmul _ (by omega)]; exact this)
            · rw [if_neg e1, if_neg (show ¬ c' = l by omega)]
              show VRel ρ (.slice (some ⟨ib, o + l * i.size, _⟩) _ _) _
              refine key _ _ (fun h => by have := ho (by omega); omega) (fun h => by have := hlim h; rw [sz h] at this ⊢; rw [hmul _ (by omega)]; exact this)
      · cases h
    · cases h
  · cases h

theorem slice3V_run {t : TypeId} {x x' v : Value} {lo lo' : Option Value} {hi hi' mx mx' : Value} (h : slice3V E t x lo hi mx = some v) (hx : VRel ρ x x')
    (hlo : ∀ v, lo = some v → ∃ v', lo' = some v' ∧ VRel ρ v v') (hlon : lo = none → lo' = none) (hhi : VRel ρ hi hi') (hmx : VRel ρ mx mx') :
    ∃ v', (Instr.sliceAt t x' lo' (some hi') (some mx')).run P w = .ok v' w ∧ VRel ρ v v' := by
  unfold slice3V at h
  split at h
  · rename_i e a len cap hd
    split at h
    · rename_i i k hi0 hk
      split at h
      · rename_i hb hbe
        split at h
        · rename_i hlo0
          obtain ⟨l, hl, rfl⟩ := Option.map_eq_some_iff.1 h
          have bounds : ∀ c', cap ≤ c' → (Instr.sliceBounds true len c' lo' (some hi') (some mx')).run P w = .ok (l, hb, k) w ∧ l ≤ hb ∧ hb ≤ k ∧ k ≤ cap := by
            intro c' hc
            obtain ⟨m1, _⟩ := bound_run (P := P) (w := w) hk hc (x' := some mx') (fun v e => by cases e; exact ⟨_, rfl, hmx⟩) (fun e => by cases e) .slice3Acap
            obtain ⟨r1, _⟩ := bound_run (P := P) (w := w) hbe (Nat.le_refl _) (x' := some hi') (fun v e => by cases e; exact ⟨_, rfl, hhi⟩) (fun e => by cases e) .slice3B
            obtain ⟨q1, q2⟩ := bound_run (P := P) (w := w) hl (Nat.le_refl _) hlo hlon .slice3C
            obtain ⟨m3, m4⟩ := m1 mx' rfl
            obtain ⟨r3, r4⟩ := r1 hi' rfl
            cases lo' with
            | none =>
              obtain rfl := q2 rfl
              exact ⟨by simp [Instr.sliceBounds, m3, r3], by omega, r4, m4⟩
            | some v =>
              obtain ⟨q3, q4⟩ := q1 v rfl
              exact ⟨by simp [Instr.sliceBounds, m3, r3, q3], by omega, r4, m4⟩
          cases hx with
          | slNil =>
            obtain ⟨r, _⟩ := bounds cap (Nat.le_refl _)
            refine ⟨.slice none (hb - l) (k - l), ?_, ?_⟩
            · simp only [Instr.sliceAt, Instr.slice, Sem.run_bind, hE.run_und hd, Result.andThen_ok, r, Sem.run_pure, hE.run_size hi0]
              simp
            · simp only [Option.map_none, ite_self]
              exact .slNil _ _
          | slOdd hρ ht o a' =>
            obtain ⟨r, hlh, hhk, hkc⟩ := bounds 0 (Nat.le_refl _)
            have hl0 : l = 0 := by omega
            have hb0 : hb = 0 := by omega
            have hk0 : k = 0 := by omega
            subst hl0 hb0 hk0
            refine ⟨.slice (some a') 0 0, ?_, ?_⟩
            · simp only [Instr.sliceAt, Instr.slice, Sem.run_bind, hE.run_und hd, Result.andThen_ok, r, Sem.run_pure, hE.run_size hi0]
              simp
            · exact .slOdd hρ ht o a'
          | sl hρ o o' _ _ c' ho hn hc ht hlim =>
            rename_i ib en
            obtain ⟨r, hlh, hhk, hkc⟩ := bounds c' hc
            refine ⟨.slice (some (if k = l then ⟨en.blk, o', none⟩ else ⟨en.blk, o' + l * i.size, none⟩)) (hb - l) (k - l), ?_, ?_⟩
            · simp only [Instr.sliceAt, Instr.slice, Sem.run_bind, hE.run_und hd, Result.andThen_ok, r, Sem.run_pure, hE.run_size hi0]
              by_cases e1 : k = l
              · simp [e1]
              · simp [e1, add_none]
            · have sz : en.tight = false → en.es = i.size := fun h => by
                simpa [looseOk, h] using hlo0
              have key : ∀ x y : Nat, (0 < k - l → y = en.sh + x) → (en.tight = false → y + (k - l) * en.es ≤ en.lim) →
                  VRel ρ (.slice (some ⟨ib, x, if en.tight then none else some en.es⟩) (hb - l) (k - l)) (.slice (some ⟨en.blk, y, none⟩) (hb - l) (k - l)) :=
                fun x y h1 h2 => .sl hρ x y _ _ _ h1 (by omega) (Nat.le_refl _) (fun _ => rfl) h2
              have hmul : ∀ n : Nat, l ≤ k → o' + l * n + (k - l) * n ≤ o' + c' * n := fun n hh => by
                have : l * n + (k - l) * n = k * n := by rw [← Nat.add_mul]; congr 1; omega
                have := Nat.mul_le_mul_right n (show k ≤ c' by omega)
                omega
              by_cases e1 : k = l
              · rw [if_pos e1, if_pos e1]
                exact key _ _ (by omega) (fun h => by have := hlim h; rw [show k - l = 0 by omega]; omega)
              · rw [if_neg e1, if_neg e1]
                show VRel ρ (.slice (some ⟨ib, o + l * i.size, _⟩) _ _) _
                refine key _ _ (fun h => by have := ho (by omega); omega) (fun h => by have := hlim h; rw [sz h] at this ⊢; have := hmul i.size (by omega); omega)
        · cases h
      · cases h
    · cases h
  · cases h

/-! ### Parts, lengths, places -/
theorem partV_run {t : TypeId} {cs cs' : Array Value} {off : Nat} {v : Value} (h : partV E t cs off = some v) (hx : ARel ρ cs cs') :
    ∃ v', (part t cs' off).run P w = .ok v' w ∧ VRel ρ v v' := by
  unfold partV at h
  split at h
  · rename_i i hi
    split at h
    · rename_i ha
      cases h
      refine ⟨.agg (cs'.extract off (off + i.size)), ?_, .agg_of ?_⟩
      · simp [part, hE.run_isAgg hi, ha, hE.run_size hi]
      · unfold ARel at *
        simp only [Array.toList_extract, List.extract_eq_take_drop]
        exact (hx.drop _).take _
    · rename_i ha
      obtain ⟨v', h1, h2⟩ := hx.get h
      exact ⟨v', by simp [part, hE.run_isAgg hi, ha, h1], h2⟩
  · cases h

theorem lenV_run {t : TypeId} {x x' : Value} {n : Nat} (h : lenV E t x = some n) (hx : VRel ρ x x') : (Builtin.len_ #[t] 0 #[x']).run P w = .ok (.int .i64 n) w := by
  unfold lenV at h
  split at h
  · rename_i s hd
    cases h; cases hx
    simp [Builtin.len_, hE.run_und hd, goInt]
  · rename_i e a n' c hd
    cases h
    obtain ⟨a', c', rfl, _⟩ := hx.sl_inv
    simp [Builtin.len_, hE.run_und hd, goInt]
  · rename_i n' e hd
    cases h
    simp [Builtin.len_, hE.run_und hd, goInt]
  · cases h

omit hE in
theorem VRel.ptr_some {i o : Nat} {sp : Option Nat} {v : Value} (h : VRel ρ (.pointer (some ⟨i, o, sp⟩)) v) : ∃ e, ρ i = some e ∧ v = .pointer (some ⟨e.blk, e.sh + o, none⟩) ∧ sp = none := by
  cases h with
  | ptr h o => exact ⟨_, h, rfl, rfl⟩

theorem loadV_run {t : TypeId} {p p' v : Value} (hs : Sim C B ρ m w) (h : loadV E m t p = some v) (hp : VRel ρ p p') : ∃ v', (Instr.loadAt t p').run P w = .ok v' w ∧ VRel ρ v v' := by
  unfold loadV at h
  split at h
  · rename_i i a hi
    obtain ⟨b, o, sp⟩ := a
    obtain ⟨e, he, rfl, _⟩ := hp.ptr_some
    split at h
    · rename_i ha
      obtain ⟨l, hl, rfl⟩ := Option.map_eq_some_iff.1 h
      obtain ⟨l', k1, k2, k3⟩ := run_loadCells_rel (P := P) hs hl he
      refine ⟨.agg l'.toArray, ?_, .agg_of (by simpa [ARel] using k1)⟩
      simp [Instr.loadAt, Instr.sureAddr, loadVar, hE.run_isAgg hi, ha, hE.run_size hi, k3]
    · rename_i ha
      obtain ⟨v', k1, k2⟩ := cell_rel hs h he
      exact ⟨v', by simp [Instr.loadAt, Instr.sureAddr, loadVar, hE.run_isAgg hi, ha, k2], k1⟩
  · cases h

theorem indexAddrV_run {t : TypeId} {x i x' i' v : Value} (h : indexAddrV E t x i = some v) (hx : VRel ρ x x') (hi : VRel ρ i i') : ∃ v', (Instr.indexAt t x' i').run P w = .ok v' w ∧ VRel ρ v v' := by
  unfold indexAddrV at h
  split at h
  · rename_i e a len c n hd hn
    obtain ⟨k, rfl⟩ := asI_rel hn hi
    split at h
    · rename_i ti hti
      split at h
      · rename_i hr
        cases h
        cases hx with
        | slOdd hρ ht o a' => exact absurd hr (by omega)
        | sl hρ o o' _ _ c' ho hnc hc ht hlim =>
          have e1 := ho (by omega)
          subst e1
          refine ⟨_, ?_, .ptr hρ _⟩
          simp [Instr.indexAt, asIntOf, hE.run_und hd, hr.1, hr.2, hE.run_size hti, add_none, Nat.add_assoc]
      · cases h
    · cases h
  · rename_i len e a n hd hn
    obtain ⟨k, rfl⟩ := asI_rel hn hi
    split at h
    · rename_i ti hti
      split at h
      · rename_i hr
        cases h
        obtain ⟨b, o, sp⟩ := a
        obtain ⟨en, he, rfl, rfl⟩ := hx.ptr_some
        refine ⟨_, ?_, .ptr he _⟩
        simp [Instr.indexAt, asIntOf, hE.run_und hd, Instr.sureAddr, hr.1, hr.2, hE.run_size hti, add_none, Nat.add_assoc]
      · cases h
    · cases h
  · cases h

theorem indexV_run {t : TypeId} {x i x' i' v : Value} (h : indexV E t x i = some v) (hx : VRel ρ x x') (hi : VRel ρ i i') : ∃ v', (Instr.index t x' i').run P w = .ok v' w ∧ VRel ρ v v' := by
  unfold indexV at h
  split at h
  · rename_i len e cs n hd hn
    obtain ⟨k, rfl⟩ := asI_rel hn hi
    obtain ⟨cs', rfl, hcs⟩ := hx.agg_inv
    split at h
    · rename_i ti hti
      split at h
      · rename_i hr
        obtain ⟨v', h1, h2⟩ := partV_run hE (w := w) h hcs
        exact ⟨v', by simp [Instr.index, asIntOf, hE.run_und hd, hr.1, hr.2, hE.run_size hti, h1], h2⟩
      · cases h
    · cases h
  · rename_i s n hd hn
    obtain ⟨k, rfl⟩ := asI_rel hn hi
    cases hx
    split at h
    · rename_i hr
      obtain ⟨b, hb, rfl⟩ := Option.map_eq_some_iff.1 h
      exact ⟨_, by simp [Instr.index, asIntOf, hE.run_und hd, hr, hb], .int _ _⟩
    · cases h
  · cases h

theorem fieldAddrV_run {t : TypeId} {x x' v : Value} {f : Nat} (h : fieldAddrV E t x f = some v) (hx : VRel ρ x x') : ∃ v', (Instr.fieldAt t x' f).run P w = .ok v' w ∧ VRel ρ v v' := by
  unfold fieldAddrV at h
  split at h
  · rename_i fields a hd
    split at h
    · rename_i fl hf
      split at h
      · rename_i i hi
        split at h
        · cases h
        · rename_i h0
          cases h
          obtain ⟨b, o, sp⟩ := a
          obtain ⟨en, he, rfl, rfl⟩ := hx.ptr_some
          refine ⟨_, ?_, .ptr he _⟩
          simp [Instr.fieldAt, hE.run_und hd, hf, Instr.sureAddr, fieldPlace, hE.run_size hi, h0, add_none, Nat.add_assoc]
      · cases h
    · cases h
  · cases h

theorem fieldV_run {t : TypeId} {x x' v : Value} {f : Nat} (h : fieldV E t x f = some v) (hx : VRel ρ x x') : ∃ v', (Instr.field t x' f).run P w = .ok v' w ∧ VRel ρ v v' := by
  unfold fieldV at h
  split at h
  · rename_i fields cs hd
    obtain ⟨cs', rfl, hcs⟩ := hx.agg_inv
    split at h
    · rename_i fl hf
      obtain ⟨v', h1, h2⟩ := partV_run hE (w := w) h hcs
      exact ⟨v', by simp [Instr.field, hE.run_und hd, hf, asAgg, h1], h2⟩
    · cases h
  · cases h

omit hE in
theorem minmax_run (mx : Bool) : ∀ (r r' : List Value) (v v' u : Value), minmax mx v r = some u → VRel ρ v v' → LRel ρ r r' →
    ∃ u', (r'.foldlM (if mx then Builtin.max2 else Builtin.min2) v').run P w = .ok u' w ∧ VRel ρ u u'
  | [], _, v, v', u, h, hv, hr => by
    cases hr
    simp only [minmax, Option.some.injEq] at h
    subst h
    exact ⟨v', by simp, hv⟩
  | x :: r, _, v, v', u, h, hv, hr => by
    cases hr with
    | cons hx hr =>
      rename_i y r'
      cases v <;> cases x <;> simp only [minmax, reduceCtorEq] at h
      rename_i k a k' b
      split at h
      · rename_i hk
        subst hk
        cases hv; cases hx
        obtain ⟨u', h1, h2⟩ := minmax_run mx r r' _ _ u h (.int _ _) hr
        refine ⟨u', ?_, h2⟩
        simp only [List.foldlM_cons, Sem.run_bind]
        cases mx
        · simpa [Builtin.min2] using h1
        · simpa [Builtin.max2] using h1
      · cases h

end ops
end Go.Abs
