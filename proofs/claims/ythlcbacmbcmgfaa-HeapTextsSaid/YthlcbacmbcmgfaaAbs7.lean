/-
  Each operation on both sides: conversions, copy, calls; all together.
-/
import Derived.Test.YthlcbacmbcmgfaaAbs6
import Derived.MapKept
namespace Go.Abs
open Go.MapKept
variable {C : FuncId → Code → Prop} {B : Nat}
section ops
variable {P : Program} {E : Env} (hE : E.Ok P) {ρ : Inj} {m : Mem} {w : World}
include hE

omit hE in
theorem srcCells_run (hs : Sim C B ρ m w) {es dlen n : Nat} {s s' : Value} {l : List Value} (h : srcCells m es s dlen = some (n, l)) (hx : VRel ρ s s') :
    ∃ (sl : Nat) (l' : List Value), LRel ρ l l' ∧ n = Nat.min sl dlen ∧ (Builtin.lenOf s').run P w = .ok sl w ∧ (Builtin.firstCells es n s').run P w = .ok l'.toArray w := by
  unfold srcCells at h
  split at h
  · rename_i b sl c
    split at h
    · rename_i hz
      cases h
      cases hx with
      | slOdd hρ ht o a' => exact ⟨0, [], .nil, hz.symm, by simp [Builtin.lenOf], by simp [Builtin.firstCells, loadCells, loadCellsFrom]⟩
      | sl hρ o o' _ _ c' ho hn hc ht hlim =>
        exact ⟨sl, [], .nil, hz.symm, by simp [Builtin.lenOf], by simp [Builtin.firstCells, loadCells, loadCellsFrom]⟩
    obtain ⟨l0, hl, he⟩ := Option.map_eq_some_iff.1 h
    cases he
    cases hx with
    | slOdd hρ ht o a' =>
      have e2 : Nat.min 0 dlen = 0 := Nat.zero_min _
      rw [e2] at hl ⊢
      have el : l = [] := row_zero (by simpa using hl)
      subst el
      exact ⟨0, [], .nil, (Nat.zero_min _).symm, by simp [Builtin.lenOf], by simp [Builtin.firstCells, loadCells, loadCellsFrom]⟩
    | sl hρ o o' _ _ c' ho hn hc ht hlim =>
      by_cases h0 : 0 < c
      · have e1 := ho h0
        subst e1
        obtain ⟨l', k1, k2, k3⟩ := run_loadCells_rel (P := P) hs hl hρ
        exact ⟨sl, l', k1, rfl, by simp [Builtin.lenOf], by simpa [Builtin.firstCells] using k3⟩
      · have e0 : sl = 0 := by omega
        subst e0
        have e2 : Nat.min 0 dlen = 0 := Nat.zero_min _
        rw [e2] at hl ⊢
        have el : l = [] := row_zero (by simpa using hl)
        subst el
        exact ⟨0, [], .nil, (Nat.zero_min _).symm, by simp [Builtin.lenOf], by simp [Builtin.firstCells, loadCells, loadCellsFrom]⟩
  · cases h; cases hx
    exact ⟨0, [], .nil, (Nat.zero_min _).symm, by simp [Builtin.lenOf], by simp [Builtin.firstCells]⟩
  · rename_i x
    cases h; cases hx
    refine ⟨x.size, _, LRel.refl_of fun x hx => ?_, rfl, by simp [Builtin.lenOf], ?_⟩
    · obtain ⟨b, _, rfl⟩ := List.mem_map.1 hx
      exact .int _ _
    · have e : ((x.extract 0 (Nat.min x.size dlen)).data.map fun b => Value.int .u8 b.toNat) = ((x.extract 0 (Nat.min x.size dlen)).data.toList.map fun b => Value.int .u8 b.toNat).toArray := by
        apply Array.toList_inj.1
        simp
      simp only [Builtin.firstCells, Sem.run_pure, e]
  · cases h

theorem copyV_run (hs : Sim C B ρ m w) {dt st ty : TypeId} {d s d' s' v : Value} {m' : Mem} (h : copyV E m dt d s = some (v, m')) (hd : VRel ρ d d') (hsv : VRel ρ s s') :
    ∃ w' ρ' v', (Builtin.copy_ #[dt, st] ty #[d', s']).run P w = .ok v' w' ∧ Post C B ρ m w ρ' m' w' ∧ VRel ρ' v v' := by
  unfold copyV at h
  split at h
  · rename_i e base dlen dcap hdd
    split at h
    · rename_i i hi
      split at h
      · cases h
      · rename_i n cells hcells
        obtain ⟨sl, cells', c1, c0, c2, c3⟩ := srcCells_run (P := P) hs hcells hsv
        subst c0
        have pre : ∀ b' dcap', (Builtin.copy_ #[dt, st] ty #[.slice b' dlen dcap', s']).run P w = (match b' with
            | some a => (storeCells a cells').run P w
            | none => .ok () w).andThen fun _ w' => .ok (.int .i64 (Nat.min sl dlen : Nat)) w' := fun b' dcap' => by
          simp only [Builtin.copy_, List.getElem?_toArray, List.getElem?_cons_zero, List.getElem?_cons_succ, Sem.run_bind, hE.run_und hdd, Result.andThen_ok, c2, hE.run_size hi, c3]
          cases b' <;> simp [goInt]
        split at h
        · cases h; cases hd
          exact ⟨w, ρ, _, by rw [pre]; rfl, Post.refl hs, .int _ _⟩
        · cases h
          cases c1
          cases hd with
          | slOdd hρ ht o a' => exact ⟨w, ρ, _, by rw [pre]; rfl, Post.refl hs, .int _ _⟩
          | sl hρ o o' _ _ c' ho hn hc ht hlim =>
            exact ⟨w, ρ, _, by rw [pre]; rfl, Post.refl hs, .int _ _⟩
        · split at h
          · rename_i h0
            obtain ⟨m1, hm1, he⟩ := Option.map_eq_some_iff.1 h
            cases he
            cases hd with
            | slOdd hρ ht o a' => exact absurd h0 (by omega)
            | sl hρ o o' _ _ c' ho hn hc ht hlim =>
              have e1 := ho (by omega)
              subst e1
              obtain ⟨w', k1, k2⟩ := hs.write (P := P) hm1 hρ c1
              exact ⟨w', ρ, _, by rw [pre]; dsimp only; rw [k1]; rfl, k2, .int _ _⟩
          · cases h
    · cases h
  · cases h

/-! ### Conversions -/
/-- The loop in which bytes become a string. -/
def byteStep (c : Value) (s : ByteArray) : Sem (ForInStep ByteArray) :=
  match c with
  | .int .u8 n => pure (ForInStep.yield (s.push (UInt8.ofNat n.toNat)))
  | _ => do
    stuck "bytesToString: byte expected"
    pure (ForInStep.yield s)

omit hE in
theorem bytes_loop : ∀ (l : List Value) (bs : List UInt8) (s : ByteArray), bytesOf l = some bs → (forIn l s byteStep).run P w = .ok (bs.foldl ByteArray.push s) w
  | [], bs, s, h => by
    simp only [bytesOf, Option.some.injEq] at h
    subst h
    simp
  | v :: l, bs, s, h => by
    unfold bytesOf at h
    split at h
    · rename_i heq; cases heq
    · rename_i n r heq
      cases heq
      obtain ⟨bs', h1, rfl⟩ := Option.map_eq_some_iff.1 h
      have ih := bytes_loop l bs' (s.push (UInt8.ofNat n.toNat)) h1
      simp only [List.forIn_cons, byteStep, Sem.run_bind, Sem.run_pure, Result.andThen_ok, List.foldl_cons]
      exact ih
    · cases h

omit hE in
theorem foldl_push : ∀ (bs : List UInt8) (s : ByteArray), bs.foldl ByteArray.push s = ⟨s.data ++ bs.toArray⟩
  | [], s => by simp
  | b :: bs, s => by
    rw [List.foldl_cons, foldl_push bs]
    congr 1
    simp [ByteArray.push]

omit hE in
theorem bytesOf_rel : ∀ {l l' : List Value} {bs : List UInt8}, bytesOf l = some bs → LRel ρ l l' → l' = l
  | [], _, _, _, h => by cases h; rfl
  | v :: l, _, bs, hb, h => by
    cases h with
    | cons hv ht =>
      unfold bytesOf at hb
      split at hb
      · rename_i heq; cases heq
      · rename_i n r heq
        cases heq
        obtain ⟨bs', h1, rfl⟩ := Option.map_eq_some_iff.1 hb
        cases hv
        rw [bytesOf_rel h1 ht]
      · cases hb

theorem convV_run (hs : Sim C B ρ m w) {src dst : TypeId} {x x' v : Value} {m' : Mem} (h : convV E src dst x m = some (v, m')) (hx : VRel ρ x x') :
    ∃ w' ρ' v', (convert src dst x').run P w = .ok v' w' ∧ Post C B ρ m w ρ' m' w' ∧ VRel ρ' v v' ∧ ((∀ e e', E.desc src = some (.slice e) → E.desc dst ≠ some (.slice e')) → w' = w ∧ ρ' = ρ) := by
  unfold convV at h
  split at h
  · rename_i i k b1 b2 b3 kk n hi hd
    cases h; cases hx
    exact ⟨w, ρ, _, by simp [convert, hE.run_und' hi, hE.run_und' hd, Conv.intToInt], Post.refl hs, .int _ _, fun _ => ⟨rfl, rfl⟩⟩
  · rename_i i b1 b2 b3 s hi hd
    cases h; cases hx
    exact ⟨w, ρ, _, by simp [convert, hE.run_und' hi, hE.run_und' hd], Post.refl hs, .string _, fun _ => ⟨rfl, rfl⟩⟩
  · rename_i e b1 b2 b3 c1 c2 c3 a n c hi hd
    split at h
    · rename_i he
      cases h; cases hx
      exact ⟨w, ρ, _, by simp [convert, hE.run_und' hi, hE.run_und' hd, hE.run_und he, Conv.bytesToString], Post.refl hs, .string _, fun _ => ⟨rfl, rfl⟩⟩
    · rename_i a he
      obtain ⟨bs, hb, hv⟩ := Option.map_eq_some_iff.1 h
      cases hv
      obtain ⟨l, hl, hbl⟩ := Option.bind_eq_some_iff.1 hb
      cases hx with
      | slOdd hρ ht o a' =>
        have el : l = [] := row_zero hl
        subst el
        simp only [bytesOf, Option.some.injEq] at hbl
        subst hbl
        refine ⟨w, ρ, .string .empty, ?_, Post.refl hs, .string _, fun _ => ⟨rfl, rfl⟩⟩
        simp [convert, hE.run_und' hi, hE.run_und' hd, hE.run_und he, Conv.bytesToString, loadCells, loadCellsFrom]
      | sl hρ o o' _ _ c' ho hn hc ht hlim =>
        rename_i ib en
        have key : ∃ l' : List Value, LRel ρ l l' ∧ (loadCells ⟨en.blk, o', none⟩ n).run P w = .ok l'.toArray w := by
          by_cases h0 : 0 < c
          · have e1 := ho h0
            subst e1
            obtain ⟨l', k1, k2, k3⟩ := run_loadCells_rel (P := P) hs hl hρ
            exact ⟨l', k1, k3⟩
          · have e0 : n = 0 := by omega
            subst e0
            have el : l = [] := row_zero hl
            subst el
            exact ⟨[], .nil, by simp [loadCells, loadCellsFrom]⟩
        obtain ⟨l', k1, k2⟩ := key
        have e2 := bytesOf_rel hbl k1
        subst e2
        refine ⟨w, ρ, .string ⟨bs.toArray⟩, ?_, Post.refl hs, .string _, fun _ => ⟨rfl, rfl⟩⟩
        have hloop := bytes_loop (P := P) (w := w) l' bs .empty hbl
        rw [foldl_push] at hloop
        simp only [convert, Sem.run_bind, hE.run_und' hi, hE.run_und' hd, Result.andThen_ok, hE.run_und he, Conv.bytesToString, k2]
        rw [← Array.forIn_toList]
        have e : (forIn l'.toArray.toList ByteArray.empty byteStep).run P w = .ok ⟨ByteArray.empty.data ++ bs.toArray⟩ w := hloop
        have e' : (⟨ByteArray.empty.data ++ bs.toArray⟩ : ByteArray) = ⟨bs.toArray⟩ := by
          have e0 : ByteArray.empty.data = #[] := rfl
          rw [e0, Array.empty_append]
        rw [e'] at e
        exact (congrArg (fun r => Result.andThen r fun a w' => Sem.run P (pure (Value.string a)) w') e)
    · cases h
  · rename_i e b1 b2 b3 e2 c1 c2 c3 a n c hi hd
    split at h
    · rename_i tg cs he hget
      split at h
      · rename_i heq
        cases h
        obtain ⟨heq, hc0⟩ := heq
        subst heq
        rw [hi] at hd
        cases hd
        have hx0 := hx
        cases hx with
        | slOdd hρ ht o a' => exact absurd hc0 (by omega)
        | sl hρ o o' _ _ c' ho hn hc ht hlim =>
          rename_i ib en
          obtain ⟨en', q1, q2⟩ := hs.sim.rel ib _ hget
          rw [hρ] at q1; cases q1
          obtain ⟨cc, el, fr, hh, htg, hcv, hl2, hfr⟩ := q2
          have hlt : en.blk < w.heap.size := (Array.getElem?_eq_some_iff.1 hh).1
          have hfz : ∃ fr', (w.freeze ⟨en.blk, cc.size, none⟩ 1).heap[en.blk]? = some (.cells cc el fr') ∧ (fr'.1 = fr'.2 ∨ cc.size ≤ fr'.1) := by
            obtain ⟨lo, hi'⟩ := fr
            refine ⟨if lo == hi' then (cc.size, cc.size + 1) else (min lo cc.size, max hi' (cc.size + 1)), ?_, ?_⟩
            · simp [World.freeze, Array.getElem?_modify, hh]
            · have := hfr rfl
              simp only at this
              split
              · exact .inr (Nat.le_refl _)
              · rename_i hne
                have : lo ≠ hi' := by simpa using hne
                exact .inr (by simp only; omega)
          obtain ⟨fr', z1, z2⟩ := hfz
          refine ⟨w.freeze ⟨en.blk, cc.size, none⟩ 1, ρ, _, ?_, ?_, hx0, fun hn => absurd (show E.desc src = some (.slice e) by simp [Env.desc, hi]) (hn e e (by simp [Env.desc, hi]))⟩
          · simp [convert, hE.run_und' hi, hE.run_und he, markStringish, World.shape?, hh]
          · have := hs.turn (w' := w.freeze ⟨en.blk, cc.size, none⟩ 1) hget rfl hρ (some (.cells false tg cs)) (by simp [World.freeze]) (by simp [World.freeze]) (by simp [World.freeze]) (by simp [World.freeze])
              (fun r hr => by simp [World.freeze, Array.getElem?_modify, Ne.symm hr]) (fun c hc => by cases hc; exact ⟨cc, el, fr', z1, htg, hcv, hl2, fun _ => z2⟩)
            have hput : m.put ib (some (.cells false tg cs)) = m := by
              unfold Mem.put
              have hb : m.bl[ib]? = some (some (.cells false tg cs)) := by
                unfold Mem.get at hget
                cases hq : m.bl[ib]? with
                | none => rw [hq] at hget; cases hget
                | some y => rw [hq] at hget; simp only [Option.getD_some] at hget; rw [hget]
              obtain ⟨k1, k2⟩ := List.getElem?_eq_some_iff.1 hb
              congr 1
              rw [← k2]
              exact List.set_getElem_self k1
            rwa [hput] at this
      · cases h
    · cases h
  · cases h


/-! ### All operations -/
/-- What an operation may do: nothing with memory, read it, make a block, anything. -/
inductive Cls where
  | P | L | A | H
  deriving DecidableEq

def cls (E : Env) (o : Oper) : Cls :=
  match o.op with
  | .move _ | .assign _ | .pick .. | .build .. | .nilCheck _ | .binOp .. | .unOp .. | .makeFunc .. | .slice .. | .fieldAddr .. | .field .. | .indexAddr .. | .index .. | .extract .. => .P
  | .convert s d _ =>
    match E.desc s, E.desc d with
    | some (.slice _), some .string => .L
    | some (.slice _), _ => .H
    | _, _ => .P
  | .load .. | .lookup .. => .L
  | .alloc _ | .box .. | .buildSlice .. | .makeSlice .. => .A
  | .call c =>
    match c.callee with
    | .builtin .len | .builtin .min | .builtin .max => .P
    | _ => .H
  | _ => .H

/-- It leaves the world alone. -/
def quiet (E : Env) (o : Oper) : Prop := cls E o = .P ∨ cls E o = .L

/-- What an operation comes to on the real side, if the abstract side makes the step. -/
def StepRel (C : FuncId → Code → Prop) (B : Nat) (P : Program) (E : Env) (ρ : Inj) (m : Mem) (w : World) (o : Oper) (r' : Operand → Value) : Step → Prop
  | .val v m' => ∃ w' ρ' v', ((execOp r' o).run P w = .ok (.value v') w' ∨ ((execOp r' o).run P w = .ok .skip w' ∧ v' = undef)) ∧ Post C B ρ m w ρ' m' w' ∧ VRel ρ' v v' ∧ (quiet E o → w' = w ∧ ρ' = ρ)
  | .enter f args m' => m' = m ∧ ∃ args', (execOp r' o).run P w = .ok (.enter f args') w ∧ ARel ρ args args'
  | .round l args m' => m' = m ∧ ∃ e args', ρ l = some e ∧ e.sh = 0 ∧ ARel ρ args args' ∧ (execOp r' o).run P w = (Instr.yield e.blk args').run P w

omit hE in
theorem ARel.map {α : Type} {f g : α → Value} (a : Array α) (h : ∀ x ∈ a, VRel ρ (f x) (g x)) : ARel ρ (a.map f) (a.map g) := by
  unfold ARel
  simp only [Array.toList_map]
  exact LRel.map fun x hx => h x (by simpa using hx)

omit hE in
theorem parts_rel {r r' : Operand → Value} (parts : Array (Nat × Operand)) (h : ∀ x ∈ parts.toList, VRel ρ (r x.2) (r' x.2)) :
    (parts.toList.map fun (i, x) => (i, r x)).length = (parts.toList.map fun (i, x) => (i, r' x)).length ∧
      ∀ (k : Nat) p, (parts.toList.map fun (i, x) => (i, r x))[k]? = some p → ∃ v', (parts.toList.map fun (i, x) => (i, r' x))[k]? = some (p.1, v') ∧ VRel ρ p.2 v' := by
  refine ⟨by simp, fun k p hk => ?_⟩
  rw [List.getElem?_map] at hk
  obtain ⟨q, hq, rfl⟩ := Option.map_eq_some_iff.1 hk
  exact ⟨r' q.2, by rw [List.getElem?_map, hq]; rfl, h q (List.mem_of_getElem? hq)⟩

omit hE in
theorem LRel.one {x : Value} {l : List Value} (h : LRel ρ [x] l) : ∃ x', l = [x'] ∧ VRel ρ x x' := by
  cases h with
  | cons hx ht => cases ht; exact ⟨_, rfl, hx⟩

omit hE in
theorem LRel.two {x y : Value} {l : List Value} (h : LRel ρ [x, y] l) : ∃ x' y', l = [x', y'] ∧ VRel ρ x x' ∧ VRel ρ y y' := by
  cases h with
  | cons hx ht => cases ht with
    | cons hy hu => cases hu; exact ⟨_, _, rfl, hx, hy⟩

omit hE in
theorem LRel.cons_inv {x : Value} {t l : List Value} (h : LRel ρ (x :: t) l) : ∃ x' t', l = x' :: t' ∧ VRel ρ x x' ∧ LRel ρ t t' := by
  cases h with
  | cons hx ht => exact ⟨_, _, rfl, hx, ht⟩

omit hE in
theorem optOp {r r' : Operand → Value} {x : Option Operand} (h : ∀ o, x = some o → VRel ρ (r o) (r' o)) :
    (∀ v, x.map r = some v → ∃ v', x.map r' = some v' ∧ VRel ρ v v') ∧ (x.map r = none → x.map r' = none) := by
  cases x with
  | none => exact ⟨fun v h => (by simp at h), fun _ => rfl⟩
  | some o => exact ⟨fun v hv => (by cases hv; exact ⟨_, rfl, h o rfl⟩), fun h => (by simp at h)⟩

omit hE in
theorem carryV_rel {k : Bool} {a a' : Array Value} {v : Value} (h : ARel ρ a a') (hv : carryV k a.toList = some v) : carryV k a'.toList = some v ∧ constOk v = true := by
  have hl : LRel ρ a.toList a'.toList := h
  unfold carryV at hv
  split at hv
  · rename_i x y c e
    rw [e] at hl
    have e' : a'.toList = [.int .u64 x, .int .u64 y, .int .u64 c] := by
      generalize a'.toList = l' at hl
      cases hl with
      | cons h1 t1 => cases h1; cases t1 with
        | cons h2 t2 => cases h2; cases t2 with
          | cons h3 t3 => cases h3; cases t3; rfl
    rw [e']
    refine ⟨hv, ?_⟩
    split at hv
    · cases hv
      cases k <;> rfl
    · cases hv
  · cases hv

theorem callV_run (hs : Sim C B ρ m w) {c : Call} {r r' : Operand → Value} {st : Step} (h : callV E c r m = some st) (hB : ∀ v m', st = .val v m' → m.size < m'.size → m'.size ≤ B) (o : Oper) (ho : o.op = .call c) (hr : ∀ x ∈ c.operands.toList, VRel ρ (r x) (r' x)) : StepRel C B P E ρ m w o r' st := by
  unfold callV at h
  have hargs : ∀ x ∈ c.args, VRel ρ (r x) (r' x) := fun x hx => hr x (by simp [Call.operands, hx])
  split at h
  · rename_i f hc
    have hf : VRel ρ (r f) (r' f) := hr f (by simp [Call.operands, hc])
    split at h
    · rename_i g first captured hrf
      split at h
      · rename_i fi hfi
        cases h
        rw [hrf] at hf
        obtain ⟨fn', a', b', he, hfr, ha, hb⟩ := hf.func_inv
        cases hfr
        refine ⟨rfl, _, ?_, (ha.append (ARel.map c.args hargs)).append hb⟩
        simp only [execOp, ho, Sem.run_bind, resolve, hc, Deferred.ofValue, he, Sem.run_pure, Result.andThen_ok, invoke, hE.run_call hfi]
      · split at h
        · rename_i k hk
          obtain ⟨v, hv, rfl⟩ := Option.map_eq_some_iff.1 h
          rw [hrf] at hf
          obtain ⟨fn', a', b', he, hfr, ha, hb⟩ := hf.func_inv
          cases hfr
          have hrel := (ha.append (ARel.map c.args hargs)).append hb
          obtain ⟨e1, e2⟩ := carryV_rel hrel hv
          refine ⟨w, ρ, v, .inl ?_, Post.refl hs, .const e2, fun _ => ⟨rfl, rfl⟩⟩
          simp only [execOp, ho, Sem.run_bind, resolve, hc, Deferred.ofValue, he, Sem.run_pure, Result.andThen_ok, invoke]
          exact hE.ext _ _ hk _ _ _ e1
        · cases h
    · rename_i l first captured hrf
      cases h
      rw [hrf] at hf
      obtain ⟨fn', a', b', he, hfr, ha, hb⟩ := hf.func_inv
      cases hfr with
      | yield hl hsh =>
        refine ⟨rfl, _, _, hl, hsh, ha.append (ARel.map c.args hargs), ?_⟩
        simp only [execOp, ho, Sem.run_bind, resolve, hc, Deferred.ofValue, he, Sem.run_pure, Result.andThen_ok, invoke]
    · cases h
  · rename_i b hc
    have hal : LRel ρ (c.args.toList.map r) (c.args.map r').toList := by
      rw [Array.toList_map]
      exact LRel.map fun x hx => hargs x (by simpa using hx)
    obtain ⟨C, hexec⟩ : ∃ C, (execOp r' o).run P w = (builtin b c.argTypes o.type C (c.args.map r')).run P w :=
      ⟨_, by simp only [execOp, ho, Sem.run_bind, resolve, hc, Sem.run_pure, Result.andThen_ok, invoke]; rfl⟩
    generalize hA : (c.args.map r') = A at hal hexec
    generalize hT : c.argTypes = T at hexec h
    have arr : ∀ {α : Type} {a : Array α} {l : List α}, a.toList = l → a = l.toArray := fun h => by rw [← h]
    split at h
    · rename_i x t h1 h2
      rw [h1] at hal
      obtain ⟨n, hn, rfl⟩ := Option.map_eq_some_iff.1 h
      obtain ⟨k, hk, rfl⟩ := Option.map_eq_some_iff.1 hn
      obtain ⟨x', e1, hx⟩ := hal.one
      have e1 := arr e1
      have e2 := arr h2
      subst e1; subst e2
      refine ⟨w, ρ, _, .inl ?_, Post.refl hs, .int .i64 k, fun _ => ⟨rfl, rfl⟩⟩
      have := lenV_run hE (w := w) hk hx
      have e : ∀ ty, Builtin.len_ #[t] ty #[x'] = Builtin.len_ #[t] 0 #[x'] := fun _ => rfl
      rw [hexec]
      simp only [builtin, Sem.run_bind, e, this, Result.andThen_ok, Sem.run_pure]
    · rename_i ty x rest h1
      rw [h1] at hal
      obtain ⟨n, hn, rfl⟩ := Option.map_eq_some_iff.1 h
      obtain ⟨x', rest', e1, hx, hrest⟩ := hal.cons_inv
      obtain ⟨u', k1, k2⟩ := minmax_run (P := P) (w := w) false rest rest' x x' n hn hx hrest
      refine ⟨w, ρ, u', .inl ?_, Post.refl hs, k2, fun _ => ⟨rfl, rfl⟩⟩
      rw [hexec]
      simp only [builtin, Sem.run_bind, Builtin.min_, e1]
      simp only [Bool.false_eq_true, if_false] at k1
      rw [k1]
      rfl
    · rename_i ty x rest h1
      rw [h1] at hal
      obtain ⟨n, hn, rfl⟩ := Option.map_eq_some_iff.1 h
      obtain ⟨x', rest', e1, hx, hrest⟩ := hal.cons_inv
      obtain ⟨u', k1, k2⟩ := minmax_run (P := P) (w := w) true rest rest' x x' n hn hx hrest
      refine ⟨w, ρ, u', .inl ?_, Post.refl hs, k2, fun _ => ⟨rfl, rfl⟩⟩
      rw [hexec]
      simp only [builtin, Sem.run_bind, Builtin.max_, e1]
      simp only [if_true] at k1
      rw [k1]
      rfl
    · rename_i s x st' xt h1 h2
      rw [h1] at hal
      obtain ⟨⟨v, m'⟩, hv, rfl⟩ := Option.map_eq_some_iff.1 h
      obtain ⟨s', x', e1, hsv, hxv⟩ := hal.two
      have e1 := arr e1
      have e2 := arr h2
      subst e1; subst e2
      obtain ⟨w', ρ', v', k1, k2, k3⟩ := appendV_run hE (ty := o.type) hs hv (hB _ _ rfl) hsv hxv
      refine ⟨w', ρ', v', .inl ?_, k2, k3, fun hq => by simp [quiet, cls, ho, hc] at hq⟩
      rw [hexec]
      simp only [builtin, Sem.run_bind, k1, Result.andThen_ok, Sem.run_pure]
    · rename_i d s dt st' h1 h2
      rw [h1] at hal
      obtain ⟨⟨v, m'⟩, hv, rfl⟩ := Option.map_eq_some_iff.1 h
      obtain ⟨d', s', e1, hdv, hsv⟩ := hal.two
      have e1 := arr e1
      have e2 := arr h2
      subst e1; subst e2
      obtain ⟨w', ρ', v', k1, k2, k3⟩ := copyV_run hE (st := st') (ty := o.type) hs hv hdv hsv
      refine ⟨w', ρ', v', .inl ?_, k2, k3, fun hq => by simp [quiet, cls, ho, hc] at hq⟩
      rw [hexec]
      simp only [builtin, Sem.run_bind, k1, Result.andThen_ok, Sem.run_pure]
    · cases h
  · cases h

omit hE in
theorem buildSliceV_size {t : TypeId} {len : Nat} {parts : List (Nat × Value)} {v : Value} {m' : Mem} (h : buildSliceV E m t len parts = some (v, m')) : m'.size = m.size + 1 := by
  unfold buildSliceV at h
  split at h
  · split at h
    · split at h
      · obtain ⟨l, _, he⟩ := Option.map_eq_some_iff.1 h
        cases he
        simp
      · cases h
    · cases h
  · cases h

omit hE in
theorem makeV_size {t : TypeId} {l c v : Value} {m' : Mem} (h : makeV E m t l c = some (v, m')) : m'.size = m.size + 1 := by
  unfold makeV at h
  split at h
  · split at h
    · split at h
      · cases h
        simp
      · cases h
    · cases h
  · cases h

/-! ### Maps -/
omit hE in
theorem mapD_spec {t : TypeId} {kt : TypeId} {kd : TypeDesc} {ei : TI} (h : mapD E t = some (kt, kd, ei)) : ∃ et, E.desc t = some (.map kt et) ∧ E.desc kt = some kd ∧ E.ti et = some ei := by
  unfold mapD at h
  split at h
  · rename_i k e hd
    split at h
    · rename_i kd' ei' h1 h2
      cases h
      exact ⟨e, hd, h1, h2⟩
    · cases h
  · cases h
omit hE in
theorem keyD_key {d : TypeDesc} {k : Value} (h : keyD d k = true) : IsKey d k := by
  cases d <;> cases k <;> simp_all [keyD, IsKey]
omit hE in
theorem keyD_rel {d : TypeDesc} {k k' : Value} (h : keyD d k = true) (hk : VRel ρ k k') : k' = k := by
  cases hk <;> first | rfl | (cases d <;> simp_all [keyD])
omit hE in
theorem keyD_ok {d : TypeDesc} {k : Value} (h : keyD d k = true) : keyOk k = true := by
  cases d <;> cases k <;> simp_all [keyD, keyOk]
omit hE in
theorem sameNow_eq {d : TypeDesc} {k k' : Value} (h : Instr.sameNow d k k' = some true) : k = k' := by
  cases d <;> cases k <;> cases k' <;> simp_all [Instr.sameNow, bytes_beq]
omit hE in
theorem findNow_rel {d : TypeDesc} {k : Value} {es es' : List MapEntry} (h : MRel ρ es es') : ∀ {n : Nat} {r : Option (Nat × Value)}, Instr.findNow d k es n = some r →
    ∃ r', Instr.findNow d k es' n = some r' ∧ ((r = none ∧ r' = none) ∨ ∃ i v v' e', r = some (i, v) ∧ r' = some (i, v') ∧ VRel ρ v v' ∧ n ≤ i ∧ es'[i - n]? = some e' ∧ e'.key = k) := by
  induction h with
  | nil => intro n r h; cases h; exact ⟨none, rfl, .inl ⟨rfl, rfl⟩⟩
  | @cons a b l l' hk ho hb hv ht ih =>
    intro n r h
    simp only [Instr.findNow] at h ⊢
    rw [← hk]
    split at h
    · rename_i hs
      cases h
      exact ⟨_, rfl, .inr ⟨n, a.val, b.val, b, rfl, rfl, hv, Nat.le_refl _, by simp, (hk ▸ sameNow_eq hs).symm⟩⟩
    · rename_i hs
      obtain ⟨r', h1, h2⟩ := ih h
      refine ⟨r', h1, ?_⟩
      rcases h2 with h2 | ⟨i, v, v', e', h3, h4, h5, h6, h7, h8⟩
      · exact .inl h2
      · refine .inr ⟨i, v, v', e', h3, h4, h5, by omega, ?_, h8⟩
        rw [show i - n = (i - (n + 1)) + 1 by omega, List.getElem?_cons_succ]
        exact h7
    · cases h
omit hE in
theorem MRel.modify {es es' : List MapEntry} (h : MRel ρ es es') (f g : MapEntry → MapEntry) (hfg : ∀ a b : MapEntry, a.key = b.key → keyOk a.key = true → a.born = b.born → VRel ρ a.val b.val → (f a).key = (g b).key ∧ keyOk (f a).key = true ∧ (f a).born = (g b).born ∧ VRel ρ (f a).val (g b).val) :
    ∀ i, MRel ρ (es.modify i f) (es'.modify i g) := by
  induction h with
  | nil => intro i; cases i <;> exact .nil
  | cons hk ho hb hv ht ih =>
    intro i
    cases i with
    | zero =>
      obtain ⟨h1, h2, h3, h4⟩ := hfg _ _ hk ho hb hv
      exact .cons h1 h2 h3 h4 ht
    | succ i => exact .cons hk ho hb hv (ih i)
omit hE in
theorem MRel.snoc {es es' : List MapEntry} (h : MRel ρ es es') {k v v' : Value} (hk : keyOk k = true) (hv : VRel ρ v v') (b : Nat) : MRel ρ (es ++ [{ key := k, val := v, born := b }]) (es' ++ [{ key := k, val := v', born := b }]) := by
  induction h with
  | nil => exact .cons rfl hk rfl hv .nil
  | cons hk ho hb hv ht ih => exact .cons hk ho hb hv ih
omit hE in
theorem MRel.born {es es' : List MapEntry} (h : MRel ρ es es') (i : Nat) : (es[i]?).map (·.born) = (es'[i]?).map (·.born) := by
  induction h generalizing i with
  | nil => rfl
  | cons hk ho hb hv ht ih =>
    cases i with
    | zero => simp [hb]
    | succ i => simpa using ih i
omit hE in
theorem MRel.idx {es es' : List MapEntry} (h : MRel ρ es es') (b : Int) : es.findIdx? (fun e => (e.born : Int) == b) = es'.findIdx? (fun e => (e.born : Int) == b) := by
  induction h with
  | nil => rfl
  | cons hk ho hb hv ht ih => simp only [List.findIdx?_cons, hb, ih]
omit hE in
theorem Sim.map (hs : Sim C B ρ m w) {r : Nat} {es : List MapEntry} {clock : Nat} {v' : Value} (hm : m.get r = some (.map es clock)) (hx : VRel ρ (.map (some r)) v') : ∃ e es', v' = .map (some e.blk) ∧ ρ r = some e ∧ e.sh = 0 ∧ w.heap[e.blk]? = some (.map es' clock) ∧ MRel ρ es es'.toList := by
  cases hx with
  | @map _ e he hsh =>
    obtain ⟨e', h1, h2, es', h3, h4⟩ := hs.sim.rel r _ hm
    rw [he] at h1
    cases h1
    exact ⟨e, es', rfl, he, hsh, h3, h4⟩
omit hE in
theorem Sim.turnMap (hs : Sim C B ρ m w) {r : Nat} {es : List MapEntry} {clock : Nat} {e : Ent} (hm : m.get r = some (.map es clock)) (he : ρ r = some e) (hsh : e.sh = 0) {es1 : List MapEntry} {c1 : Nat} {es2 : Array MapEntry} (hr : MRel ρ es1 es2.toList) (hlt : e.blk < w.heap.size) :
    Post C B ρ m w ρ (m.put r (some (.map es1 c1))) (w.putObj e.blk (.map es2 c1)) :=
  hs.turn hm rfl he _ rfl rfl rfl (by simp [World.putObj]) (fun k hk => World.putObj_heap_other hk) fun c hc => by
    cases hc
    exact ⟨hsh, es2, World.putObj_heap_same hlt, hr⟩
omit hE in
theorem run_setMap {e : Ent} {es : Array MapEntry} {clock : Nat} (o : Obj) (hb : w.heap[e.blk]? = some (.map es clock)) : (setObj e.blk o).run P w = .ok () (w.putObj e.blk o) := run_setObj_map o hb

theorem lookupV_run (hs : Sim C B ρ m w) {t : TypeId} {x k v x' k' : Value} {ok : Bool} (h : lookupV E m t x k ok = some v) (hx : VRel ρ x x') (hk : VRel ρ k k') : ∃ v', (Instr.lookup t x' k' ok).run P w = .ok v' w ∧ VRel ρ v v' := by
  unfold lookupV at h
  split at h
  · rename_i kt kd ei es hd he
    split at h
    · rename_i hkd
      obtain ⟨et, d1, d2, d3⟩ := mapD_spec hd
      have hkk := keyD_rel hkd hk
      subst hkk
      have hz := (hE.ti et ei d3).zero
      have main : ∀ es' : Array MapEntry, MRel ρ es es'.toList → ∃ v', ((do
          Instr.checkKey es'.isEmpty 10000 kt k'
          let (v, okk) ← match ← Instr.findKey kt k' es'.toList with
            | some (_, v) => pure (v, true)
            | none => pure (← zeroValue et, false)
          pure (if ok then Value.tuple #[v, .bool okk] else v) : Sem Value)).run P w = .ok v' w ∧ VRel ρ v v' := by
        intro es' hr
        have c1 := run_checkKey (P := P) (w := w) (hE.desc d2) (keyD_key hkd) es'.isEmpty 9999
        split at h
        · rename_i i u hf
          cases h
          obtain ⟨r', h1, h2⟩ := findNow_rel hr hf
          rcases h2 with ⟨h2, _⟩ | ⟨i', v1, v2, e', h3, h4, h5, _⟩
          · cases h2
          · cases h3
            subst h4
            refine ⟨if ok then .tuple #[v2, .bool true] else v2, ?_, ?_⟩
            · simp only [Sem.run_bind, c1, Result.andThen_ok, run_findKey (hE.desc d2) h1, Sem.run_pure]
            · cases ok
              · exact h5
              · exact .tuple_of (.cons h5 (.cons (.bool true) .nil))
        · rename_i hf
          cases h
          obtain ⟨r', h1, h2⟩ := findNow_rel hr hf
          rcases h2 with ⟨_, h2⟩ | ⟨i', v1, v2, e', h3, _⟩
          · subst h2
            refine ⟨if ok then .tuple #[ei.zero, .bool false] else ei.zero, ?_, ?_⟩
            · simp only [Sem.run_bind, c1, Result.andThen_ok, run_findKey (hE.desc d2) h1, hE.run_zero d3, Sem.run_pure]
            · cases ok
              · exact .const hz
              · exact .tuple_of (.cons (.const hz) (.cons (.bool false) .nil))
          · cases h3
        · cases h
      unfold entriesV at he
      split at he
      · cases he
        cases hx
        obtain ⟨v', h1, h2⟩ := main #[] .nil
        refine ⟨v', ?_, h2⟩
        rw [← h1]
        simp only [Instr.lookup, Sem.run_bind, hE.run_und d1, Result.andThen_ok, Sem.run_pure]
        rfl
      · rename_i r
        split at he
        · rename_i es0 clock hg
          cases he
          obtain ⟨e, es', rfl, h1, h2, h3, h4⟩ := hs.map hg hx
          obtain ⟨v', h5, h6⟩ := main es' h4
          refine ⟨v', ?_, h6⟩
          rw [← h5]
          simp only [Instr.lookup, Sem.run_bind, hE.run_und d1, Result.andThen_ok, Sem.run_pure, run_getObj_map h3]
          rfl
        · cases he
      · cases he
    · cases h
  · cases h

theorem makeMapV_run (hs : Sim C B ρ m w) (hB : m.size < B) {t : TypeId} {h0 h0' : Option Value} {v : Value} {m' : Mem} (h : makeMapV E m t h0 = some (v, m')) (h1 : ∀ x, h0 = some x → ∃ x', h0' = some x' ∧ VRel ρ x x') (h2 : h0 = none → h0' = none) :
    ∃ w' ρ' v', (Instr.makeMap t h0').run P w = .ok v' w' ∧ Post C B ρ m w ρ' m' w' ∧ VRel ρ' v v' := by
  have key : Post C B ρ m w (ρ.ext m.size ⟨w.heap.size, 0, 0, 0, true⟩) (m.push (.map [] 0)) (w.alloc (.map #[] 0)) :=
    hs.alloc hB (.map [] 0) ⟨w.heap.size, 0, 0, 0, true⟩ (.map #[] 0) rfl ⟨rfl, #[], heap_alloc_new w _, .nil⟩
  have kv : VRel (ρ.ext m.size ⟨w.heap.size, 0, 0, 0, true⟩) (.map (some m.size)) (.map (some w.heap.size)) := .map (e := ⟨w.heap.size, 0, 0, 0, true⟩) (by simp [Inj.ext]) rfl
  unfold makeMapV at h
  split at h
  · cases h
    rw [h2 rfl]
    exact ⟨_, _, _, by simp [Instr.makeMap], key, kv⟩
  · rename_i r k n hd
    cases h
    obtain ⟨x, rfl, hx⟩ := h1 _ rfl
    cases hx
    obtain ⟨⟨kt, kd, ei⟩, hd'⟩ : ∃ p, mapD E t = some p := ⟨_, hd⟩
    obtain ⟨et, d1, _⟩ := mapD_spec hd'
    exact ⟨_, _, _, by simp [Instr.makeMap, hE.run_und d1, asInt, asIntOf], key, kv⟩
  · cases h

theorem mapUpdateV_run (hs : Sim C B ρ m w) {t : TypeId} {x k v x' k' v' : Value} {m' : Mem} (h : mapUpdateV E m t x k v = some m') (hx : VRel ρ x x') (hk : VRel ρ k k') (hv : VRel ρ v v') : ∃ w', (Instr.mapUpdate t x' k' v').run P w = .ok () w' ∧ Post C B ρ m w ρ m' w' := by
  unfold mapUpdateV at h
  split at h
  · rename_i kt kd ei r hd
    split at h
    · rename_i es clock hg
      split at h
      · rename_i hkd
        obtain ⟨et, d1, d2, d3⟩ := mapD_spec hd
        have hkk := keyD_rel hkd hk
        subst hkk
        obtain ⟨e, es', rfl, e1, e2, e3, e4⟩ := hs.map hg hx
        have hlt := (Array.getElem?_eq_some_iff.1 e3).1
        have c1 := run_checkKey (P := P) (w := w) (hE.desc d2) (keyD_key hkd) false 9999
        split at h
        · rename_i i u hf
          cases h
          obtain ⟨r', h1, h2⟩ := findNow_rel e4 hf
          rcases h2 with ⟨h2, _⟩ | ⟨i', v1, v2, en, h3, h4, h5, h6, h7, h8⟩
          · cases h2
          · cases h3
            subst h4
            have hget : es'[i]? = some en := by simpa using h7
            refine ⟨_, ?_, hs.turnMap (es2 := es'.modify i fun e => { e with key := k', val := v' }) (c1 := clock) hg e1 e2 ?_ hlt⟩
            · simp only [Instr.mapUpdate, Sem.run_bind, hE.run_und d1, Result.andThen_ok, run_getObj_map e3, c1, run_findKey (hE.desc d2) h1, hget, Option.map_some, Option.getD_some, h8, run_keyThatStays (keyD_key hkd), run_setMap _ e3]
            · rw [Array.toList_modify]
              exact e4.modify (fun e => { e with key := k', val := v }) (fun e => { e with key := k', val := v' }) (fun a b _ _ hb _ => ⟨rfl, keyD_ok hkd, hb, hv⟩) i
        · rename_i hf
          cases h
          obtain ⟨r', h1, h2⟩ := findNow_rel e4 hf
          rcases h2 with ⟨_, h2⟩ | ⟨i', v1, v2, en, h3, _⟩
          · subst h2
            refine ⟨_, ?_, hs.turnMap (es2 := es'.push { key := k', val := v', born := clock }) (c1 := clock + 1) hg e1 e2 ?_ hlt⟩
            · simp only [Instr.mapUpdate, Sem.run_bind, hE.run_und d1, Result.andThen_ok, run_getObj_map e3, c1, run_findKey (hE.desc d2) h1, run_setMap _ e3]
            · rw [Array.toList_push]
              exact e4.snoc (keyD_ok hkd) hv clock
          · cases h3
        · cases h
      · cases h
    · cases h
  · cases h

theorem mapEntryV_run (hs : Sim C B ρ m w) {t : TypeId} {x k v x' k' : Value} {m' : Mem} (h : mapEntryV E m t x k = some (v, m')) (hx : VRel ρ x x') (hk : VRel ρ k k') : ∃ w' v', (Instr.mapEntry t x' k').run P w = .ok v' w' ∧ Post C B ρ m w ρ m' w' ∧ VRel ρ v v' := by
  unfold mapEntryV at h
  split at h
  · rename_i kt kd ei r hd
    split at h
    · rename_i es clock hg
      split at h
      · rename_i hkd
        obtain ⟨et, d1, d2, d3⟩ := mapD_spec hd
        have hkk := keyD_rel hkd hk
        subst hkk
        obtain ⟨e, es', rfl, e1, e2, e3, e4⟩ := hs.map hg hx
        have hlt := (Array.getElem?_eq_some_iff.1 e3).1
        have c1 := run_checkKey (P := P) (w := w) (hE.desc d2) (keyD_key hkd) false 9999
        have hz := (hE.ti et ei d3).zero
        split at h
        · rename_i i u hf
          cases h
          obtain ⟨r', h1, h2⟩ := findNow_rel e4 hf
          rcases h2 with ⟨h2, _⟩ | ⟨i', v1, v2, en, h3, h4, h5, h6, h7, h8⟩
          · cases h2
          · cases h3
            subst h4
            have hget : es'[i]? = some en := by simpa using h7
            have hbn : ((es[i]?).map (·.born)).getD 0 = en.born := by rw [e4.born i]; simp [hget]
            refine ⟨_, .tuple #[v2, .int .i64 ((en.born : Nat) : Int)], ?_, hs.turnMap (es2 := es'.modify i fun e => { e with key := k' }) (c1 := clock) hg e1 e2 ?_ hlt, ?_⟩
            · simp only [Instr.mapEntry, Sem.run_bind, hE.run_und d1, Result.andThen_ok, run_getObj_map e3, c1, run_findKey (hE.desc d2) h1, hget, Option.map_some, Option.getD_some, h8, run_keyThatStays (keyD_key hkd), run_setMap _ e3, Sem.run_pure, goInt]
            · rw [Array.toList_modify]
              exact e4.modify (fun e => { e with key := k' }) (fun e => { e with key := k' }) (fun a b _ _ hb hv => ⟨rfl, keyD_ok hkd, hb, hv⟩) i
            · rw [hbn]
              exact .tuple_of (.cons h5 (.cons (.int .i64 _) .nil))
        · rename_i hf
          cases h
          obtain ⟨r', h1, h2⟩ := findNow_rel e4 hf
          rcases h2 with ⟨_, h2⟩ | ⟨i', v1, v2, en, h3, _⟩
          · subst h2
            refine ⟨_, .tuple #[ei.zero, .int .i64 ((clock : Nat) : Int)], ?_, hs.turnMap (es2 := es'.push { key := k', val := ei.zero, born := clock }) (c1 := clock + 1) hg e1 e2 ?_ hlt, ?_⟩
            · simp only [Instr.mapEntry, Sem.run_bind, hE.run_und d1, Result.andThen_ok, run_getObj_map e3, c1, run_findKey (hE.desc d2) h1, hE.run_zero d3, run_setMap _ e3, Sem.run_pure, goInt]
            · rw [Array.toList_push]
              exact e4.snoc (keyD_ok hkd) (.const hz) clock
            · exact .tuple_of (.cons (.const hz) (.cons (.int .i64 _) .nil))
          · cases h3
        · cases h
      · cases h
    · cases h
  · cases h

omit hE in
theorem entryStoreV_run (hs : Sim C B ρ m w) {t : TypeId} {x s v x' s' v' : Value} {m' : Mem} (h : entryStoreV m x s v = some m') (hx : VRel ρ x x') (hk : VRel ρ s s') (hv : VRel ρ v v') : ∃ w', (Instr.entryStore t x' s' v').run P w = .ok () w' ∧ Post C B ρ m w ρ m' w' := by
  unfold entryStoreV at h
  split at h
  · rename_i r born hb
    split at h
    · rename_i es clock hg
      split at h
      · rename_i i hf
        cases h
        obtain ⟨e, es', rfl, e1, e2, e3, e4⟩ := hs.map hg hx
        have hlt := (Array.getElem?_eq_some_iff.1 e3).1
        have hsb : ∃ k, s' = .int k born := by
          unfold asI at hb
          split at hb
          · cases hb; cases hk; exact ⟨_, rfl⟩
          · cases hb
        obtain ⟨k, rfl⟩ := hsb
        have hf' : es'.findIdx? (fun e => (e.born : Int) == born) = some i := by
          rw [← hf, e4.idx born]
          cases es'
          simp
        refine ⟨_, ?_, hs.turnMap (es2 := es'.modify i fun e => { e with val := v' }) (c1 := clock) hg e1 e2 ?_ hlt⟩
        · simp only [Instr.entryStore, Sem.run_bind, Result.andThen_ok, run_getObj_map e3, asInt, asIntOf, Sem.run_pure, hf', run_setMap _ e3]
        · rw [Array.toList_modify]
          exact e4.modify (fun e => { e with val := v }) (fun e => { e with val := v' }) (fun a b ha ho hb _ => ⟨ha, ho, hb, hv⟩) i
      · cases h
    · cases h
  · cases h

omit hE in
theorem makeMapV_size {t : TypeId} {h0 : Option Value} {v : Value} {m' : Mem} (h : makeMapV E m t h0 = some (v, m')) : m'.size = m.size + 1 := by
  unfold makeMapV at h
  split at h
  · cases h; simp
  · cases h; simp
  · cases h

theorem opV_run (hs : Sim C B ρ m w) {o : Oper} {r r' : Operand → Value} {st : Step} (h : opV E o r m = some st) (hB : ∀ v m', st = .val v m' → m.size < m'.size → m'.size ≤ B) (hr : ∀ x ∈ o.op.operands.toList, VRel ρ (r x) (r' x)) : StepRel C B P E ρ m w o r' st := by
  have hB1 : ∀ v m', st = .val v m' → m'.size = m.size + 1 → m.size < B := fun v m' h1 h2 => by have := hB v m' h1 (by omega); omega
  unfold opV at h
  split at h
  · rename_i x ho
    cases h
    exact ⟨w, ρ, _, .inl (by simp only [execOp, ho]; rfl), Post.refl hs, hr x (by simp [ho, Op.operands]), fun _ => ⟨rfl, rfl⟩⟩
  · rename_i x ho
    cases h
    exact ⟨w, ρ, _, .inl (by simp only [execOp, ho]; rfl), Post.refl hs, hr x (by simp [ho, Op.operands]), fun _ => ⟨rfl, rfl⟩⟩
  · rename_i c a b ho
    split at h
    · rename_i p hp
      cases h
      have hc := hr c (by simp [ho, Op.operands])
      rw [hp] at hc
      have hc' : r' c = .bool p := by
        generalize r' c = y at hc
        cases hc; rfl
      refine ⟨w, ρ, if p then r' a else r' b, .inl ?_, Post.refl hs, ?_, fun _ => ⟨rfl, rfl⟩⟩
      · simp only [execOp, ho, hc', asBool, Sem.run_bind, Sem.run_pure, Result.andThen_ok]
      · cases p
        · exact hr b (by simp [ho, Op.operands])
        · exact hr a (by simp [ho, Op.operands])
    · cases h
  · rename_i t ho
    obtain ⟨i, hi, rfl⟩ := Option.map_eq_some_iff.1 h
    obtain ⟨w', ρ', v', k1, k2, k3⟩ := alloc_run hE hs (hB1 _ _ rfl (by simp [newBlock])) hi
    exact ⟨w', ρ', v', .inl (by simp only [execOp, ho, Sem.run_bind, k1, Result.andThen_ok, Sem.run_pure]), k2, k3, fun hq => by simp [quiet, cls, ho] at hq⟩
  · rename_i t x ho
    cases h
    obtain ⟨w', ρ', v', k1, k2, k3⟩ := box_run (P := P) hs (hB1 _ _ rfl (by simp [newBlock])) t (hr x (by simp [ho, Op.operands]))
    exact ⟨w', ρ', v', .inl (by simp only [execOp, ho, Sem.run_bind, k1, Result.andThen_ok, Sem.run_pure]), k2, k3, fun hq => by simp [quiet, cls, ho] at hq⟩
  · rename_i t parts ho
    obtain ⟨v, hv, rfl⟩ := Option.map_eq_some_iff.1 h
    have hp := parts_rel (ρ := ρ) (r := r) (r' := r') parts fun x hx => hr x.2 (by simp only [ho, Op.operands]; exact List.mem_map.2 ⟨x, hx, rfl⟩)
    obtain ⟨v', k1, k2⟩ := buildV_run hE (w := w) hv hp
    have e : (parts.map fun (i, x) => (i, r' x)) = (parts.toList.map fun (i, x) => (i, r' x)).toArray := by
      apply Array.toList_inj.1
      simp
    exact ⟨w, ρ, v', .inl (by simp only [execOp, ho, Sem.run_bind, e, k1, Result.andThen_ok, Sem.run_pure]), Post.refl hs, k2, fun _ => ⟨rfl, rfl⟩⟩
  · rename_i t len parts ho
    obtain ⟨⟨v, m'⟩, hv, rfl⟩ := Option.map_eq_some_iff.1 h
    have hp := parts_rel (ρ := ρ) (r := r) (r' := r') parts fun x hx => hr x.2 (by simp only [ho, Op.operands]; exact List.mem_map.2 ⟨x, hx, rfl⟩)
    obtain ⟨w', ρ', v', k1, k2, k3⟩ := buildSliceV_run hE hs (hB1 _ _ rfl (buildSliceV_size hv)) hv hp
    have e : (parts.map fun (i, x) => (i, r' x)) = (parts.toList.map fun (i, x) => (i, r' x)).toArray := by
      apply Array.toList_inj.1
      simp
    exact ⟨w', ρ', v', .inl (by simp only [execOp, ho, Sem.run_bind, e, k1, Result.andThen_ok, Sem.run_pure]), k2, k3, fun hq => by simp [quiet, cls, ho] at hq⟩
  · rename_i t a ho
    obtain ⟨v, hv, rfl⟩ := Option.map_eq_some_iff.1 h
    obtain ⟨v', k1, k2⟩ := loadV_run hE hs hv (hr a (by simp [ho, Op.operands]))
    exact ⟨w, ρ, v', .inl (by simp only [execOp, ho, Sem.run_bind, k1, Result.andThen_ok, Sem.run_pure]), Post.refl hs, k2, fun _ => ⟨rfl, rfl⟩⟩
  · rename_i t a x ho
    obtain ⟨m', hm, rfl⟩ := Option.map_eq_some_iff.1 h
    obtain ⟨w', k1, k2⟩ := storeV_run hE hs hm (hr a (by simp [ho, Op.operands])) (hr x (by simp [ho, Op.operands]))
    exact ⟨w', ρ, undef, .inr ⟨by simp only [execOp, ho, Sem.run_bind, k1, Result.andThen_ok, Sem.run_pure], rfl⟩, k2, .undef, fun hq => by simp [quiet, cls, ho] at hq⟩
  · rename_i x ho
    split at h
    · rename_i hn
      cases h
      have hx := hr x (by simp [ho, Op.operands])
      refine ⟨w, ρ, r' x, .inl ?_, Post.refl hs, hx, fun _ => ⟨rfl, rfl⟩⟩
      generalize hy : r' x = y at hx
      unfold nilOk at hn
      simp only [execOp, ho, hy]
      split at hn
      · rename_i a hrx
        rw [hrx] at hx
        cases hx
        rfl
      · rename_i f b c hrx
        rw [hrx] at hx
        obtain ⟨fn', a', b', he, hfr, ha, hb⟩ := hx.func_inv
        cases hfr
        subst he
        rfl
      · rename_i l b c hrx
        rw [hrx] at hx
        obtain ⟨fn', a', b', he, hfr, ha, hb⟩ := hx.func_inv
        cases hfr
        subst he
        rfl
      · cases hn
    · cases h
  · rename_i op t x y yt ho
    obtain ⟨v, hv, rfl⟩ := Option.map_eq_some_iff.1 h
    obtain ⟨v', k1, k2⟩ := binV_run hE (w := w) hv (hr x (by simp [ho, Op.operands])) (hr y (by simp [ho, Op.operands])) x y
    refine ⟨w, ρ, v', .inl ?_, Post.refl hs, k2, fun _ => ⟨rfl, rfl⟩⟩
    simp only [execOp, ho]
    rw [Sem.run_bind, k1]
    rfl
  · rename_i op t x ho
    obtain ⟨v, hv, rfl⟩ := Option.map_eq_some_iff.1 h
    obtain ⟨v', k1, k2⟩ := unV_run (P := P) (w := w) hv (hr x (by simp [ho, Op.operands]))
    exact ⟨w, ρ, v', .inl (by simp only [execOp, ho, Sem.run_bind, k1, Result.andThen_ok, Sem.run_pure]), Post.refl hs, k2, fun _ => ⟨rfl, rfl⟩⟩
  · rename_i s d x ho
    obtain ⟨⟨v, m'⟩, hv, rfl⟩ := Option.map_eq_some_iff.1 h
    obtain ⟨w', ρ', v', k1, k2, k3, k4⟩ := convV_run hE hs hv (hr x (by simp [ho, Op.operands]))
    refine ⟨w', ρ', v', .inl (by simp only [execOp, ho, Sem.run_bind, k1, Result.andThen_ok, Sem.run_pure]), k2, k3, fun hq => k4 fun e e' h1 h2 => ?_⟩
    simp [quiet, cls, ho, h1, h2] at hq
  · rename_i fn first captured ho
    split at h
    · rename_i g
      cases h
      refine ⟨w, ρ, .func (.func g) (first.map r') (captured.map r'), .inl (by simp only [execOp, ho, Instr.makeFunc, Sem.run_bind, Sem.run_pure, Result.andThen_ok]), Post.refl hs, .func_of (.func g) (ARel.map _ fun x hx => hr x (by simp [ho, Op.operands, hx])) (ARel.map _ fun x hx => hr x (by simp [ho, Op.operands, hx])), fun _ => ⟨rfl, rfl⟩⟩
    · cases h
  · rename_i t l c ho
    obtain ⟨⟨v, m'⟩, hv, rfl⟩ := Option.map_eq_some_iff.1 h
    obtain ⟨w', ρ', v', k1, k2, k3⟩ := makeV_run hE hs (hB1 _ _ rfl (makeV_size hv)) hv (hr l (by simp [ho, Op.operands])) (hr c (by simp [ho, Op.operands]))
    exact ⟨w', ρ', v', .inl (by simp only [execOp, ho, Sem.run_bind, k1, Result.andThen_ok, Sem.run_pure]), k2, k3, fun hq => by simp [quiet, cls, ho] at hq⟩
  · rename_i t x lo hi ho
    obtain ⟨v, hv, rfl⟩ := Option.map_eq_some_iff.1 h
    have h1 := optOp (ρ := ρ) (r := r) (r' := r') (x := lo) fun o ho' => hr o (by simp [ho, Op.operands, ho'])
    have h2 := optOp (ρ := ρ) (r := r) (r' := r') (x := hi) fun o ho' => hr o (by simp [ho, Op.operands, ho'])
    obtain ⟨v', k1, k2⟩ := sliceV_run hE (w := w) hv (hr x (by simp [ho, Op.operands])) h1.1 h1.2 h2.1 h2.2
    refine ⟨w, ρ, v', .inl ?_, Post.refl hs, k2, fun _ => ⟨rfl, rfl⟩⟩
    simp only [execOp, ho, Sem.run_bind, Option.map_none, k1, Result.andThen_ok, Sem.run_pure]
  · rename_i t x lo hi mx ho
    obtain ⟨v, hv, rfl⟩ := Option.map_eq_some_iff.1 h
    have h1 := optOp (ρ := ρ) (r := r) (r' := r') (x := lo) fun o ho' => hr o (by simp [ho, Op.operands, ho'])
    obtain ⟨v', k1, k2⟩ := slice3V_run hE (w := w) hv (hr x (by simp [ho, Op.operands])) h1.1 h1.2 (hr hi (by simp [ho, Op.operands])) (hr mx (by simp [ho, Op.operands]))
    refine ⟨w, ρ, v', .inl ?_, Post.refl hs, k2, fun _ => ⟨rfl, rfl⟩⟩
    simp only [execOp, ho, Sem.run_bind, Option.map_some, k1, Result.andThen_ok, Sem.run_pure]
  · rename_i t x f ho
    obtain ⟨v, hv, rfl⟩ := Option.map_eq_some_iff.1 h
    obtain ⟨v', k1, k2⟩ := fieldAddrV_run hE (w := w) hv (hr x (by simp [ho, Op.operands]))
    exact ⟨w, ρ, v', .inl (by simp only [execOp, ho, Sem.run_bind, k1, Result.andThen_ok, Sem.run_pure]), Post.refl hs, k2, fun _ => ⟨rfl, rfl⟩⟩
  · rename_i t x f ho
    obtain ⟨v, hv, rfl⟩ := Option.map_eq_some_iff.1 h
    obtain ⟨v', k1, k2⟩ := fieldV_run hE (w := w) hv (hr x (by simp [ho, Op.operands]))
    exact ⟨w, ρ, v', .inl (by simp only [execOp, ho, Sem.run_bind, k1, Result.andThen_ok, Sem.run_pure]), Post.refl hs, k2, fun _ => ⟨rfl, rfl⟩⟩
  · rename_i t x i ho
    obtain ⟨v, hv, rfl⟩ := Option.map_eq_some_iff.1 h
    obtain ⟨v', k1, k2⟩ := indexAddrV_run hE (w := w) hv (hr x (by simp [ho, Op.operands])) (hr i (by simp [ho, Op.operands]))
    exact ⟨w, ρ, v', .inl (by simp only [execOp, ho, Sem.run_bind, k1, Result.andThen_ok, Sem.run_pure]), Post.refl hs, k2, fun _ => ⟨rfl, rfl⟩⟩
  · rename_i t x i ho
    obtain ⟨v, hv, rfl⟩ := Option.map_eq_some_iff.1 h
    obtain ⟨v', k1, k2⟩ := indexV_run hE (w := w) hv (hr x (by simp [ho, Op.operands])) (hr i (by simp [ho, Op.operands]))
    exact ⟨w, ρ, v', .inl (by simp only [execOp, ho, Sem.run_bind, k1, Result.andThen_ok, Sem.run_pure]), Post.refl hs, k2, fun _ => ⟨rfl, rfl⟩⟩
  · rename_i x i ho
    split at h
    · rename_i vs hvs
      obtain ⟨v, hv, rfl⟩ := Option.map_eq_some_iff.1 h
      have hx := hr x (by simp [ho, Op.operands])
      rw [hvs] at hx
      obtain ⟨vs', he, ha⟩ := hx.tuple_inv
      obtain ⟨v', k1, k2⟩ := ha.get hv
      exact ⟨w, ρ, v', .inl (by simp only [execOp, ho, he, Instr.extract, k1, Sem.run_bind, Result.andThen_ok, Sem.run_pure]), Post.refl hs, k2, fun _ => ⟨rfl, rfl⟩⟩
    · cases h
  · rename_i c ho
    exact callV_run hE hs h hB o ho (by simpa [ho, Op.operands] using hr)
  · rename_i t hint ho
    obtain ⟨⟨v, m'⟩, hv, rfl⟩ := Option.map_eq_some_iff.1 h
    have h1 := optOp (ρ := ρ) (r := r) (r' := r') (x := hint) fun o ho' => hr o (by simp [ho, Op.operands, ho'])
    obtain ⟨w', ρ', v', k1, k2, k3⟩ := makeMapV_run hE hs (hB1 _ _ rfl (makeMapV_size hv)) hv h1.1 h1.2
    exact ⟨w', ρ', v', .inl (by simp only [execOp, ho, Sem.run_bind, k1, Result.andThen_ok, Sem.run_pure]), k2, k3, fun hq => by simp [quiet, cls, ho] at hq⟩
  · rename_i t x k ok ho
    obtain ⟨v, hv, rfl⟩ := Option.map_eq_some_iff.1 h
    obtain ⟨v', k1, k2⟩ := lookupV_run hE hs hv (hr x (by simp [ho, Op.operands])) (hr k (by simp [ho, Op.operands]))
    exact ⟨w, ρ, v', .inl (by simp only [execOp, ho, Sem.run_bind, k1, Result.andThen_ok, Sem.run_pure]), Post.refl hs, k2, fun _ => ⟨rfl, rfl⟩⟩
  · rename_i t x k v ho
    obtain ⟨m', hm, rfl⟩ := Option.map_eq_some_iff.1 h
    obtain ⟨w', k1, k2⟩ := mapUpdateV_run hE hs hm (hr x (by simp [ho, Op.operands])) (hr k (by simp [ho, Op.operands])) (hr v (by simp [ho, Op.operands]))
    exact ⟨w', ρ, undef, .inr ⟨by simp only [execOp, ho, Sem.run_bind, k1, Result.andThen_ok, Sem.run_pure], rfl⟩, k2, .undef, fun hq => by simp [quiet, cls, ho] at hq⟩
  · rename_i t x k ho
    obtain ⟨⟨v, m'⟩, hv, rfl⟩ := Option.map_eq_some_iff.1 h
    obtain ⟨w', v', k1, k2, k3⟩ := mapEntryV_run hE hs hv (hr x (by simp [ho, Op.operands])) (hr k (by simp [ho, Op.operands]))
    exact ⟨w', ρ, v', .inl (by simp only [execOp, ho, Sem.run_bind, k1, Result.andThen_ok, Sem.run_pure]), k2, k3, fun hq => by simp [quiet, cls, ho] at hq⟩
  · rename_i t x s v ho
    obtain ⟨m', hm, rfl⟩ := Option.map_eq_some_iff.1 h
    obtain ⟨w', k1, k2⟩ := entryStoreV_run (P := P) (t := t) hs hm (hr x (by simp [ho, Op.operands])) (hr s (by simp [ho, Op.operands])) (hr v (by simp [ho, Op.operands]))
    exact ⟨w', ρ, undef, .inr ⟨by simp only [execOp, ho, Sem.run_bind, k1, Result.andThen_ok, Sem.run_pure], rfl⟩, k2, .undef, fun hq => by simp [quiet, cls, ho] at hq⟩
  · cases h

end ops
end Go.Abs
