/-
  Ranges over a map, and a map's length: beside the executor, on the real side: what holds behind code in whatever order a map is gone over; maps with keys of one kind, seen as functions.
-/
import Derived.Test.YthlcbacmbcmgfaaAbs30
import Derived.Maps.RangeRun
namespace Go.Abs
section range_
variable {C : FuncId → Code → Prop} {P : Program} {E : Env}

/-- For a round over a map: nothing that was there is written, and nothing but cells is looked at. -/
def Mem.roAll (m : Mem) : Mem := ⟨m.bl.map fun b => match b with | some (.cells _ t cs) => some (.cells true t cs) | _ => none⟩

/-- An operation that looks at a map as a whole. -/
def mapOp (E : Env) : Op → Bool
  | .range .. | .next .. | .entry .. => true
  | .call c => match c.callee with
    | .builtin .len => c.argTypes.toList.any fun t => match E.desc t with
      | some (.map ..) => true
      | _ => false
    | _ => false
  | _ => false

/-- A range over a map, as it is compiled. -/
def rangeC (d0 it a b e id id2 : Nat) (ty : TypeId) (x : Operand) (l : List MO) (tail : MC) : MC :=
  .seq (.ops [⟨some d0, .move x, none⟩, ⟨some it, .range ty (.tmp d0), none⟩])
    (.block id (.loop (.seq (.ops [⟨some a, .next (.tmp it) false, none⟩, ⟨some b, .extract (.tmp a) 0, none⟩])
      (.seq (.cond (.tmp b) .skip (.exit id)) (.block id2 (.seq (.ops (⟨some e, .entry (.tmp it), none⟩ :: l)) tail))))))
def rangeW (d0 it a b e : Nat) (l : List MO) (tail : MC) : List Nat := d0 :: it :: a :: b :: e :: (l.filterMap (·.d) ++ writes tail)

/-- Operations among which a map's length may be asked. -/
inductive WpOX (E : Env) : List MO → (Fr → Mem → Prop) → Fr → Mem → Prop
  | o {l : List MO} {K : Fr → Mem → Prop} {t : Fr} {m : Mem} (h : wpO E l K t m) : WpOX E l K t m
  | app {l l' : List MO} {K : Fr → Mem → Prop} {t : Fr} {m : Mem} (J : Fr → Mem → Prop) (h : WpOX E l J t m) (k : ∀ t m, J t m → WpOX E l' K t m) : WpOX E (l ++ l') K t m
  | len {l : List MO} {K : Fr → Mem → Prop} {t : Fr} {m : Mem} {d : Nat} {x : Nat} {ty kt et : TypeId} {g : Option (Option Nat × Bool)} {mb : Nat} {es : List MapEntry} {clock : Nat} (hx : t x = .map (some mb)) (hm : m.get mb = some (.map es clock)) (hd : E.desc ty = some (.map kt et))
      (hy : wantedF g t = true → WpOX E l K (upd t d (.int .i64 es.length)) m) (hn : wantedF g t = false → WpOX E l K (upd t d undef) m) : WpOX E (⟨some d, .call ⟨.builtin .len, #[.tmp x], #[ty]⟩, g⟩ :: l) K t m

/-- What holds behind code in which maps may be gone over. -/
inductive WpX (E : Env) (f : FuncId) (n : Nat) : MC → Post3 → Fr → Mem → Prop
  | m {c : MC} {K : Post3} {t : Fr} {m : Mem} (h : wpM E f n none c K t m) : WpX E f n c K t m
  | seq {a b : MC} {K : Post3} {t : Fr} {m : Mem} (J : Fr → Mem → Prop) (h : WpX E f n a (seqK J K) t m) (k : ∀ t m, J t m → WpX E f n b K t m) : WpX E f n (.seq a b) K t m
  | cond {c : Operand} {a b : MC} {K : Post3} {t : Fr} {m : Mem} (p : Bool) (hp : evF t c = .bool p) (h1 : p = true → WpX E f n a K t m) (h2 : p = false → WpX E f n b K t m) : WpX E f n (.cond c a b) K t m
  | block {id : Nat} {b : MC} {K : Post3} {t : Fr} {m : Mem} (h : WpX E f n b (blockK id K) t m) : WpX E f n (.block id b) K t m
  | loop {b : MC} {K : Post3} {t : Fr} {m : Mem} (I : Nat → Fr → Mem → Prop) (k0 : Nat) (h0 : I k0 t m) (h : ∀ k t m, I k t m → WpX E f n b (seqK (fun t' m' => ∃ j, j < k ∧ I j t' m') K) t m) : WpX E f n (.loop b) K t m
  | opsX {l : List MO} {K : Post3} {t : Fr} {m : Mem} (hl : ∃ o ∈ l, mapOp E o.op = true) (h : WpOX E l (K .normal) t m) : WpX E f n (.ops l) K t m
  | range {d0 it a b e id id2 : Nat} {ty : TypeId} {x : Operand} {l : List MO} {tail : MC} {K : Post3} {t : Fr} {m : Mem} {mb : Nat} {es : List MapEntry} {clock : Nat} {ku : TypeId × TypeDesc × TI}
      (hx : evF t x = .map (some mb)) (hm : m.get mb = some (.map es clock)) (hd : mapD E ty = some ku) (hn : (es.map (·.born)).Nodup) (hc : ∀ en ∈ es, en.born < clock)
      (hne : it ≠ a ∧ it ≠ b ∧ it ≠ e ∧ a ≠ b ∧ it ≠ d0 ∧ (∀ i ∈ l.filterMap (·.d) ++ writes tail, i ≠ it))
      (hr : ∀ en ∈ es, ∀ tg m', Old m m' → Agree (rangeW d0 it a b e l tail) t tg → wpM E f n none (.seq (.ops l) tail) (fun x _ _ => x = .normal) (upd tg e (.tuple #[en.key, en.val])) m'.roAll)
      (hk : ∀ tg m', Old m m' → Agree (rangeW d0 it a b e l tail) t tg → K .normal tg m') : WpX E f n (rangeC d0 it a b e id id2 ty x l tail) K t m

/-! ### Code back from compact code -/
theorem compile_seq {f n : Nat} {c : Code} {a b : MC} (h : compile E f n c = some (.seq a b)) : ∃ x y, c = .seq x y ∧ compile E f n x = some a ∧ compile E f n y = some b := by
  cases c with
  | seq x y =>
    simp only [compile] at h
    split at h
    · rename_i a' b' ha hb
      cases h
      exact ⟨x, y, rfl, ha, hb⟩
    · cases h
  | region id ops draw => simp only [compile] at h; split at h <;> split at h <;> (try split at h) <;> cases h
  | block id b => simp only [compile] at h; obtain ⟨_, _, h⟩ := Option.map_eq_some_iff.1 h; cases h
  | loop b => simp only [compile] at h; obtain ⟨_, _, h⟩ := Option.map_eq_some_iff.1 h; cases h
  | cond c x y => simp only [compile] at h; split at h <;> cases h
  | _ => cases h
theorem compile_cond {f n : Nat} {c : Code} {o : Operand} {a b : MC} (h : compile E f n c = some (.cond o a b)) : ∃ x y, c = .cond o x y ∧ compile E f n x = some a ∧ compile E f n y = some b := by
  cases c with
  | cond c x y =>
    simp only [compile] at h
    split at h
    · rename_i a' b' ha hb
      cases h
      exact ⟨x, y, rfl, ha, hb⟩
    · cases h
  | region id ops draw => simp only [compile] at h; split at h <;> split at h <;> (try split at h) <;> cases h
  | block id b => simp only [compile] at h; obtain ⟨_, _, h⟩ := Option.map_eq_some_iff.1 h; cases h
  | loop b => simp only [compile] at h; obtain ⟨_, _, h⟩ := Option.map_eq_some_iff.1 h; cases h
  | seq x y => simp only [compile] at h; split at h <;> cases h
  | _ => cases h
theorem compile_block {f n : Nat} {c : Code} {id : Nat} {b : MC} (h : compile E f n c = some (.block id b)) : ∃ x, c = .block id x ∧ compile E f n x = some b := by
  cases c with
  | block id x =>
    simp only [compile] at h
    obtain ⟨b', hb, h⟩ := Option.map_eq_some_iff.1 h
    cases h
    exact ⟨x, rfl, hb⟩
  | region id ops draw => simp only [compile] at h; split at h <;> split at h <;> (try split at h) <;> cases h
  | loop b => simp only [compile] at h; obtain ⟨_, _, h⟩ := Option.map_eq_some_iff.1 h; cases h
  | seq x y => simp only [compile] at h; split at h <;> cases h
  | cond c x y => simp only [compile] at h; split at h <;> cases h
  | _ => cases h
theorem compile_loop {f n : Nat} {c : Code} {b : MC} (h : compile E f n c = some (.loop b)) : ∃ x, c = .loop x ∧ compile E f n x = some b := by
  cases c with
  | loop x =>
    simp only [compile] at h
    obtain ⟨b', hb, h⟩ := Option.map_eq_some_iff.1 h
    cases h
    exact ⟨x, rfl, hb⟩
  | region id ops draw => simp only [compile] at h; split at h <;> split at h <;> (try split at h) <;> cases h
  | block id b => simp only [compile] at h; obtain ⟨_, _, h⟩ := Option.map_eq_some_iff.1 h; cases h
  | seq x y => simp only [compile] at h; split at h <;> cases h
  | cond c x y => simp only [compile] at h; split at h <;> cases h
  | _ => cases h
theorem compile_skip {f n : Nat} {c : Code} (h : compile E f n c = some .skip) : c = .skip := by
  cases c with
  | skip => rfl
  | region id ops draw => simp only [compile] at h; split at h <;> split at h <;> (try split at h) <;> cases h
  | block id b => simp only [compile] at h; obtain ⟨_, _, h⟩ := Option.map_eq_some_iff.1 h; cases h
  | loop b => simp only [compile] at h; obtain ⟨_, _, h⟩ := Option.map_eq_some_iff.1 h; cases h
  | seq x y => simp only [compile] at h; split at h <;> cases h
  | cond c x y => simp only [compile] at h; split at h <;> cases h
  | _ => cases h
theorem compile_exit {f n : Nat} {c : Code} {id : Nat} (h : compile E f n c = some (.exit id)) : c = .exit id := by
  cases c with
  | exit i => cases h; rfl
  | region id ops draw => simp only [compile] at h; split at h <;> split at h <;> (try split at h) <;> cases h
  | block id b => simp only [compile] at h; obtain ⟨_, _, h⟩ := Option.map_eq_some_iff.1 h; cases h
  | loop b => simp only [compile] at h; obtain ⟨_, _, h⟩ := Option.map_eq_some_iff.1 h; cases h
  | seq x y => simp only [compile] at h; split at h <;> cases h
  | cond c x y => simp only [compile] at h; split at h <;> cases h
  | _ => cases h

/-- What a range over a map does, and its length, stands in regions of one order. -/
def mapsOk (E : Env) : Code → Bool
  | .region _ ops draw => !draw || ops.toList.all fun o => !mapOp E o.op
  | .seq a b => mapsOk E a && mapsOk E b
  | .cond _ a b => mapsOk E a && mapsOk E b
  | .block _ b | .loop b => mapsOk E b
  | _ => true
/-- A region of one order. -/
theorem compile_ops {f n : Nat} {c : Code} {l : List MO} (h : compile E f n c = some (.ops l)) (hm : mapsOk E c = true) (hl : ∃ o ∈ l, mapOp E o.op = true) :
    ∃ id ops, c = .region id ops false ∧ ops.toList.all (dstOk n) = true ∧ l = (List.range ops.size).map fun i => mo ops (ops.getD i default) := by
  cases c with
  | region id ops draw =>
    simp only [compile] at h
    cases draw with
    | false =>
      simp only [Bool.false_and, Bool.false_eq_true, if_false] at h
      split at h
      · rename_i hok
        rw [Bool.and_eq_true] at hok
        cases h
        exact ⟨id, ops, rfl, hok.2, rfl⟩
      · cases h
    | true =>
      exfalso
      simp only [mapsOk, Bool.not_true, Bool.false_or, List.all_eq_true] at hm
      simp only [Bool.true_and, if_true] at h
      split at h
      · rename_i hok
        rw [Bool.and_eq_true, List.all_eq_true] at hok
        split at h
        · cases h
        · cases h
          obtain ⟨o, ho, hop⟩ := hl
          obtain ⟨i, hi, rfl⟩ := List.mem_map.1 ho
          have hi := hok.1 i hi
          simp only [decide_eq_true_eq] at hi
          have hin : ops.getD i default ∈ ops.toList := by
            have : ops[i]? = some (ops.getD i default) := by simp [Array.getD, hi]
            simpa using Array.mem_of_getElem? this
          have := hm _ hin
          have hop : mapOp E (ops.getD i default).op = true := hop
          rw [hop] at this
          cases this
      · cases h
  | block id b => simp only [compile] at h; obtain ⟨_, _, h⟩ := Option.map_eq_some_iff.1 h; cases h
  | loop b => simp only [compile] at h; obtain ⟨_, _, h⟩ := Option.map_eq_some_iff.1 h; cases h
  | seq x y => simp only [compile] at h; split at h <;> cases h
  | cond c x y => simp only [compile] at h; split at h <;> cases h
  | _ => cases h
end range_

section sound_
variable {dk : Env → FuncId → Nat → Array Oper → Bool} {P : Program} {E : Env}

/-- A memory and a world, and nothing beside. -/
def Rl (C : FuncId → Code → Prop) (ρ : Inj) (m : Mem) (w : World) : Prop := GSim C ρ m.get w ∧ ∀ i e, ρ i = some e → i < m.size
theorem Rl.sim {C : FuncId → Code → Prop} {ρ : Inj} {m : Mem} {w : World} (h : Rl C ρ m w) (B : Nat) : Sim C B ρ m w := ⟨h.1, fun i e he => .inl (h.2 i e he)⟩
theorem Rl.post {C : FuncId → Code → Prop} {B : Nat} {ρ ρ' : Inj} {m m' : Mem} {w w' : World} (h : Rl C ρ m w) (p : Post C B ρ m w ρ' m' w') : Rl C ρ' m' w' := ⟨p.sim.sim, fun i e he => by
  rcases p.new i e he with h1 | h1
  · have := h.2 i e h1; have := p.msize; omega
  · exact h1.2⟩
theorem Post.zero {C : FuncId → Code → Prop} {B : Nat} {ρ ρ' : Inj} {m m' : Mem} {w w' : World} (p : Post C B ρ m w ρ' m' w') : Post C 0 ρ m w ρ' m' w' :=
  { p with sim := ⟨p.sim.sim, fun _ _ _ => .inr (Nat.zero_le _)⟩ }

/-- What is to be shown of code: whatever holds behind the compact code holds behind the real one. -/
def XSound (dk : Env → FuncId → Nat → Array Oper → Bool) (P : Program) (E : Env) (n : Nat) (c : Code) (K : Post3) (t : Fr) (m : Mem) : Prop :=
  ∀ (ρ : Inj) (w : World) (a : Act) (ta : Array Value) (N : Nat) (Q : Exit → Act → World → Prop), Rl (Good dk E) ρ m w → FrOf n ta t → ARel ρ ta a.tmps →
    (∀ ρ' w' a' x t' ta' m', K x t' m' → FrOf n ta' t' → Rl (Good dk E) ρ' m' w' → Post (Good dk E) 0 ρ m w ρ' m' w' → ARel ρ' ta' a'.tmps → Marks (Good dk E) none ρ' m' w w' a.defers a'.defers → Q x a' w') → c.wpIn (FW none) N P Q a w

theorem XSound.of_run {n : Nat} {f : FuncId} (hE : E.Ok P) (hcode : ∀ f i, E.fn f = some i → codeOk dk E f i.code = true) (hdraw : DrawSound (Good dk E) P E dk) {c : Code} {c' : MC} (hc : compile E f n c = some c') (hok : codeOk dk E f c = true) {K : Post3} {t : Fr} {m : Mem} (h : wpM E f n none c' K t m) : XSound dk P E n c K t m := by
  intro ρ w a ta N Q hR hf ha hq
  obtain ⟨k, o, hrun, t', hf', hK⟩ := wpM_sound c c' hc K t ta m hf h
  have hs := sound hE hcode hdraw k _ m o hrun
  exact hs.wp hok o.m.size ρ w a none N Q (Nat.le_refl _) rfl (hR.sim _) ha fun ρ' w' a' hp ha' hm => hq ρ' w' a' o.x t' o.t o.m hK hf' (hR.post hp) hp.zero ha' hm

/-! ### One operation whose value is known -/
theorem range_mo {l : List MO} {ops : Array Oper} (h : l = (List.range ops.size).map fun i => mo ops (ops.getD i default)) {i : Nat} {d : Option Nat} {op : Op} (hi : l[i]? = some ⟨d, op, none⟩) :
    ∃ o, ops[i]? = some o ∧ o.dst = d ∧ o.op = op ∧ o.guard = none := by
  rw [h, List.getElem?_map] at hi
  obtain ⟨j, hj, hm⟩ := Option.map_eq_some_iff.1 hi
  have hlt : i < ops.size := by
    rcases Nat.lt_or_ge i ops.size with h | h
    · exact h
    · rw [List.getElem?_eq_none (by simpa using h)] at hj; cases hj
  rw [List.getElem?_range hlt] at hj
  cases hj
  refine ⟨ops.getD i default, by simp [Array.getD, hlt], ?_, ?_, ?_⟩
  · exact congrArg MO.d hm
  · exact congrArg MO.op hm
  · have := congrArg MO.g hm
    simpa [mo] using this

theorem wpOps_one {N : Nat} {ops : Array Oper} {Q : Exit → Act → World → Prop} {i : Nat} {rest : List Nat} {a : Act} {w w' : World} {o : Oper} {d : Option Nat} {v : Value} (ho : ops[i]? = some o) (hd : o.dst = d) (hg : o.guard = none)
    (hr : (execOp a.eval o).run P w = .ok (.value v) w') (h : wpOpsIn (FW none) N P ops Q rest (a.put d v) w') : wpOpsIn (FW none) N P ops Q (i :: rest) a w := by
  have hw : Region.wanted o (yielded ops a.tmps) = true := by unfold Region.wanted; rw [hg]
  simp only [wpOpsIn, ho, hw, if_true]
  refine ⟨fun _ _ => trivial, ?_⟩
  show o.uponIn _ _ _ _ _ _ (((o.semAt none a.eval).run P w))
  rw [Oper.semAt_none, hr]
  show wpOpsIn _ _ _ _ _ _ (a.put o.dst v) w'
  rw [hd]
  exact h

theorem dst_lt {n : Nat} {ops : Array Oper} (hd : ops.toList.all (dstOk n) = true) {i : Nat} {o : Oper} (ho : ops[i]? = some o) {d : Nat} (h : o.dst = some d) : ∀ j, some d = some j → j < n := by
  intro j hj
  cases hj
  have := List.all_eq_true.1 hd o (by simpa using Array.mem_of_getElem? ho)
  unfold dstOk at this
  rw [h] at this
  simpa using this

theorem put_eval {a : Act} {d : Nat} (h : d < a.tmps.size) (v : Value) : (a.put (some d) v).eval (.tmp d) = v := by
  show (a.tmps.setIfInBounds d v).getD d undef = v
  simp [Array.getD, h]

theorem range_tail {o : MO} {l : List MO} {ops : Array Oper} (h : o :: l = (List.range ops.size).map fun i => mo ops (ops.getD i default)) :
    ∃ idx, List.range ops.size = 0 :: idx ∧ l = idx.map (fun i => mo ops (ops.getD i default)) ∧ ∀ i ∈ idx, i < ops.size := by
  have hm : ∀ i ∈ List.range ops.size, i < ops.size := fun i hi => List.mem_range.1 hi
  generalize hr : List.range ops.size = L at h hm
  match L, hr with
  | [], _ => cases h
  | x :: L, hr =>
    have hx : x = 0 := by
      have h0 : (List.range ops.size)[0]? = some x := by rw [hr]; rfl
      rcases Nat.eq_zero_or_pos ops.size with h1 | h1
      · rw [h1] at h0; cases h0
      · rw [List.getElem?_range h1] at h0; exact (Option.some.inj h0).symm
    subst hx
    simp only [List.map_cons, List.cons.injEq] at h
    exact ⟨L, rfl, h.2, fun i hi => hm i (List.mem_cons_of_mem _ hi)⟩

/-- Marks that a part has left, seen from where the whole began. -/
theorem Marks.mono' {C : FuncId → Code → Prop} {B : Nat} {ρ ρ' ρ'' : Inj} {m m' m'' : Mem} {w w' w'' : World} {d d' : List Deferred} (h : Marks C none ρ'' m'' w' w'' d d') (p : Post C B ρ m w ρ' m' w') : Marks C none ρ'' m'' w w'' d d' := by
  obtain ⟨bs, e1, n1, hb, r1⟩ := h.ex
  exact ⟨bs, e1, n1, fun b hbm => ⟨Nat.le_trans p.size (hb b hbm).1, (hb b hbm).2⟩, r1⟩

/-! ### The iterator's block -/
theorem BRel.not_iter {C : FuncId → Code → Prop} {ρ : Inj} {w : World} {e : Ent} {b : Blk} (h : BRel C ρ w e b) {r : Nat} {a : Option Nat} {s : Nat} {seen : Array Nat} {c : Nat} (hr : w.heap[r]? = some (.mapIter a s seen c)) : e.blk ≠ r := by
  intro k
  subst k
  cases b with
  | cells ro tight cs => obtain ⟨c, el, fr, h, _⟩ := h; rw [hr] at h; cases h
  | loop st pend f t ps asg body => obtain ⟨_, _, _, fn, tmps, dfr, h, _⟩ := h; rw [hr] at h; cases h
  | map es clock => obtain ⟨_, es', h, _⟩ := h; rw [hr] at h; cases h

theorem setBlock_other (w : World) (r : Nat) (o : Obj) {k : Nat} (h : k ≠ r) : (ChangeMaps.setBlock w r o).heap[k]? = w.heap[k]? := by
  show (w.heap.setIfInBounds r o)[k]? = _
  rw [Array.getElem?_setIfInBounds, if_neg (fun e => h e.symm)]
theorem setBlock_at (w : World) (r : Nat) (o : Obj) (h : r < w.heap.size) : (ChangeMaps.setBlock w r o).heap[r]? = some o := by
  show (w.heap.setIfInBounds r o)[r]? = _
  rw [Array.getElem?_setIfInBounds, if_pos rfl, if_pos h]

section iter
variable {C : FuncId → Code → Prop} {ρ ρj : Inj} {m mj : Mem} {w wj w1 : World} {r : Nat} {am : Option Nat} {s : Nat} {seen : Array Nat} {c : Nat} (hr : wj.heap[r]? = some (.mapIter am s seen c)) (h1 : w1 = wj ∨ w1 = wj.drew) (o' : Obj)
include hr h1
theorem iter_old {k : Nat} (hk : k ≠ r) : (ChangeMaps.setBlock w1 r o').heap[k]? = wj.heap[k]? := by
  rw [setBlock_other _ _ _ hk]
  rcases h1 with rfl | rfl <;> rfl
theorem Rl.iter (h : Rl C ρj mj wj) : Rl C ρj mj (ChangeMaps.setBlock w1 r o') :=
  ⟨⟨fun i b hi => by
    obtain ⟨e, he, hb⟩ := h.1.rel i b hi
    exact ⟨e, he, hb.mono (Inj.le_refl _) (iter_old hr h1 o' (hb.not_iter hr))⟩, h.1.inj⟩, h.2⟩
theorem Post.iter (hR : Rl C ρj mj wj) (h : Post C 0 ρ m w ρj mj wj) (hw : w.heap.size ≤ r) : Post C 0 ρ m w ρj mj (ChangeMaps.setBlock w1 r o') :=
  { h with
    sim := (hR.iter hr h1 o').sim 0
    os := by rw [← h.os]; rcases h1 with rfl | rfl <;> rfl
    tape := by rw [← h.tape]; rcases h1 with rfl | rfl <;> rfl
    output := by rw [← h.output]; rcases h1 with rfl | rfl <;> rfl
    size := by
      have : (ChangeMaps.setBlock w1 r o').heap.size = wj.heap.size := by
        rcases h1 with rfl | rfl <;> exact Array.size_setIfInBounds
      rw [this]; exact h.size
    frame := fun k hk hf => by rw [iter_old hr h1 o' (by omega)]; exact h.frame k hk hf }
theorem Marks.iter {ds ds' : List Deferred} (h : Marks C none ρj mj w wj ds ds') : Marks C none ρj mj w (ChangeMaps.setBlock w1 r o') ds ds' := by
  obtain ⟨bs, e1, n1, hb, r1⟩ := h.ex
  refine ⟨bs, e1, n1, fun b hbm => ?_, r1⟩
  obtain ⟨h2, h3⟩ := hb b hbm
  have hne : b ≠ r := fun e => by have := h3.at_; rw [e, hr] at this; cases this
  have hs : (ChangeMaps.setBlock w1 r o').heap.size = wj.heap.size := by
    rcases h1 with rfl | rfl <;> exact Array.size_setIfInBounds
  exact ⟨h2, by rw [hs]; exact h3.lt, by rw [iter_old hr h1 o' hne]; exact h3.at_, h3.free⟩
end iter

/-! ### A round's memory -/
theorem get_roAll {m : Mem} {i : Nat} {b : Blk} (h : m.roAll.get i = some b) : ∃ ro t cs, b = .cells true t cs ∧ m.get i = some (.cells ro t cs) := by
  unfold Mem.get Mem.roAll at *
  rw [List.getElem?_map] at h
  generalize m.bl[i]? = x at h
  match x, h with
  | some (some (.cells ro t cs)), h => exact ⟨ro, t, cs, by simpa using h.symm, rfl⟩
  | some (some (.loop ..)), h => simp at h
  | some (some (.map ..)), h => simp at h
  | some none, h => simp at h
  | none, h => simp at h
@[simp] theorem size_roAll (m : Mem) : m.roAll.size = m.size := by simp [Mem.roAll, Mem.size]
theorem Rl.roAll {C : FuncId → Code → Prop} {ρ : Inj} {m : Mem} {w : World} (h : Rl C ρ m w) : Rl C ρ m.roAll w :=
  ⟨⟨fun i b hi => by
    obtain ⟨ro, t, cs, rfl, hg⟩ := get_roAll hi
    obtain ⟨e, he, c, el, fr, h1, h2, h3, h4, _⟩ := h.1.rel i _ hg
    exact ⟨e, he, c, el, fr, h1, h2, h3, h4, fun k => by cases k⟩, fun i j bi bj ei ej hi hj hne hw _ _ => by
    obtain ⟨ro, t, cs, rfl, hg⟩ := get_roAll hi
    simp [Blk.writable] at hw⟩, fun i e he => by rw [size_roAll]; exact h.2 i e he⟩

theorem get_ext_nones {m : Mem} {k i : Nat} {b : Blk} (h : (m.ext (List.replicate k none)).get i = some b) : m.get i = some b := by
  unfold Mem.get Mem.ext at *
  rw [List.getElem?_append] at h
  split at h
  · exact h
  · rw [List.getElem?_replicate] at h
    split at h <;> cases h

/-- Behind a round that saw nothing to write: all is as it was. -/
theorem round_back {C : FuncId → Code → Prop} {ρj ρ3 : Inj} {mj m3 : Mem} {wj w3 : World} (hR : Rl C ρj mj wj) (hR3 : Rl C ρ3 m3 w3) (p : Post C 0 ρj mj.roAll wj ρ3 m3 w3) :
    Rl C ρ3 (mj.ext (List.replicate (m3.size - mj.size) none)) w3 ∧ Post C 0 ρj mj wj ρ3 (mj.ext (List.replicate (m3.size - mj.size) none)) w3 ∧ (∀ k, k < wj.heap.size → w3.heap[k]? = wj.heap[k]?) := by
  have hfr : ∀ k, k < wj.heap.size → w3.heap[k]? = wj.heap[k]? := fun k hk => p.frame k hk fun i b e hi hb _ => by
    obtain ⟨ro, t, cs, rfl, _⟩ := get_roAll hi
    simp [Blk.writable] at hb
  have hms : mj.size ≤ m3.size := by have := p.msize; rwa [size_roAll] at this
  have hsz : (mj.ext (List.replicate (m3.size - mj.size) none)).size = m3.size := by rw [size_ext]; simp; omega
  have hb : ∀ i b e, (mj.ext (List.replicate (m3.size - mj.size) none)).get i = some b → ρ3 i = some e → mj.get i = some b ∧ ρj i = some e ∧ BRel C ρj wj e b := fun i b e hi he => by
    have hi := get_ext_nones hi
    obtain ⟨e', h1, h2⟩ := hR.1.rel i b hi
    have := p.le i e' h1
    rw [he] at this; cases this
    exact ⟨hi, h1, h2⟩
  have hR' : Rl C ρ3 (mj.ext (List.replicate (m3.size - mj.size) none)) w3 := ⟨⟨fun i b hi => by
      obtain ⟨e', h1, h2⟩ := hR.1.rel i b (get_ext_nones hi)
      exact ⟨e', p.le i e' h1, h2.mono p.le (hfr _ h2.lt)⟩, fun i j bi bj ei ej hi hj hne hw h1 h2 => hR.1.inj i j bi bj ei ej (hb i bi ei hi h1).1 (hb j bj ej hj h2).1 hne hw (hb i bi ei hi h1).2.1 (hb j bj ej hj h2).2.1⟩,
    fun i e he => by rw [hsz]; exact hR3.2 i e he⟩
  refine ⟨hR', ⟨p.le, by rw [hsz]; exact hms, fun i e he => ?_, hR'.sim 0, p.os, p.tape, p.output, p.size, fun k hk _ => hfr k hk, fun i b e hi hw he => .inr ⟨i, b, e, (hb i b e hi he).1, hw, (hb i b e hi he).2.1, rfl⟩⟩, hfr⟩
  rw [hsz]
  rcases p.new i e he with h | h
  · exact .inl h
  · rw [size_roAll] at h; exact .inr h

theorem Marks.back {C : FuncId → Code → Prop} {ρj ρ3 : Inj} {mj m3 : Mem} {wj w3 : World} {ds ds' : List Deferred} (hR : Rl C ρj mj wj) (hle : ρj.le ρ3) (h : Marks C none ρ3 m3 wj w3 ds ds') (k : Nat) : Marks C none ρ3 (mj.ext (List.replicate k none)) wj w3 ds ds' := by
  obtain ⟨bs, e1, n1, hb, r1⟩ := h.ex
  refine ⟨bs, e1, n1, fun b hbm => ?_, r1⟩
  obtain ⟨h2, h3⟩ := hb b hbm
  refine ⟨h2, h3.lt, h3.at_, fun i c e hi _ he => ?_⟩
  obtain ⟨e', h4, h5⟩ := hR.1.rel i c (get_ext_nones hi)
  have := hle i e' h4
  rw [he] at this; cases this
  have := h5.lt
  omega

/-- Entries of related maps. -/
theorem MRel.mem {ρ : Inj} {es es' : List MapEntry} (h : MRel ρ es es') {b : MapEntry} (hb : b ∈ es') : ∃ a ∈ es, a.key = b.key ∧ keyOk a.key = true ∧ a.born = b.born ∧ VRel ρ a.val b.val := by
  induction h with
  | nil => simp at hb
  | cons hk ho hbn hv _ ih =>
    rcases List.mem_cons.1 hb with rfl | hb
    · exact ⟨_, List.mem_cons_self, hk, ho, hbn, hv⟩
    · obtain ⟨a, ha, h⟩ := ih hb
      exact ⟨a, List.mem_cons_of_mem _ ha, h⟩
theorem MRel.borns {ρ : Inj} {es es' : List MapEntry} (h : MRel ρ es es') : es.map (·.born) = es'.map (·.born) := by
  induction h with
  | nil => rfl
  | cons _ _ hb _ _ ih => simp [hb, ih]
theorem VRel.key {ρ : Inj} {k : Value} (h : keyOk k = true) : VRel ρ k k := by
  cases k <;> first | (simp [keyOk] at h; done) | constructor

/-- An iterator is laid: nothing that anything here speaks of is turned. -/
theorem Rl.newIter {C : FuncId → Code → Prop} {ρ : Inj} {m : Mem} {w : World} (h : Rl C ρ m w) (o : Obj) (ent : Ent) :
    Rl C (ρ.ext m.size ent) (m.ext [none]) (w.alloc o) ∧ Post C 0 ρ m w (ρ.ext m.size ent) (m.ext [none]) (w.alloc o) := by
  have hn : ρ m.size = none := by
    cases e : ρ m.size with
    | none => rfl
    | some x => have := h.2 _ _ e; omega
  have hle := Inj.le_ext ent hn
  have g : ∀ i b, (m.ext [none]).get i = some b → m.get i = some b := fun i b hi => get_ext_nones (k := 1) hi
  have gb : ∀ i b e, (m.ext [none]).get i = some b → (ρ.ext m.size ent) i = some e → m.get i = some b ∧ ρ i = some e := fun i b e hi he => by
    obtain ⟨e', h1, _⟩ := h.1.rel i b (g i b hi)
    have := hle i e' h1
    rw [he] at this; cases this
    exact ⟨g i b hi, h1⟩
  have hR : Rl C (ρ.ext m.size ent) (m.ext [none]) (w.alloc o) := ⟨⟨fun i b hi => by
      obtain ⟨e, h1, h2⟩ := h.1.rel i b (g i b hi)
      exact ⟨e, hle _ _ h1, h2.mono hle (Abs.heap_alloc_old w o _ h2.lt)⟩, fun i j bi bj ei ej hi hj hne hw h1 h2 =>
      h.1.inj i j bi bj ei ej (gb i bi ei hi h1).1 (gb j bj ej hj h2).1 hne hw (gb i bi ei hi h1).2 (gb j bj ej hj h2).2⟩, fun i e he => by
      rw [size_ext]
      unfold Inj.ext at he
      split at he
      · simp; omega
      · have := h.2 i e he; simp; omega⟩
  refine ⟨hR, hle, by rw [size_ext]; omega, fun i e he => ?_, hR.sim 0, rfl, rfl, rfl, by simp, fun r hr _ => Abs.heap_alloc_old w o r hr, fun i b e hi hw he => .inr ⟨i, b, e, (gb i b e hi he).1, hw, (gb i b e hi he).2, rfl⟩⟩
  unfold Inj.ext at he
  split at he
  · exact .inr (by rw [size_ext]; simp; omega)
  · exact .inl he

/-- The range over a map. -/
theorem XSound.range {n : Nat} {f : FuncId} (hE : E.Ok P) (hcode : ∀ f i, E.fn f = some i → codeOk dk E f i.code = true) (hdraw : DrawSound (Good dk E) P E dk) {c : Code} {d0 it a b e id id2 : Nat} {ty : TypeId} {x : Operand} {l : List MO} {tail : MC} {K : Post3} {t : Fr} {m : Mem} {mb : Nat} {es : List MapEntry} {clock : Nat} {ku : TypeId × TypeDesc × TI}
    (hcc : compile E f n c = some (rangeC d0 it a b e id id2 ty x l tail)) (hok : codeOk dk E f c = true) (hmo : mapsOk E c = true)
    (hx : evF t x = .map (some mb)) (hm : m.get mb = some (.map es clock)) (hd : mapD E ty = some ku) (hn : (es.map (·.born)).Nodup) (hc : ∀ en ∈ es, en.born < clock)
    (hne : it ≠ a ∧ it ≠ b ∧ it ≠ e ∧ a ≠ b ∧ it ≠ d0 ∧ (∀ i ∈ l.filterMap (·.d) ++ writes tail, i ≠ it))
    (hr : ∀ en ∈ es, ∀ tg m', Old m m' → Agree (rangeW d0 it a b e l tail) t tg → wpM E f n none (.seq (.ops l) tail) (fun x _ _ => x = .normal) (upd tg e (.tuple #[en.key, en.val])) m'.roAll)
    (hk : ∀ tg m', Old m m' → Agree (rangeW d0 it a b e l tail) t tg → K .normal tg m') : XSound dk P E n c K t m := by
  obtain ⟨c1, c2, rfl, hc1, hc2⟩ := compile_seq hcc
  simp only [codeOk, mapsOk, Bool.and_eq_true] at hok hmo
  obtain ⟨r1, ops1, rfl, hd1, hl1⟩ := compile_ops hc1 hmo.1 ⟨⟨some it, .range ty (.tmp d0), none⟩, by simp, rfl⟩
  obtain ⟨c3, rfl, hc3⟩ := compile_block hc2
  obtain ⟨c4, rfl, hc4⟩ := compile_loop hc3
  obtain ⟨c5, c6, rfl, hc5, hc6⟩ := compile_seq hc4
  obtain ⟨hok1, hok2⟩ := hok
  obtain ⟨hmo1, hmo2⟩ := hmo
  simp only [codeOk, mapsOk, Bool.and_eq_true] at hok2 hmo2
  obtain ⟨r2, ops2, rfl, hd2, hl2⟩ := compile_ops hc5 hmo2.1 ⟨⟨some a, .next (.tmp it) false, none⟩, by simp, rfl⟩
  obtain ⟨c7, c8, rfl, hc7, hc8⟩ := compile_seq hc6
  obtain ⟨c9, c10, rfl, hc9, hc10⟩ := compile_cond hc7
  cases compile_skip hc9
  cases compile_exit hc10
  obtain ⟨c11, rfl, hc11⟩ := compile_block hc8
  obtain ⟨c12, c13, rfl, hc12, hc13⟩ := compile_seq hc11
  obtain ⟨hok2a, hok2b⟩ := hok2
  obtain ⟨hmo2a, hmo2b⟩ := hmo2
  simp only [codeOk, mapsOk, Bool.and_eq_true, Bool.true_and, Bool.and_true] at hok2b hmo2b
  obtain ⟨r3, ops3, rfl, hd3, hl3⟩ := compile_ops hc12 hmo2b.1 ⟨_, List.mem_cons_self, rfl⟩
  have hokT : codeOk dk E f c13 = true := hok2b.2.2
  have hokO : ∀ o ∈ ops3.toList, opOk o = true := fun o ho => by
    have := hok2b.2.1
    simp only [codeOk, Bool.and_eq_true] at this
    exact List.all_eq_true.1 this.1 o ho
  obtain ⟨hne1, hne2, hne3, hne4, hne5, hne6⟩ := hne
  intro ρ w ac ta N Q hR hf ha hq
  obtain ⟨em, hem, hes0, es', hbm, hM⟩ := hR.1.rel mb _ hm
  have hn' : (es'.toList.map (·.born)).Nodup := by rw [← hM.borns]; exact hn
  have hcl' : ∀ y ∈ es'.toList, y.born < clock := fun y hy => by
    obtain ⟨z, hz, _, _, hzb, _⟩ := hM.mem hy
    rw [← hzb]; exact hc z hz
  have hund : ∃ kt et, P.underlying ty = some (.map kt et) := by
    unfold mapD at hd
    split at hd
    · rename_i kt et he; exact ⟨kt, et, hE.desc he⟩
    · cases hd
  obtain ⟨kt, et, hund⟩ := hund
  -- the iterator
  have hs1 : ops1.size = 2 := by have := congrArg List.length hl1; simp at this; omega
  have hs2 : ops2.size = 2 := by have := congrArg List.length hl2; simp at this; omega
  obtain ⟨o0, ho0, hod0, hop0, hog0⟩ := range_mo hl1 (i := 0) rfl
  obtain ⟨o1, ho1, hod1, hop1, hog1⟩ := range_mo hl1 (i := 1) rfl
  obtain ⟨o2, ho2, hod2, hop2, hog2⟩ := range_mo hl2 (i := 0) rfl
  obtain ⟨o3, ho3, hod3, hop3, hog3⟩ := range_mo hl2 (i := 1) rfl
  obtain ⟨o4, ho4, hod4, hop4, hog4⟩ := range_mo hl3 (i := 0) rfl
  have hopx : opndOk x = true := by
    simp only [codeOk, Bool.and_eq_true] at hok1
    have := List.all_eq_true.1 hok1.1 o0 (by simpa using Array.mem_of_getElem? ho0)
    unfold opOk at this
    rw [hop0] at this
    simpa [Op.operands] using this
  have hvx : ac.eval x = .map (some em.blk) := by
    have h1 := ev_rel ha hopx
    rw [hf.ev, hx] at h1
    generalize ac.eval x = v at h1
    cases h1 with
    | map h _ => rw [hem] at h; cases h; rfl
  have hf1 : FrOf n (putT ta (some d0) (.map (some mb))) (upd t d0 (.map (some mb))) := hf.put (d := some d0) (dst_lt hd1 ho0 hod0) _
  have ha1 : ARel ρ (putT ta (some d0) (.map (some mb))) (ac.put (some d0) (.map (some em.blk))).tmps := putT_rel ha (.map hem hes0) _
  have hv1 : (ac.put (some d0) (.map (some em.blk))).eval (.tmp d0) = .map (some em.blk) := by
    have h1 := ev_rel (x := .tmp d0) ha1 rfl
    rw [hf1.ev] at h1
    have : evF (upd t d0 (.map (some mb))) (.tmp d0) = .map (some mb) := by simp [evF, upd]
    rw [this] at h1
    generalize Act.eval _ _ = v at h1
    cases h1 with
    | map h _ => rw [hem] at h; cases h; rfl
  refine wpIn_seq (wpIn_region ?_)
  rw [hs1]
  refine wpOps_one ho0 hod0 hog0 (v := .map (some em.blk)) (w' := w) (by unfold execOp; rw [hop0, ← hvx]; rfl) (wpOps_one ho1 hod1 hog1 (v := .pointer (some ⟨w.heap.size, 0, none⟩)) (w' := w.alloc (.mapIter (some em.blk) clock #[] clock)) ?_ ?_)
  · unfold execOp
    rw [hop1]
    simp only [hv1, Sem.run_bind, run_range_map w ty kt et em.blk es' clock hund hbm, Result.andThen]
    rfl
  obtain ⟨hR2, hp2⟩ := hR.newIter (.mapIter (some em.blk) clock #[] clock) ⟨w.heap.size, 0, 0, 0, true⟩
  have hit : ∀ ρ' : Inj, (ρ.ext m.size ⟨w.heap.size, 0, 0, 0, true⟩).le ρ' → ρ' m.size = some ⟨w.heap.size, 0, 0, 0, true⟩ := fun ρ' h => h _ _ (by simp [Inj.ext])
  have hvp : ∀ ρ' : Inj, (ρ.ext m.size ⟨w.heap.size, 0, 0, 0, true⟩).le ρ' → VRel ρ' (.pointer (some ⟨m.size, 0, none⟩)) (.pointer (some ⟨w.heap.size, 0, none⟩)) := fun ρ' h => .ptr (hit ρ' h) 0
  have hf2 : FrOf n (putT (putT ta (some d0) (.map (some mb))) (some it) (.pointer (some ⟨m.size, 0, none⟩))) (upd (upd t d0 (.map (some mb))) it (.pointer (some ⟨m.size, 0, none⟩))) := hf1.put (d := some it) (dst_lt hd1 ho1 hod1) _
  have ha2 := putT_rel (ha1.mono hp2.le) (hvp _ (Inj.le_refl _)) (some it)
  have hmk2 : Marks (Good dk E) none (ρ.ext m.size ⟨w.heap.size, 0, 0, 0, true⟩) (m.ext [none]) w (w.alloc (.mapIter (some em.blk) clock #[] clock)) ac.defers ((ac.put (some d0) (.map (some em.blk))).put (some it) (.pointer (some ⟨w.heap.size, 0, none⟩))).defers := by
    rw [put_defers, put_defers]; exact Marks.refl _
  have hag2 : Agree (rangeW d0 it a b e l tail) t (upd (upd t d0 (.map (some mb))) it (.pointer (some ⟨m.size, 0, none⟩))) :=
    ((Agree.refl _ t).upd (some d0) _ (fun i hi => by cases hi; simp [rangeW])).upd (some it) _ (fun i hi => by cases hi; simp [rangeW])
  have hitv2 : (upd (upd t d0 (.map (some mb))) it (.pointer (some ⟨m.size, 0, none⟩))) it = .pointer (some ⟨m.size, 0, none⟩) := by simp [upd]
  have hbm2 : (w.alloc (.mapIter (some em.blk) clock #[] clock)).heap[em.blk]? = some (.map es' clock) := by
    rw [Abs.heap_alloc_old w _ _ (Array.getElem?_eq_some_iff.1 hbm).1]; exact hbm
  have hr2 : (w.alloc (.mapIter (some em.blk) clock #[] clock)).heap[w.heap.size]? = some (.mapIter (some em.blk) clock #[] clock) := Abs.heap_alloc_new w _
  have hold2 : Old m (m.ext [none]) := ⟨[none], rfl⟩
  have hle2 := Inj.le_refl (ρ.ext m.size ⟨w.heap.size, 0, 0, 0, true⟩)
  show Code.wpIn _ _ _ _ _ _ _
  refine wpIn_block (wpIn_loop_rounds ((leftOf es' #[]).size + 1) ?_)
  generalize hrr : w.heap.size = r at *
  generalize hρ2 : ρ.ext m.size ⟨r, 0, 0, 0, true⟩ = ρ2 at *
  generalize (ac.put (some d0) (.map (some em.blk))).put (some it) (.pointer (some ⟨r, 0, none⟩)) = a2 at *
  generalize w.alloc (.mapIter (some em.blk) clock #[] clock) = w2 at *
  generalize putT (putT ta (some d0) (.map (some mb))) (some it) (.pointer (some ⟨m.size, 0, none⟩)) = ta2 at *
  generalize upd (upd t d0 (.map (some mb))) it (.pointer (some ⟨m.size, 0, none⟩)) = t2 at *
  generalize m.ext [none] = m2 at *
  clear hf1 ha1 hv1
  have hiv : ∀ (ρj : Inj) (aj : Act) (taj : Array Value) (tj : Fr), FrOf n taj tj → ARel ρj taj aj.tmps → tj it = .pointer (some ⟨m.size, 0, none⟩) → ρ2.le ρj → aj.eval (.tmp it) = .pointer (some ⟨r, 0, none⟩) := by
    intro ρj aj taj tj hfj haj hitj hlej
    have h1 := ev_rel (x := .tmp it) haj rfl
    rw [hfj.ev] at h1
    have : evF tj (.tmp it) = .pointer (some ⟨m.size, 0, none⟩) := hitj
    rw [this] at h1
    generalize Act.eval _ _ = v at h1
    cases h1 with
    | ptr h o => rw [hit ρj hlej] at h; cases h; rfl
  have fin : ∀ (seen : Array Nat) (ρj : Inj) (mj : Mem) (wj : World) (aj : Act) (taj : Array Value) (tj : Fr), Rl (Good dk E) ρj mj wj → Post (Good dk E) 0 ρ m w ρj mj wj → FrOf n taj tj → ARel ρj taj aj.tmps →
      Marks (Good dk E) none ρj mj w wj ac.defers aj.defers → Agree (rangeW d0 it a b e l tail) t tj → tj it = .pointer (some ⟨m.size, 0, none⟩) → ρ2.le ρj → Old m mj →
      (Instr.next (.pointer (some ⟨r, 0, none⟩)) false o2.type).run P wj = .ok (.tuple #[.bool false]) wj → ∀ K' : Act → World → Prop,
      wpOpsIn (FW none) N P ops2 (Exit.then ((Code.seq (.cond (.tmp b) .skip (.exit id)) (.block id2 (.seq (.region r3 ops3 false) c13))).wpIn (FW none) N P (Exit.then K' (Exit.inBlock id Q))) (Exit.then K' (Exit.inBlock id Q))) (List.range 2) aj wj := by
    intro seen ρj mj wj aj taj tj hRj hpj hfj haj hmj hagj hitj hlej holdj hrun K'
    have hfa := hfj.put (d := some a) (dst_lt hd2 ho2 hod2) (.tuple #[.bool false])
    have hfb := hfa.put (d := some b) (dst_lt hd2 ho3 hod3) (.bool false)
    have hvt : VRel ρj (.tuple #[.bool false]) (.tuple #[.bool false]) := .tuple rfl fun i h h' => by
      match i, h with
      | 0, _ => exact .bool false
    have haa := putT_rel haj hvt (some a)
    have hab := putT_rel haa (.bool false) (some b)
    have hva : (aj.put (some a) (.tuple #[.bool false])).eval (.tmp a) = .tuple #[.bool false] := put_eval (by rw [← haj.size, hfj.size]; exact dst_lt hd2 ho2 hod2 a rfl) _
    have hvb : ((aj.put (some a) (.tuple #[.bool false])).put (some b) (.bool false)).eval (.tmp b) = .bool false := put_eval (by rw [← haa.size, hfa.size]; exact dst_lt hd2 ho3 hod3 b rfl) _
    have hvi := hiv ρj aj taj tj hfj haj hitj hlej
    refine wpOps_one ho2 hod2 hog2 (v := .tuple #[.bool false]) (w' := wj) ?_ (wpOps_one ho3 hod3 hog3 (v := .bool false) (w' := wj) ?_ ?_)
    · unfold execOp
      rw [hop2]
      simp only [hvi, Sem.run_bind, hrun, Result.andThen]
      rfl
    · unfold execOp
      rw [hop3]
      simp only [hva]
      rfl
    show Code.wpIn _ _ _ _ _ _ _
    refine wpIn_seq (wpIn_cond_false hvb (wpIn_exit ?_))
    show Exit.inBlock id Q (.exit id) _ _
    simp only [Exit.inBlock, if_true]
    have hagb : Agree (rangeW d0 it a b e l tail) t (updO (updO tj (some a) (.tuple #[.bool false])) (some b) (.bool false)) :=
      (hagj.upd (some a) _ (fun i hi => by cases hi; simp [rangeW])).upd (some b) _ (fun i hi => by cases hi; simp [rangeW])
    exact hq ρj wj _ .normal _ _ mj (hk _ mj holdj hagb) hfb hRj hpj hab (by rw [put_defers, put_defers]; exact hmj)
  have key : ∀ (k : Nat) (seen : Array Nat) (ρj : Inj) (mj : Mem) (wj : World) (aj : Act) (taj : Array Value) (tj : Fr), (leftOf es' seen).size ≤ k → Rl (Good dk E) ρj mj wj → Post (Good dk E) 0 ρ m w ρj mj wj → FrOf n taj tj → ARel ρj taj aj.tmps →
      Marks (Good dk E) none ρj mj w wj ac.defers aj.defers → Agree (rangeW d0 it a b e l tail) t tj → tj it = .pointer (some ⟨m.size, 0, none⟩) → wj.heap[em.blk]? = some (.map es' clock) → wj.heap[r]? = some (.mapIter (some em.blk) clock seen clock) → Old m mj → ρ2.le ρj →
      Code.roundsIn (FW none) N P (.seq (.region r2 ops2 false) (.seq (.cond (.tmp b) .skip (.exit id)) (.block id2 (.seq (.region r3 ops3 false) c13)))) (Exit.inBlock id Q) (k + 1) aj wj := by
    intro k
    induction k with
    | zero =>
      intro seen ρj mj wj aj taj tj hkk hRj hpj hfj haj hmj hagj hitj hbj hrj holdj hlej
      rw [roundsIn_succ]
      refine wpIn_seq (wpIn_region ?_)
      rw [hs2]
      rcases run_next_at (P := P) wj o2.type r em.blk clock clock seen es' clock hrj hbj hcl' (Nat.le_refl _) with ⟨h0, hrun⟩ | ⟨en', hen', w1, h1, hrun⟩
      · exact fin seen ρj mj wj aj taj tj hRj hpj hfj haj hmj hagj hitj hlej holdj hrun _
      · exfalso
        have := left_shrinks es' seen en' hen'
        omega
    | succ k ih =>
      intro seen ρj mj wj aj taj tj hkk hRj hpj hfj haj hmj hagj hitj hbj hrj holdj hlej
      rw [roundsIn_succ]
      refine wpIn_seq (wpIn_region ?_)
      rw [hs2]
      rcases run_next_at (P := P) wj o2.type r em.blk clock clock seen es' clock hrj hbj hcl' (Nat.le_refl _) with ⟨h0, hrun⟩ | ⟨en', hen', w1, h1, hrun⟩
      · exact fin seen ρj mj wj aj taj tj hRj hpj hfj haj hmj hagj hitj hlej holdj hrun _
      obtain ⟨hein', _⟩ := mem_left hen'
      obtain ⟨en, hen, hkey, hkok, hborn, hval⟩ := hM.mem hein'
      have hlej' : ρ.le ρj := hpj.le
      have hRk := hRj.iter hrj h1 (.mapIter (some em.blk) clock (seen.push en'.born) clock)
      have hpk := hpj.iter hrj h1 (.mapIter (some em.blk) clock (seen.push en'.born) clock) hRj (Nat.le_of_eq hrr)
      have hmk := hmj.iter hrj h1 (.mapIter (some em.blk) clock (seen.push en'.born) clock)
      have hbk : (ChangeMaps.setBlock w1 r (.mapIter (some em.blk) clock (seen.push en'.born) clock)).heap[em.blk]? = some (.map es' clock) := by
        rw [iter_old hrj h1 _ (fun k => by rw [k, hrj] at hbj; cases hbj)]; exact hbj
      have hrlt : r < w1.heap.size := by
        have := (Array.getElem?_eq_some_iff.1 hrj).1
        rcases h1 with rfl | rfl <;> exact this
      have hrk := setBlock_at w1 r (.mapIter (some em.blk) clock (seen.push en'.born) clock) hrlt
      generalize ChangeMaps.setBlock w1 r (.mapIter (some em.blk) clock (seen.push en'.born) clock) = wk at *
      have hvk : VRel ρj en.key en'.key := by rw [← hkey]; exact VRel.key hkok
      have hvv : VRel ρj en.val en'.val := hval.mono hlej'
      have hvt : VRel ρj (.tuple #[.bool true, en.key, en.val]) (.tuple #[.bool true, en'.key, en'.val]) := .tuple rfl fun i h h' => by
        match i, h with
        | 0, _ => exact .bool true
        | 1, _ => exact hvk
        | 2, _ => exact hvv
      have hve : VRel ρj (.tuple #[en.key, en.val]) (.tuple #[en'.key, en'.val]) := .tuple rfl fun i h h' => by
        match i, h with
        | 0, _ => exact hvk
        | 1, _ => exact hvv
      have hfa := hfj.put (d := some a) (dst_lt hd2 ho2 hod2) (.tuple #[.bool true, en.key, en.val])
      have hfb := hfa.put (d := some b) (dst_lt hd2 ho3 hod3) (.bool true)
      have hfe := hfb.put (d := some e) (dst_lt hd3 ho4 hod4) (.tuple #[en.key, en.val])
      have haa := putT_rel haj hvt (some a)
      have hab := putT_rel haa (.bool true) (some b)
      have hae := putT_rel hab hve (some e)
      have hva : (aj.put (some a) (.tuple #[.bool true, en'.key, en'.val])).eval (.tmp a) = .tuple #[.bool true, en'.key, en'.val] := put_eval (by rw [← haj.size, hfj.size]; exact dst_lt hd2 ho2 hod2 a rfl) _
      have hvb : ((aj.put (some a) (.tuple #[.bool true, en'.key, en'.val])).put (some b) (.bool true)).eval (.tmp b) = .bool true := put_eval (by rw [← haa.size, hfa.size]; exact dst_lt hd2 ho3 hod3 b rfl) _
      have hvi : aj.eval (.tmp it) = .pointer (some ⟨r, 0, none⟩) := hiv ρj aj taj tj hfj haj hitj hlej
      have hitb : updO (updO tj (some a) (.tuple #[.bool true, en.key, en.val])) (some b) (.bool true) it = .pointer (some ⟨m.size, 0, none⟩) := by
        simp only [updO, upd, if_neg hne1, if_neg hne2]; exact hitj
      have hvi' := hiv ρj _ _ _ hfb hab hitb hlej
      refine wpOps_one ho2 hod2 hog2 (v := .tuple #[.bool true, en'.key, en'.val]) (w' := wk) ?_ (wpOps_one ho3 hod3 hog3 (v := .bool true) (w' := wk) ?_ ?_)
      · unfold execOp
        rw [hop2]
        simp only [hvi, Sem.run_bind, hrun, Result.andThen]
        rfl
      · unfold execOp
        rw [hop3]
        simp only [hva]
        rfl
      show Code.wpIn _ _ _ _ _ _ _
      refine wpIn_seq (wpIn_cond_true hvb (wpIn_skip ?_))
      show Code.wpIn _ _ _ _ _ _ _
      refine wpIn_block (wpIn_seq (wpIn_region ?_))
      obtain ⟨idx, hidx, hlidx, hltidx⟩ := range_tail hl3
      rw [hidx]
      refine wpOps_one ho4 hod4 hog4 (v := .tuple #[en'.key, en'.val]) (w' := wk) ?_ ?_
      · unfold execOp
        rw [hop4]
        simp only [hvi', Sem.run_bind, run_entry_at wk r em.blk clock seen es' clock en' hrk hbk hein' hn', Result.andThen]
        rfl
      have hagb : Agree (rangeW d0 it a b e l tail) t (updO (updO tj (some a) (.tuple #[.bool true, en.key, en.val])) (some b) (.bool true)) :=
        (hagj.upd (some a) _ (fun i hi => by cases hi; simp [rangeW])).upd (some b) _ (fun i hi => by cases hi; simp [rangeW])
      have hwp := hr en hen _ mj holdj hagb
      have hwa := wpM_agree (.seq (.ops l) tail) (ws := l.filterMap (·.d) ++ writes tail) _ _ (Agree.refl _ _) (fun i hi => hi) hwp
      have hwo : wpO E l (wpM E f n none tail (fun x t' m' => Agree (l.filterMap (·.d) ++ writes tail) (updO (updO (updO tj (some a) (.tuple #[.bool true, en.key, en.val])) (some b) (.bool true)) (some e) (.tuple #[en.key, en.val])) t' ∧ x = .normal)) _ mj.roAll := hwa
      have hwo' : wpO E (idx.map fun i => mo ops3 (ops3.getD i default)) (wpM E f n none tail (fun x t' m' => Agree (l.filterMap (·.d) ++ writes tail) (updO (updO (updO tj (some a) (.tuple #[.bool true, en.key, en.val])) (some b) (.bool true)) (some e) (.tuple #[en.key, en.val])) t' ∧ x = .normal)) (updO (updO (updO tj (some a) (.tuple #[.bool true, en.key, en.val])) (some b) (.bool true)) (some e) (.tuple #[en.key, en.val])) mj.roAll := by rw [← hlidx]; exact hwo
      obtain ⟨k7, o7, hrun7, t7, hf7, hK7⟩ := wpO_sound hd3 idx hltidx (fun _ => wpM E f n none tail _) _ _ mj.roAll hfe hwo'
      refine (sound hE hcode hdraw k7 _ _ o7 hrun7).2 hokO o7.m.size ρj wk _ none N _ (Nat.le_refl _) (hRk.roAll.sim _) hae fun ρ7 w7 a7 hp7 ha7 hd7 => ?_
      show Code.wpIn _ _ _ _ _ _ _
      refine XSound.of_run hE hcode hdraw hc13 hokT hK7 ρ7 w7 a7 o7.t N _ (hRk.roAll.post hp7) hf7 ha7 fun ρ8 w8 a8 x8 t8 ta8 m8 hK8 hf8 hR8 hp8 ha8 hm8 => ?_
      obtain ⟨hag8, rfl⟩ := hK8
      show Code.roundsIn _ _ _ _ _ _ _ _
      have hp78 := hp7.zero.trans hp8
      obtain ⟨hR9, hp9, hfr9⟩ := round_back hRk hR8 hp78
      have hm9 := Marks.back (C := Good dk E) (m3 := m8) (ds := aj.defers) (ds' := a8.defers) hRk hp78.le (by
        have hd7' : a7.defers = aj.defers := by rw [hd7, put_defers, put_defers, put_defers]
        rw [hd7'] at hm8
        exact hm8.mono' hp7) (m8.size - mj.size)
      have hlt8 : ∀ k, k < wk.heap.size → w8.heap[k]? = wk.heap[k]? := hfr9
      refine ih (seen.push en'.born) ρ8 _ w8 a8 ta8 t8 ?_ hR9 (hpk.trans hp9) hf8 ha8 (hmk.trans hpk hm9 hp9) ?_ ?_ ?_ ?_ (holdj.ext _) (Inj.le_trans hlej hp78.le)
      · have := left_shrinks es' seen en' hen'
        omega
      · exact (hagb.upd (some e) _ (fun i hi => by cases hi; simp [rangeW])).trans (hag8.mono fun j hj => by simp only [rangeW, List.mem_cons]; exact .inr (.inr (.inr (.inr (.inr hj)))))
      · rw [hag8 it (by rw [Bool.eq_false_iff]; intro hc; exact hne6 it (by simpa using hc) rfl)]
        simp only [updO, upd, if_neg hne1, if_neg hne2, if_neg hne3]; exact hitj
      · rw [hlt8 _ (Array.getElem?_eq_some_iff.1 hbk).1]; exact hbk
      · rw [hlt8 _ (Array.getElem?_eq_some_iff.1 hrk).1]; exact hrk
  exact key _ #[] ρ2 m2 w2 a2 ta2 t2 (Nat.le_refl _) hR2 hp2 hf2 ha2 hmk2 hag2 hitv2 hbm2 hr2 hold2 hle2

theorem wpOpsIn_append {N : Nat} {ops : Array Oper} {Q : Exit → Act → World → Prop} : ∀ (l l' : List Nat) (a : Act) (w : World), wpOpsIn (FW none) N P ops (Exit.then (wpOpsIn (FW none) N P ops Q l') Q) l a w → wpOpsIn (FW none) N P ops Q (l ++ l') a w
  | [], _, _, _, h => h
  | i :: l, l', a, w, h => by
    simp only [List.cons_append, wpOpsIn] at h ⊢
    split
    · rename_i ho
      simp only [ho] at h
      exact wpOpsIn_append l l' a w h
    · rename_i o ho
      simp only [ho] at h
      split
      · rename_i hw
        rw [if_pos hw] at h
        refine ⟨h.1, ?_⟩
        have h := h.2
        generalize (o.semAt (FW none).round a.eval).run P w = r at h
        have ih := wpOpsIn_append (N := N) (ops := ops) (Q := Q) l l'
        cases r with
        | ok nx w' =>
          cases nx with
          | value v => exact ih _ _ h
          | skip => exact ih _ _ h
          | defer d => exact ih _ _ h
          | enter f args => exact ⟨h.1, CallsIn.mono h.2 fun e w'' he => by cases e <;> first | exact ih _ _ he | exact he⟩
          | row r args => exact ⟨h.1, RowsIn.mono h.2 fun v w'' he => ih _ _ he⟩
          | round l f t x y => exact ⟨h.1, RoundIn.mono h.2 fun e w'' he => by cases e <;> first | exact ih _ _ he | exact he⟩
          | _ => exact h
        | halt hh w' => cases hh <;> exact h
      · rename_i hw
        rw [if_neg hw] at h
        exact ⟨h.1, wpOpsIn_append l l' _ _ h.2⟩

theorem WpOX.sound {n : Nat} (hE : E.Ok P) (hcode : ∀ f i, E.fn f = some i → codeOk dk E f i.code = true) (hdraw : DrawSound (Good dk E) P E dk) {ops : Array Oper} (hd : ops.toList.all (dstOk n) = true) (hop : ∀ o ∈ ops.toList, opOk o = true) {l : List MO} {K : Fr → Mem → Prop} {t : Fr} {m : Mem} (h : WpOX E l K t m) :
    ∀ (idx : List Nat), l = idx.map (fun i => mo ops (ops.getD i default)) → (∀ i ∈ idx, i < ops.size) → ∀ (ρ : Inj) (w : World) (a : Act) (ta : Array Value) (N : Nat) (Q : Exit → Act → World → Prop), Rl (Good dk E) ρ m w → FrOf n ta t → ARel ρ ta a.tmps →
    (∀ ρ' w' a' t' ta' m', K t' m' → FrOf n ta' t' → Rl (Good dk E) ρ' m' w' → Post (Good dk E) 0 ρ m w ρ' m' w' → ARel ρ' ta' a'.tmps → a'.defers = a.defers → Q .normal a' w') → wpOpsIn (FW none) N P ops Q idx a w := by
  induction h with
  | @o l K t m h =>
    intro idx hl hlt ρ w a ta N Q hR hf ha hq
    rw [hl] at h
    obtain ⟨k, o, hrun, t', hf', hK⟩ := wpO_sound hd idx hlt (fun _ => K) t ta m hf h
    exact (Abs.sound hE hcode hdraw k _ m o hrun).2 hop o.m.size ρ w a none N Q (Nat.le_refl _) (hR.sim _) ha fun ρ' w' a' hp ha' hd' => hq ρ' w' a' t' o.t o.m hK hf' (hR.post hp) hp.zero ha' hd'
  | @app l l' K t m J _ _ ih1 ih2 =>
    intro idx hl hlt ρ w a ta N Q hR hf ha hq
    obtain ⟨i1, i2, rfl, h1, h2⟩ := List.map_eq_append_iff.1 hl.symm
    refine wpOpsIn_append i1 i2 a w (ih1 i1 h1.symm (fun i hi => hlt i (by simp [hi])) ρ w a ta N _ hR hf ha fun ρ' w' a' t' ta' m' hJ hf' hR' hp ha' hd' => ?_)
    exact ih2 t' m' hJ i2 h2.symm (fun i hi => hlt i (by simp [hi])) ρ' w' a' ta' N Q hR' hf' ha' fun ρ'' w'' a'' t'' ta'' m'' hK hf'' hR'' hp' ha'' hd'' => hq ρ'' w'' a'' t'' ta'' m'' hK hf'' hR'' (hp.trans hp') ha'' (hd''.trans hd')
  | @len l K t m d x ty kt et g mb es clock hx hm hdsc _ _ ih1 ih2 =>
    intro idx hl hlt ρ w a ta N Q hR hf ha hq
    match idx, hl with
    | i :: idx, hl =>
      simp only [List.map_cons, List.cons.injEq] at hl
      obtain ⟨h1, h2⟩ := hl
      have hi := hlt i (by simp)
      have ho : ops[i]? = some (ops.getD i default) := by simp [Array.getD, hi]
      generalize ops.getD i default = o at *
      have hod : o.dst = some d := (congrArg MO.d h1).symm
      have hoo : o.op = .call ⟨.builtin .len, #[.tmp x], #[ty]⟩ := (congrArg MO.op h1).symm
      have hog : (mo ops o).g = g := (congrArg MO.g h1).symm
      have hwt : Region.wanted o (yielded ops a.tmps) = wantedF g t := by rw [yielded_rel ha, hf.wanted, hog]
      obtain ⟨em, hem, hes0, es', hbm, hM⟩ := hR.1.rel mb _ hm
      have hvx : a.eval (.tmp x) = .map (some em.blk) := by
        have h1 := ev_rel (x := .tmp x) ha rfl
        rw [hf.ev] at h1
        have : evF t (.tmp x) = .map (some mb) := hx
        rw [this] at h1
        generalize a.eval (.tmp x) = v at h1
        cases h1 with
        | map h _ => rw [hem] at h; cases h; rfl
      have hlen : (es.length : Int) = es'.size := by
        have := congrArg List.length hM.borns
        simp at this
        omega
      have hrun : (execOp a.eval o).run P w = .ok (.value (.int .i64 es.length)) w := by
        obtain ⟨C, hexec⟩ : ∃ C, (execOp a.eval o).run P w = (builtin .len #[ty] o.type C #[a.eval (.tmp x)]).run P w :=
          ⟨_, by simp only [execOp, hoo, Sem.run_bind, resolve, Sem.run_pure, Result.andThen_ok, invoke, List.map_toArray, List.map_cons, List.map_nil]; rfl⟩
        rw [hexec, hvx]
        simp [builtin, Builtin.len_, hE.run_und hdsc, MapKept.run_getObj_map hbm, goInt, hlen]
      have hst := fun v => hf.put (d := some d) (dst_lt hd ho hod) v
      cases hw : wantedF g t with
      | true =>
        rw [hw] at hwt
        have hnext := ih1 hw idx h2 (fun i hi => hlt i (by simp [hi])) ρ w (a.put (some d) (.int .i64 es.length)) _ N Q hR (hst _) (putT_rel ha (.int .i64 _) (some d)) fun ρ' w' a' t' ta' m' hK hf' hR' hp ha' hd' => hq ρ' w' a' t' ta' m' hK hf' hR' hp ha' (by rw [hd', put_defers])
        simp only [wpOpsIn, ho, hwt, if_true]
        refine ⟨fun _ _ => trivial, ?_⟩
        show o.uponIn _ _ _ _ _ _ (((o.semAt none a.eval).run P w))
        rw [Oper.semAt_none, hrun]
        show wpOpsIn _ _ _ _ _ _ (a.put o.dst _) w
        rw [hod]
        exact hnext
      | false =>
        rw [hw] at hwt
        have hnext := ih2 hw idx h2 (fun i hi => hlt i (by simp [hi])) ρ w (a.put (some d) undef) _ N Q hR (hst _) (putT_rel ha (.const rfl) (some d)) fun ρ' w' a' t' ta' m' hK hf' hR' hp ha' hd' => hq ρ' w' a' t' ta' m' hK hf' hR' hp ha' (by rw [hd', put_defers])
        simp only [wpOpsIn, ho, hwt, Bool.false_eq_true, if_false]
        refine ⟨fun _ _ => trivial, ?_⟩
        rw [hod]
        exact hnext

theorem WpX.sound {n : Nat} {f : FuncId} (hE : E.Ok P) (hcode : ∀ f i, E.fn f = some i → codeOk dk E f i.code = true) (hdraw : DrawSound (Good dk E) P E dk) {c' : MC} {K : Post3} {t : Fr} {m : Mem} (h : WpX E f n c' K t m) :
    ∀ c, compile E f n c = some c' → codeOk dk E f c = true → mapsOk E c = true → XSound dk P E n c K t m := by
  induction h with
  | m h => exact fun c hc hok _ => .of_run hE hcode hdraw hc hok h
  | seq J _ _ ih1 ih2 =>
    intro c hc hok hmo ρ w ac ta N Q hR hf ha hq
    obtain ⟨x, y, rfl, hx, hy⟩ := compile_seq hc
    simp only [codeOk, mapsOk, Bool.and_eq_true] at hok hmo
    refine wpIn_seq (ih1 x hx hok.1 hmo.1 ρ w ac ta N _ hR hf ha fun ρ1 w1 a1 x1 t1 ta1 m1 hK hf1 hR1 hp1 ha1 hm1 => ?_)
    cases x1 with
    | normal => exact ih2 t1 m1 hK y hy hok.2 hmo.2 ρ1 w1 a1 ta1 N _ hR1 hf1 ha1 fun ρ2 w2 a2 x2 t2 ta2 m2 hK2 hf2 hR2 hp2 ha2 hm2 => hq _ _ _ _ _ _ _ hK2 hf2 hR2 (hp1.trans hp2) ha2 (hm1.trans hp1 hm2 hp2)
    | _ => exact then_of (by simp) (hq _ _ _ _ _ _ _ hK hf1 hR1 hp1 ha1 hm1)
  | @cond cop _ _ _ _ _ p hp _ _ ih1 ih2 =>
    intro c hc hok hmo ρ w ac ta N Q hR hf ha hq
    obtain ⟨x, y, rfl, hx, hy⟩ := compile_cond hc
    simp only [codeOk, mapsOk, Bool.and_eq_true] at hok hmo
    have hb : ac.eval cop = .bool p := by
      have h1 := ev_rel ha hok.1.1
      rw [hf.ev, hp] at h1
      generalize ac.eval cop = v at h1
      cases h1; rfl
    cases p with
    | true => exact wpIn_cond_true hb (ih1 rfl x hx hok.1.2 hmo.1 ρ w ac ta N _ hR hf ha hq)
    | false => exact wpIn_cond_false hb (ih2 rfl y hy hok.2 hmo.2 ρ w ac ta N _ hR hf ha hq)
  | block _ ih =>
    intro c hc hok hmo ρ w ac ta N Q hR hf ha hq
    obtain ⟨x, rfl, hx⟩ := compile_block hc
    simp only [codeOk, mapsOk] at hok hmo
    refine wpIn_block (ih x hx hok hmo ρ w ac ta N _ hR hf ha fun ρ1 w1 a1 x1 t1 ta1 m1 hK hf1 hR1 hp1 ha1 hm1 => ?_)
    have h1 := fun x2 (hK2 : _) => hq ρ1 w1 a1 x2 t1 ta1 m1 hK2 hf1 hR1 hp1 ha1 hm1
    cases x1 with
    | exit i =>
      simp only [Exit.inBlock]
      simp only [blockK] at hK
      split
      · rename_i he; rw [if_pos he] at hK; exact h1 _ hK
      · rename_i he; rw [if_neg he] at hK; exact h1 _ hK
    | _ => exact h1 _ hK
  | opsX hl h =>
    intro c hc hok hmo ρ w ac ta N Q hR hf ha hq
    obtain ⟨id, ops, rfl, hd, rfl⟩ := compile_ops hc hmo hl
    simp only [codeOk, Bool.and_eq_true] at hok
    exact wpIn_region (h.sound hE hcode hdraw hd (fun o ho => List.all_eq_true.1 hok.1 o ho) (List.range ops.size) rfl (fun i hi => List.mem_range.1 hi) ρ w ac ta N Q hR hf ha fun ρ' w' a' t' ta' m' hK hf' hR' hp ha' hd' => hq ρ' w' a' .normal t' ta' m' hK hf' hR' hp ha' (by rw [hd']; exact Marks.refl _))
  | @loop _ K1 _ _ I k0 h0 _ ih =>
    intro c hc hok hmo ρ w ac ta N Q hR hf ha hq
    obtain ⟨x, rfl, hx⟩ := compile_loop hc
    have hok' : codeOk dk E f x = true := hok
    have hmo' : mapsOk E x = true := hmo
    have key : ∀ (k j : Nat) (t : Fr) (m : Mem) (ρ : Inj) (w1 : World) (a1 : Act) (ta : Array Value), j ≤ k → I j t m → Rl (Good dk E) ρ m w1 → FrOf n ta t → ARel ρ ta a1.tmps →
        (∀ ρ' w' a' x t' ta' m', K1 x t' m' → FrOf n ta' t' → Rl (Good dk E) ρ' m' w' → Post (Good dk E) 0 ρ m w1 ρ' m' w' → ARel ρ' ta' a'.tmps → Marks (Good dk E) none ρ' m' w1 w' a1.defers a'.defers → Q x a' w') → Code.roundsIn (FW none) N P x Q (k + 1) a1 w1 := by
      intro k
      induction k with
      | zero =>
        intro j t m ρ w1 a1 ta hj hI hR hf ha hq
        rw [roundsIn_succ]
        refine ih j t m hI x hx hok' hmo' ρ w1 a1 ta N _ hR hf ha fun ρ1 w2 a2 x1 t1 ta1 m1 hK hf1 hR1 hp1 ha1 hm1 => ?_
        cases x1 with
        | normal =>
          obtain ⟨j', hj', _⟩ := hK
          omega
        | _ => exact then_of (by simp) (hq _ _ _ _ _ _ _ hK hf1 hR1 hp1 ha1 hm1)
      | succ k ihk =>
        intro j t m ρ w1 a1 ta hj hI hR hf ha hq
        rw [roundsIn_succ]
        refine ih j t m hI x hx hok' hmo' ρ w1 a1 ta N _ hR hf ha fun ρ1 w2 a2 x1 t1 ta1 m1 hK hf1 hR1 hp1 ha1 hm1 => ?_
        cases x1 with
        | normal =>
          obtain ⟨j', hj', hI'⟩ := hK
          exact ihk j' t1 m1 ρ1 w2 a2 ta1 (by omega) hI' hR1 hf1 ha1 fun ρ2 w3 a3 x2 t2 ta2 m2 hK2 hf2 hR2 hp2 ha2 hm2 => hq _ _ _ _ _ _ _ hK2 hf2 hR2 (hp1.trans hp2) ha2 (hm1.trans hp1 hm2 hp2)
        | _ => exact then_of (by simp) (hq _ _ _ _ _ _ _ hK hf1 hR1 hp1 ha1 hm1)
    exact wpIn_loop_rounds (k0 + 1) (key k0 k0 _ _ ρ w ac ta (Nat.le_refl _) h0 hR hf ha hq)
  | range hx hm hd hn hcl hne hr hk => exact fun c hcc hok hmo => .range hE hcode hdraw hcc hok hmo hx hm hd hn hcl hne hr hk
end sound_

section call_
variable {P : Program} {T : Tab}

/-- The call answers true, and leaves all as it was. -/
def CallX (P : Program) (T : Tab) (f : FuncId) (args : List Value) (m : Mem) : Prop :=
  ∀ (ρ : Inj) (w : World) (args' : Array Value), Rl (CG P T) ρ m w → ARel ρ args.toArray args' → Calls P f args' w fun e w' => e = .returned (.bool true) ∧ Kept w w'

theorem CallX.of_wpx (hF : Facts P T) {f : FuncId} {n : Nat} {rs : List ResultVar} {c : MC} (hf : FnIs (envOf P T) f n rs c) (hmo : (((envOf P T).fn f).map fun i => mapsOk (envOf P T) i.code) = some true) {args : List Value} (hs : args.length ≤ n) {m : Mem}
    (hro : ∀ i c, m.get i = some c → c.writable = false) (h : WpX (envOf P T) f n c (retK fun t m' => resultsF (envOf P T) m' t rs = some [.bool true]) (initU 0 args undefF) m) : CallX P T f args m := by
  rw [← initF_eq] at h
  intro ρ w args' hR ha
  obtain ⟨hc0, hf⟩ := hf
  obtain ⟨i, h1, h2⟩ := Option.map_eq_some_iff.1 hf
  simp only [Prod.mk.injEq] at h2
  obtain ⟨rfl, rfl, hcomp⟩ := h2
  rw [h1] at hmo
  have hmo : mapsOk (envOf P T) i.code = true := Option.some.inj hmo
  obtain ⟨fn, f1, f2, f3, f4, f5⟩ := hF.env.fn f i h1
  have hfr : FrOf i.ntmps (initT i.ntmps args.toArray) (initF args) := by
    refine ⟨by simp [initT]; omega, fun j => ?_⟩
    unfold initT initF
    rw [Array.getD_eq_getD_getElem?, Array.getElem?_append, List.getD_eq_getElem?_getD]
    by_cases hj : j < args.toArray.size
    · rw [if_pos hj]; simp
    · rw [if_neg hj, List.getElem?_eq_none (by simpa using hj), Array.getElem?_replicate]
      split <;> rfl
  refine callsIn_wide (n := 0).1 (callsIn_of_wp_marks f1 f2 trivial (h.sound hF.env hF.code (drawSound hF.env hF.mixed) i.code hcomp (hF.code f i h1) hmo ρ w _ _ 0 _ hR hfr ?_ fun ρ' w' a' x t' ta' m' hK hf' hR' hp ha' hm => ?_))
  · have e : args'.size = args.toArray.size := ha.size.symm
    rw [f3, e]
    exact ARel.append ha (ARel.replicate _)
  · obtain ⟨hx, hres⟩ : (x = .normal ∨ x = .ret) ∧ resultsF (envOf P T) m' t' i.results.toList = some [.bool true] := by
      cases x with
      | normal => exact ⟨.inl rfl, hK⟩
      | ret => exact ⟨.inr rfl, hK⟩
      | _ => exact hK.elim
    obtain ⟨bs, hb1, hb2, hb3, _⟩ := hm.ex
    have hd : a'.defers = bs.map markOf := by simpa using hb1
    have hl := leavesM (N := 0) (R := fun e w' => e = .returned (.bool true) ∧ Kept w w') hF.env (fn := fn) ha' (by rw [f4]; exact (hf'.results m' _).trans hres) (fun w'' v' hp' hv => by
      cases hv
      exact ⟨rfl, Kept.of_post hp' hro⟩) bs w' hp hb2 hb3
    rw [← hd] at hl
    rcases hx with rfl | rfl
    · exact hl
    · exact hl

section lay
variable {W : World} {H : Type} {enc : TypeId × Value → H} {K F : TypeId → Prop}
/-- A law's call on what its arguments read. -/
theorem calls_of_argsX (hK : Plain P K F) {f : FuncId} {ts : List TypeId} {vs : List Value} {ds : List (DataW H)} {ps : List MemPlace} (hA : DataW.TrodAll enc P W 0 (fun _ => true) true ts vs ds ps)
    (hT : ∀ t ∈ ts, K t) (h1 : ∀ v ∈ vs, OneArg v)
    (law : ∀ (m : Mem) (as : List Value), (∀ i c, m.get i = some c → c.writable = false) → as.length = ts.length → (∀ (i : Nat) t a, ts[i]? = some t → as[i]? = some a → ∃ n, Wf P m n t [a]) → CallX P T f as m) :
    Calls P f vs.toArray W fun e w' => e = .returned (.bool true) ∧ Kept W w' := by
  have key : ∀ (ts : List TypeId) (vs : List Value) (ds : List (DataW H)) (ps : List MemPlace), DataW.TrodAll enc P W 0 (fun _ => true) true ts vs ds ps → (∀ t ∈ ts, K t) → (∀ v ∈ vs, OneArg v) → ∀ m ρ, Laid P T W m ρ →
      ∃ l ρ' as, Laid P T W (m.ext l) ρ' ∧ ρ.le ρ' ∧ LRel ρ' as vs ∧ as.length = ts.length ∧ ∀ (i : Nat) t a, ts[i]? = some t → as[i]? = some a → ∃ n, Wf P (m.ext l) n t [a] := by
    intro ts
    induction ts with
    | nil =>
      intro vs ds ps h _ _ m ρ hm
      obtain ⟨rfl, rfl, rfl⟩ := ChangeShapes.trodAll_nil h
      exact ⟨[], ρ, [], by rw [ext_nil]; exact hm, Inj.le_refl ρ, .nil, rfl, fun i t a ht => by simp at ht⟩
    | cons t ts ih =>
      intro vs ds ps h hT h1 m ρ hm
      obtain ⟨v, vs', d, ds', p, q, rfl, rfl, rfl, ⟨n, hn⟩, hr⟩ := ChangeShapes.trodAll_cons h
      obtain ⟨o1, _⟩ := h1 v (by simp)
      rw [o1] at hn
      obtain ⟨l1, ρ1, c1, a1, a2, a3, a4⟩ := lay (T := T) hK n t [v] _ (hT t (by simp)) hn m ρ hm
      obtain ⟨l2, ρ2, as, b1, b2, b3, b4, b5⟩ := ih vs' ds' q hr (fun t ht => hT t (by simp [ht])) (fun v hv => h1 v (by simp [hv])) _ ρ1 a1
      cases a3 with
      | cons hv hnil =>
        cases hnil
        rename_i av
        refine ⟨l1 ++ l2, ρ2, av :: as, by rw [← ext_ext]; exact b1, Inj.le_trans a2 b2, .cons (hv.mono b2) b3, by simp [b4], fun i t' a ht' ha => ?_⟩
        rw [← ext_ext]
        cases i with
        | zero =>
          simp only [List.getElem?_cons_zero, Option.some.injEq] at ht' ha
          subst ht' ha
          exact ⟨n, a4.old ⟨l2, rfl⟩⟩
        | succ i => exact b5 i t' a (by simpa using ht') (by simpa using ha)
  obtain ⟨l, ρ, as, a1, _, a3, a4, a5⟩ := key ts vs ds ps hA hT h1 ⟨[]⟩ (fun _ => none) ⟨⟨fun i b h => (nomatch h), fun i j bi bj ei ej h => (nomatch h)⟩, fun _ _ h => (nomatch h), fun i c h => (nomatch h)⟩
  refine law _ as a1.ro a4 a5 ρ W _ ⟨a1.sim, a1.dom⟩ ?_
  show LRel _ as.toArray.toList vs.toArray.toList
  simpa using a3
end lay
end call_

section maps_
set_option linter.unusedSimpArgs false
set_option linter.unusedVariables false
variable {E : Env} {m m' : Mem}

theorem WpX.pre {f : FuncId} {n : Nat} {a b : MC} {K : Post3} {t : Fr} (h : wpM E f n none a (seqK (fun t m => WpX E f n b K t m) K) t m) : WpX E f n (.seq a b) K t m := .seq (fun t m => WpX E f n b K t m) (.m h) fun _ _ h => h
theorem WpX.post {f : FuncId} {n : Nat} {a b : MC} {K : Post3} {t : Fr} (h : WpX E f n a (seqK (fun t m => WpX E f n b K t m) K) t m) : WpX E f n (.seq a b) K t m := .seq (fun t m => WpX E f n b K t m) h fun _ _ h => h
theorem resultsF_1 {t : Fr} {i : Nat} {v : Value} (h : t i = v) : resultsF E m t [.tmp i] = some [v] := by rw [← h]; rfl

theorem WpOX.split (k : Nat) {l : List MO} {K : Fr → Mem → Prop} {t : Fr} (h : wpO E (l.take k) (fun t m => WpOX E (l.drop k) K t m) t m) : WpOX E l K t m := by
  have := WpOX.app (E := E) (l := l.take k) (l' := l.drop k) (K := K) (t := t) (m := m) (fun t m => WpOX E (l.drop k) K t m) (.o h) fun _ _ h => h
  rwa [List.take_append_drop] at this

/-- A kind of keys. -/
structure KeyK (α : Type) [DecidableEq α] where
  kd : TypeDesc
  inj : α → Value
  ok : ∀ x, keyD kd (inj x) = true
  same : ∀ x y, Instr.sameNow kd (inj x) (inj y) = some (decide (x = y))

theorem beq_dec {α : Type} [DecidableEq α] [BEq α] [LawfulBEq α] (x y : α) : (x == y) = decide (x = y) := by
  by_cases h : x = y
  · subst h; simp
  · rw [decide_eq_false h, beq_eq_false_iff_ne.2 h]

def keyI : KeyK Int := ⟨.int .i64, .int .i64, fun _ => by simp [keyD], fun x y => by
  show (if IntKind.i64 = IntKind.i64 then some (x == y) else none) = _
  rw [if_pos rfl, beq_dec]⟩
def keyS : KeyK ByteArray := ⟨.string, .string, fun _ => rfl, fun x y => by
  show some (x == y) = _
  congr 1
  by_cases h : x = y
  · rw [decide_eq_true h]; exact (MapKept.bytes_beq x y).2 h
  · rw [decide_eq_false h, ← Bool.not_eq_true]; exact fun e => h ((MapKept.bytes_beq x y).1 e)⟩

section kk
variable {α : Type} [DecidableEq α] {K : KeyK α}

def lk : List (α × Value) → α → Option Value
  | [], _ => none
  | p :: l, x => if p.1 = x then some p.2 else lk l x

theorem lk_none : ∀ {l : List (α × Value)} {x : α}, lk l x = none → x ∉ l.map Prod.fst
  | [], _, _ => by simp
  | p :: l, x, h => by
    unfold lk at h
    split at h
    · cases h
    · rename_i hne
      have := lk_none h
      simp only [List.map_cons, List.mem_cons, not_or]
      exact ⟨fun e => hne e.symm, this⟩
theorem lk_mem : ∀ {l : List (α × Value)} {p : α × Value}, (l.map Prod.fst).Nodup → p ∈ l → lk l p.1 = some p.2
  | q :: l, p, hn, h => by
    rw [List.map_cons, List.nodup_cons] at hn
    unfold lk
    rcases List.mem_cons.1 h with rfl | h
    · rw [if_pos rfl]
    · rw [if_neg (fun e : q.1 = p.1 => hn.1 (by rw [e]; exact List.mem_map.2 ⟨p, h, rfl⟩)), lk_mem hn.2 h]
theorem lk_snoc (v : Value) (x : α) : ∀ {l : List (α × Value)}, lk l x = none → ∀ y, lk (l ++ [(x, v)]) y = if y = x then some v else lk l y
  | [], _, y => by
    show (if x = y then some v else lk [] y) = _
    by_cases h : y = x
    · rw [if_pos h, if_pos h.symm]
    · rw [if_neg h, if_neg (Ne.symm h)]
  | p :: l, hn, y => by
    unfold lk at hn
    split at hn
    · cases hn
    rename_i hne
    show (if p.1 = y then some p.2 else lk (l ++ [(x, v)]) y) = if y = x then some v else if p.1 = y then some p.2 else lk l y
    rw [lk_snoc v x hn y]
    by_cases h : p.1 = y
    · rw [if_pos h, if_pos h, if_neg (fun e => hne (h.trans e))]
    · rw [if_neg h, if_neg h]

/-- Entries that bear such keys. -/
structure KEs (K : KeyK α) (es : List MapEntry) (l : List (α × Value)) : Prop where
  rel : es.map (fun e => (e.key, e.val)) = l.map fun p => (K.inj p.1, p.2)
  nd : (l.map Prod.fst).Nodup

theorem kfind (x : α) : ∀ (es : List MapEntry) (l : List (α × Value)) (n : Nat), es.map (fun e => (e.key, e.val)) = l.map (fun p => (K.inj p.1, p.2)) →
    (lk l x = none ∧ Instr.findNow K.kd (K.inj x) es n = some none) ∨
    ∃ i u, i < es.length ∧ lk l x = some u ∧ Instr.findNow K.kd (K.inj x) es n = some (some (n + i, u)) ∧ ∀ v, ∃ l', (es.modify i fun e => { e with key := K.inj x, val := v }).map (fun e => (e.key, e.val)) = l'.map (fun p => (K.inj p.1, p.2)) ∧ l'.map Prod.fst = l.map Prod.fst ∧ (∀ y, lk l' y = if y = x then some v else lk l y)
  | [], [], n, _ => .inl ⟨rfl, rfl⟩
  | e :: es, p :: l, n, h => by
    simp only [List.map_cons, List.cons.injEq, Prod.mk.injEq] at h
    obtain ⟨⟨hk, hv⟩, ht⟩ := h
    have hs : Instr.sameNow K.kd (K.inj x) e.key = some (decide (x = p.1)) := by rw [hk]; exact K.same x p.1
    by_cases hx : x = p.1
    · subst hx
      refine .inr ⟨0, e.val, by simp, by unfold lk; rw [if_pos rfl, hv], ?_, fun v => ⟨(p.1, v) :: l, ?_, by simp, fun y => ?_⟩⟩
      · simp only [Instr.findNow, hs, decide_true]; rfl
      · show (_ :: _) = (_ :: _)
        simp [ht]
      · show (if p.1 = y then some v else lk l y) = if y = p.1 then some v else if p.1 = y then some p.2 else lk l y
        by_cases hy : y = p.1
        · rw [if_pos hy, if_pos hy.symm]
        · rw [if_neg hy, if_neg (Ne.symm hy), if_neg (Ne.symm hy)]
    · rw [show decide (x = p.1) = false by simpa using hx] at hs
      have hx' : ¬ p.1 = x := Ne.symm hx
      rcases kfind x es l (n + 1) ht with ⟨h1, h2⟩ | ⟨i, u, h1, h2, h3, h4⟩
      · exact .inl ⟨by unfold lk; rw [if_neg hx']; exact h1, by simp only [Instr.findNow, hs]; exact h2⟩
      · refine .inr ⟨i + 1, u, by simpa using h1, by unfold lk; rw [if_neg hx']; exact h2, by simp only [Instr.findNow, hs, h3]; rw [show n + 1 + i = n + (i + 1) by omega], fun v => ?_⟩
        obtain ⟨l', g1, g2, g3⟩ := h4 v
        refine ⟨p :: l', ?_, by simp [g2], fun y => ?_⟩
        · show (_ :: _) = (_ :: _)
          simp only [hk, hv]
          exact congrArg _ g1
        · show (if p.1 = y then some p.2 else lk l' y) = if y = x then some v else if p.1 = y then some p.2 else lk l y
          rw [g3 y]
          by_cases hy : p.1 = y
          · rw [if_pos hy, if_pos hy, if_neg (fun e => hx' (hy.trans e))]
          · rw [if_neg hy, if_neg hy]
  | [], _ :: _, _, h => by cases h
  | _ :: _, [], _, h => by cases h

/-- A map, as a function, and how many keys it holds. -/
def KMap (K : KeyK α) (m : Mem) (b : Nat) (f : α → Option Value) (N : Nat) : Prop :=
  ∃ es clock l, m.get b = some (.map es clock) ∧ KEs K es l ∧ (∀ e ∈ es, e.born < clock) ∧ (es.map (·.born)).Nodup ∧ (∀ x, lk l x = f x) ∧ es.length = N

theorem KMap.keep {b N : Nat} {f : α → Option Value} (h : KMap K m b f N) (e : m'.get b = m.get b) : KMap K m' b f N := by
  obtain ⟨es, c, l, h1, h2⟩ := h
  exact ⟨es, c, l, e.trans h1, h2⟩
theorem KMap.blk {b N : Nat} {f : α → Option Value} (h : KMap K m b f N) : b < m.size := by
  obtain ⟨es, c, l, h1, h2⟩ := h
  exact getM_lt h1
theorem KMap.old {b N : Nat} {f : α → Option Value} (h : KMap K m b f N) (o : Old m m') : KMap K m' b f N := h.keep (o.get h.blk)
theorem KMap.fn {b N : Nat} {f g : α → Option Value} (h : KMap K m b f N) (e : ∀ x, f x = g x) : KMap K m b g N := by
  have : f = g := funext e
  exact this ▸ h
theorem KMap.new {b : Nat} (h : m.get b = some (.map [] 0)) : KMap K m b (fun _ => none) 0 := ⟨[], 0, [], h, ⟨rfl, by simp⟩, fun e he => by simp at he, by simp, fun x => rfl, rfl⟩

/-- A type of such maps. -/
def IsKMap (K : KeyK α) (E : Env) (t : TypeId) (z : Value) : Prop := ∃ kt ei, mapD E t = some (kt, K.kd, ei) ∧ ei.zero = z

theorem makeMapV_K {t : TypeId} {z : Value} (h : IsKMap K E t z) : makeMapV E m t none = some (.map (some m.size), m.push (.map [] 0)) := by
  obtain ⟨kt, ei, h1, _⟩ := h
  unfold makeMapV
  rw [h1]

theorem KMap.look {b N : Nat} {f : α → Option Value} (h : KMap K m b f N) {t : TypeId} {z : Value} (ht : IsKMap K E t z) (x : α) : lookupV E m t (.map (some b)) (K.inj x) false = some ((f x).getD z) := by
  obtain ⟨kt, ei, h1, rfl⟩ := ht
  obtain ⟨es, c, l, hg, hm, _, _, hf, _⟩ := h
  unfold lookupV
  simp only [h1, entriesV, hg]
  rw [if_pos (K.ok x), ← hf]
  rcases kfind x es l 0 hm.rel with ⟨k1, k2⟩ | ⟨i, u, _, k2, k3, _⟩
  · rw [k1, k2]; rfl
  · rw [k2, k3]; rfl

def updK (f : α → Option Value) (x : α) (v : Value) : α → Option Value := fun y => if y = x then some v else f y

theorem KMap.upd {b N : Nat} {f : α → Option Value} (h : KMap K m b f N) {t : TypeId} {z : Value} (ht : IsKMap K E t z) (x : α) (v : Value) : ∃ m', mapUpdateV E m t (.map (some b)) (K.inj x) v = some m' ∧ KMap K m' b (updK f x v) (if (f x).isSome then N else N + 1) ∧ m'.size = m.size ∧ ∀ i, i ≠ b → m'.get i = m.get i := by
  have hl := h.blk
  obtain ⟨kt, ei, h1, rfl⟩ := ht
  obtain ⟨es, c, l, hg, hm, hlt, hnd, hf, rfl⟩ := h
  unfold mapUpdateV
  simp only [h1, hg]
  rw [if_pos (K.ok x)]
  rcases kfind x es l 0 hm.rel with ⟨k1, k2⟩ | ⟨i, u, hi, k2, k3, k4⟩
  · rw [k2]
    have hx : f x = none := (hf x).symm.trans k1
    refine ⟨_, rfl, ⟨es ++ [{ key := K.inj x, val := v, born := c }], c + 1, l ++ [(x, v)], by rw [getM_put, if_pos ⟨rfl, hl⟩], ⟨by simp [hm.rel], ?_⟩, fun e he => ?_, ?_, fun y => ?_, ?_⟩, by rw [size_put], fun i hi => by rw [getM_put, if_neg (fun e => hi e.1)]⟩
    · rw [List.map_append, List.nodup_append]
      refine ⟨hm.nd, by simp, fun a ha b hb => ?_⟩
      simp only [List.map_cons, List.map_nil, List.mem_singleton] at hb
      subst hb
      intro e
      exact lk_none k1 (e ▸ ha)
    · rcases List.mem_append.1 he with he | he
      · have := hlt e he; omega
      · rw [List.mem_singleton.1 he]; exact Nat.lt_succ_self _
    · rw [List.map_append, List.nodup_append]
      refine ⟨hnd, by simp, fun a ha b hb => ?_⟩
      obtain ⟨e, he, rfl⟩ := List.mem_map.1 ha
      simp only [List.map_cons, List.map_nil, List.mem_singleton] at hb
      have := hlt e he
      omega
    · rw [lk_snoc v x k1 y, hf]; rfl
    · rw [hx]; simp
  · rw [k3, Nat.zero_add]
    have hx : f x = some u := (hf x).symm.trans k2
    obtain ⟨l', g1, g2, g3⟩ := k4 v
    have hborn : (es.modify i fun e => { e with key := K.inj x, val := v }).map (·.born) = es.map (·.born) := by
      apply List.ext_getElem?
      intro j
      rw [List.getElem?_map, List.getElem?_map, modify_get]
      cases es[j]? with
      | none => split <;> rfl
      | some e => split <;> rfl
    refine ⟨_, rfl, ⟨es.modify i fun e => { e with key := K.inj x, val := v }, c, l', by rw [getM_put, if_pos ⟨rfl, hl⟩], ⟨g1, by rw [g2]; exact hm.nd⟩, fun e he => ?_, by rw [hborn]; exact hnd, fun y => ?_, ?_⟩, by rw [size_put], fun i hi => by rw [getM_put, if_neg (fun e => hi e.1)]⟩
    · have hb : e.born ∈ es.map (·.born) := by rw [← hborn]; exact List.mem_map.2 ⟨e, he, rfl⟩
      obtain ⟨e0, h0, h2⟩ := List.mem_map.1 hb
      have := hlt e0 h0
      omega
    · rw [g3 y, hf]; rfl
    · rw [hx]; simp

/-- What a map is, for a range over it. -/
theorem KMap.ents {b N : Nat} {f : α → Option Value} (h : KMap K m b f N) : ∃ es clock, m.get b = some (.map es clock) ∧ (es.map (·.born)).Nodup ∧ (∀ e ∈ es, e.born < clock) ∧ es.length = N ∧ ∀ e ∈ es, ∃ x, e.key = K.inj x ∧ f x = some e.val := by
  obtain ⟨es, c, l, hg, hm, hlt, hnd, hf, hN⟩ := h
  refine ⟨es, c, hg, hnd, hlt, hN, fun e he => ?_⟩
  have : (e.key, e.val) ∈ l.map fun p => (K.inj p.1, p.2) := by rw [← hm.rel]; exact List.mem_map.2 ⟨e, he, rfl⟩
  obtain ⟨p, hp, h2⟩ := List.mem_map.1 this
  simp only [Prod.mk.injEq] at h2
  refine ⟨p.1, h2.1.symm, ?_⟩
  rw [← hf, lk_mem hm.nd hp, h2.2]
end kk
end maps_
end Go.Abs
