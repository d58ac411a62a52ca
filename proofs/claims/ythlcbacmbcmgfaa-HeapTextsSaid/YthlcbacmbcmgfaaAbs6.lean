/-
  Each operation on both sides: conversions, append, copy, calls; all together.
-/
import Derived.Test.YthlcbacmbcmgfaaAbs5
namespace Go.Abs
variable {C : FuncId → Code → Prop} {B : Nat}
def isIntD : TypeDesc → Bool
  | .int _ => true
  | _ => false

section ops
variable {P : Program} {E : Env} (hE : E.Ok P) {ρ : Inj} {m : Mem} {w : World}
include hE

/-! ### append, copy -/
omit hE in
theorem row_zero {a : Addr} {l : List Value} (h : m.row a 0 = some l) : l = [] := by
  unfold Mem.row at h
  split at h
  · split at h
    · simp only [List.take_zero, Option.some.injEq] at h
      exact h.symm
    · simp at h
  · simp at h

theorem appended_run (hs : Sim C B ρ m w) {es n : Nat} {xt : TypeId} {x x' : Value} {l : List Value} (h : appended E m es xt x = some (n, l)) (hx : VRel ρ x x') :
    ∃ l' : List Value, LRel ρ l l' ∧ l'.length = n * es ∧ (∀ k, (Builtin.lenOf x').run P { w with drawn := k } = .ok n { w with drawn := k }) ∧
      (∀ k, (Builtin.firstCells es n x').run P { w with drawn := k } = .ok l'.toArray { w with drawn := k }) ∧ ∃ d, (∀ w, (underlying xt).run P w = .ok d w) ∧ isIntD d = false := by
  unfold appended at h
  split at h
  · rename_i e c hd
    cases h; cases hx
    exact ⟨[], .nil, by simp, fun k => by simp [Builtin.lenOf], fun k => by simp [Builtin.firstCells], _, hE.run_und hd, rfl⟩
  · rename_i e b n' c hd
    split at h
    · rename_i hz
      cases h
      subst hz
      cases hx with
      | slOdd hρ ht o a' => exact ⟨[], .nil, by simp, fun k => by simp [Builtin.lenOf], fun k => by simp [Builtin.firstCells, loadCells, loadCellsFrom], _, hE.run_und hd, rfl⟩
      | sl hρ o o' _ _ c' ho hn hc ht hlim =>
        exact ⟨[], .nil, by simp, fun k => by simp [Builtin.lenOf], fun k => by simp [Builtin.firstCells, loadCells, loadCellsFrom], _, hE.run_und hd, rfl⟩
    obtain ⟨l0, hl, he⟩ := Option.map_eq_some_iff.1 h
    cases he
    cases hx with
    | slOdd hρ ht o a' =>
      have el : l = [] := row_zero (by simpa using hl)
      subst el
      exact ⟨[], .nil, by simp, fun k => by simp [Builtin.lenOf], fun k => by simp [Builtin.firstCells, loadCells, loadCellsFrom], _, hE.run_und hd, rfl⟩
    | sl hρ o o' _ _ c' ho hn hc ht hlim =>
      by_cases h0 : 0 < c
      · have e1 := ho h0
        subst e1
        have key : ∀ k, ∃ l', LRel ρ l l' ∧ l'.length = n * es ∧ (loadCells ⟨_, _, none⟩ (n * es)).run P { w with drawn := k } = .ok l'.toArray { w with drawn := k } :=
          fun k => run_loadCells_rel (P := P) (Post.drew hs k).sim hl hρ
        obtain ⟨l', k1, k2, k3⟩ := run_loadCells_rel (P := P) hs hl hρ
        refine ⟨l', k1, k2, fun k => by simp [Builtin.lenOf], fun k => ?_, _, hE.run_und hd, rfl⟩
        obtain ⟨r1, r2, r3⟩ := row_rel hs hl hρ
        have := run_loadCells_list (P := P) ({ w with drawn := k } : World) ⟨_, _, none⟩ r1 fun j v hj => by rw [add_none]; exact r3.2 j v hj
        have t2 := run_loadCells_list (P := P) w ⟨_, _, none⟩ r1 fun j v hj => by rw [add_none]; exact r3.2 j v hj
        rw [r2] at this t2
        rw [k3] at t2
        have e3 : l'.toArray = r1.toArray := by injection t2
        rw [e3]
        simpa [Builtin.firstCells] using this
      · have e0 : n = 0 := by omega
        subst e0
        have el : l = [] := row_zero (by simpa using hl)
        subst el
        exact ⟨[], .nil, by simp, fun k => by simp [Builtin.lenOf], fun k => by simp [Builtin.firstCells, loadCells, loadCellsFrom], _, hE.run_und hd, rfl⟩
  · rename_i s hd
    split at h
    · rename_i h1
      cases h; cases hx
      refine ⟨_, LRel.refl_of fun x hx => ?_, by rw [List.length_map, Array.length_toList, h1, Nat.mul_one]; rfl, fun k => by simp [Builtin.lenOf], fun k => ?_, _, hE.run_und hd, rfl⟩
      · obtain ⟨b, _, rfl⟩ := List.mem_map.1 hx
        exact .int _ _
      · have : s.extract 0 s.size = s := by
          apply ByteArray.ext
          simp
        have e : (s.data.map fun b => Value.int .u8 b.toNat) = (s.data.toList.map fun b => Value.int .u8 b.toNat).toArray := by
          apply Array.toList_inj.1
          simp
        simp only [Builtin.firstCells, this, Sem.run_pure, e]
    · cases h
  · cases h

omit hE in
theorem growBy_le (newLen : Nat) : ∀ (r c : Nat), c ≤ newLen → Builtin.growBy newLen r c ≤ 2 * newLen + 768
  | 0, c, h => by simp only [Builtin.growBy]; omega
  | r + 1, c, h => by
    simp only [Builtin.growBy]
    split
    · omega
    · by_cases h2 : c + (c + 768) / 4 ≤ newLen
      · exact growBy_le newLen r _ h2
      · cases r with
        | zero => simp only [Builtin.growBy]; omega
        | succ r =>
          simp only [Builtin.growBy]
          rw [if_pos (by omega)]
          omega

omit hE in
theorem nextslicecap_le (n c : Nat) (h : c < n) : Builtin.nextslicecap n c ≤ 2 * n + 768 := by
  unfold Builtin.nextslicecap
  split
  · omega
  · split
    · omega
    · exact growBy_le n 4 c (by omega)


theorem append_room {st xt ty e : TypeId} {i : TI} {base : Option Addr} {len cap n : Nat} {x' : Value} {d : TypeDesc} {new : List Value} (hd : E.desc st = some (.slice e)) (hi : E.ti e = some i)
    (hx : (underlying xt).run P w = .ok d w) (hdi : isIntD d = false) (hlen : (Builtin.lenOf x').run P w = .ok n w)
    (hnew : (Builtin.firstCells i.size n x').run P w = .ok new.toArray w) (hroom : len + n ≤ cap) :
    (Builtin.append_ #[st, xt] ty #[.slice base len cap, x']).run P w =
      (match base with
        | some a => (storeCells (a.add (len * i.size)) new).run P w
        | none => .ok () w).andThen fun _ w' => .ok (.slice base (len + n) cap) w' := by
  cases d with
  | int k => simp [isIntD] at hdi
  | _ =>
    simp only [Builtin.append_, List.getElem?_toArray, List.getElem?_cons_zero, List.getElem?_cons_succ, Sem.run_bind, hE.run_und hd, Result.andThen_ok, hE.run_size hi, hx, Sem.run_pure, Bool.false_eq_true, if_false, hlen, hroom, if_true,
      Bool.not_false, hnew]
    cases base <;> simp


theorem append_grows {st xt ty e : TypeId} {i : TI} {base : Option Addr} {len cap n : Nat} {x' : Value} {d : TypeDesc} {new old : List Value} (hd : E.desc st = some (.slice e)) (hi : E.ti e = some i)
    (hx : ∀ w, (underlying xt).run P w = .ok d w) (hdi : isIntD d = false) (hlen : ∀ k, (Builtin.lenOf x').run P { w with drawn := k } = .ok n { w with drawn := k })
    (hnew : ∀ k, (Builtin.firstCells i.size n x').run P { w with drawn := k } = .ok new.toArray { w with drawn := k })
    (hold : ∀ k, (Builtin.firstCells i.size len (.slice base len cap)).run P { w with drawn := k } = .ok old.toArray { w with drawn := k }) (hroom : ¬ len + n ≤ cap) (hb : (len + n) * i.bytes ≤ roomMost) (hn : len + n ≤ roomMost) :
    ∃ newCap k rest, len + n ≤ newCap ∧ rest = Builtin.zeroCells i.zero.cells (newCap - (len + n)) ∧
    (Builtin.append_ #[st, xt] ty #[.slice base len cap, x']).run P w =
      .ok (.slice (some ⟨w.heap.size, 0, none⟩) (len + n) newCap) (({ w with drawn := k } : World).alloc (.cells (old.toArray ++ new.toArray ++ rest) e)) := by
  obtain ⟨info, f1, f2⟩ := hE.run_info hi
  have hmax : ((((len + n : Nat) : Int) > IntKind.i64.max) : Prop) = False := by
    have e : IntKind.i64.max = 9223372036854775807 := by decide
    rw [e]
    unfold roomMost at hn
    simp only [eq_iff_iff, iff_false]
    omega
  have hcap : ¬ (Builtin.nextslicecap (len + n) cap * info.bytes > 2 ^ 48) := by
    have h1 := nextslicecap_le (len + n) cap (by omega)
    rw [f1]
    unfold roomMost at hb
    have h2 : Builtin.nextslicecap (len + n) cap * i.bytes ≤ (2 * (len + n) + 768) * i.bytes := Nat.mul_le_mul_right _ h1
    have h3 : (2 * (len + n) + 768) * i.bytes = 2 * ((len + n) * i.bytes) + 768 * i.bytes := by rw [Nat.add_mul, Nat.mul_assoc]
    have h4 : i.bytes ≤ (len + n) * i.bytes := Nat.le_mul_of_pos_left _ (by omega)
    omega
  refine ⟨(Question.appendCap (len + n) cap e).cut (w.tape w.drawn (.appendCap (len + n) cap e)), w.drawn + 1, _, ?_, rfl, ?_⟩
  · simp only [Question.cut]
    omega
  · cases d with
    | int k => simp [isIntD] at hdi
    | _ =>
      have hl0 := hlen w.drawn
      simp only [Builtin.append_, List.getElem?_toArray, List.getElem?_cons_zero, List.getElem?_cons_succ, Sem.run_bind, hE.run_und hd, Result.andThen_ok, hE.run_size hi, hx, Sem.run_pure, Bool.false_eq_true, if_false, hl0, hroom,
        Bool.not_false, hmax, false_and, f2, hcap, run_choose, Question.forced, run_askRoom, hold, hnew, hE.run_zero hi, if_true]
      simp [newRow]


omit hE in
theorem row_cells {a : Addr} {n : Nat} {l : List Value} {b : Blk} (h : m.row a n = some l) (hb : m.get a.block = some b) : ∃ ro tg cs, b = .cells ro tg cs := by
  unfold Mem.row at h
  rw [hb] at h
  cases b with
  | cells ro tg cs => exact ⟨ro, tg, cs, rfl⟩
  | loop => cases h
  | map => cases h

omit hE in
/-- A block is let go. -/
theorem Sim.free (hs : Sim C B ρ m w) {i : Nat} {b : Blk} (hi : m.get i = some b) (hw : b.writable = true) : Post C B ρ m w ρ (m.put i none) w := by
  obtain ⟨e, he, _⟩ := hs.sim.rel i b hi
  exact hs.turn hi hw he none rfl rfl rfl rfl (fun _ _ => rfl) fun c hc => by cases hc

omit hE in
/-- A block that was let go is taken up again under a new name, some of its cells written. -/
theorem Sim.adopt (hs : Sim C B ρ m w) (hB : m.size < B) {i : Nat} {b : Blk} {e e' : Ent} {w' : World} (hi : m.get i = some b) (hw : b.writable = true) (he : ρ i = some e) (hb' : e'.blk = e.blk) (c : Blk)
    (hos : w'.os = w.os) (htape : w'.tape = w.tape) (hout : w'.output = w.output) (hsz : w'.heap.size = w.heap.size) (hold : ∀ r, r ≠ e.blk → w'.heap[r]? = w.heap[r]?) (hc : BRel C ρ w' e' c) :
    Post C B ρ m w (ρ.ext m.size e') ((m.put i none).push c) w' where
  le := Inj.le_ext e' (hs.fresh hB)
  msize := by simp
  new i f hi := by
    unfold Inj.ext at hi
    split at hi
    · exact .inr (by simp; omega)
    · exact .inl hi
  os := hos
  tape := htape
  output := hout
  size := by omega
  frame r _ hf := hold r (fun k => hf i b e hi hw he k.symm)
  sim := by
    have hle : ρ.le (ρ.ext m.size e') := Inj.le_ext e' (hs.fresh hB)
    have hlt := getM_lt hi
    have cases : ∀ {j d}, ((m.put i none).push c).get j = some d → (j = m.size ∧ d = c) ∨ (j ≠ m.size ∧ j ≠ i ∧ m.get j = some d) := fun {j d} hj => by
      rw [getM_push, size_put, getM_put] at hj
      split at hj
      · rename_i k; cases hj; exact .inl ⟨k, rfl⟩
      · rename_i k
        split at hj
        · cases hj
        · rename_i k2
          exact .inr ⟨k, fun e => k2 ⟨e, hlt⟩, hj⟩
    have old : ∀ {k f}, k ≠ m.size → (ρ.ext m.size e') k = some f → ρ k = some f := fun {k f} hne hf => by unfold Inj.ext at hf; rwa [if_neg hne] at hf
    refine ⟨⟨fun j d hj => ?_, fun j k bj bk ej ek hj hk hne hwj h1 h2 => ?_⟩, fun j f hj => ?_⟩
    · rcases cases hj with ⟨rfl, rfl⟩ | ⟨h1, h2, h3⟩
      · exact ⟨e', by simp [Inj.ext], hc.mono hle rfl⟩
      · obtain ⟨f, k1, k2⟩ := hs.sim.rel j d h3
        exact ⟨f, hle _ _ k1, k2.mono hle (hold _ fun k => hs.sim.inj i j b d e f hi h3 (Ne.symm h2) hw he k1 k.symm)⟩
    · rcases cases hj with ⟨rfl, rfl⟩ | ⟨a1, a2, a3⟩
      · rcases cases hk with ⟨rfl, rfl⟩ | ⟨b1, b2, b3⟩
        · exact absurd rfl hne
        · have : ej = e' := by have := h1; simp [Inj.ext] at this; exact this.symm
          subst this
          rw [hb']
          exact hs.sim.inj i k b bk e ek hi b3 (Ne.symm b2) hw he (old b1 h2)
      · rcases cases hk with ⟨rfl, rfl⟩ | ⟨b1, b2, b3⟩
        · have : ek = e' := by have := h2; simp [Inj.ext] at this; exact this.symm
          subst this
          rw [hb']
          exact fun k => hs.sim.inj i j b bj e ej hi a3 (Ne.symm a2) hw he (old a1 h1) k.symm
        · exact hs.sim.inj j k bj bk ej ek a3 b3 hne hwj (old a1 h1) (old b1 h2)
    · rw [size_push, size_put]
      unfold Inj.ext at hj
      split at hj
      · omega
      · have := hs.dom j f hj; omega
  img j d f hj hwd hf := by
    rw [getM_push, size_put, getM_put] at hj
    split at hj
    · rename_i k
      subst k
      have : f = e' := by have := hf; simp [Inj.ext] at this; exact this.symm
      subst this
      exact .inr ⟨i, b, e, hi, hw, he, hb'.symm⟩
    · rename_i k
      split at hj
      · cases hj
      · exact .inr ⟨j, d, f, hj, hwd, by unfold Inj.ext at hf; rwa [if_neg k] at hf, rfl⟩

theorem zeroCells_size {e : TypeId} {i : TI} (hi : E.ti e = some i) (n : Nat) : (Builtin.zeroCells i.zero.cells n).size = n * i.size := by
  simp [Builtin.zeroCells, (hE.ti e i hi).zsize]

theorem appendV_run (hs : Sim C B ρ m w) {st xt ty : TypeId} {s x s' x' v : Value} {m' : Mem} (h : appendV E m st xt s x = some (v, m')) (hB : m.size < m'.size → m'.size ≤ B) (hsv : VRel ρ s s') (hxv : VRel ρ x x') :
    ∃ w' ρ' v', (Builtin.append_ #[st, xt] ty #[s', x']).run P w = .ok v' w' ∧ Post C B ρ m w ρ' m' w' ∧ VRel ρ' v v' := by
  unfold appendV at h
  split at h
  · rename_i e base len cap hd
    split at h
    · cases h
    · rename_i i hi
      split at h
      · cases h
      · rename_i n new happ
        obtain ⟨new', a1, a2, a3, a4, d, a5, a6⟩ := appended_run hE hs happ hxv
        have a3' := a3 w.drawn
        have a4' := a4 w.drawn
        have hlnew := a1.length
        split at h
        · rename_i hroom
          split at h
          · cases h; cases hsv
            cases a1
            exact ⟨w, ρ, _, by rw [append_room hE hd hi (a5 w) a6 a3' a4' hroom]; rfl, Post.refl hs, .slNil _ _⟩
          · cases h
            cases a1
            cases hsv with
            | slOdd hρ ht o a' =>
              have h0 : n = 0 := by omega
              subst h0
              exact ⟨w, ρ, _, by rw [append_room hE hd hi (a5 w) a6 a3' a4' hroom]; rfl, Post.refl hs, .slOdd hρ ht o a'⟩
            | sl hρ o o' _ _ c' ho hn hc ht hlim =>
              exact ⟨w, ρ, _, by rw [append_room hE hd hi (a5 w) a6 a3' a4' (by omega)]; rfl, Post.refl hs, .sl hρ o o' _ _ c' ho hroom hc ht hlim⟩
          · rename_i a vv r
            obtain ⟨m1, hm1, he⟩ := Option.map_eq_some_iff.1 h
            cases he
            cases hsv with
            | slOdd hρ ht o a' =>
              have h0 : n = 0 := by omega
              subst h0
              simp at a2; subst a2; cases a1
            | sl hρ o o' _ _ c' ho hn hc ht hlim =>
              rename_i ib en
              have hn0 : 0 < n := by
                rcases Nat.eq_zero_or_pos n with h0 | h0
                · rw [h0] at a2; simp at a2; subst a2; cases a1
                · exact h0
              have e1 := ho (by omega)
              obtain ⟨w', k1, k2⟩ := hs.write (P := P) hm1 hρ a1
              refine ⟨w', ρ, .slice (some ⟨en.blk, o', none⟩) (len + n) c', ?_, k2, .sl hρ o o' _ _ c' ho hroom hc ht hlim⟩
              rw [append_room hE hd hi (a5 w) a6 a3' a4' (by omega)]
              dsimp only at k1 ⊢
              rw [e1, add_none, Nat.add_assoc, k1]
              rfl
          · cases h
        · rename_i hroom
          split at h
          · rename_i hb
            obtain ⟨hb1, hb2⟩ := hb
            split at h
            · -- a nil slice
              split at h
              · rename_i h0
                subst h0
                cases h; cases hsv
                obtain ⟨nc, k, rest, c1, c2, c3⟩ := append_grows hE (ty := ty) (base := none) (old := []) hd hi a5 a6 a3 a4 (fun k => by simp [Builtin.firstCells]) hroom hb1 hb2
                have hsim := (Post.drew hs k).sim
                have hl : (#[] ++ new'.toArray ++ rest).size = nc * i.size := by
                  simp [a2, c2, zeroCells_size hE hi]
                  rw [← Nat.add_mul]
                  congr 1
                  omega
                have hp := hsim.alloc_cells (by have := hB (by simp); simp at this; omega) false i.size new (#[] ++ new'.toArray ++ rest) e (nc * i.size) (fun j v hj => by
                  obtain ⟨v', q1, q2⟩ := a1.get hj
                  refine ⟨v', ?_, q2⟩
                  rw [Array.getElem?_append_left (by have := (List.getElem?_eq_some_iff.1 q1).1; simpa using this)]
                  simpa using q1) (fun _ => by rw [hl]; exact Nat.le_refl _)
                refine ⟨_, _, _, c3, (Post.drew hs k).trans hp, ?_⟩
                have := VRel.sl (ρ := ρ.ext m.size ⟨w.heap.size, 0, nc * i.size, i.size, false⟩) (i := m.size) (e := ⟨w.heap.size, 0, nc * i.size, i.size, false⟩) (by simp [Inj.ext]) 0 0 n n nc (fun _ => rfl) (Nat.le_refl _) (by omega)
                  (fun h => by cases h) (fun _ => by simp)
                simpa using this
              · cases h
            · rename_i a
              split at h
              · rename_i old b hold hget
                split at h
                · rename_i hok
                  simp only [Bool.and_eq_true] at hok
                  obtain ⟨⟨hloose, hfree⟩, hone⟩ := hok
                  cases h
                  have hB' : m.size < B := by
                    have e : ∀ m1 : Mem, m1.size = m.size → (m1.push (.cells false false (old ++ new))).size = m.size + 1 := fun m1 h => by simp [h]
                    have e2 : (if b.isTight then m else m.put a.block none).size = m.size := by split <;> simp
                    have := hB (by rw [e _ e2]; omega)
                    rw [e _ e2] at this
                    omega
                  cases hsv with
                  | slOdd hρ ht o a' =>
                    rename_i ib en
                    obtain ⟨ro, tg, cs, rfl⟩ := row_cells hold hget
                    obtain ⟨en', q1, q2⟩ := hs.sim.rel ib _ hget
                    rw [hρ] at q1; cases q1
                    have htg : en.tight = tg := by
                      obtain ⟨c, el, fr, _, k, _⟩ := q2
                      exact k
                    have htg' : tg = true := htg.symm.trans ht
                    subst htg'
                    have el : old = [] := row_zero (by simpa using hold)
                    subst el
                    simp only [Blk.isTight, if_true]
                    obtain ⟨nc, k, rest, c1, c2, c3⟩ := append_grows hE (ty := ty) (base := some a') (old := []) hd hi a5 a6 a3 a4 (fun k => by simp [Builtin.firstCells, loadCells, loadCellsFrom]) hroom hb1 hb2
                    have hsim := (Post.drew hs k).sim
                    have hl : (#[] ++ new'.toArray ++ rest).size = nc * i.size := by
                      simp [a2, c2, zeroCells_size hE hi]
                      rw [← Nat.add_mul]
                      congr 1
                      omega
                    have hp := hsim.alloc_cells hB' false i.size new (#[] ++ new'.toArray ++ rest) e (nc * i.size) (fun j v hj => by
                      obtain ⟨v', q1, q2⟩ := a1.get hj
                      refine ⟨v', ?_, q2⟩
                      rw [Array.getElem?_append_left (by have := (List.getElem?_eq_some_iff.1 q1).1; simpa using this)]
                      simpa using q1) (fun _ => by rw [hl]; exact Nat.le_refl _)
                    refine ⟨_, _, _, c3, (Post.drew hs k).trans hp, ?_⟩
                    have := VRel.sl (ρ := ρ.ext m.size ⟨w.heap.size, 0, nc * i.size, i.size, false⟩) (i := m.size) (e := ⟨w.heap.size, 0, nc * i.size, i.size, false⟩) (by simp [Inj.ext]) 0 0 n n nc (fun _ => rfl) (Nat.le_refl _) (by omega)
                      (fun h => by cases h) (fun _ => by simp)
                    simpa using this
                  | sl hρ o o' _ _ c' ho hn hc ht hlim =>
                    rename_i ib en
                    obtain ⟨ro, tg, cs, rfl⟩ := row_cells hold hget
                    obtain ⟨en', q1, q2⟩ := hs.sim.rel ib _ hget
                    rw [hρ] at q1; cases q1
                    obtain ⟨old', b1, b2, b3, b4⟩ : ∃ old' : List Value, LRel ρ old old' ∧ old'.length = len * i.size ∧ (∀ j v, old'[j]? = some v → w.cell? ⟨en.blk, o' + j, none⟩ = some v) ∧
                        ∀ k, (Builtin.firstCells i.size len (.slice (some ⟨en.blk, o', none⟩) len c')).run P { w with drawn := k } = .ok old'.toArray { w with drawn := k } := by
                      by_cases h0 : 0 < cap
                      · have e1 := ho h0
                        subst e1
                        obtain ⟨r1, r2, r3, r4⟩ := row_rel hs hold hρ
                        refine ⟨r1, r3, r2, r4, fun k => ?_⟩
                        have := run_loadCells_list (P := P) ({ w with drawn := k } : World) ⟨en.blk, en.sh + o, none⟩ r1 fun j v hj => by rw [add_none]; exact r4 j v hj
                        rw [r2] at this
                        simpa [Builtin.firstCells] using this
                      · have e0 : len = 0 := by omega
                        subst e0
                        have el : old = [] := row_zero (by simpa using hold)
                        subst el
                        exact ⟨[], .nil, by simp, fun j v hj => by simp at hj, fun k => by simp [Builtin.firstCells, loadCells, loadCellsFrom]⟩
                    have grow : ∀ m1 : Mem, Post C B ρ m w ρ m1 w → m1.size = m.size → ¬ len + n ≤ c' → ∃ w' ρ' v', (Builtin.append_ #[st, xt] ty #[.slice (some ⟨en.blk, o', none⟩) len c', x']).run P w = .ok v' w' ∧
                        Post C B ρ m w ρ' (m1.push (.cells false false (old ++ new))) w' ∧ VRel ρ' (.slice (some ⟨m.size, 0, some i.size⟩) (len + n) (len + n)) v' := fun m1 hm1 hsz hr => by
                      obtain ⟨nc, k, rest, c1, c2, c3⟩ := append_grows hE (ty := ty) (base := some ⟨en.blk, o', none⟩) (old := old') hd hi a5 a6 a3 a4 b4 hr hb1 hb2
                      have hsim := (Post.drew hm1.sim k).sim
                      have hl : (old'.toArray ++ new'.toArray ++ rest).size = nc * i.size := by
                        simp only [Array.size_append, List.size_toArray, b2, a2, c2, zeroCells_size hE hi, ← Nat.add_mul]
                        congr 1
                        omega
                      have hp := hsim.alloc_cells (by rw [hsz]; exact hB') false i.size (old ++ new) (old'.toArray ++ new'.toArray ++ rest) e (nc * i.size) (fun j v hj => by
                        obtain ⟨v', q1, q2⟩ := (b1.append a1).get hj
                        refine ⟨v', ?_, q2⟩
                        rw [Array.getElem?_append_left (by have := (List.getElem?_eq_some_iff.1 q1).1; simpa using this)]
                        simpa using q1) (fun _ => by rw [hl]; exact Nat.le_refl _)
                      refine ⟨_, _, _, c3, (hm1.trans (Post.drew hm1.sim k)).trans hp, ?_⟩
                      rw [hsz]
                      exact VRel.sl (e := ⟨w.heap.size, 0, nc * i.size, i.size, false⟩) (by simp [Inj.ext]) 0 0 _ _ nc (fun _ => rfl) (Nat.le_refl _) (by omega) (fun h => by cases h) (fun _ => by simp)
                    have htg : en.tight = tg := by
                      obtain ⟨c, el, fr, _, k, _⟩ := q2
                      exact k
                    cases tg with
                    | true =>
                      have hcc := ht htg
                      simp only [Blk.isTight, if_true]
                      exact grow m (Post.refl hs) rfl (by omega)
                    | false =>
                      have hro : ro = false := by simpa [Blk.free] using hfree
                      subst hro
                      have hes : en.es = i.size := by simpa [looseOk, htg] using hloose
                      simp only [Blk.isTight, Bool.false_eq_true, if_false]
                      by_cases hr : len + n ≤ c'
                      · obtain ⟨c, el, fr, hh, _, hcv, hl2, hfr⟩ := q2
                        have hlim' := hlim htg
                        have hl3 := hl2 rfl
                        have hmul : (len + n) * i.size ≤ c' * i.size := Nat.mul_le_mul_right _ hr
                        rw [hes] at hlim'
                        rw [Nat.add_mul] at hmul
                        have hone' : ∀ v ∈ new', oneCell v = true := fun v hx => by
                          obtain ⟨k, hk, hk'⟩ := List.getElem_of_mem hx
                          obtain ⟨u, k1, k2⟩ := a1.get' (i := k) (v' := v) (by simp [hk, hk'])
                          rw [← k2.oneCell]
                          simp only [Blk.isTight, Bool.false_or] at hone
                          exact List.all_eq_true.1 hone u (List.mem_of_getElem? k1)
                        obtain ⟨w', k1, k2, k3, k4, k5, k6, k7⟩ := run_storeCells_put (P := P) (o := o' + len * i.size) new' 0 c w hh (by omega) (fun k _ h3 => unfrozen (hfr rfl) (by omega)) hone'
                        refine ⟨w', _, .slice (some ⟨en.blk, o', none⟩) (len + n) c', ?_, hs.adopt hB' hget rfl hρ (e' := ⟨en.blk, o', en.lim, i.size, false⟩) rfl _ k5 k6 k7 k3 k4 ?_, ?_⟩
                        · rw [append_room hE hd hi (a5 w) a6 a3' a4' hr]
                          dsimp only
                          rw [add_none, k1]
                          rfl
                        · refine ⟨_, el, fr, k2, rfl, fun k v hk => ?_, fun _ => by simpa [length_setRow] using hl3, fun _ => by simpa [length_setRow] using hfr rfl⟩
                          simp only [Nat.add_zero, List.getElem?_toArray]
                          rw [setRow_get new' c.toList (o' + len * i.size) (o' + k) (by simp; omega)]
                          obtain ⟨v', q1, q3⟩ := (b1.append a1).get hk
                          refine ⟨v', ?_, q3⟩
                          by_cases hko : k < len * i.size
                          · rw [if_neg (by omega)]
                            rw [List.getElem?_append_left (by omega)] at q1
                            have := b3 k v' q1
                            simpa [World.cell?, hh] using this
                          · rw [List.getElem?_append_right (by omega), b2] at q1
                            have hlt := (List.getElem?_eq_some_iff.1 q1).1
                            rw [if_pos (by omega), show o' + k - (o' + len * i.size) = k - len * i.size by omega]
                            exact q1
                        · exact VRel.sl (e := ⟨en.blk, o', en.lim, i.size, false⟩) (by simp [Inj.ext]) 0 o' _ _ c' (fun _ => rfl) (Nat.le_refl _) hr (fun h => by cases h) (fun _ => hlim')
                      · exact grow (m.put ib none) (hs.free hget rfl) (by simp) hr
                · cases h
              · cases h
          · cases h
  · cases h

end ops
end Go.Abs
