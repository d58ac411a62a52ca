/-
  A cut is an iterator.
-/
import Derived.Test.YthlcbacmbcmgfaaRunsF
import Derived.Test.YthlcbacmbcmgfaaRunsV
namespace Go.Proofs.Ythlcbacmbcmgfaa.W
open Go.Abs
set_option linter.unusedSimpArgs false
set_option linter.unusedVariables false

/-- Where the source stands at the k-th yield. -/
def posC (b n k : Nat) : Nat := if b + k ≤ n then b + k else n + 1
def CutO (mb : Nat) (y0 : Int) (b n : Nat) (Own : Nat → Mem → Prop) : Nat → Mem → Prop := fun k m =>
  (k = 0 ∧ MeterAt m mb 0 y0 ∧ Own 0 m) ∨ (k = n + 1 ∧ MeterAt m mb 0 (max y0 (min b n : Nat)) ∧ Own (n + 1) m) ∨ (1 ≤ k ∧ k ≤ n ∧ (∃ x y, MeterAt m mb x y) ∧ Own (posC b n k) m)
def CutD (mb b n : Nat) (Own : Nat → Mem → Prop) : Nat → Mem → Prop := fun k m => (∃ y, 0 ≤ y ∧ MeterAt m mb 0 y) ∧ Own (posC b n (k + 1)) m

theorem three_boxes (P : Mem → Prop) (m : Mem) (z6 c6 z7 c7 z8 c8 : List Value) (i7 i8 : Nat) (h7 : i7 = m.size + 1) (h8 : i8 = m.size + 2)
    (h : ∀ m', m'.get m.size = some (.cells false true c6) → m'.get (m.size + 1) = some (.cells false true c7) → m'.get (m.size + 2) = some (.cells false true c8) → Old m m' → m'.size = m.size + 3 → P m') :
    P ((((((m.push (.cells false true z6)).put m.size (some (.cells false true c6))).push (.cells false true z7)).put i7 (some (.cells false true c7))).push (.cells false true z8)).put i8 (some (.cells false true c8))) := by
  subst h7 h8
  refine h _ ?_ ?_ ?_ (.of_get (by simp; omega) fun i hi => ?_) (by simp)
  · rw [getM_put, if_neg (by omega), getM_push, if_neg (by simp; omega), getM_put, if_neg (by omega), getM_push, if_neg (by simp), getM_put, if_pos ⟨rfl, by simp⟩]
  · rw [getM_put, if_neg (by omega), getM_push, if_neg (by simp), getM_put, if_pos ⟨rfl, by simp⟩]
  · rw [getM_put, if_pos ⟨rfl, by simp⟩]
  · rw [getM_put, if_neg (by omega), getM_push, if_neg (by simp; omega), getM_put, if_neg (by omega), getM_push, if_neg (by simp; omega), getM_put, if_neg (by omega), getM_push, if_neg (by omega)]

theorem lookup_in : ∀ {P : List (Nat × Blk)} {i : Nat} {b : Blk}, (P.map Prod.fst).Nodup → (i, b) ∈ P → P.lookup i = some b
  | [], _, _, _, h => by cases h
  | (j, c) :: P, i, b, hn, h => by
    rw [List.lookup_cons]
    rw [List.map_cons, List.nodup_cons] at hn
    rcases List.mem_cons.1 h with h2 | h2
    · obtain ⟨rfl, rfl⟩ := Prod.mk.inj h2
      simp
    · have : (i == j) = false := by
        rw [beq_eq_false_iff_ne]
        intro e
        rw [← e] at hn
        exact hn.1 (List.mem_map.2 ⟨_, h2, rfl⟩)
      simp only [this]
      exact lookup_in hn.2 h2

theorem wpM_name {E : Env} {f : FuncId} {n : Nat} {rd : Option Nat} {c : MC} {K : Post3} {t : Fr} {m : Mem} (h : ∀ t', t' = t → wpM E f n rd c K t' m) : wpM E f n rd c K t m := h t rfl

set_option maxRecDepth 100000 in
set_option maxHeartbeats 4000000 in
theorem CutI {Z : Nat → Option Blk} {Fs : Set'} {L M S B mb b : Nat} {lf : Fn} {la lb : Array Value} {src : Value} {xs : List Int} {Own : Nat → Mem → Prop} (hL : Z L = some (.cells false true [.func lf la lb])) (hM : Z M = some (.cells false true [ptr mb])) (hS : Z S = some (.cells false true [src])) (hB : Z B = some (.cells false true [vI b]))
    (hb : 0 < b) (hb' : (b : Int) < 9223372036854775808) (hFm : ¬ Fs mb) (less : LessN (.func lf la lb)) (hn : xs.length ≤ 1000) {y0 : Int} (hy0 : 0 ≤ y0) (hs : ∀ Z', SubZ Z Z' → Iter E Z' Fs src xs.length Own (pureEl (intsEl xs))) :
    IterD E Z (fun i => i = mb ∨ Fs i) (.func (.func F_runs_Cut_int_1) #[] #[ptr L, ptr M, ptr S, ptr B]) xs.length (CutO mb y0 b xs.length Own) (CutD mb b xs.length Own) (pureEl fun k => [pV (yieldR xs b k)]) where
  fn := ⟨_, _, _, rfl⟩
  locO := by
    have lo := (hs Z fun _ _ h => h).locO
    rintro k m m' h hk
    have km : ∀ x y, MeterAt m mb x y → MeterAt m' mb x y := fun x y h => (hk mb (.inl rfl)).trans h
    have kF : ∀ i, Fs i → m'.get i = m.get i := fun i hi => hk i (.inr hi)
    rcases h with ⟨h1, h2, h3⟩ | ⟨h1, h2, h3⟩ | ⟨h1, h2, ⟨x, y, h3⟩, h4⟩
    · exact .inl ⟨h1, km _ _ h2, lo _ _ _ h3 kF⟩
    · exact .inr (.inl ⟨h1, km _ _ h2, lo _ _ _ h3 kF⟩)
    · exact .inr (.inr ⟨h1, h2, ⟨x, y, km _ _ h3⟩, lo _ _ _ h4 kF⟩)
  locD := by
    have lo := (hs Z fun _ _ h => h).locO
    rintro k m m' ⟨⟨y, h0, h1⟩, h2⟩ hk
    exact ⟨⟨y, h0, (hk mb (.inl rfl)).trans h1⟩, lo _ _ _ h2 fun i hi => hk i (.inr hi)⟩
  locE := pureEl_loc _
  go := by
    intro y hy I D lI lD step m A z o hF own0 i0
    have step : StepOk E Z _ _ _ _ y I D := step
    obtain ⟨yf, ya, yb, rfl⟩ := hy
    have own0 : MeterAt m mb 0 y0 ∧ Own 0 m := by
      rcases own0 with ⟨_, h⟩ | ⟨h, _⟩ | ⟨h, _⟩
      · exact h
      · omega
      · omega
    rw [CallF_func]
    refine ⟨some47, ?_⟩
    have e : (#[] ++ [Value.func yf ya yb].toArray ++ #[ptr L, ptr M, ptr S, ptr B] : Array Value) = [Value.func yf ya yb, ptr L, ptr M, ptr S, ptr B].toArray := by simp
    rw [e]
    refine .enter fn_runs_Cut_int_1 (by simp) ?_
    simp (decide := true) (implicitDefEqProofs := false) (maxDischargeDepth := 20) only [go_sem, ↓reduceIte, true_implies, false_implies]
    have oP : Old m (m.push (.cells false true [Value.func yf ya yb])) := .push (.refl m) _
    have gP : (m.push (.cells false true [Value.func yf ya yb])).get m.size = some (.cells false true [Value.func yf ya yb]) := by rw [getM_push, if_pos rfl]
    have sP : (m.push (.cells false true [Value.func yf ya yb])).size = m.size + 1 := by simp
    generalize m.push (.cells false true [Value.func yf ya yb]) = mp at *
    refine (NewP_at (m := mp)).mono ?_
    rintro w m1 ⟨rfl, H1, o1⟩
    have rS := frozen_at (z.old (oP.trans o1)) hS
    have s1 := o1.size
    have nS : ∀ q, m1.size ≤ q → ¬ S = q := fun q hq => by have := z.lt hS; omega
    have nS0 := nS m1.size (by omega)
    have nS1 := nS (m1.size + 1) (by omega)
    have nS2 := nS (m1.size + 2) (by omega)
    have nS2' : ¬ S = m1.size + (1 + 1) := nS (m1.size + 2) (by omega)
    simp (decide := true) (implicitDefEqProofs := false) (maxDischargeDepth := 20) only [go_sem, rS, nS0, nS1, nS2, nS2', ↓reduceIte, true_implies, false_implies]
    refine wpM_name fun t0 ht0 => ?_
    have k1 : t0 1 = ptr L := by rw [ht0]; simp (decide := true) only [go_sem, ↓reduceIte]
    have k2 : t0 2 = ptr M := by rw [ht0]; simp (decide := true) only [go_sem, ↓reduceIte]
    have k4 : t0 4 = ptr B := by rw [ht0]; simp (decide := true) only [go_sem, ↓reduceIte]
    have k6 : t0 6 = ptr m1.size := by rw [ht0]; simp (decide := true) only [go_sem, ↓reduceIte]
    have k7 : t0 7 = ptr (m1.size + 1) := by rw [ht0]; simp (decide := true) only [go_sem, ↓reduceIte]
    have k8 : t0 8 = ptr (m1.size + 2) := by rw [ht0]; simp (decide := true) only [go_sem, ↓reduceIte]
    have k18 : t0 18 = src := by rw [ht0]; simp (decide := true) only [go_sem, ↓reduceIte]
    clear ht0
    refine three_boxes (fun mm => wpM E 47 68 none c_runs_Cut_int_1_13 _ t0 mm) m1 _ _ _ _ _ _ _ _ rfl (by omega) fun m2 g6 g7 g8 o2 s2 => ?_
    have omm : Old m m2 := (oP.trans o1).trans o2
    have g5 : m2.get m.size = some (.cells false true [.func yf ya yb]) := by rw [o2.get (by omega), o1.get (by omega)]; exact gP
    let P : List (Nat × Blk) := [(m.size, .cells false true [.func yf ya yb]), (m1.size, .cells false true [ptr mp.size]), (m1.size + 1, .cells false true [.func (.func F_runs_Cut_int_1_2) #[] #[ptr m1.size, ptr M]]), (m1.size + 2, .cells false true [.func (.func F_runs_Cut_int_1_3) #[] #[ptr m1.size, ptr M, ptr m.size]])]
    have hP : ∀ p ∈ P, m.size ≤ p.1 ∧ p.1 ≠ mp.size ∧ m2.get p.1 = some p.2 := by
      intro p hp
      have hp : p = (m.size, .cells false true [.func yf ya yb]) ∨ p = (m1.size, .cells false true [ptr mp.size]) ∨ p = (m1.size + 1, .cells false true [.func (.func F_runs_Cut_int_1_2) #[] #[ptr m1.size, ptr M]]) ∨ p = (m1.size + 2, .cells false true [.func (.func F_runs_Cut_int_1_3) #[] #[ptr m1.size, ptr M, ptr m.size]]) := by
        simpa [P] using hp
      have hm1 : mp.size < m1.size := H1.lt mp.size rfl
      rcases hp with rfl | rfl | rfl | rfl
      · exact ⟨Nat.le_refl _, by simp only; omega, g5⟩
      · exact ⟨by simp only; omega, by simp only; omega, g6⟩
      · exact ⟨by simp only; omega, by simp only; omega, g7⟩
      · exact ⟨by simp only; omega, by simp only; omega, g8⟩
    have hnd : (P.map Prod.fst).Nodup := by
      show [m.size, m1.size, m1.size + 1, m1.size + 2].Nodup
      simp
      omega
    have sub : SubZ Z (extZ Z P) := extZ_sub fun p hp => .inl (z.free (hP p hp).1)
    have zin : ∀ i b, (i, b) ∈ P → extZ Z P i = some b := fun i b h => extZ_in (lookup_in hnd h)
    have zout : ∀ i, i < m.size ∨ i = mp.size → Z i = none → extZ Z P i = none := fun i hi hz => by
      rw [extZ_out, hz]
      rintro p hp rfl
      have := hP p hp
      rcases hi with e | e
      · omega
      · exact this.2.1 e
    have z2 : Frozen (extZ Z P) m2 := extZ_frozen (z.old omm) fun p hp => (hP p hp).2.2
    have hm1 : mp.size < m1.size := H1.lt mp.size rfl
    have C : CutK (extZ Z P) L M B m.size m1.size (m1.size + 1) (m1.size + 2) mp.size mb b (.func (.func F_runs_Cut_int_1_1) #[] #[ptr L]) lf yf la lb ya yb :=
      ⟨sub _ _ hL, sub _ _ hM, sub _ _ hB, zin _ _ (by simp [P]), zin _ _ (by simp [P]), zin _ _ (by simp [P]), zin _ _ (by simp [P]), ltR_ok (sub _ _ hL) less, less⟩
    have hmb := hF mb (.inl rfl)
    have zmb : extZ Z P mb = none := zout mb (.inl hmb.1) hmb.2
    have zh : extZ Z P mp.size = none := zout _ (.inr rfl) (z.free (by omega))
    have hmp : mb ≠ mp.size := by omega
    have S2 : CutS (extZ Z P) m2 mp.size mb (.func (.func F_runs_Cut_int_1_1) #[] #[ptr L]) [] 0 y0 (fun i => i = mp.size ∨ i = mb) :=
      ⟨⟨fun i => i = mp.size, H1.old o2, hmp, fun _ => Iff.rfl⟩, (omm.get hmb.1).trans own0.1, fun i hi => hi.elim (fun e => e ▸ zh) fun e => e ▸ zmb⟩
    generalize hZ' : extZ Z P = Z' at *
    have src_it := hs Z' sub
    have lo := src_it.locO
    -- at the yields
    have step' : ∀ k, k < xs.length → ∀ m A, Frozen Z m → OwnS Z (fun i => i = mb ∨ Fs i) m A → (∀ i, (i = mb ∨ Fs i) → i < m.size) → ((∃ x y, MeterAt m mb x y) ∧ Own (posC b xs.length (k + 1)) m) → I k m A → CallF E (.func yf ya yb) [pV (yieldR xs b k)] m fun w m' => ∃ A', ChgS A m m' ∧ NewS A m m' A' ∧ (w = .bool true ∧ I (k + 1) m' A' ∨ w = .bool false ∧ D k m' A') := by
      intro k hk mm AA zz oo ff ww ii
      refine (step k [pV (yieldR xs b k)] mm AA none' hk zz oo (fun _ h => h.elim) (fun _ _ h => h) ff (.inr (.inr ⟨by omega, by omega, ww.1, ww.2⟩)) ii rfl).mono ?_
      rintro w m' ⟨A', c, n, h⟩
      exact ⟨A', c.mono fun _ h => h.elim id fun h => h.elim, fun i hi => ⟨(n i hi).1, (n i hi).2.imp (fun h => h.elim id fun h => h.elim) id⟩, h⟩
    let J : Nat → Mem → Set' → Prop := fun k m' A' => ∃ A1 AC, (∀ i, A' i ↔ A1 i ∨ AC i) ∧ (∀ i, A1 i → ¬ AC i) ∧ (∀ i, A1 i → A i ∨ m.size ≤ i) ∧ (∀ i, AC i → i = mb ∨ m.size ≤ i) ∧
      CutS Z' m' mp.size mb (.func (.func F_runs_Cut_int_1_1) #[] #[ptr L]) (inR xs b k) (min b k : Nat) (max y0 (min b k : Nat)) AC ∧ I (k - b) m' A1
    let JD : Nat → Exit → Mem → Set' → Prop := fun k x m' A' => x = .ret ∧ b ≤ k ∧ ∃ A1 AC l y, 0 ≤ y ∧ (∀ i, A' i ↔ A1 i ∨ AC i) ∧ (∀ i, A1 i → A i ∨ m.size ≤ i) ∧ CutS Z' m' mp.size mb (.func (.func F_runs_Cut_int_1_1) #[] #[ptr L]) l 0 y AC ∧ D (k - b) m' A1
    have lJ : ∀ k, LocP (J k) := by
      rintro k ma mb' A' ⟨A1, AC, h1, h2, h3, h4, h5, h6⟩ hk hsz
      exact ⟨A1, AC, h1, h2, h3, h4, h5.keep (fun i hi => hk i ((h1 i).2 (.inr hi))) hsz, lI _ ma _ A1 h6 (fun i hi => hk i ((h1 i).2 (.inl hi))) hsz⟩
    have lJD : ∀ k x, LocP (JD k x) := by
      rintro k x ma mb' A' ⟨h0, h0', A1, AC, l, y, hy, h1, h3, h5, h6⟩ hk hsz
      exact ⟨h0, h0', A1, AC, l, y, hy, h1, h3, h5.keep (fun i hi => hk i ((h1 i).2 (.inr hi))) hsz, lD _ ma _ A1 h6 (fun i hi => hk i ((h1 i).2 (.inl hi))) hsz⟩
    have hFs2 : ∀ i, Fs i → i < m2.size ∧ Z' i = none := fun i hi => ⟨by have := (hF i (.inr hi)).1; omega, zout i (.inl (hF i (.inr hi)).1) (hF i (.inr hi)).2⟩
    rw [c_runs_Cut_int_1_13_at]
    refine wpM_rangeP (A := fun i => A i ∨ (i = mp.size ∨ i = mb)) src_it (fun t => upd t 9 (t 19)) (by simp (decide := true) only [go_sem, k18, ↓reduceIte]) rfl asg_runs_Cut_int_1_0 body_runs_Cut_int_1_0 (by decide) (fun K l t m h => by simp (decide := true) only [go_sem, ↓reduceIte]; exact h)
      J JD lJ lJD z2 ?_ hFs2 (lo 0 m _ own0.2 fun i hi => omm.get (hF i (.inr hi)).1) ?_ ?_ ?_ ?_
    · rintro i (hi | rfl | rfl)
      · have := o i hi
        exact ⟨by have := this.1; omega, zout i (.inl this.1) this.2.1, fun f => this.2.2 (.inr f)⟩
      · exact ⟨by omega, zh, fun f => by have := (hF _ (.inr f)).1; omega⟩
      · exact ⟨by have := hmb.1; omega, zmb, hFm⟩
    · refine ⟨A, fun i => i = mp.size ∨ i = mb, fun _ => Iff.rfl, ?_, fun _ => .inl, fun i hi => hi.elim (fun e => .inr (by omega)) .inl, ?_, ?_⟩
      · rintro i hi (rfl | rfl)
        · have := (o _ hi).1; omega
        · exact (o _ hi).2.2 (.inl rfl)
      · have e1 : inR xs b 0 = [] := by unfold inR; rw [if_pos (by omega)]; rfl
        have e2 : ((min b 0 : Nat) : Int) = 0 := by omega
        rw [e1, e2, show max y0 0 = y0 by omega]
        exact S2
      · rw [Nat.zero_sub]
        exact lI 0 m _ A i0 (fun i hi => omm.get (o i hi).1) omm.size
    · rintro k vs m3 A3 Bv l hk z3 o3 ob dis ow ⟨A1, AC, hA, hd, hnA, hnC, S3, i3⟩ hel hin hms
      have hel : vs = [.int .i64 (xs.getD k 0)] := hel
      subst hel
      refine ⟨rfl, ?_⟩
      have fFs : ∀ i, Fs i → i < m3.size ∧ ¬ AC i := fun i hi => ⟨by have := (hFs2 i hi).1; omega, fun e => (o3 i ((hA i).2 (.inr e))).2.2 hi⟩
      have oA1 : ∀ i, A1 i → i < m3.size ∧ Z' i = none ∧ ¬ (i = mb ∨ Fs i) := fun i hi => by
        have := o3 i ((hA i).2 (.inl hi))
        refine ⟨this.1, this.2.1, ?_⟩
        rintro (rfl | f)
        · obtain ⟨Ah, H, n, hAC⟩ := S3.heap
          exact hd _ hi ((hAC _).2 (.inr rfl))
        · exact this.2.2 f
      refine Cut_body sub (Own := fun k m => (∃ x y, MeterAt m mb x y) ∧ Own (posC b xs.length (k + 1)) m) lI lD C hb hb' hk hn step' S3 z3 fFs (fun hbk m' x y met same => ⟨⟨x, y, met⟩, ?_⟩) oA1 hd i3
        (by simp (decide := true) only [go_sem, k1, ↓reduceIte]) (by simp (decide := true) only [go_sem, k2, ↓reduceIte]) (by simp (decide := true) only [go_sem, k4, ↓reduceIte]) (by simp (decide := true) only [go_sem, k6, ↓reduceIte]) (by simp (decide := true) only [go_sem, k7, ↓reduceIte]) (by simp (decide := true) only [go_sem, k8, ↓reduceIte]) (by simp (decide := true) only [go_sem, ↓reduceIte]) ?_ ?_
      · have e1 : posC b xs.length (k - b + 1) = k + 1 := by unfold posC; rw [if_pos (by omega)]; omega
        rw [e1]
        exact lo _ m3 m' ow same
      · intro t' m' AC' A1' S' c nC nA d' i'
        refine ⟨fun i => A1' i ∨ AC' i, c.mono fun i hi => .inl ((hA i).2 (hi.elim .inr .inl)), fun i hi => ?_, A1', AC', fun _ => Iff.rfl, d', fun i hi => ?_, fun i hi => ?_, S', i'⟩
        · rcases hi with hi | hi
          · exact ⟨(nA i hi).1, (nA i hi).2.imp (fun e => .inl ((hA i).2 (.inl e))) id⟩
          · exact ⟨(nC i hi).1, (nC i hi).2.imp (fun e => .inl ((hA i).2 (.inr e))) id⟩
        · exact (nA i hi).2.elim (hnA i) fun e => .inr (by omega)
        · exact (nC i hi).2.elim (hnC i) fun e => .inr (by omega)
      · intro t' m' A1' l' y' hbk hy' S' c nA d' same' i'
        refine ⟨fun i => A1' i ∨ AC i, c.mono fun i hi => .inl ((hA i).2 (hi.elim .inr .inl)), fun i hi => ?_, .inl rfl, rfl, hbk, A1', AC, l', y', hy', fun _ => Iff.rfl, fun i hi => ?_, S', i'⟩
        · rcases hi with hi | hi
          · exact ⟨(nA i hi).1, (nA i hi).2.imp (fun e => .inl ((hA i).2 (.inl e))) id⟩
          · exact ⟨S'.lt i hi, .inl (.inl ((hA i).2 (.inr hi)))⟩
        · exact (nA i hi).2.elim (hnA i) fun e => .inr (by omega)
    · rintro m3 A3 z3 o3 ow ⟨A1, AC, hA, hd, hnA, hnC, S3, i3⟩ c3 n3
      have s3 := c3.size
      have fFs : ∀ i, Fs i → i < m3.size ∧ ¬ AC i := fun i hi => ⟨by have := (hFs2 i hi).1; omega, fun e => (o3 i ((hA i).2 (.inr e))).2.2 hi⟩
      have oA1 : ∀ i, A1 i → i < m3.size ∧ Z' i = none ∧ ¬ (i = mb ∨ Fs i) := fun i hi => by
        have := o3 i ((hA i).2 (.inl hi))
        refine ⟨this.1, this.2.1, ?_⟩
        rintro (rfl | f)
        · obtain ⟨Ah, H, n, hAC⟩ := S3.heap
          exact hd _ hi ((hAC _).2 (.inr rfl))
        · exact this.2.2 f
      have base : ∀ i, i < m.size → ¬ (A i ∨ i = mb ∨ Fs i) → m3.get i = m.get i := fun i hi hna => by
        rw [c3.get i (by omega) ?_, omm.get hi]
        rintro ((e | e | e) | e)
        · exact hna (.inl e)
        · omega
        · exact hna (.inr (.inl e))
        · exact hna (.inr (.inr e))
      rw [inR_end] at S3
      have e1 : ((min b xs.length : Nat) : Int) = (xs.length : Int) - ((xs.length - b : Nat) : Int) := by omega
      have e2 : max y0 ((min b xs.length : Nat) : Int) = max y0 (min b xs.length : Nat) := rfl
      have hmx : (xs.length : Int) - ((xs.length - b : Nat) : Int) ≤ max y0 ((min b xs.length : Nat) : Int) := by omega
      have S3' : CutS Z' m3 mp.size mb (.func (.func F_runs_Cut_int_1_1) #[] #[ptr L]) (heapR xs b (xs.length - b)) ((xs.length : Int) - ((xs.length - b : Nat) : Int)) (max y0 ((min b xs.length : Nat) : Int)) AC := by
        rw [← e1]; exact S3
      simp (decide := true) (implicitDefEqProofs := false) (maxDischargeDepth := 20) only [go_sem, ↓reduceIte, true_implies, false_implies]
      refine Cut_drain sub (Own := fun k m => (∃ x y, MeterAt m mb x y) ∧ Own (posC b xs.length (k + 1)) m) lI lD C hb (by omega) (by omega) hn hmx step' S3' z3 fFs (fun k m' x y hk met same => ⟨⟨x, y, met⟩, ?_⟩) oA1 hd i3 k2 k6 k8 ?_ ?_
      · have e1 : posC b xs.length (k + 1) = xs.length + 1 := by unfold posC; rw [if_neg (by omega)]
        rw [e1]
        exact lo _ m3 m' ow same
      · intro t' m4 A2 met4 c4 n4 same4 i4
        simp (decide := true) (implicitDefEqProofs := false) (maxDischargeDepth := 20) only [go_sem, ↓reduceIte, true_implies, false_implies]
        refine ⟨A2, ⟨by have := c4.size; omega, fun i hi hna => ?_⟩, fun i hi => ⟨(n4 i hi).1, (n4 i hi).2.elim (hnA i) fun e => .inr (by omega)⟩, .inl ⟨.inr (.inl ⟨rfl, met4, lo _ m3 m4 ow same4⟩), i4⟩⟩
        rw [c4.get i (by omega) (fun e => e.elim (fun e => (hnC i e).elim (fun e => hna (.inr (.inl e))) fun e => by omega) fun e => (hnA i e).elim (fun e => hna (.inl e)) fun e => by omega), base i hi hna]
      · intro t' m4 A2 k y' hk hk' hy' met4 c4 n4 same4 i4
        simp (decide := true) (implicitDefEqProofs := false) (maxDischargeDepth := 20) only [go_sem, ↓reduceIte, true_implies, false_implies]
        have e1 : posC b xs.length (k + 1) = xs.length + 1 := by unfold posC; rw [if_neg (by omega)]
        refine ⟨A2, ⟨by have := c4.size; omega, fun i hi hna => ?_⟩, fun i hi => ⟨(n4 i hi).1, (n4 i hi).2.elim (hnA i) fun e => .inr (by omega)⟩, .inr ⟨k, hk', ⟨⟨y', hy', met4⟩, ?_⟩, i4⟩⟩
        · rw [c4.get i (by omega) (fun e => e.elim (fun e => (hnC i e).elim (fun e => hna (.inr (.inl e))) fun e => by omega) fun e => (hnA i e).elim (fun e => hna (.inl e)) fun e => by omega), base i hi hna]
        · rw [e1]
          exact lo _ m3 m4 ow same4
    · rintro k x m3 A3 hk z3 o3 ow hx ⟨rfl, hbk, A1, AC, l, y', hy', hA, hnA, S3, i3⟩ c3 n3
      simp (decide := true) (implicitDefEqProofs := false) (maxDischargeDepth := 20) only [go_sem, ↓reduceIte, true_implies, false_implies]
      have e1 : posC b xs.length (k - b + 1) = k + 1 := by unfold posC; rw [if_pos (by omega)]; omega
      refine ⟨A1, ⟨by have := c3.size; omega, fun i hi hna => ?_⟩, fun i hi => ⟨(n3 i ((hA i).2 (.inl hi))).1, hnA i hi⟩, .inr ⟨k - b, by omega, ⟨⟨y', hy', S3.met⟩, by rw [e1]; exact ow⟩, i3⟩⟩
      rw [c3.get i (by omega) ?_, omm.get hi]
      rintro ((e | e | e) | e)
      · exact hna (.inl e)
      · omega
      · exact hna (.inr (.inl e))
      · exact hna (.inr (.inr e))
end Go.Proofs.Ythlcbacmbcmgfaa.W
