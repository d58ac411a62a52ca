/-
  PairParts, the plain law: what is left, pair by pair. PairParts, the plain law: the order of the lines. The document's own wide numbers (Of, Add, Cmp, Int), signs, Cancel. The document's Pairs: the rows of a pair. The document's Pairs: what is told of a pair. The document's Pairs: a pair is told. The document's Pairs. PairParts.
-/
import Derived.Test.YtjmppooebppecaaPairK
import Derived.Test.YtjmppooebppecaaCodeRef
import Derived.Test.YtjmppooebppecaaAbs30
import Derived.Test.YtjmppooebppecaaBook
namespace Go.Proofs.Ytjmppooebppecaa.W
open Go.Abs
set_option linter.unusedSimpArgs false
set_option linter.unusedVariables false


/-! ### PairX -/

def alI (r : List Int) : Bool := r.getD 5 0 == 0
/-- A row of a pair. -/
def sameK (K r : List Int) : Bool := !alI r && decide (keyL r = K)
def boK (rs : List (List Int)) (K : List Int) : Bo := (rs.filter (sameK K)).foldl addB ⟨K, sd0, sd0⟩
/-- A pair there is. -/
def PK (rs : List (List Int)) (K : List Int) : Prop := ∃ r ∈ rs, alI r = false ∧ keyL r = K

theorem addB_key (b : Bo) (r : List Int) : (addB b r).key = b.key := by unfold addB; split <;> rfl
theorem alI_ne {r : List Int} (h : alI r = false) : ¬ r.getD 5 0 = 0 := by unfold alI at h; simpa using h

theorem fold_grp : ∀ (g : List (List Int)) (out : List ORow) (b : Bo), (∀ r ∈ g, alI r = false ∧ keyL r = b.key) → g.foldl stepP ⟨out, some b, false⟩ = ⟨out, some (g.foldl addB b), false⟩
  | [], _, _, _ => rfl
  | r :: g, out, b, h => by
    have hr := h r List.mem_cons_self
    have e : stepP ⟨out, some b, false⟩ r = ⟨out, some (addB b r), false⟩ := by
      have eA : partA ⟨out, some b, false⟩ r = ⟨out, some b, false⟩ := by
        unfold partA
        exact if_pos hr.2.symm
      unfold stepP
      rw [eA, if_neg (by exact Bool.noConfusion), if_neg (by exact Bool.noConfusion)]
      unfold partB
      rw [if_neg (alI_ne hr.1)]
      rfl
    rw [List.foldl_cons, e, List.foldl_cons]
    exact fold_grp g out (addB b r) fun x hx => by rw [addB_key]; exact h x (List.mem_cons_of_mem _ hx)

theorem tellO_no {b : Bo} (h : ¬ curOk (some b)) : none ∈ tellO (some b) := by
  unfold tellO
  simp only
  rw [if_neg (show ¬ boOk b from h)]
  exact List.mem_singleton.2 rfl
theorem first_step {st : PSt} (h : st.dead = false) {r : List Int} (hr : alI r = false) (hk : ∀ b, st.cur = some b → b.key ≠ keyL r) :
    (curOk st.cur → stepP st r = ⟨st.out ++ tellO st.cur, some (addB ⟨keyL r, sd0, sd0⟩ r), false⟩) ∧ (¬ curOk st.cur → (stepP st r).dead = true ∧ none ∈ (stepP st r).out) := by
  obtain ⟨out, cur, dead⟩ := st
  simp only at h hk
  subst h
  cases cur with
  | none =>
    refine ⟨fun _ => ?_, fun h => (h trivial).elim⟩
    unfold stepP
    rw [if_neg (by exact Bool.noConfusion), if_neg (by exact Bool.noConfusion)]
    unfold partB
    rw [if_neg (alI_ne hr)]
    show (⟨out, _, _⟩ : PSt) = ⟨out ++ [], _, _⟩
    rw [List.append_nil]
    rfl
  | some b =>
    have eA : partA ⟨out, some b, false⟩ r = ⟨out ++ tellO (some b), none, !decide (curOk (some b))⟩ := by
      unfold partA
      exact if_neg (hk b rfl)
    refine ⟨fun hc => ?_, fun hc => ?_⟩
    · have e1 : decide (curOk (some b)) = true := decide_eq_true hc
      rw [e1] at eA
      unfold stepP
      rw [if_neg (by exact Bool.noConfusion), eA, if_neg (by exact Bool.noConfusion)]
      unfold partB
      rw [if_neg (alI_ne hr)]
      rfl
    · have e1 : decide (curOk (some b)) = false := decide_eq_false hc
      rw [e1] at eA
      have e : stepP ⟨out, some b, false⟩ r = ⟨out ++ tellO (some b), none, true⟩ := by
        unfold stepP
        rw [if_neg (by exact Bool.noConfusion), eA]
        exact if_pos rfl
      rw [e]
      refine ⟨rfl, List.mem_append.2 (.inr ?_)⟩
      exact tellO_no hc

theorem tellO_ok {b : Bo} (h : boOk b) : tellO (some b) = (boRows b).map some := by
  unfold tellO
  simp only
  exact if_pos h
theorem takeWhile_all {α : Type} (p : α → Bool) : ∀ l : List α, ∀ x ∈ l.takeWhile p, p x = true
  | [], x, h => by simp at h
  | y :: l, x, h => by
    rw [List.takeWhile_cons] at h
    split at h
    · rename_i hy
      rcases List.mem_cons.1 h with rfl | h
      · exact hy
      · exact takeWhile_all p l x h
    · cases h
theorem dropWhile_head {α : Type} (p : α → Bool) : ∀ l : List α, ∀ y t, l.dropWhile p = y :: t → p y = false
  | [], y, t, h => by simp at h
  | z :: l, y, t, h => by
    rw [List.dropWhile_cons] at h
    split at h
    · exact dropWhile_head p l y t h
    · rename_i hz
      cases h
      simpa using hz

def leK (a b : List Int) : Prop := cmpL (keyL a) (keyL b) [] ≤ 0
theorem leK_anti {a b : List Int} (h : leK a b) (k : leK b a) : keyL a = keyL b := by
  unfold leK at h k
  rw [cmpL_neg] at k
  exact (cmpL_zero _ _ []).1 (by omega)

theorem filter_all {α : Type} {p : α → Bool} {l : List α} (h : ∀ x ∈ l, p x = true) : l.filter p = l := List.filter_eq_self.2 h
theorem filter_no {α : Type} {p : α → Bool} {l : List α} (h : ∀ x ∈ l, p x = false) : l.filter p = [] := List.filter_eq_nil_iff.2 fun x hx => by rw [h x hx]; exact Bool.noConfusion

theorem parts_pairs : ∀ (n : Nat) (ps : List (List Int)), ps.length ≤ n → ps.Pairwise leK → (∀ r ∈ ps, alI r = false) → ∃ Ks : List (List Int), Ks.Nodup ∧ (∀ K, K ∈ Ks ↔ PK ps K) ∧
    ∀ st : PSt, st.dead = false → (∀ b, st.cur = some b → ¬ PK ps b.key) →
      (curOk st.cur ∧ (∀ K ∈ Ks, boOk (boK ps K)) → finP (ps.foldl stepP st) = st.out ++ tellO st.cur ++ (Ks.flatMap fun K => boRows (boK ps K)).map some) ∧
      (¬ (curOk st.cur ∧ ∀ K ∈ Ks, boOk (boK ps K)) → none ∈ finP (ps.foldl stepP st))
  | n, [], _, _, _ => by
    refine ⟨[], List.nodup_nil, fun K => ⟨fun h => (by cases h), fun ⟨r, hr, _⟩ => (by cases hr)⟩, fun st hd _ => ⟨fun _ => ?_, fun h => ?_⟩⟩
    · show finP st = _
      unfold finP
      rw [if_neg (by rw [hd]; exact Bool.noConfusion)]
      simp
    · have hc : ¬ curOk st.cur := fun hc => h ⟨hc, fun K hK => by cases hK⟩
      show none ∈ finP st
      unfold finP
      rw [if_neg (by rw [hd]; exact Bool.noConfusion)]
      refine List.mem_append.2 (.inr ?_)
      cases hcur : st.cur with
      | none => rw [hcur] at hc; exact (hc trivial).elim
      | some b =>
        rw [hcur] at hc
        exact tellO_no hc
  | 0, r :: ps, h, _, _ => by simp at h
  | n + 1, r :: ps, h, hs, ha => by
    obtain ⟨g, hg⟩ : ∃ g, g = ps.takeWhile (fun x => decide (keyL x = keyL r)) := ⟨_, rfl⟩
    obtain ⟨tl, htl⟩ : ∃ tl, tl = ps.dropWhile (fun x => decide (keyL x = keyL r)) := ⟨_, rfl⟩
    have hps : ps = g ++ tl := by rw [hg, htl]; exact List.takeWhile_append_dropWhile.symm
    have hgk : ∀ x ∈ g, keyL x = keyL r := fun x hx => by
      rw [hg] at hx
      simpa using takeWhile_all _ _ x hx
    have hs' := List.pairwise_cons.1 hs
    have htk : ∀ x ∈ tl, keyL x ≠ keyL r := by
      cases ht : tl with
      | nil => exact fun x hx => by cases hx
      | cons y t =>
        have hy : keyL y ≠ keyL r := by
          rw [ht] at htl
          simpa using dropWhile_head _ _ y t htl.symm
        have hst : (y :: t).Pairwise leK := by
          have := hs'.2
          rw [hps, ht, List.pairwise_append] at this
          exact this.2.1
        have hry : leK r y := hs'.1 y (by rw [hps, ht]; simp)
        intro x hx hxe
        rcases List.mem_cons.1 hx with rfl | hx
        · exact hy hxe
        · have hyx : leK y x := (List.pairwise_cons.1 hst).1 x hx
          have : leK y r := by unfold leK at hyx ⊢; rw [← hxe]; exact hyx
          exact hy (leK_anti this hry)
    have haps : ∀ x ∈ ps, alI x = false := fun x hx => ha x (List.mem_cons_of_mem _ hx)
    have hag : ∀ x ∈ g, alI x = false := fun x hx => haps x (by rw [hps]; exact List.mem_append.2 (.inl hx))
    have hat : ∀ x ∈ tl, alI x = false := fun x hx => haps x (by rw [hps]; exact List.mem_append.2 (.inr hx))
    have har := ha r List.mem_cons_self
    have hst : tl.Pairwise leK := by
      have := hs'.2
      rw [hps, List.pairwise_append] at this
      exact this.2.1
    have hlen : tl.length ≤ n := by
      have := congrArg List.length hps
      simp only [List.length_append] at this
      simp only [List.length_cons] at h
      omega
    obtain ⟨Ks, hnd, hmem, hrun⟩ := parts_pairs n tl hlen hst hat
    have hnk : keyL r ∉ Ks := fun hk => by
      obtain ⟨x, hx, _, he⟩ := (hmem _).1 hk
      exact htk x hx he
    -- what is of a pair
    have bo0 : boK (r :: ps) (keyL r) = g.foldl addB (addB ⟨keyL r, sd0, sd0⟩ r) := by
      unfold boK
      have e1 : (r :: ps).filter (sameK (keyL r)) = r :: g := by
        rw [List.filter_cons_of_pos (by unfold sameK; rw [har]; simp), hps, List.filter_append, filter_all (fun x hx => by unfold sameK; rw [hag x hx, hgk x hx]; simp), filter_no (fun x hx => by unfold sameK; simp [htk x hx]), List.append_nil]
      rw [e1]
      rfl
    have boT : ∀ K ∈ Ks, boK (r :: ps) K = boK tl K := fun K hK => by
      unfold boK
      have hne : keyL r ≠ K := fun e => hnk (e ▸ hK)
      have e1 : (r :: ps).filter (sameK K) = tl.filter (sameK K) := by
        rw [List.filter_cons_of_neg (by unfold sameK; simp [hne]), hps, List.filter_append, filter_no (l := g) (fun x hx => by unfold sameK; rw [hgk x hx]; simp [hne]), List.nil_append]
      rw [e1]
    refine ⟨keyL r :: Ks, List.nodup_cons.2 ⟨hnk, hnd⟩, fun K => ⟨fun hK => ?_, fun ⟨x, hx, h1, h2⟩ => ?_⟩, fun st hd hc => ?_⟩
    · rcases List.mem_cons.1 hK with rfl | hK
      · exact ⟨r, List.mem_cons_self, har, rfl⟩
      · obtain ⟨x, hx, h1, h2⟩ := (hmem _).1 hK
        exact ⟨x, List.mem_cons_of_mem _ (by rw [hps]; exact List.mem_append.2 (.inr hx)), h1, h2⟩
    · rcases List.mem_cons.1 hx with rfl | hx
      · rw [← h2]; exact List.mem_cons_self
      · rw [hps] at hx
        rcases List.mem_append.1 hx with hx | hx
        · rw [← h2, hgk x hx]; exact List.mem_cons_self
        · exact List.mem_cons_of_mem _ ((hmem K).2 ⟨x, hx, h1, h2⟩)
    · have hst0 : ∀ b, st.cur = some b → b.key ≠ keyL r := fun b hb e => hc b hb ⟨r, List.mem_cons_self, har, e.symm⟩
      obtain ⟨F1, F2⟩ := first_step hd har hst0
      by_cases hco : curOk st.cur
      · have e1 : (r :: ps).foldl stepP st = tl.foldl stepP ⟨st.out ++ tellO st.cur, some (boK (r :: ps) (keyL r)), false⟩ := by
          rw [List.foldl_cons, F1 hco, hps, List.foldl_append, fold_grp g _ _ (fun x hx => ⟨hag x hx, by rw [addB_key]; exact hgk x hx⟩), ← hps, bo0]
        have kb : (boK (r :: ps) (keyL r)).key = keyL r := by
          have : ∀ (g : List (List Int)) (b : Bo), (g.foldl addB b).key = b.key := fun g => by
            induction g with
            | nil => exact fun b => rfl
            | cons x g ih => exact fun b => by rw [List.foldl_cons, ih, addB_key]
          rw [bo0, this, addB_key]
        obtain ⟨R1, R2⟩ := hrun ⟨st.out ++ tellO st.cur, some (boK (r :: ps) (keyL r)), false⟩ rfl fun b hb => by
          cases hb
          rw [kb]
          rintro ⟨x, hx, _, he⟩
          exact htk x hx he
        rw [e1]
        refine ⟨fun ⟨_, hall⟩ => ?_, fun hn => R2 fun ⟨h1, h2⟩ => hn ⟨hco, fun K hK => ?_⟩⟩
        · have hb := hall _ List.mem_cons_self
          rw [R1 ⟨hb, fun K hK => by rw [← boT K hK]; exact hall K (List.mem_cons_of_mem _ hK)⟩, tellO_ok hb]
          have e2 : (Ks.flatMap fun K => boRows (boK tl K)) = Ks.flatMap fun K => boRows (boK (r :: ps) K) := by
            rw [List.flatMap_def, List.flatMap_def]
            congr 1
            exact List.map_congr_left fun K hK => by rw [boT K hK]
          rw [e2, List.flatMap_cons, List.map_append, List.append_assoc, List.append_assoc]
        · rcases List.mem_cons.1 hK with rfl | hK
          · exact h1
          · rw [boT K hK]; exact h2 K hK
      · refine ⟨fun h => (hco h.1).elim, fun _ => ?_⟩
        obtain ⟨d1, d2⟩ := F2 hco
        rw [List.foldl_cons, foldl_dead _ _ d1]
        unfold finP
        rw [if_pos d1]
        exact d2


/-! ### PairY -/

theorem keyL_three (r : List Int) : ∃ x0 x1 x2, keyL r = [x0, x1, x2] := by unfold keyL; split <;> exact ⟨_, _, _, rfl⟩
theorem cmp3 (x0 x1 x2 y0 y1 y2 : Int) : cmpL [x0, x1, x2] [y0, y1, y2] [] = firstN [cmpO (some x0) (some y0), cmpO (some x1) (some y1), cmpO (some x2) (some y2)] := rfl
theorem cmp4 (x0 x1 x2 x3 y0 y1 y2 y3 : Int) : cmpL [x0, x1, x2, x3] [y0, y1, y2, y3] [] = firstN [cmpO (some x0) (some y0), cmpO (some x1) (some y1), cmpO (some x2) (some y2), cmpO (some x3) (some y3)] := rfl
theorem cmpO_refl (x : Int) : cmpO (some x) (some x) = 0 := by simp [cmpO, cmpI]
theorem cmpO_le {x y : Int} (h : cmpO (some x) (some y) ≤ 0) : x ≤ y := by
  simp only [cmpO, cmpI] at h
  split at h
  · omega
  · split at h <;> omega
theorem key_le {a b : List Int} {i j : Int} (h : cmpL (keyL a ++ [i]) (keyL b ++ [j]) [] ≤ 0) : leK a b ∧ (keyL a = keyL b → i ≤ j) := by
  obtain ⟨x0, x1, x2, hx⟩ := keyL_three a
  obtain ⟨y0, y1, y2, hy⟩ := keyL_three b
  unfold leK
  rw [hx, hy] at h ⊢
  simp only [List.cons_append, List.nil_append] at h
  rw [cmp4] at h
  rw [cmp3]
  refine ⟨?_, fun e => ?_⟩
  · generalize cmpO (some x0) (some y0) = c0 at *
    generalize cmpO (some x1) (some y1) = c1 at *
    generalize cmpO (some x2) (some y2) = c2 at *
    simp only [firstN] at h ⊢
    split
    · rw [if_pos (by assumption)] at h
      split
      · rw [if_pos (by assumption)] at h
        split
        · exact Int.le_refl _
        · rw [if_neg (by assumption)] at h; exact h
      · rw [if_neg (by assumption)] at h; exact h
    · rw [if_neg (by assumption)] at h; exact h
  · cases e
    simp only [firstN, cmpO_refl, if_pos] at h
    split at h
    · exact cmpO_le (by omega)
    · exact cmpO_le h

/-- The lines, in the order of their keys. -/
def gX (ls : List HRow) (i : Nat) : List Int := (ls.getD i noRow).xs
theorem gX_range (ls : List HRow) : (List.range ls.length).map (gX ls) = ls.map HRow.xs := by
  refine List.ext_getElem (by simp) fun i h1 h2 => ?_
  have h3 : i < ls.length := by simpa using h2
  simp [gX, List.getD_eq_getElem?_getD, h3]

theorem alones_fold : ∀ (A : List (List Int)) (out : List ORow), (∀ r ∈ A, alI r = true) → A.foldl stepP ⟨out, none, false⟩ = ⟨out ++ (A.map aloneL).map some, none, false⟩
  | [], out, _ => by simp
  | r :: A, out, h => by
    have hr : r.getD 5 0 = 0 := by have := h r List.mem_cons_self; unfold alI at this; simpa using this
    have e : stepP ⟨out, none, false⟩ r = ⟨out ++ [some (aloneL r)], none, false⟩ := by
      unfold stepP
      rw [if_neg (by exact Bool.noConfusion), if_neg (by exact Bool.noConfusion)]
      show partB ⟨out, none, false⟩ r = _
      unfold partB
      rw [if_pos hr]
      show (⟨(out ++ []) ++ [some (aloneL r)], none, false⟩ : PSt) = _
      rw [List.append_nil]
    rw [List.foldl_cons, e, alones_fold A _ fun x hx => h x (List.mem_cons_of_mem _ hx)]
    simp

theorem parts_spec {ls : List HRow} {idxs : List Nat} (hp : idxs.Perm (List.range ls.length)) (hs : idxs.Pairwise (fun i j => cmpL (keyRow ls i) (keyRow ls j) [] ≤ 0)) :
    ∃ Ks : List (List Int), Ks.Nodup ∧ (∀ K, K ∈ Ks ↔ PK (ls.map HRow.xs) K) ∧
      ((∀ K ∈ Ks, boOk (boK (ls.map HRow.xs) K)) → ∃ os : List (List Int), partsO ((inL (idxs.map fun i => ls.getD i noRow)).map HRow.xs) = os.map some ∧ os.Perm (((ls.map HRow.xs).filter alI).map aloneL ++ Ks.flatMap fun K => boRows (boK (ls.map HRow.xs) K))) ∧
      (¬ (∀ K ∈ Ks, boOk (boK (ls.map HRow.xs) K)) → none ∈ partsO ((inL (idxs.map fun i => ls.getD i noRow)).map HRow.xs)) := by
  obtain ⟨rs, hrs⟩ : ∃ rs, rs = ls.map HRow.xs := ⟨_, rfl⟩
  obtain ⟨ys, hys⟩ : ∃ ys, ys = idxs.map (gX ls) := ⟨_, rfl⟩
  have hyr : ys.Perm rs := by rw [hys, hrs, ← gX_range]; exact hp.map _
  have e0 : (inL (idxs.map fun i => ls.getD i noRow)).map HRow.xs = ys.filter alI ++ ys.filter (fun r => !alI r) := by
    unfold inL
    rw [List.map_append, hys]
    have h1 : ∀ l : List HRow, (l.filter fun r => aloneB r == true).map HRow.xs = (l.map HRow.xs).filter alI := fun l => by
      rw [List.filter_map]
      congr 1
      refine List.filter_congr fun r _ => ?_
      show (aloneB r == true) = alI r.xs
      unfold aloneB alI
      simp
    have h2 : ∀ l : List HRow, (l.filter fun r => aloneB r == false).map HRow.xs = (l.map HRow.xs).filter (fun r => !alI r) := fun l => by
      rw [List.filter_map]
      congr 1
      refine List.filter_congr fun r _ => ?_
      show (aloneB r == false) = !alI r.xs
      unfold aloneB alI
      simp
    rw [h1, h2, List.map_map]
    rfl
  have hkey : ∀ i, keyRow ls i = keyL (gX ls i) ++ [(i : Int)] := fun i => rfl
  have hP : (ys.filter (fun r => !alI r)).Pairwise leK := by
    refine List.Pairwise.filter _ ?_
    rw [hys, List.pairwise_map]
    exact hs.imp fun {a b} h => by
      rw [hkey, hkey] at h
      exact (key_le h).1
  have hPa : ∀ r ∈ ys.filter (fun r => !alI r), alI r = false := fun r hr => by simpa using (List.mem_filter.1 hr).2
  have hA : ∀ r ∈ ys.filter alI, alI r = true := fun r hr => (List.mem_filter.1 hr).2
  have hbo : ∀ K, boK (ys.filter (fun r => !alI r)) K = boK rs K := fun K => by
    unfold boK
    have e1 : (ys.filter (fun r => !alI r)).filter (sameK K) = ys.filter (sameK K) := by
      rw [List.filter_filter]
      refine List.filter_congr fun r _ => ?_
      unfold sameK
      cases alI r <;> simp
    have e2 : ys.filter (sameK K) = rs.filter (sameK K) := by
      rw [hys, hrs, ← gX_range, List.filter_map, List.filter_map]
      congr 1
      refine List.Perm.eq_of_pairwise (le := fun a b => a ≤ b) (fun a b _ _ h k => Nat.le_antisymm h k) ?_ ?_ (hp.filter _)
      · have hs2 : (idxs.filter (sameK K ∘ gX ls)).Pairwise (fun i j => cmpL (keyRow ls i) (keyRow ls j) [] ≤ 0) := List.Pairwise.filter _ hs
        refine hs2.imp_of_mem fun {a b} ha hb h => ?_
        rw [hkey, hkey] at h
        have k1 : keyL (gX ls a) = K := by
          have := (List.mem_filter.1 ha).2
          simp [sameK] at this
          exact this.2
        have k2 : keyL (gX ls b) = K := by
          have := (List.mem_filter.1 hb).2
          simp [sameK] at this
          exact this.2
        have := (key_le h).2 (k1.trans k2.symm)
        omega
      · exact (List.Pairwise.filter _ List.pairwise_lt_range).imp fun {a b} h => Nat.le_of_lt h
    rw [e1, e2]
  have hpk : ∀ K, PK (ys.filter (fun r => !alI r)) K ↔ PK rs K := fun K => by
    constructor
    · rintro ⟨r, hr, h1, h2⟩
      exact ⟨r, hyr.mem_iff.1 (List.mem_filter.1 hr).1, h1, h2⟩
    · rintro ⟨r, hr, h1, h2⟩
      exact ⟨r, List.mem_filter.2 ⟨hyr.mem_iff.2 hr, by rw [h1]; rfl⟩, h1, h2⟩
  obtain ⟨Ks, hnd, hmem, hrun⟩ := parts_pairs _ _ (Nat.le_refl _) hP hPa
  obtain ⟨R1, R2⟩ := hrun ⟨((ys.filter alI).map aloneL).map some, none, false⟩ rfl fun b hb => (by cases hb)
  have e3 : partsO (ys.filter alI ++ ys.filter (fun r => !alI r)) = finP ((ys.filter (fun r => !alI r)).foldl stepP ⟨((ys.filter alI).map aloneL).map some, none, false⟩) := by
    unfold partsO stP
    rw [List.foldl_append, alones_fold _ _ hA, List.nil_append]
  rw [← hrs, e0, e3]
  refine ⟨Ks, hnd, fun K => (hmem K).trans (hpk K), fun h => ?_, fun h => R2 fun ⟨_, h2⟩ => h fun K hK => by rw [← hbo K]; exact h2 K hK⟩
  refine ⟨(ys.filter alI).map aloneL ++ Ks.flatMap fun K => boRows (boK rs K), ?_, ?_⟩
  · rw [R1 ⟨trivial, fun K hK => by rw [hbo K]; exact h K hK⟩, List.map_append]
    have e4 : (Ks.flatMap fun K => boRows (boK (ys.filter (fun r => !alI r)) K)) = Ks.flatMap fun K => boRows (boK rs K) := by
      rw [List.flatMap_def, List.flatMap_def]
      congr 1
      exact List.map_congr_left fun K _ => by rw [hbo K]
    rw [e4]
    show _ ++ [] ++ _ = _
    rw [List.append_nil]
  · exact List.Perm.append ((hyr.filter _).map _) (.refl _)


/-! ### RefW -/

set_option maxRecDepth 100000 in
theorem rOf_ans (a : Int) (h1 : -9223372036854775808 ≤ a) (h2 : a < 9223372036854775808) : Ans E F_sheafref1_Of [.int .i64 a] (W a) := by
  refine .of fn_sheafref1_Of (by simp) fun m => ?_
  by_cases h : a < 0
  · have d : decide (a < 0) = true := by simpa using h
    simp (decide := true) (implicitDefEqProofs := false) (maxDischargeDepth := 20) only [go_sem, ↓reduceIte, d, W, true_implies, false_implies]
    simp only [wrap_i64, wrap_u64]
    exact pair_eq (by omega) (by omega)
  · have d : decide (a < 0) = false := by simpa using h
    simp (decide := true) (implicitDefEqProofs := false) (maxDischargeDepth := 20) only [go_sem, ↓reduceIte, d, W, true_implies, false_implies]
    simp only [wrap_i64, wrap_u64]
    exact pair_eq (by omega) (by omega)

set_option maxRecDepth 100000 in
theorem rAdd_ans (x y : Int) : Ans E F_sheafref1_Add [W x, W y] (W (x + y)) := by
  refine .of fn_sheafref1_Add (by simp) fun m => ?_
  by_cases h : x % 18446744073709551616 + y % 18446744073709551616 < 18446744073709551616
  · have w1 : IntKind.wrap .u64 (x % 18446744073709551616 + y % 18446744073709551616) = x % 18446744073709551616 + y % 18446744073709551616 := by rw [wrap_u64]; omega
    have d1 : decide (x % 18446744073709551616 + y % 18446744073709551616 < x % 18446744073709551616) = false := by simp; omega
    simp (decide := true) (implicitDefEqProofs := false) (maxDischargeDepth := 20) only [go_sem, ↓reduceIte, W, w1, d1, true_implies, false_implies]
    simp only [wrap_i64]
    exact pair_eq (by omega) (by omega)
  · have w1 : IntKind.wrap .u64 (x % 18446744073709551616 + y % 18446744073709551616) = x % 18446744073709551616 + y % 18446744073709551616 - 18446744073709551616 := by rw [wrap_u64]; omega
    have d1 : decide (x % 18446744073709551616 + y % 18446744073709551616 - 18446744073709551616 < x % 18446744073709551616) = true := by simp; omega
    simp (decide := true) (implicitDefEqProofs := false) (maxDischargeDepth := 20) only [go_sem, ↓reduceIte, W, w1, d1, true_implies, false_implies]
    simp only [wrap_i64]
    exact pair_eq (by omega) (by omega)

set_option maxRecDepth 100000 in
theorem rCmp_ans (x y : Int) (hx : -170141183460469231731687303715884105728 ≤ x) (hx' : x < 170141183460469231731687303715884105728) (hy : -170141183460469231731687303715884105728 ≤ y) (hy' : y < 170141183460469231731687303715884105728) :
    Ans E F_sheafref1_Cmp [W x, W y] (.int .i64 (if x < y then -1 else if y < x then 1 else 0)) := by
  refine .of fn_sheafref1_Cmp (by simp) fun m => ?_
  have u1 := wrap_i64_id (x / 18446744073709551616) (by omega) (by omega)
  have u2 := wrap_i64_id (y / 18446744073709551616) (by omega) (by omega)
  by_cases h1 : x / 18446744073709551616 < y / 18446744073709551616
  · have d1 : decide (x / 18446744073709551616 < y / 18446744073709551616) = true := by simpa using h1
    rw [if_pos (by omega)]
    simp (decide := true) (implicitDefEqProofs := false) (maxDischargeDepth := 20) only [go_sem, ↓reduceIte, W, u1, u2, d1, true_implies, false_implies]
  · have d1 : decide (x / 18446744073709551616 < y / 18446744073709551616) = false := by simpa using h1
    by_cases h2 : x / 18446744073709551616 = y / 18446744073709551616
    · have d2 : (x / 18446744073709551616 == y / 18446744073709551616) = true := by simpa using h2
      by_cases h3 : x % 18446744073709551616 < y % 18446744073709551616
      · have d3 : decide (x % 18446744073709551616 < y % 18446744073709551616) = true := by simpa using h3
        rw [if_pos (by omega)]
        simp (decide := true) (implicitDefEqProofs := false) (maxDischargeDepth := 20) only [go_sem, ↓reduceIte, W, u1, u2, d1, d2, d3, true_implies, false_implies]
      · have d3 : decide (x % 18446744073709551616 < y % 18446744073709551616) = false := by simpa using h3
        by_cases h4 : x % 18446744073709551616 = y % 18446744073709551616
        · have d4 : (x % 18446744073709551616 == y % 18446744073709551616) = true := by simpa using h4
          rw [if_neg (by omega), if_neg (by omega)]
          simp (decide := true) (implicitDefEqProofs := false) (maxDischargeDepth := 20) only [go_sem, ↓reduceIte, W, u1, u2, d1, d2, d3, d4, true_implies, false_implies]
        · have d4 : (x % 18446744073709551616 == y % 18446744073709551616) = false := by simpa using h4
          rw [if_neg (by omega), if_pos (by omega)]
          simp (decide := true) (implicitDefEqProofs := false) (maxDischargeDepth := 20) only [go_sem, ↓reduceIte, W, u1, u2, d1, d2, d3, d4, true_implies, false_implies]
    · have d2 : (x / 18446744073709551616 == y / 18446744073709551616) = false := by simpa using h2
      rw [if_neg (by omega), if_pos (by omega)]
      simp (decide := true) (implicitDefEqProofs := false) (maxDischargeDepth := 20) only [go_sem, ↓reduceIte, W, u1, u2, d1, d2, Bool.false_and, true_implies, false_implies]

set_option maxRecDepth 100000 in
theorem rInt_ans (x : Int) (h : -170141183460469231731687303715884105728 ≤ x) (h' : x < 170141183460469231731687303715884105728) :
    Ans E F_sheafref1_Int [W x] (if -9223372036854775808 ≤ x ∧ x < 9223372036854775808 then .tuple #[.int .i64 x, .bool true] else .tuple #[.int .i64 0, .bool false]) := by
  have o := rOf_ans (IntKind.wrap .i64 (x % 18446744073709551616)) (by rw [wrap_i64]; omega) (by rw [wrap_i64]; omega)
  simp only [W] at o
  refine .of fn_sheafref1_Int (by simp) fun m => ?_
  have u1 := wrap_i64_id (x / 18446744073709551616) (by omega) (by omega)
  by_cases hr : -9223372036854775808 ≤ x ∧ x < 9223372036854775808
  · rw [if_pos hr]
    have e1 : IntKind.wrap .i64 (x % 18446744073709551616) = x := by rw [wrap_i64]; omega
    have d1 : (x / 18446744073709551616 == x / 18446744073709551616) = true := by simp
    rw [e1] at o
    rw [u1] at o
    simp (decide := true) (implicitDefEqProofs := false) (maxDischargeDepth := 20) only [go_sem, ↓reduceIte, W, u1, e1, o.eq, beq_self_eq_true, true_implies, false_implies]
  · rw [if_neg hr]
    obtain ⟨y, hy⟩ : ∃ y, y = IntKind.wrap .i64 (x % 18446744073709551616) := ⟨_, rfl⟩
    rw [← hy] at o
    have hy2 := hy
    rw [wrap_i64] at hy2
    have u2 := wrap_i64_id (y / 18446744073709551616) (by omega) (by omega)
    have d1 : (y / 18446744073709551616 == x / 18446744073709551616) = false := by simp; omega
    rw [u2] at o
    simp (decide := true) (implicitDefEqProofs := false) (maxDischargeDepth := 20) only [go_sem, ↓reduceIte, W, u1, ← hy, o.eq, d1, Bool.false_and, Bool.not_false, true_implies, false_implies]

set_option maxRecDepth 100000 in
theorem rsign_ans (x : Int) (hx : -170141183460469231731687303715884105728 ≤ x) (hx' : x < 170141183460469231731687303715884105728) : Ans E F_sheafref16_sign [W x] (.int .i64 (sg x 0)) := by
  have c := rCmp_ans x 0 hx hx' (by decide) (by decide)
  rw [show (if x < 0 then -1 else if 0 < x then 1 else 0 : Int) = sg x 0 from rfl] at c
  have wz : W 0 = .agg #[.int .i64 0, .int .u64 0] := rfl
  rw [wz] at c
  simp only [W] at c
  refine .of fn_sheafref16_sign (by simp) fun m => ?_
  simp (decide := true) (implicitDefEqProofs := false) (maxDischargeDepth := 20) only [go_sem, ↓reduceIte, W, c.eq, true_implies, false_implies]

set_option maxRecDepth 100000 in
set_option maxHeartbeats 4000000 in
theorem rCancel_ans (x y : Int) (hx : -85070591730234615865843651857942052864 ≤ x) (hx' : x < 85070591730234615865843651857942052864) (hy : -85070591730234615865843651857942052864 ≤ y) (hy' : y < 85070591730234615865843651857942052864) :
    Ans E F_sheafref16_Cancel [W x, W y] (.tuple #[W (canP x y), W (canQ x y)]) := by
  have s1 := rsign_ans x (by omega) (by omega)
  have s2 := rsign_ans y (by omega) (by omega)
  have s3 := rsign_ans (x + y) (by omega) (by omega)
  have a1 := rAdd_ans x y
  refine .of fn_sheafref16_Cancel (by simp) fun m => ?_
  have wz : W 0 = .agg #[.int .i64 0, .int .u64 0] := rfl
  by_cases h1 : 0 ≤ sg x 0 * sg y 0
  · have w1 : IntKind.wrap .i64 (sg x 0 * sg y 0) = sg x 0 * sg y 0 := by
      rcases sg0 x with h | h | h <;> rcases sg0 y with k | k | k <;> rw [h.1, k.1] <;> decide
    have d1 : decide (sg x 0 * sg y 0 ≥ 0) = true := by simpa using h1
    have e1 : canP x y = x := by unfold canP; rw [if_pos h1]
    have e2 : canQ x y = y := by unfold canQ; rw [if_pos h1]
    rw [e1, e2]
    simp only [W] at s1 s2 s3 a1 ⊢
    simp (decide := true) (implicitDefEqProofs := false) (maxDischargeDepth := 20) only [go_sem, ↓reduceIte, s1.eq, s2.eq, s3.eq, a1.eq, get_gm1, ugm_put1, w1, d1, true_implies, false_implies]
  · have w1 : IntKind.wrap .i64 (sg x 0 * sg y 0) = sg x 0 * sg y 0 := by
      rcases sg0 x with h | h | h <;> rcases sg0 y with k | k | k <;> rw [h.1, k.1] <;> decide
    have d1 : decide (sg x 0 * sg y 0 ≥ 0) = false := by simpa using h1
    have hx0 : sg x 0 ≠ 0 := fun e => h1 (by rw [e]; simp)
    by_cases h3 : sg (x + y) 0 = 0
    · have d3 : (sg (x + y) 0 == 0) = true := by simpa using h3
      have hz : x + y = 0 := by rcases sg0 (x + y) with h | h | h <;> omega
      have h2 : ¬ sg (x + y) 0 = sg x 0 := fun e => hx0 (by omega)
      have e1 : canP x y = 0 := by unfold canP; rw [if_neg h1, if_neg h2]
      have e2 : canQ x y = 0 := by unfold canQ; rw [if_neg h1, if_neg h2, hz]
      rw [e1, e2, wz]
      simp only [W] at s1 s2 s3 a1 ⊢
      simp (decide := true) (implicitDefEqProofs := false) (maxDischargeDepth := 20) only [go_sem, ↓reduceIte, s1.eq, s2.eq, s3.eq, a1.eq, get_gm1, ugm_put1, w1, d1, d3, true_implies, false_implies]
    · have d3 : (sg (x + y) 0 == 0) = false := by simpa using h3
      by_cases h2 : sg (x + y) 0 = sg x 0
      · have d2 : (sg (x + y) 0 == sg x 0) = true := by simpa using h2
        have e1 : canP x y = x + y := by unfold canP; rw [if_neg h1, if_pos h2]
        have e2 : canQ x y = 0 := by unfold canQ; rw [if_neg h1, if_pos h2]
        rw [e1, e2, wz]
        simp only [W] at s1 s2 s3 a1 ⊢
        simp (decide := true) (implicitDefEqProofs := false) (maxDischargeDepth := 20) only [go_sem, ↓reduceIte, s1.eq, s2.eq, s3.eq, a1.eq, get_gm1, ugm_put1, w1, d1, d2, d3, true_implies, false_implies]
      · have d2 : (sg (x + y) 0 == sg x 0) = false := by simpa using h2
        have e1 : canP x y = 0 := by unfold canP; rw [if_neg h1, if_neg h2]
        have e2 : canQ x y = x + y := by unfold canQ; rw [if_neg h1, if_neg h2]
        rw [e1, e2, wz]
        simp only [W] at s1 s2 s3 a1 ⊢
        simp (decide := true) (implicitDefEqProofs := false) (maxDischargeDepth := 20) only [go_sem, ↓reduceIte, s1.eq, s2.eq, s3.eq, a1.eq, get_gm1, ugm_put1, w1, d1, d2, d3, true_implies, false_implies]


/-! ### RefP -/

theorem imap79 : IsIMap E 79 (.bool false) := ⟨_, _, map79, rfl⟩
/-- A side of the document's. -/
def sideC (s : Sd) : List Value := [wHi s.s, wLo s.s, vI s.p, .bool (decide (0 < s.n))]
/-- The rows from i on, before k. -/
def seg (rs : List (List Int)) (i k : Nat) : List (List Int) := (rs.take k).drop i
theorem seg_succ (rs : List (List Int)) {i k : Nat} (hi : i ≤ k) (hk : k < rs.length) : seg rs i (k + 1) = seg rs i k ++ [rs[k]] := by
  unfold seg
  rw [List.take_succ_eq_append_getElem hk, List.drop_append_of_le_length (by rw [List.length_take]; omega)]
theorem seg_self (rs : List (List Int)) (i : Nat) : seg rs i i = [] := by unfold seg; rw [List.drop_eq_nil_iff, List.length_take]; omega
def boS (rs : List (List Int)) (K : List Int) (i k : Nat) : Bo := ((seg rs i k).filter (sameK K)).foldl addB ⟨K, sd0, sd0⟩

theorem rows02 {m : Mem} {b : Nat} {tg : Bool} {v0 v1 v2 v3 : Value} (h : m.get b = some (.cells false tg [v0, v1, v2, v3])) : m.rows b 0 2 = some [v0, v1] := by
  unfold Mem.rows; rw [h]; rfl

structure InJ (m0 m : Mem) (ab bb db : Nat) (rs : List (List Int)) (K : List Int) (i k : Nat) (f : Int → Option Value) : Prop where
  a : m.get ab = some (.cells false true (sideC (boS rs K i k).lo))
  b : m.get bb = some (.cells false true (sideC (boS rs K i k).hi))
  d : ∃ g, IMap m db g ∧ (∀ j : Nat, i ≤ j → j < k → sameK K (rs.getD j []) = true → g (j : Int) = some (.bool true)) ∧ ∀ j : Nat, (¬ (i ≤ j ∧ j < k ∧ sameK K (rs.getD j []) = true)) → g (j : Int) = f (j : Int)
  size : m0.size ≤ m.size
  keep : ∀ x, x < m0.size → x ≠ ab → x ≠ bb → x ≠ db → m.get x = m0.get x

set_option maxRecDepth 100000 in
set_option maxHeartbeats 16000000 in
theorem Ref_inner {m0 : Mem} {t : Fr} {a0 rad : Option Addr} {n c0 rc i ab bb db : Nat} {ls : List HRow} {r : List Int} {f : Int → Option Value} (hs : SlA m0 1 a0 n c0 (ls.map HRow.v)) (hr : ∀ r ∈ ls, r.At m0) (h10 : ∀ r ∈ ls, r.n = 10) (hn : n ≤ 900) (hi : i ≤ n)
    (hrs : SlA m0 1 rad 10 rc (r.map (.int .i64))) (hr5 : alI r = false) (gA : m0.get ab = some (.cells false true (sideC sd0))) (gB : m0.get bb = some (.cells false true (sideC sd0))) (gD : IMap m0 db f)
    (na : ∀ x, a0 = some x → x.block ≠ ab ∧ x.block ≠ bb ∧ x.block ≠ db) (nr : ∀ r ∈ ls, ∀ x, r.ad = some x → x.block ≠ ab ∧ x.block ≠ bb ∧ x.block ≠ db) (nrr : ∀ x, rad = some x → x.block ≠ ab ∧ x.block ≠ bb ∧ x.block ≠ db) (hne : ab ≠ bb ∧ ab ≠ db ∧ bb ≠ db)
    (t0 : t 0 = .slice a0 n c0) (t5 : t 5 = .map (some db)) (t7 : t 7 = .slice rad 10 rc) (t8 : t 8 = vI ((keyL r).getD 0 0)) (t9 : t 9 = vI ((keyL r).getD 1 0)) (t10 : t 10 = ptr ab) (t11 : t 11 = ptr bb) (t12 : t 12 = vI (i : Nat)) {K : Post3}
    (hK : ∀ t' m', Agree (writes c_sheafref16_Pairs_19) t t' → InJ m0 m' ab bb db (ls.map HRow.xs) (keyL r) i n f → K .normal t' m') :
    wpM E F_sheafref16_Pairs 192 none c_sheafref16_Pairs_19 K t m0 := by
  refine wpM_cut (fun t' m' => InJ m0 m' ab bb db (ls.map HRow.xs) (keyL r) i n f) ?_ fun t' m' ha h => hK t' m' ha h
  have hl : ls.length = n := by have := hs.len; simpa using this
  simp only [c_sheafref16_Pairs_19_at, wpM_block, c_sheafref16_Pairs_18_at]
  refine wpM_loopA (fun j t' m' => ∃ k, i ≤ k ∧ k ≤ n ∧ j = n - k ∧ t' 12 = vI (k : Nat) ∧ InJ m0 m' ab bb db (ls.map HRow.xs) (keyL r) i k f) (n - i)
    ⟨i, Nat.le_refl _, hi, rfl, t12, ⟨by unfold boS; rw [seg_self]; exact gA, by unfold boS; rw [seg_self]; exact gB, ⟨f, gD, fun j h1 h2 => by omega, fun j _ => rfl⟩, Nat.le_refl _, fun _ _ _ _ _ => rfl⟩⟩ ?_
  rintro j t' m' ha ⟨k, hik, hk, rfl, e12, H⟩
  have e0 := (ha 0 (by decide +kernel)).trans t0
  have e5 := (ha 5 (by decide +kernel)).trans t5
  have e7 := (ha 7 (by decide +kernel)).trans t7
  have e8 := (ha 8 (by decide +kernel)).trans t8
  have e9 := (ha 9 (by decide +kernel)).trans t9
  have e10 := (ha 10 (by decide +kernel)).trans t10
  have e11 := (ha 11 (by decide +kernel)).trans t11
  by_cases hlt : k < n
  · have d1 : decide ((k : Int) < (n : Int)) = true := by simp; omega
    have w1 : IntKind.wrap .i64 ((k : Int) + 1) = ((k + 1 : Nat) : Int) := by rw [wrap_i64_id _ (by omega) (by omega)]; omega
    have z0 : (0 : Int) ≤ (k : Int) := by omega
    have z1 : (k : Int) < (n : Int) := by omega
    have kp : ∀ x, x < m0.size → x ≠ ab ∧ x ≠ bb ∧ x ≠ db → m'.get x = m0.get x := fun x hx h => H.keep x hx h.1 h.2.1 h.2.2
    have hS := hs.keep fun x hx hne' => kp _ ((hs.rows x hx hne').lt) (na x hx)
    obtain ⟨Lb, Lo, Lsp, rfl⟩ := hS.addr (by omega)
    have r0 : m'.at Lb (Lo + k) = some (HRow.v (ls[k]'(by omega))) := hS.at_map hlt
    have hmem : ls[k]'(by omega) ∈ ls := List.getElem_mem _
    have hAt : (ls[k]'(by omega)).At m' := (hr _ hmem).keep fun x hx hne' => kp _ (((hr _ hmem).sl.rows x hx (by simpa using hne')).lt) (nr _ hmem x hx)
    have nx := nr _ hmem
    have hn10 := h10 _ hmem
    have esg : seg (ls.map HRow.xs) i (k + 1) = seg (ls.map HRow.xs) i k ++ [(ls[k]'(by omega)).xs] := by rw [seg_succ _ hik (by rw [List.length_map]; omega)]; simp
    have exk : (ls.map HRow.xs).getD k [] = (ls[k]'(by omega)).xs := by simp [List.getD_eq_getElem?_getD, show k < ls.length by omega]
    generalize ls[k]'(by omega) = x at *
    obtain ⟨xad, xn, xc, xs⟩ := x
    simp only at hn10 esg exk nx
    subst hn10
    have hsl : SlA m' 1 xad 10 xc (xs.map (.int .i64)) := hAt.sl
    have hbd : ∀ x ∈ xs, -9223372036854775808 ≤ x ∧ x < 9223372036854775808 := hAt.bd
    have hlen : xs.length = 10 := by have := hsl.len; simpa using this
    obtain ⟨xb, xo, xsp, hxa⟩ := hsl.addr (by omega)
    subst hxa
    have r1 : m'.at Lb (Lo + k) = some (.slice (some ⟨xb, xo, xsp⟩) 10 xc) := r0
    have q : ∀ j, j < 10 → m'.at xb (xo + j) = some (.int .i64 (xs.getD j 0)) := fun j hj => by
      have := hsl.at_map hj
      rw [show xs.getD j 0 = xs[j]'(by omega) by simp [List.getD_eq_getElem?_getD, List.getElem?_eq_getElem (show j < xs.length by omega)]]
      exact this
    have q1 : m'.at xb (xo + Int.toNat 1) = _ := q 1 (by omega)
    have q5 : m'.at xb (xo + Int.toNat 5) = _ := q 5 (by omega)
    have q7 : m'.at xb (xo + Int.toNat 7) = _ := q 7 (by omega)
    have q8 : m'.at xb (xo + Int.toNat 8) = _ := q 8 (by omega)
    have q9 : m'.at xb (xo + Int.toNat 9) = _ := q 9 (by omega)
    have hRS := hrs.keep fun x hx hne' => kp _ ((hrs.rows x hx hne').lt) (nrr x hx)
    have hrl : r.length = 10 := by have := hrs.len; simpa using this
    obtain ⟨rb, ro, rsp, hra⟩ := hRS.addr (by omega)
    subst hra
    have p8 : m'.at rb (ro + Int.toNat 8) = some (.int .i64 (r.getD 8 0)) := by
      have := hRS.at_map (show 8 < 10 by omega)
      rw [show r.getD 8 0 = r[8]'(by omega) by simp [List.getD_eq_getElem?_getD, List.getElem?_eq_getElem (show 8 < r.length by omega)]]
      exact this
    have hkr : keyL r = [min (r.getD 1 0) (r.getD 5 0), max (r.getD 1 0) (r.getD 5 0), r.getD 8 0] := by unfold keyL; exact if_neg (alI_ne hr5)
    have k2 : r.getD 8 0 = (keyL r).getD 2 0 := by rw [hkr]; rfl
    rw [k2] at p8
    -- a row that is not of the pair
    have skip : sameK (keyL r) xs = false → InJ m0 m' ab bb db (ls.map HRow.xs) (keyL r) i (k + 1) f := fun hx => by
      have e1 : boS (ls.map HRow.xs) (keyL r) i (k + 1) = boS (ls.map HRow.xs) (keyL r) i k := by
        unfold boS
        rw [esg, List.filter_append, List.filter_cons_of_neg (by rw [hx]; exact Bool.noConfusion), List.filter_nil, List.append_nil]
      obtain ⟨g, g1, g2, g3⟩ := H.d
      refine ⟨by rw [e1]; exact H.a, by rw [e1]; exact H.b, ⟨g, g1, fun j h1 h2 h3 => ?_, fun j h => ?_⟩, H.size, H.keep⟩
      · by_cases hj : j = k
        · subst hj; rw [exk, hx] at h3; cases h3
        · exact g2 j h1 (by omega) h3
      · exact g3 j fun h' => h ⟨h'.1, by omega, h'.2.2⟩
    by_cases x5 : xs.getD 5 0 = 0
    · have dx5 : (xs.getD 5 0 == 0) = true := by simpa using x5
      simp (decide := true) (implicitDefEqProofs := false) (maxDischargeDepth := 20) only [go_sem, e0, e5, e7, e8, e9, e10, e11, e12, d1, z0, z1, w1, r1, q1, q5, q8, p8, dx5, ↓reduceIte, Int.toNat_natCast, true_implies, false_implies]
      exact ⟨n - (k + 1), by omega, k + 1, by omega, by omega, rfl, rfl, skip (by unfold sameK alI; rw [dx5]; rfl)⟩
    have dx5 : (xs.getD 5 0 == 0) = false := by simpa using x5
    have hkx : keyL xs = [min (xs.getD 1 0) (xs.getD 5 0), max (xs.getD 1 0) (xs.getD 5 0), xs.getD 8 0] := by unfold keyL; exact if_neg x5
    have k0 : (keyL r).getD 0 0 = min (r.getD 1 0) (r.getD 5 0) := by rw [hkr]; rfl
    have k1 : (keyL r).getD 1 0 = max (r.getD 1 0) (r.getD 5 0) := by rw [hkr]; rfl
    have same3 : ∀ j, (keyL xs).getD j 0 ≠ (keyL r).getD j 0 → sameK (keyL r) xs = false := fun j h => by
      unfold sameK
      rw [Bool.and_eq_false_iff]
      exact .inr (decide_eq_false fun e => h (by rw [e]))
    cases dc1 : (min (xs.getD 1 0) (xs.getD 5 0) != (keyL r).getD 0 0) with
    | true =>
      simp (decide := true) (implicitDefEqProofs := false) (maxDischargeDepth := 20) only [go_sem, e0, e5, e7, e8, e9, e10, e11, e12, d1, z0, z1, w1, r1, q1, q5, q8, p8, dx5, dc1, ↓reduceIte, Int.toNat_natCast, true_implies, false_implies]
      exact ⟨n - (k + 1), by omega, k + 1, by omega, by omega, rfl, rfl, skip (same3 0 (by rw [hkx]; simpa using dc1))⟩
    | false =>
      cases dc2 : (max (xs.getD 1 0) (xs.getD 5 0) != (keyL r).getD 1 0) with
      | true =>
        simp (decide := true) (implicitDefEqProofs := false) (maxDischargeDepth := 20) only [go_sem, e0, e5, e7, e8, e9, e10, e11, e12, d1, z0, z1, w1, r1, q1, q5, q8, p8, dx5, dc1, dc2, ↓reduceIte, Int.toNat_natCast, true_implies, false_implies]
        exact ⟨n - (k + 1), by omega, k + 1, by omega, by omega, rfl, rfl, skip (same3 1 (by rw [hkx]; simpa using dc2))⟩
      | false =>
        cases dc3 : (xs.getD 8 0 != (keyL r).getD 2 0) with
        | true =>
          simp (decide := true) (implicitDefEqProofs := false) (maxDischargeDepth := 20) only [go_sem, e0, e5, e7, e8, e9, e10, e11, e12, d1, z0, z1, w1, r1, q1, q5, q8, p8, dx5, dc1, dc2, dc3, ↓reduceIte, Int.toNat_natCast, true_implies, false_implies]
          exact ⟨n - (k + 1), by omega, k + 1, by omega, by omega, rfl, rfl, skip (same3 2 (by rw [hkx]; simpa using dc3))⟩
        | false =>
          have hsame : sameK (keyL r) xs = true := by
            have h1 : min (xs.getD 1 0) (xs.getD 5 0) = (keyL r).getD 0 0 := by simpa using dc1
            have h2 : max (xs.getD 1 0) (xs.getD 5 0) = (keyL r).getD 1 0 := by simpa using dc2
            have h3 : xs.getD 8 0 = (keyL r).getD 2 0 := by simpa using dc3
            unfold sameK alI
            rw [dx5, hkx, h1, h2, h3, hkr]
            simp
          obtain ⟨g, G1, G2, G3⟩ := H.d
          obtain ⟨m2, hu, D2, s2, kp2⟩ := G1.upd imap79 (k : Int) (.bool true)
          simp (decide := true) (implicitDefEqProofs := false) (maxDischargeDepth := 20) only [go_sem, e0, e5, e7, e8, e9, e10, e11, e12, d1, z0, z1, w1, r1, q1, q5, q8, p8, dx5, dc1, dc2, dc3, hu, ↓reduceIte, Int.toNat_natCast, true_implies, false_implies]
          have nxb := nx _ rfl
          have qq : ∀ j, j < 10 → m2.at xb (xo + j) = some (.int .i64 (xs.getD j 0)) := fun j hj => by
            have := q j hj
            unfold Mem.at at this ⊢
            rw [kp2 xb nxb.2.2]
            exact this
          have u1 : m2.at xb (xo + Int.toNat 1) = _ := qq 1 (by omega)
          have u7 : m2.at xb (xo + Int.toNat 7) = _ := qq 7 (by omega)
          have u9 : m2.at xb (xo + Int.toNat 9) = _ := qq 9 (by omega)
          have gA2 := (kp2 ab hne.2.1).trans H.a
          have gB2 := (kp2 bb hne.2.2).trans H.b
          have lA2 := getM_lt gA2
          have lB2 := getM_lt gB2
          have h9 := hbd (xs.getD 9 0) (by simp [List.getD_eq_getElem?_getD, hlen])
          have o1 := rOf_ans (xs.getD 9 0) h9.1 h9.2
          obtain ⟨bo, hbo⟩ : ∃ bo, bo = boS (ls.map HRow.xs) (keyL r) i k := ⟨_, rfl⟩
          have hbk : bo.key = keyL r := by
            have : ∀ (g : List (List Int)) (b : Bo), (g.foldl addB b).key = b.key := fun g => by
              induction g with
              | nil => exact fun b => rfl
              | cons x g ih => exact fun b => by rw [List.foldl_cons, ih, addB_key]
            rw [hbo]; unfold boS; rw [this]
          have ebs : boS (ls.map HRow.xs) (keyL r) i (k + 1) = addB bo xs := by
            unfold boS
            rw [esg, List.filter_append, List.filter_cons_of_pos hsame, List.filter_nil, List.foldl_append, hbo]
            rfl
          rw [← hbo] at gA2 gB2
          have a1 := rAdd_ans bo.lo.s (xs.getD 9 0)
          have a2 := rAdd_ans bo.hi.s (xs.getD 9 0)
          simp only [W] at o1 a1 a2
          have fin : ∀ mF : Mem, m2.size ≤ mF.size → mF.get ab = some (.cells false true (sideC (addB bo xs).lo)) → mF.get bb = some (.cells false true (sideC (addB bo xs).hi)) → (∀ x, x < m2.size → x ≠ ab → x ≠ bb → mF.get x = m2.get x) → InJ m0 mF ab bb db (ls.map HRow.xs) (keyL r) i (k + 1) f := fun mF hsz h1 h2 h3 => by
            refine ⟨by rw [ebs]; exact h1, by rw [ebs]; exact h2, ⟨updM g (k : Int) (.bool true), D2.keep (h3 db D2.blk hne.2.1.symm hne.2.2.symm), fun j j1 j2 j3 => ?_, fun j hj => ?_⟩, by have := H.size; omega, fun x hx x1 x2 x3 => ?_⟩
            · unfold updM
              by_cases hjk : j = k
              · rw [if_pos (by omega)]
              · rw [if_neg (by omega)]; exact G2 j j1 (by omega) j3
            · unfold updM
              have hjk : j ≠ k := fun e => hj ⟨by omega, by omega, by rw [e, exk]; exact hsame⟩
              rw [if_neg (by omega)]
              exact G3 j fun h' => hj ⟨h'.1, by omega, h'.2.2⟩
            · rw [h3 x (by have := H.size; omega) x1 x2, kp2 x x3, H.keep x hx x1 x2 x3]
          cases dx1 : (xs.getD 1 0 == (keyL r).getD 0 0) with
          | true =>
            have ead : addB bo xs = ⟨bo.key, sdAdd bo.lo xs, bo.hi⟩ := by unfold addB; rw [hbk]; exact if_pos (by simpa using dx1)
            rw [ead] at fin
            simp only [sideC, wHi, wLo] at gA2
            have rA2 := rows02 gA2
            simp (decide := true) (implicitDefEqProofs := false) (maxDischargeDepth := 20) only [go_sem, e0, e5, e7, e8, e9, e10, e11, e12, w1, u1, u7, u9, dx1, gA2, rA2, lA2, o1.eq, a1.eq, get_gm1, ugm_put1, ↓reduceIte, Int.toNat_natCast, true_implies, false_implies]
            obtain ⟨M, hM⟩ : ∃ M, M = ansM E F_sheafref1_Add #[.agg #[.int .i64 (IntKind.i64.wrap (bo.lo.s / 18446744073709551616)), .int .u64 (bo.lo.s % 18446744073709551616)], .agg #[.int .i64 (IntKind.i64.wrap (xs.getD 9 0 / 18446744073709551616)), .int .u64 (xs.getD 9 0 % 18446744073709551616)]] [xb] (ansM E F_sheafref1_Of #[.int .i64 (xs.getD 9 0)] [ab, xb] m2) := ⟨_, rfl⟩
            have oM : Old m2 M := by rw [hM]; exact .ansM (.ansM (.refl m2))
            have sM := oM.size
            rw [← hM]
            refine ⟨n - (k + 1), by omega, k + 1, by omega, by omega, rfl, rfl, fin _ (by rw [size_put]; exact sM) ?_ ?_ fun x hx x1 x2 => ?_⟩
            · rw [getM_put, if_pos ⟨rfl, by omega⟩]
              simp [sideC, sdAdd, wHi, wLo]
            · rw [getM_put, if_neg (fun e => hne.1 e.1.symm), oM.get lB2]; exact gB2
            · rw [getM_put, if_neg (fun e => x1 e.1), oM.get hx]
          | false =>
            have ead : addB bo xs = ⟨bo.key, bo.lo, sdAdd bo.hi xs⟩ := by unfold addB; rw [hbk]; exact if_neg (by simpa using dx1)
            rw [ead] at fin
            simp only [sideC, wHi, wLo] at gB2
            have rB2 := rows02 gB2
            simp (decide := true) (implicitDefEqProofs := false) (maxDischargeDepth := 20) only [go_sem, e0, e5, e7, e8, e9, e10, e11, e12, w1, u1, u7, u9, dx1, gB2, rB2, lB2, o1.eq, a2.eq, get_gm1, ugm_put1, ↓reduceIte, Int.toNat_natCast, true_implies, false_implies]
            obtain ⟨M, hM⟩ : ∃ M, M = ansM E F_sheafref1_Add #[.agg #[.int .i64 (IntKind.i64.wrap (bo.hi.s / 18446744073709551616)), .int .u64 (bo.hi.s % 18446744073709551616)], .agg #[.int .i64 (IntKind.i64.wrap (xs.getD 9 0 / 18446744073709551616)), .int .u64 (xs.getD 9 0 % 18446744073709551616)]] [xb] (ansM E F_sheafref1_Of #[.int .i64 (xs.getD 9 0)] [bb, xb] m2) := ⟨_, rfl⟩
            have oM : Old m2 M := by rw [hM]; exact .ansM (.ansM (.refl m2))
            have sM := oM.size
            rw [← hM]
            refine ⟨n - (k + 1), by omega, k + 1, by omega, by omega, rfl, rfl, fin _ (by rw [size_put]; exact sM) ?_ ?_ fun x hx x1 x2 => ?_⟩
            · rw [getM_put, if_neg (fun e => hne.1 e.1), oM.get lA2]; exact gA2
            · rw [getM_put, if_pos ⟨rfl, by omega⟩]
              simp [sideC, sdAdd, wHi, wLo]
            · rw [getM_put, if_neg (fun e => x2 e.1), oM.get hx]
  · have d1 : decide ((k : Int) < (n : Int)) = false := by simp; omega
    have hkn : k = n := by omega
    subst hkn
    simp (decide := true) (implicitDefEqProofs := false) (maxDischargeDepth := 20) only [go_sem, e0, e12, d1, ↓reduceIte, true_implies, false_implies]
    exact H


/-! ### RefQ -/

/-- What is known of sides. -/
structure SdB (s : Sd) : Prop where
  e : fitsI s.e
  p : fitsI s.p
  s : -(9223372036854775808 * (s.n : Int)) ≤ s.s ∧ s.s ≤ 9223372036854775808 * (s.n : Int)
theorem sd0_B : SdB sd0 := ⟨by unfold fitsI; decide, by unfold fitsI; decide, by decide⟩
theorem sdAdd_B {s : Sd} {r : List Int} (h : SdB s) (hr : ∀ x ∈ r, fitsI x) (hl : r.length = 10) : SdB (sdAdd s r) := by
  have f : ∀ j, j < 10 → fitsI (r.getD j 0) := fun j hj => hr _ (by simp [List.getD_eq_getElem?_getD, hl, hj])
  have h1 := h.s
  have h9 := f 9 (by omega)
  unfold fitsI at h9
  refine ⟨f 1 (by omega), f 7 (by omega), ?_⟩
  show -(9223372036854775808 * ((s.n + 1 : Nat) : Int)) ≤ s.s + r.getD 9 0 ∧ s.s + r.getD 9 0 ≤ 9223372036854775808 * ((s.n + 1 : Nat) : Int)
  omega
structure BoB (b : Bo) : Prop where
  lo : SdB b.lo
  hi : SdB b.hi
  el : 0 < b.lo.n → b.lo.e = b.key.getD 0 0
  eh : 0 < b.hi.n → b.hi.e = b.key.getD 1 0
theorem addB_B {b : Bo} {r : List Int} (h : BoB b) (hr : ∀ x ∈ r, fitsI x) (hl : r.length = 10) (hs : sameK b.key r = true) : BoB (addB b r) ∧ (addB b r).lo.n + (addB b r).hi.n = b.lo.n + b.hi.n + 1 := by
  have h5 : alI r = false ∧ keyL r = b.key := by unfold sameK at hs; simpa using hs
  have hk : keyL r = [min (r.getD 1 0) (r.getD 5 0), max (r.getD 1 0) (r.getD 5 0), r.getD 8 0] := by unfold keyL; exact if_neg (alI_ne h5.1)
  have k0 : b.key.getD 0 0 = min (r.getD 1 0) (r.getD 5 0) := by rw [← h5.2, hk]; rfl
  have k1 : b.key.getD 1 0 = max (r.getD 1 0) (r.getD 5 0) := by rw [← h5.2, hk]; rfl
  unfold addB
  split
  · rename_i he
    exact ⟨⟨sdAdd_B h.lo hr hl, h.hi, fun _ => he, h.eh⟩, by simp only [sdAdd]; omega⟩
  · rename_i he
    refine ⟨⟨h.lo, sdAdd_B h.hi hr hl, h.el, fun _ => ?_⟩, by simp only [sdAdd]; omega⟩
    show r.getD 1 0 = b.key.getD 1 0
    omega
theorem fold_B : ∀ (g : List (List Int)) (b : Bo), BoB b → (∀ r ∈ g, (∀ x ∈ r, fitsI x) ∧ r.length = 10 ∧ sameK b.key r = true) → BoB (g.foldl addB b) ∧ (g.foldl addB b).lo.n + (g.foldl addB b).hi.n = b.lo.n + b.hi.n + g.length
  | [], b, h, _ => ⟨h, by simp⟩
  | r :: g, b, h, hr => by
    obtain ⟨h1, h2, h3⟩ := hr r List.mem_cons_self
    have hA := addB_B h h1 h2 h3
    have := fold_B g (addB b r) hA.1 fun x hx => by
      obtain ⟨k1, k2, k3⟩ := hr x (List.mem_cons_of_mem _ hx)
      exact ⟨k1, k2, by rw [addB_key]; exact k3⟩
    rw [List.foldl_cons]
    refine ⟨this.1, ?_⟩
    rw [this.2, hA.2, List.length_cons]
    omega
theorem boK_B {rs : List (List Int)} (K : List Int) (hr : ∀ r ∈ rs, (∀ x ∈ r, fitsI x) ∧ r.length = 10) (hl : rs.length ≤ 900) : BoB (boK rs K) ∧ (boK rs K).key = K ∧ wideI (boK rs K).lo.s ∧ wideI (boK rs K).hi.s := by
  have h0 : BoB ⟨K, sd0, sd0⟩ := ⟨sd0_B, sd0_B, fun h => by simp [sd0] at h, fun h => by simp [sd0] at h⟩
  have := fold_B (rs.filter (sameK K)) _ h0 fun r h => ⟨(hr r (List.mem_filter.1 h).1).1, (hr r (List.mem_filter.1 h).1).2, (List.mem_filter.1 h).2⟩
  have hfl := List.length_filter_le (sameK K) rs
  have hk : ∀ (g : List (List Int)) (b : Bo), (g.foldl addB b).key = b.key := fun g => by
    induction g with
    | nil => exact fun b => rfl
    | cons x g ih => exact fun b => by rw [List.foldl_cons, ih, addB_key]
  have hn : (boK rs K).lo.n + (boK rs K).hi.n ≤ 900 := by
    have h2 := this.2
    simp only [sd0, Nat.zero_add, Nat.add_zero] at h2
    unfold boK
    simp only [sd0]
    omega
  have B1 : BoB (boK rs K) := this.1
  have s1 := B1.lo.s
  have s2 := B1.hi.s
  exact ⟨B1, hk _ _, by unfold wideI; omega, by unfold wideI; omega⟩
theorem boRows_eq {b : Bo} (h : BoB b) : boRows b = (if 0 < b.lo.n then [[b.key.getD 0 0, b.lo.p, b.key.getD 2 0, canP b.lo.s b.hi.s]] else []) ++ (if 0 < b.hi.n then [[b.key.getD 1 0, b.hi.p, b.key.getD 2 0, canQ b.lo.s b.hi.s]] else []) := by
  unfold boRows
  congr 1
  · split
    · rw [h.el (by assumption)]
    · rfl
  · split
    · rw [h.eh (by assumption)]
    · rfl

theorem side_at {m : Mem} {b : Nat} {s : Sd} (h : m.get b = some (.cells false true (sideC s))) : m.at b 2 = some (vI s.p) ∧ m.at b 3 = some (.bool (decide (0 < s.n))) := by
  unfold Mem.at; rw [h]; exact ⟨rfl, rfl⟩

set_option maxRecDepth 100000 in
set_option maxHeartbeats 8000000 in
theorem Ref_lo {m : Mem} {t : Fr} {a : Option Addr} {B ab rb ro rc : Nat} {rs0 : Option Nat} {k0 k2 P : Int} {s : Sd} {ps : List (Nat × List Int)} (gA : m.get ab = some (.cells false true (sideC s))) (p8 : m.at rb (ro + Int.toNat 8) = some (.int .i64 k2))
    (V : Vec B m 1 a ps.length ((ps.map rowH).map HRow.v)) (O : Own2 B m ps) (dis : ∀ p ∈ ps, ∀ y, a = some y → p.1 ≠ y.block) (hps : ps.length ≤ 100000) (hB : B ≤ m.size) (f0 : fitsI k0) (f1 : fitsI s.p) (f2 : fitsI k2) (f3 : fitsI P)
    (t4 : t 4 = .slice a ps.length ps.length) (t7 : t 7 = .slice (some ⟨rb, ro, rs0⟩) 10 rc) (t8 : t 8 = vI k0) (t10 : t 10 = ptr ab) (t16 : t 16 = vI P) {K : Post3}
    (hK : ∀ t' m' a' ps', Agree (writes c_sheafref16_Pairs_25) t t' → t' 4 = .slice a' ps'.length ps'.length → Vec B m' 1 a' ps'.length ((ps'.map rowH).map HRow.v) → Own2 B m' ps' → (∀ p ∈ ps', ∀ y, a' = some y → p.1 ≠ y.block) → ps'.map Prod.snd = ps.map Prod.snd ++ (if 0 < s.n then [[k0, s.p, k2, P]] else []) →
      m.size ≤ m'.size → (∀ i, i < m.size → (∀ y, a = some y → i ≠ y.block) → m'.get i = m.get i) → (a' = a ∨ ∀ y, a' = some y → m.size ≤ y.block) → K .normal t' m') :
    wpM E F_sheafref16_Pairs 192 none c_sheafref16_Pairs_25 K t m := by
  refine wpM_cut (fun t' m' => ∃ a' ps', t' 4 = .slice a' ps'.length ps'.length ∧ Vec B m' 1 a' ps'.length ((ps'.map rowH).map HRow.v) ∧ Own2 B m' ps' ∧ (∀ p ∈ ps', ∀ y, a' = some y → p.1 ≠ y.block) ∧ ps'.map Prod.snd = ps.map Prod.snd ++ (if 0 < s.n then [[k0, s.p, k2, P]] else []) ∧ m.size ≤ m'.size ∧ (∀ i, i < m.size → (∀ y, a = some y → i ≠ y.block) → m'.get i = m.get i) ∧ (a' = a ∨ ∀ y, a' = some y → m.size ≤ y.block)) ?_ fun t' m' ha ⟨a', ps', h1, h2, h3, h4, h5, h6, h7, h8⟩ => hK t' m' a' ps' ha h1 h2 h3 h4 h5 h6 h7 h8
  obtain ⟨q1, q2⟩ := side_at gA
  by_cases h0 : 0 < s.n
  · have d1 : decide (0 < s.n) = true := decide_eq_true h0
    rw [d1] at q2
    simp (decide := true) (implicitDefEqProofs := false) (maxDischargeDepth := 20) only [go_sem, nilOk, t4, t7, t8, t10, t16, q1, q2, p8, ↓reduceIte, true_implies, false_implies]
    obtain ⟨nb, hnb⟩ : ∃ b, b = m.size := ⟨_, rfl⟩
    obtain ⟨mp, hmp⟩ : ∃ mp, mp = m.push (.cells false true [.int .i64 k0, .int .i64 s.p, .int .i64 k2, .int .i64 P]) := ⟨_, rfl⟩
    have sp : mp.size = m.size + 1 := by rw [hmp, size_push]
    have op : Old m mp := by rw [hmp]; exact .push (.refl m) _
    have gr : mp.get nb = some (.cells false true (([k0, s.p, k2, P] : List Int).map (.int .i64))) := by rw [hmp, hnb, getM_push, if_pos rfl]; rfl
    rw [← hnb, ← hmp]
    refine (V.old op).appendQ (by omega) (by omega) rfl (by decide) (by decide +kernel) (by decide +kernel) rfl (by omega) fun m8 b8 s8 v8 k8 hb8 => ?_
    have eps : (ps ++ [(nb, [k0, s.p, k2, P])]).length = ps.length + 1 := by simp
    simp (decide := true) (implicitDefEqProofs := false) (maxDischargeDepth := 20) only [go_sem, ↓reduceIte, true_implies, false_implies]
    have g8 : ∀ i, i < m.size → (∀ y, a = some y → i ≠ y.block) → m8.get i = m.get i := fun i hi hne => by rw [k8.2 i (by omega) hne, op.get hi]
    refine ⟨some ⟨b8, 0, s8⟩, ps ++ [(nb, [k0, s.p, k2, P])], by rw [eps], ?_, ?_, ?_, ?_, by have := k8.1; omega, fun i hi => g8 i (by omega), .inr fun y hy => by cases hy; show nb ≤ b8; omega⟩
    · rw [eps, List.map_append, List.map_append]
      exact v8
    · refine (O.keep fun p hp => g8 _ (O.lt p hp) (dis p hp)).snoc ?_ ?_ (by omega) fun p hp => by have := O.lt p hp; omega
      · rw [k8.2 nb (getM_lt gr) fun y hy e => by have := V.lt hy; omega]
        exact gr
      · intro x hx
        simp only [List.mem_cons, List.not_mem_nil, or_false] at hx
        rcases hx with rfl | rfl | rfl | rfl
        · exact f0
        · exact f1
        · exact f2
        · exact f3
    · intro p hp y hy
      cases hy
      rcases List.mem_append.1 hp with hp | hp
      · have := O.lt p hp; show p.1 ≠ b8; omega
      · rw [List.mem_singleton.1 hp]; show nb ≠ b8; omega
    · rw [List.map_append, if_pos h0]
      rfl
  · have d1 : decide (0 < s.n) = false := decide_eq_false h0
    rw [d1] at q2
    simp (decide := true) (implicitDefEqProofs := false) (maxDischargeDepth := 20) only [go_sem, nilOk, t4, t7, t8, t10, t16, q1, q2, p8, ↓reduceIte, true_implies, false_implies]
    exact ⟨a, ps, rfl, V, O, dis, by rw [if_neg h0, List.append_nil], fun _ _ _ => trivial, .inl rfl⟩

set_option maxRecDepth 100000 in
set_option maxHeartbeats 8000000 in
theorem Ref_hi {m : Mem} {t : Fr} {a : Option Addr} {B ab rb ro rc : Nat} {rs0 : Option Nat} {k0 k2 P : Int} {s : Sd} {ps : List (Nat × List Int)} (gA : m.get ab = some (.cells false true (sideC s))) (p8 : m.at rb (ro + Int.toNat 8) = some (.int .i64 k2))
    (V : Vec B m 1 a ps.length ((ps.map rowH).map HRow.v)) (O : Own2 B m ps) (dis : ∀ p ∈ ps, ∀ y, a = some y → p.1 ≠ y.block) (hps : ps.length ≤ 100000) (hB : B ≤ m.size) (f0 : fitsI k0) (f1 : fitsI s.p) (f2 : fitsI k2) (f3 : fitsI P)
    (t4 : t 4 = .slice a ps.length ps.length) (t7 : t 7 = .slice (some ⟨rb, ro, rs0⟩) 10 rc) (t8 : t 9 = vI k0) (t10 : t 11 = ptr ab) (t16 : t 18 = vI P) {K : Post3}
    (hK : ∀ t' m' a' ps', Agree (writes c_sheafref16_Pairs_27) t t' → t' 4 = .slice a' ps'.length ps'.length → Vec B m' 1 a' ps'.length ((ps'.map rowH).map HRow.v) → Own2 B m' ps' → (∀ p ∈ ps', ∀ y, a' = some y → p.1 ≠ y.block) → ps'.map Prod.snd = ps.map Prod.snd ++ (if 0 < s.n then [[k0, s.p, k2, P]] else []) →
      m.size ≤ m'.size → (∀ i, i < m.size → (∀ y, a = some y → i ≠ y.block) → m'.get i = m.get i) → (a' = a ∨ ∀ y, a' = some y → m.size ≤ y.block) → K .normal t' m') :
    wpM E F_sheafref16_Pairs 192 none c_sheafref16_Pairs_27 K t m := by
  refine wpM_cut (fun t' m' => ∃ a' ps', t' 4 = .slice a' ps'.length ps'.length ∧ Vec B m' 1 a' ps'.length ((ps'.map rowH).map HRow.v) ∧ Own2 B m' ps' ∧ (∀ p ∈ ps', ∀ y, a' = some y → p.1 ≠ y.block) ∧ ps'.map Prod.snd = ps.map Prod.snd ++ (if 0 < s.n then [[k0, s.p, k2, P]] else []) ∧ m.size ≤ m'.size ∧ (∀ i, i < m.size → (∀ y, a = some y → i ≠ y.block) → m'.get i = m.get i) ∧ (a' = a ∨ ∀ y, a' = some y → m.size ≤ y.block)) ?_ fun t' m' ha ⟨a', ps', h1, h2, h3, h4, h5, h6, h7, h8⟩ => hK t' m' a' ps' ha h1 h2 h3 h4 h5 h6 h7 h8
  obtain ⟨q1, q2⟩ := side_at gA
  by_cases h0 : 0 < s.n
  · have d1 : decide (0 < s.n) = true := decide_eq_true h0
    rw [d1] at q2
    simp (decide := true) (implicitDefEqProofs := false) (maxDischargeDepth := 20) only [go_sem, nilOk, t4, t7, t8, t10, t16, q1, q2, p8, ↓reduceIte, true_implies, false_implies]
    obtain ⟨nb, hnb⟩ : ∃ b, b = m.size := ⟨_, rfl⟩
    obtain ⟨mp, hmp⟩ : ∃ mp, mp = m.push (.cells false true [.int .i64 k0, .int .i64 s.p, .int .i64 k2, .int .i64 P]) := ⟨_, rfl⟩
    have sp : mp.size = m.size + 1 := by rw [hmp, size_push]
    have op : Old m mp := by rw [hmp]; exact .push (.refl m) _
    have gr : mp.get nb = some (.cells false true (([k0, s.p, k2, P] : List Int).map (.int .i64))) := by rw [hmp, hnb, getM_push, if_pos rfl]; rfl
    rw [← hnb, ← hmp]
    refine (V.old op).appendQ (by omega) (by omega) rfl (by decide) (by decide +kernel) (by decide +kernel) rfl (by omega) fun m8 b8 s8 v8 k8 hb8 => ?_
    have eps : (ps ++ [(nb, [k0, s.p, k2, P])]).length = ps.length + 1 := by simp
    simp (decide := true) (implicitDefEqProofs := false) (maxDischargeDepth := 20) only [go_sem, ↓reduceIte, true_implies, false_implies]
    have g8 : ∀ i, i < m.size → (∀ y, a = some y → i ≠ y.block) → m8.get i = m.get i := fun i hi hne => by rw [k8.2 i (by omega) hne, op.get hi]
    refine ⟨some ⟨b8, 0, s8⟩, ps ++ [(nb, [k0, s.p, k2, P])], by rw [eps], ?_, ?_, ?_, ?_, by have := k8.1; omega, fun i hi => g8 i (by omega), .inr fun y hy => by cases hy; show nb ≤ b8; omega⟩
    · rw [eps, List.map_append, List.map_append]
      exact v8
    · refine (O.keep fun p hp => g8 _ (O.lt p hp) (dis p hp)).snoc ?_ ?_ (by omega) fun p hp => by have := O.lt p hp; omega
      · rw [k8.2 nb (getM_lt gr) fun y hy e => by have := V.lt hy; omega]
        exact gr
      · intro x hx
        simp only [List.mem_cons, List.not_mem_nil, or_false] at hx
        rcases hx with rfl | rfl | rfl | rfl
        · exact f0
        · exact f1
        · exact f2
        · exact f3
    · intro p hp y hy
      cases hy
      rcases List.mem_append.1 hp with hp | hp
      · have := O.lt p hp; show p.1 ≠ b8; omega
      · rw [List.mem_singleton.1 hp]; show nb ≠ b8; omega
    · rw [List.map_append, if_pos h0]
      rfl
  · have d1 : decide (0 < s.n) = false := decide_eq_false h0
    rw [d1] at q2
    simp (decide := true) (implicitDefEqProofs := false) (maxDischargeDepth := 20) only [go_sem, nilOk, t4, t7, t8, t10, t16, q1, q2, p8, ↓reduceIte, true_implies, false_implies]
    exact ⟨a, ps, rfl, V, O, dis, by rw [if_neg h0, List.append_nil], fun _ _ _ => trivial, .inl rfl⟩


/-! ### RefR -/

theorem wpM_cutX {E : Env} {f n : Nat} {rd : Option Nat} {c : MC} {K : Post3} {t : Fr} {m : Mem} (P : Post3) (h : wpM E f n rd c P t m) (k : ∀ x t' m', Agree (writes c) t t' → P x t' m' → K x t' m') : wpM E f n rd c K t m :=
  wpM_mono c _ _ (fun x t' m' hk => k x t' m' hk.1 hk.2) t m (wpM_agree c t m (.refl _ _) (fun i hi => hi) h)

attribute [-go_sem] c_sheafref16_Pairs_25_at c_sheafref16_Pairs_27_at in
set_option maxRecDepth 100000 in
set_option maxHeartbeats 8000000 in
theorem Ref_tell {m : Mem} {t : Fr} {a : Option Addr} {B ab bb rb ro rc : Nat} {rs0 : Option Nat} {bo : Bo} {ps : List (Nat × List Int)} (gA : m.get ab = some (.cells false true (sideC bo.lo))) (gB : m.get bb = some (.cells false true (sideC bo.hi))) (p8 : m.at rb (ro + Int.toNat 8) = some (.int .i64 (bo.key.getD 2 0)))
    (hbB : BoB bo) (hw1 : wideI bo.lo.s) (hw2 : wideI bo.hi.s) (V : Vec B m 1 a ps.length ((ps.map rowH).map HRow.v)) (O : Own2 B m ps) (dis : ∀ p ∈ ps, ∀ y, a = some y → p.1 ≠ y.block) (hps : ps.length ≤ 90000) (hB : B ≤ m.size) (f0 : fitsI (bo.key.getD 0 0)) (f1 : fitsI (bo.key.getD 1 0)) (f2 : fitsI (bo.key.getD 2 0))
    (nab : ∀ y, a = some y → y.block ≠ ab ∧ y.block ≠ bb ∧ y.block ≠ rb)
    (t4 : t 4 = .slice a ps.length ps.length) (t7 : t 7 = .slice (some ⟨rb, ro, rs0⟩) 10 rc) (t8 : t 8 = vI (bo.key.getD 0 0)) (t9 : t 9 = vI (bo.key.getD 1 0)) (t10 : t 10 = ptr ab) (t11 : t 11 = ptr bb) {K : Post3}
    (hK : boOk bo → ∀ t' m' a' ps', Agree (writes c_sheafref16_Pairs_32) t t' → t' 4 = .slice a' ps'.length ps'.length → Vec B m' 1 a' ps'.length ((ps'.map rowH).map HRow.v) → Own2 B m' ps' → (∀ p ∈ ps', ∀ y, a' = some y → p.1 ≠ y.block) → ps'.map Prod.snd = ps.map Prod.snd ++ boRows bo →
      m.size ≤ m'.size → (∀ i, i < m.size → (∀ y, a = some y → i ≠ y.block) → m'.get i = m.get i) → K .normal t' m')
    (hR : ¬ boOk bo → ∀ t' m', Agree (writes c_sheafref16_Pairs_32) t t' → t' 2 = .slice none 0 0 → t' 3 = .bool false → Old m m' → K .ret t' m') :
    wpM E F_sheafref16_Pairs 192 none c_sheafref16_Pairs_32 K t m := by
  refine wpM_cutX (fun x t' m' => (x = .normal ∧ boOk bo ∧ ∃ a' ps', t' 4 = .slice a' ps'.length ps'.length ∧ Vec B m' 1 a' ps'.length ((ps'.map rowH).map HRow.v) ∧ Own2 B m' ps' ∧ (∀ p ∈ ps', ∀ y, a' = some y → p.1 ≠ y.block) ∧ ps'.map Prod.snd = ps.map Prod.snd ++ boRows bo ∧
      m.size ≤ m'.size ∧ (∀ i, i < m.size → (∀ y, a = some y → i ≠ y.block) → m'.get i = m.get i)) ∨ (x = .ret ∧ ¬ boOk bo ∧ t' 2 = .slice none 0 0 ∧ t' 3 = .bool false ∧ Old m m')) ?_ fun x t' m' hag h => ?_
  rotate_left
  · rcases h with ⟨rfl, h0, a', ps', h1, h2, h3, h4, h5, h6, h7⟩ | ⟨rfl, h0, h1, h2, h3⟩
    · exact hK h0 t' m' a' ps' hag h1 h2 h3 h4 h5 h6 h7
    · exact hR h0 t' m' hag h1 h2 h3
  have cb := can_bd hw1 hw2
  unfold wideI at hw1 hw2
  have cc := rCancel_ans bo.lo.s bo.hi.s hw1.1 hw1.2 hw2.1 hw2.2
  have eR := boRows_eq hbB
  obtain ⟨P, hP⟩ : ∃ P, P = canP bo.lo.s bo.hi.s := ⟨_, rfl⟩
  obtain ⟨Q, hQ⟩ : ∃ Q, Q = canQ bo.lo.s bo.hi.s := ⟨_, rfl⟩
  have hok : boOk bo ↔ fitsI P ∧ fitsI Q := by unfold boOk; rw [hP, hQ]
  rw [← hP, ← hQ] at cb cc eR
  have i1 := rInt_ans P cb.1.1 cb.1.2
  have i2 := rInt_ans Q cb.2.1 cb.2.2
  simp only [W] at cc i1 i2
  have gA' := gA
  have gB' := gB
  simp only [sideC, wHi, wLo] at gA' gB'
  have rA := rows02 gA'
  have rB := rows02 gB'
  have lA := getM_lt gA
  have lB := getM_lt gB
  simp (decide := true) (implicitDefEqProofs := false) (maxDischargeDepth := 20) only [go_sem, nilOk, t10, t11, rA, rB, lA, lB, ↓reduceIte, true_implies, false_implies]
  refine (cc m).mono ?_
  rintro w m1 ⟨rfl, o1⟩
  simp (decide := true) (implicitDefEqProofs := false) (maxDischargeDepth := 20) only [go_sem, nilOk, ↓reduceIte, true_implies, false_implies]
  refine two_boxes (fun mm => CallQ E _ _ mm _) m1 _ _ _ _ fun m4 g4 g5 o14 s4 => ?_
  obtain ⟨pb, hpb⟩ : ∃ b, b = m1.size := ⟨_, rfl⟩
  obtain ⟨qb, hqb⟩ : ∃ b, b = m1.size + 1 := ⟨_, rfl⟩
  rw [← hqb] at g5 ⊢
  rw [← hpb] at g4 ⊢
  have o04 := o1.trans o14
  refine (i1 m4).mono ?_
  rintro w m5 ⟨rfl, o45⟩
  have o05 := o04.trans o45
  have r5 := rows_of ((o45.get (getM_lt g5)).trans g5)
  simp only [List.length_cons, List.length_nil, Nat.zero_add] at r5
  have l5 := getM_lt ((o45.get (getM_lt g5)).trans g5)
  by_cases f3 : fitsI P
  · rw [if_pos (show -9223372036854775808 ≤ P ∧ P < 9223372036854775808 from f3)]
    simp (decide := true) (implicitDefEqProofs := false) (maxDischargeDepth := 20) only [go_sem, nilOk, r5, l5, ↓reduceIte, true_implies, false_implies]
    refine (i2 m5).mono ?_
    rintro w m6 ⟨rfl, o56⟩
    have o06 := o05.trans o56
    by_cases f4 : fitsI Q
    · rw [if_pos (show -9223372036854775808 ≤ Q ∧ Q < 9223372036854775808 from f4)]
      simp (decide := true) (implicitDefEqProofs := false) (maxDischargeDepth := 20) only [go_sem, nilOk, ↓reduceIte, true_implies, false_implies]
      have s06 := o06.size
      have p86 : m6.at rb (ro + Int.toNat 8) = some (.int .i64 (bo.key.getD 2 0)) := by
        have hlt : rb < m.size := by
          unfold Mem.at at p8
          cases hg : m.get rb with
          | none => rw [hg] at p8; cases p8
          | some c => exact getM_lt hg
        unfold Mem.at at p8 ⊢
        rw [o06.get hlt]
        exact p8
      have hrb : rb < m.size := by
        unfold Mem.at at p8
        cases hg : m.get rb with
        | none => rw [hg] at p8; cases p8
        | some c => exact getM_lt hg
      refine Ref_lo (rs0 := rs0) (rc := rc) (B := B) (s := bo.lo) (ps := ps) (P := P) ((o06.get lA).trans gA) p86 (V.old o06) (O.old o06) dis (by omega) (by omega) f0 hbB.lo.p f2 f3 (by simp (decide := true) only [go_sem, t4, ↓reduceIte]) (by simp (decide := true) only [go_sem, t7, ↓reduceIte]) (by simp (decide := true) only [go_sem, t8, ↓reduceIte]) (by simp (decide := true) only [go_sem, t10, ↓reduceIte]) (by simp (decide := true) only [go_sem, ↓reduceIte]) fun t7' m7 a7 ps7 hag h1 h2 h3 h4 h5 h6 h7 h8 => ?_
      have e7 := hag 7 (by decide +kernel)
      have e9 := hag 9 (by decide +kernel)
      have e11 := hag 11 (by decide +kernel)
      have e18 := hag 18 (by decide +kernel)
      simp (decide := true) only [go_sem, t7, t9, t11, ↓reduceIte] at e7 e9 e11 e18
      have gB7 := (h7 bb (by omega) fun y hy e => (nab y hy).2.1 e.symm).trans ((o06.get lB).trans gB)
      have p87 : m7.at rb (ro + Int.toNat 8) = some (.int .i64 (bo.key.getD 2 0)) := by
        unfold Mem.at at p86 ⊢
        rw [h7 rb (by omega) fun y hy e => (nab y hy).2.2 e.symm]
        exact p86
      have hp7 : ps7.length ≤ ps.length + 1 := by
        have := congrArg List.length h5
        simp only [List.length_map, List.length_append] at this
        rw [this]
        split <;> simp
      simp (decide := true) (implicitDefEqProofs := false) (maxDischargeDepth := 20) only [go_sem, ↓reduceIte, true_implies, false_implies]
      refine Ref_hi (B := B) (s := bo.hi) (ps := ps7) (P := Q) gB7 p87 h2 h3 h4 (by omega) (by omega) f1 hbB.hi.p f2 f4 h1 e7 e9 e11 e18 fun t8' m8 a8 ps8 hag8 k1 k2 k3 k4 k5 k6 k7 k8 => ?_
      refine .inl ⟨rfl, hok.2 ⟨f3, f4⟩, a8, ps8, k1, k2, k3, k4, by rw [k5, h5, eR, List.append_assoc], by omega, fun i hi hne => ?_⟩
      rw [k7 i (by omega) fun y hy e => ?_, h7 i (by omega) hne, o06.get hi]
      rcases h8 with h8 | h8
      · exact hne y (h8 ▸ hy) e
      · have := h8 y hy; omega
    · rw [if_neg (show ¬ (-9223372036854775808 ≤ Q ∧ Q < 9223372036854775808) from f4)]
      simp (decide := true) (implicitDefEqProofs := false) (maxDischargeDepth := 20) only [go_sem, nilOk, ↓reduceIte, true_implies, false_implies]
      exact .inr ⟨fun h => f4 (hok.1 h).2, o06⟩
  · rw [if_neg (show ¬ (-9223372036854775808 ≤ P ∧ P < 9223372036854775808) from f3)]
    simp (decide := true) (implicitDefEqProofs := false) (maxDischargeDepth := 20) only [go_sem, nilOk, r5, l5, ↓reduceIte, true_implies, false_implies]
    refine (i2 m5).mono ?_
    rintro w m6 ⟨rfl, o56⟩
    have o06 := o05.trans o56
    split
    all_goals
      simp (decide := true) (implicitDefEqProofs := false) (maxDischargeDepth := 20) only [go_sem, nilOk, ↓reduceIte, true_implies, false_implies]
      exact .inr ⟨fun h => f3 (hok.1 h).1, o06⟩


/-! ### RefS -/

/-- What is told so far, plainly. -/
structure OutP (rs : List (List Int)) (i : Nat) (outs : List (List Int)) (Ks : List (List Int)) : Prop where
  nd : Ks.Nodup
  mem : ∀ K, K ∈ Ks ↔ PK (rs.take i) K
  ok : ∀ K ∈ Ks, boOk (boK rs K)
  out : outs.Perm (((rs.take i).filter alI).map aloneL ++ Ks.flatMap fun K => boRows (boK rs K))
theorem take1 (rs : List (List Int)) {i : Nat} (h : i < rs.length) : rs.take (i + 1) = rs.take i ++ [rs.getD i []] := by
  rw [List.take_succ_eq_append_getElem h]; simp [List.getD_eq_getElem?_getD, h]
theorem PK_snoc (rs : List (List Int)) (r K : List Int) : PK (rs ++ [r]) K ↔ PK rs K ∨ alI r = false ∧ keyL r = K := by
  unfold PK
  constructor
  · rintro ⟨x, hx, h⟩
    rcases List.mem_append.1 hx with hx | hx
    · exact .inl ⟨x, hx, h⟩
    · rw [List.mem_singleton.1 hx] at h; exact .inr h
  · rintro (⟨x, hx, h⟩ | h)
    · exact ⟨x, List.mem_append.2 (.inl hx), h⟩
    · exact ⟨r, List.mem_append.2 (.inr (List.mem_singleton.2 rfl)), h⟩
theorem OutP.skip {rs : List (List Int)} {i : Nat} {outs Ks : List (List Int)} (h : OutP rs i outs Ks) (hi : i < rs.length) (ha : alI (rs.getD i []) = false) (hk : keyL (rs.getD i []) ∈ Ks) : OutP rs (i + 1) outs Ks := by
  refine ⟨h.nd, fun K => ?_, h.ok, ?_⟩
  · rw [take1 rs hi, PK_snoc, ← h.mem]
    exact ⟨fun h => .inl h, fun h => h.elim id fun e => e.2 ▸ hk⟩
  · rw [take1 rs hi, List.filter_append, List.filter_cons_of_neg (by rw [ha]; exact Bool.noConfusion), List.filter_nil, List.append_nil]
    exact h.out
theorem OutP.alone {rs : List (List Int)} {i : Nat} {outs Ks : List (List Int)} (h : OutP rs i outs Ks) (hi : i < rs.length) (ha : alI (rs.getD i []) = true) : OutP rs (i + 1) (outs ++ [aloneL (rs.getD i [])]) Ks := by
  refine ⟨h.nd, fun K => ?_, h.ok, ?_⟩
  · rw [take1 rs hi, PK_snoc, ← h.mem]
    exact ⟨fun h => .inl h, fun h => h.elim id fun e => by rw [ha] at e; exact Bool.noConfusion e.1⟩
  · rw [take1 rs hi, List.filter_append, List.filter_cons_of_pos ha, List.filter_nil, List.map_append]
    refine (h.out.append_right _).trans ?_
    rw [List.append_assoc, List.append_assoc]
    exact List.perm_append_comm.append_left _
theorem OutP.more {rs : List (List Int)} {i : Nat} {outs Ks : List (List Int)} (h : OutP rs i outs Ks) (hi : i < rs.length) (ha : alI (rs.getD i []) = false) (hk : keyL (rs.getD i []) ∉ Ks) (hb : boOk (boK rs (keyL (rs.getD i [])))) : OutP rs (i + 1) (outs ++ boRows (boK rs (keyL (rs.getD i [])))) (Ks ++ [keyL (rs.getD i [])]) := by
  refine ⟨?_, fun K => ?_, fun K hK => ?_, ?_⟩
  · rw [List.nodup_append]
    exact ⟨h.nd, by simp, fun x hx y hy e => by rw [List.mem_singleton.1 hy] at e; exact hk (e ▸ hx)⟩
  · rw [take1 rs hi, PK_snoc, ← h.mem, List.mem_append, List.mem_singleton]
    exact ⟨fun h => h.imp id fun e => ⟨ha, e.symm⟩, fun h => h.imp id fun e => e.2.symm⟩
  · rcases List.mem_append.1 hK with hK | hK
    · exact h.ok K hK
    · rw [List.mem_singleton.1 hK]; exact hb
  · rw [take1 rs hi, List.filter_append, List.filter_cons_of_neg (by rw [ha]; exact Bool.noConfusion), List.filter_nil, List.append_nil, List.flatMap_append]
    refine (h.out.append_right _).trans ?_
    rw [List.append_assoc]
    simp
theorem boS_K {rs : List (List Int)} {K : List Int} {i : Nat} (h : ¬ PK (rs.take i) K) : boS rs K i rs.length = boK rs K := by
  unfold boS boK seg
  rw [List.take_length]
  congr 1
  conv => rhs; rw [← List.take_append_drop i rs, List.filter_append]
  rw [filter_no (l := rs.take i) (fun x hx => ?_), List.nil_append]
  unfold sameK
  cases ha : alI x with
  | true => rfl
  | false =>
    rw [decide_eq_false fun e => h ⟨x, hx, ha, e⟩]
    rfl

structure OutJ (m0 m : Mem) (db : Nat) (rs : List (List Int)) (i : Nat) (a : Option Addr) (ps : List (Nat × List Int)) (Ks : List (List Int)) : Prop where
  vec : Vec m0.size m 1 a ps.length ((ps.map rowH).map HRow.v)
  own : Own2 m0.size m ps
  dis : ∀ p ∈ ps, ∀ y, a = some y → p.1 ≠ y.block
  map : ∃ g, IMap m db g ∧ ∀ j : Nat, j < rs.length → (g (j : Int)).getD (.bool false) = .bool (!alI (rs.getD j []) && decide (keyL (rs.getD j []) ∈ Ks))
  p : OutP rs i (ps.map Prod.snd) Ks
  len : ps.length ≤ 2 * i
  size : m0.size ≤ m.size
  keep : ∀ x, x < m0.size → x ≠ db → m.get x = m0.get x

theorem side_boxes (P : Mem → Prop) (m : Mem) (h : ∀ m1, m1.get m.size = some (.cells false true (sideC sd0)) → m1.get (m.size + 1) = some (.cells false true (sideC sd0)) → Old m m1 → m1.size = m.size + 2 → P m1) :
    P ((m.push (.cells false true [.int .i64 0, .int .u64 0, .int .i64 0, .bool false])).push (.cells false true [.int .i64 0, .int .u64 0, .int .i64 0, .bool false])) := by
  refine h _ ?_ ?_ (.push (.push (.refl m) _) _) (by simp only [size_push])
  all_goals simp only [getM_push, size_push]
  · rw [if_neg (by omega), if_pos trivial]; rfl
  · rw [if_pos trivial]; rfl
theorem boRows_len (b : Bo) : (boRows b).length ≤ 2 := by
  unfold boRows
  rw [List.length_append]
  split <;> split <;> simp

attribute [-go_sem] c_sheafref16_Pairs_32_at in
set_option maxRecDepth 100000 in
set_option maxHeartbeats 16000000 in
theorem Ref_outer {m0 : Mem} {t : Fr} {a0 : Option Addr} {n c0 db : Nat} {ls : List HRow} (hs : SlA m0 1 a0 n c0 (ls.map HRow.v)) (hr : ∀ r ∈ ls, r.At m0) (h10 : ∀ r ∈ ls, r.n = 10) (hn : n ≤ 900) (gD : IMap m0 db fun _ => none)
    (na : ∀ x, a0 = some x → 0 < n → x.block ≠ db) (nr : ∀ r ∈ ls, ∀ x, r.ad = some x → x.block ≠ db)
    (t0 : t 0 = .slice a0 n c0) (t4 : t 4 = .slice none 0 0) (t5 : t 5 = .map (some db)) (t21 : t 21 = .slice a0 n c0) (t22 : t 22 = vI (n : Nat)) (t23 : t 23 = vI 0) {K : Post3}
    (hK : ∀ t' m' a ps Ks, Agree (writes c_sheafref16_Pairs_44) t t' → t' 4 = .slice a ps.length ps.length → OutJ m0 m' db (ls.map HRow.xs) n a ps Ks → K .normal t' m')
    (hR : ∀ t' m', Agree (writes c_sheafref16_Pairs_44) t t' → t' 2 = .slice none 0 0 → t' 3 = .bool false → (∃ k, PK (ls.map HRow.xs) k ∧ ¬ boOk (boK (ls.map HRow.xs) k)) → m0.size ≤ m'.size → (∀ x, x < m0.size → x ≠ db → m'.get x = m0.get x) → K .ret t' m') :
    wpM E F_sheafref16_Pairs 192 none c_sheafref16_Pairs_44 K t m0 := by
  refine wpM_cutX (fun x t' m' => (x = .normal ∧ ∃ a ps Ks, t' 4 = .slice a ps.length ps.length ∧ OutJ m0 m' db (ls.map HRow.xs) n a ps Ks) ∨ (x = .ret ∧ t' 2 = .slice none 0 0 ∧ t' 3 = .bool false ∧ (∃ k, PK (ls.map HRow.xs) k ∧ ¬ boOk (boK (ls.map HRow.xs) k)) ∧ m0.size ≤ m'.size ∧ ∀ x, x < m0.size → x ≠ db → m'.get x = m0.get x)) ?_ fun x t' m' hag h => ?_
  rotate_left
  · rcases h with ⟨rfl, a, ps, Ks, h1, h2⟩ | ⟨rfl, h1, h2, h3, h4, h5⟩
    · exact hK t' m' a ps Ks hag h1 h2
    · exact hR t' m' hag h1 h2 h3 h4 h5
  have hl : ls.length = n := by have := hs.len; simpa using this
  obtain ⟨rs, hrs⟩ : ∃ rs, rs = ls.map HRow.xs := ⟨_, rfl⟩
  have hrl : rs.length = n := by rw [hrs, List.length_map, hl]
  have ldb := gD.blk
  rw [← hrs]
  simp only [c_sheafref16_Pairs_44_at, wpM_block, c_sheafref16_Pairs_43_at]
  refine wpM_loopA (fun j t' m' => ∃ k a ps Ks, k ≤ n ∧ j = n - k ∧ t' 23 = vI (k : Nat) ∧ t' 4 = .slice a ps.length ps.length ∧ OutJ m0 m' db rs k a ps Ks) n
    ⟨0, none, [], [], by omega, rfl, t23, t4, ⟨.nil _ _ _, .nil _ _, fun p hp => (by cases hp), ⟨_, gD, fun j hj => (by simp)⟩, ⟨List.nodup_nil, fun K => ⟨fun h => (by cases h), fun ⟨x, hx, _⟩ => (by simp at hx)⟩, fun K hK => (by cases hK), (by simp)⟩, (by simp), Nat.le_refl _, fun _ _ _ => rfl⟩⟩ ?_
  rintro j t' m' ha ⟨k, a, ps, Ks, hk, rfl, e23, e4, H⟩
  have e0 := (ha 0 (by decide +kernel)).trans t0
  have e5 := (ha 5 (by decide +kernel)).trans t5
  have e21 := (ha 21 (by decide +kernel)).trans t21
  have e22 := (ha 22 (by decide +kernel)).trans t22
  by_cases hlt : k < n
  · have d1 : decide ((k : Int) < (n : Int)) = true := by simp; omega
    have w1 : IntKind.wrap .i64 ((k : Int) + 1) = ((k + 1 : Nat) : Int) := by rw [wrap_i64_id _ (by omega) (by omega)]; omega
    have z0 : (0 : Int) ≤ (k : Int) := by omega
    have z1 : (k : Int) < (n : Int) := by omega
    have szH := H.size
    have hS := hs.keep fun x hx hne' => H.keep _ ((hs.rows x hx hne').lt) (na x hx (by omega))
    have hrM : ∀ r ∈ ls, r.At m' := fun r hr' => (hr r hr').keep fun x hx hne' => H.keep _ (((hr r hr').sl.rows x hx (by simpa using hne')).lt) (nr r hr' x hx)
    obtain ⟨Lb, Lo, Lsp, rfl⟩ := hS.addr (by omega)
    have lLb : Lb < m0.size := (hs.rows ⟨Lb, Lo, Lsp⟩ rfl (fun e => by have h := hs.len; rw [e] at h; simp only [List.length_nil] at h; omega)).lt
    have r0 : m'.at Lb (Lo + k) = some (HRow.v (ls[k]'(by omega))) := hS.at_map hlt
    have hmem : ls[k]'(by omega) ∈ ls := List.getElem_mem _
    have hAt := hrM _ hmem
    have hAt0 := hr _ hmem
    have hn10 := h10 _ hmem
    have exk : rs.getD k [] = (ls[k]'(by omega)).xs := by subst hrs; simp [List.getD_eq_getElem?_getD, show k < ls.length by omega]
    generalize ls[k]'(by omega) = x at *
    obtain ⟨xad, xn, xc, xs⟩ := x
    simp only at hn10 exk
    subst hn10
    have hsl : SlA m' 1 xad 10 xc (xs.map (.int .i64)) := hAt.sl
    have hsl0 : SlA m0 1 xad 10 xc (xs.map (.int .i64)) := hAt0.sl
    have hbd : ∀ x ∈ xs, fitsI x := hAt.bd
    have hlen : xs.length = 10 := by have := hsl.len; simpa using this
    obtain ⟨xb, xo, xsp, hxa⟩ := hsl.addr (by omega)
    subst hxa
    have lxb : xb < m0.size := (hsl0.rows ⟨xb, xo, xsp⟩ rfl (fun e => by have h := hsl0.len; rw [e] at h; simp only [List.length_nil] at h; omega)).lt
    have r1 : m'.at Lb (Lo + k) = some (.slice (some ⟨xb, xo, xsp⟩) 10 xc) := r0
    have q : ∀ j, j < 10 → m'.at xb (xo + j) = some (.int .i64 (xs.getD j 0)) := fun j hj => by
      have := hsl.at_map hj
      rw [show xs.getD j 0 = xs[j]'(by omega) by simp [List.getD_eq_getElem?_getD, List.getElem?_eq_getElem (show j < xs.length by omega)]]
      exact this
    have q1 : m'.at xb (xo + Int.toNat 1) = _ := q 1 (by omega)
    have q5 : m'.at xb (xo + Int.toNat 5) = _ := q 5 (by omega)
    have q7 : m'.at xb (xo + Int.toNat 7) = _ := q 7 (by omega)
    have q8 : m'.at xb (xo + Int.toNat 8) = _ := q 8 (by omega)
    have q9 : m'.at xb (xo + Int.toNat 9) = _ := q 9 (by omega)
    have ff : ∀ j, j < 10 → fitsI (xs.getD j 0) := fun j hj => hbd _ (by simp [List.getD_eq_getElem?_getD, hlen, hj])
    obtain ⟨g, G1, G2⟩ := H.map
    have hgk := G2 k (by omega)
    rw [exk] at hgk
    have look := G1.look imap79 (k : Int)
    rw [hgk] at look
    have hlen2 := H.len
    have hax : ∀ y, a = some y → m0.size ≤ y.block ∧ y.block < m'.size := fun y hy => ⟨(H.vec.blk y hy).1, H.vec.lt hy⟩
    cases hal : alI xs with
    | true =>
      have x5 : (xs.getD 5 0 == 0) = true := hal
      rw [hal] at look
      simp only [Bool.not_true, Bool.false_and] at look
      simp (decide := true) (implicitDefEqProofs := false) (maxDischargeDepth := 20) only [go_sem, nilOk, e0, e4, e5, e21, e22, e23, d1, z0, z1, r1, look, q1, q5, q7, q8, q9, x5, Option.map_some, ↓reduceIte, Int.toNat_natCast, true_implies, false_implies]
      obtain ⟨nb, hnb⟩ : ∃ b, b = m'.size := ⟨_, rfl⟩
      obtain ⟨mp, hmp⟩ : ∃ mp, mp = m'.push (.cells false true [.int .i64 (xs.getD 1 0), .int .i64 (xs.getD 7 0), .int .i64 (xs.getD 8 0), .int .i64 (xs.getD 9 0)]) := ⟨_, rfl⟩
      have sp : mp.size = m'.size + 1 := by rw [hmp, size_push]
      have op : Old m' mp := by rw [hmp]; exact .push (.refl m') _
      have gr : mp.get nb = some (.cells false true ((aloneL xs).map (.int .i64))) := by rw [hmp, hnb, getM_push, if_pos rfl]; rfl
      rw [← hnb, ← hmp]
      refine (H.vec.old op).appendQ (by omega) (by omega) rfl (by decide) (by decide +kernel) (by decide +kernel) rfl (by omega) fun m8 b8 s8 v8 k8 hb8 => ?_
      have eps : (ps ++ [(nb, aloneL xs)]).length = ps.length + 1 := by simp
      simp (decide := true) (implicitDefEqProofs := false) (maxDischargeDepth := 20) only [go_sem, nilOk, e23, w1, ↓reduceIte, Int.toNat_natCast, true_implies, false_implies]
      have g8 : ∀ i, i < m'.size → (∀ y, a = some y → i ≠ y.block) → m8.get i = m'.get i := fun i hi hne => by rw [k8.2 i (by omega) hne, op.get hi]
      refine ⟨n - (k + 1), by omega, k + 1, some ⟨b8, 0, s8⟩, ps ++ [(nb, aloneL xs)], Ks, by omega, rfl, rfl, by rw [eps], ?_, ?_, ?_, ⟨g, G1.keep (g8 db (by omega) fun y hy e => by have := hax y hy; omega), G2⟩, ?_, by rw [eps]; omega, by have := k8.1; omega, fun x hx hne => ?_⟩
      · rw [eps, List.map_append, List.map_append]
        exact v8
      · refine (H.own.keep fun p hp => g8 _ (H.own.lt p hp) (H.dis p hp)).snoc ?_ ?_ (by omega) fun p hp => by have := H.own.lt p hp; omega
        · rw [k8.2 nb (getM_lt gr) fun y hy e => by have := hax y hy; omega]
          exact gr
        · intro x hx
          simp only [aloneL, List.mem_cons, List.not_mem_nil, or_false] at hx
          rcases hx with rfl | rfl | rfl | rfl
          · exact ff 1 (by omega)
          · exact ff 7 (by omega)
          · exact ff 8 (by omega)
          · exact ff 9 (by omega)
      · intro p hp y hy
        cases hy
        rcases List.mem_append.1 hp with hp | hp
        · have := H.own.lt p hp; show p.1 ≠ b8; omega
        · rw [List.mem_singleton.1 hp]; show nb ≠ b8; omega
      · have := H.p.alone (by omega) (by rw [exk]; exact hal)
        rw [List.map_append, List.map_cons, List.map_nil]
        rw [exk] at this
        exact this
      · rw [g8 x (by omega) fun y hy e => by have := hax y hy; omega, H.keep x hx hne]
    | false =>
      have x5 : (xs.getD 5 0 == 0) = false := hal
      rw [hal] at look
      simp only [Bool.not_false, Bool.true_and] at look
      by_cases hin : keyL xs ∈ Ks
      · rw [decide_eq_true hin] at look
        simp (decide := true) (implicitDefEqProofs := false) (maxDischargeDepth := 20) only [go_sem, nilOk, e0, e4, e5, e21, e22, e23, d1, z0, z1, w1, r1, look, Option.map_some, ↓reduceIte, Int.toNat_natCast, true_implies, false_implies]
        exact ⟨n - (k + 1), by omega, k + 1, a, ps, Ks, by omega, rfl, rfl, rfl, H.vec, H.own, H.dis, H.map, H.p.skip (by omega) (by rw [exk]; exact hal) (by rw [exk]; exact hin), by omega, szH, H.keep⟩
      · rw [decide_eq_false hin] at look
        simp (decide := true) (implicitDefEqProofs := false) (maxDischargeDepth := 20) only [go_sem, nilOk, e0, e4, e5, e21, e22, e23, d1, z0, z1, r1, look, q1, q5, q7, q8, q9, x5, Option.map_some, ↓reduceIte, Int.toNat_natCast, true_implies, false_implies]
        have hkx : keyL xs = [min (xs.getD 1 0) (xs.getD 5 0), max (xs.getD 1 0) (xs.getD 5 0), xs.getD 8 0] := by unfold keyL; exact if_neg (alI_ne hal)
        have k0 : (keyL xs).getD 0 0 = min (xs.getD 1 0) (xs.getD 5 0) := by rw [hkx]; rfl
        have k1 : (keyL xs).getD 1 0 = max (xs.getD 1 0) (xs.getD 5 0) := by rw [hkx]; rfl
        have k2 : (keyL xs).getD 2 0 = xs.getD 8 0 := by rw [hkx]; rfl
        have hkf : ∀ j, j < 3 → fitsI ((keyL xs).getD j 0) := fun j hj => keyL_fits hbd hlen _ (by simp [List.getD_eq_getElem?_getD, keyL_len, hj])
        have hnp : ¬ PK (rs.take k) (keyL xs) := fun h => hin ((H.p.mem _).2 h)
        have hbk := boK_B (rs := rs) (keyL xs) (fun r hr' => by
          rw [hrs] at hr'
          obtain ⟨y, hy, rfl⟩ := List.mem_map.1 hr'
          refine ⟨(hr y hy).bd, ?_⟩
          rw [(hr y hy).len]
          exact h10 y hy) (by omega)
        obtain ⟨bo, hbo⟩ : ∃ bo, bo = boK rs (keyL xs) := ⟨_, rfl⟩
        have ebo : boS rs (keyL xs) k n = bo := by rw [hbo, ← hrl]; exact boS_K hnp
        rw [← hbo] at hbk
        obtain ⟨hB1, hB2, hB3, hB4⟩ := hbk
        refine side_boxes (fun mm => wpM E _ _ _ _ _ _ mm) m' fun m1 gA gB o1 s1 => ?_
        obtain ⟨ab, hab⟩ : ∃ b, b = m'.size := ⟨_, rfl⟩
        obtain ⟨bb, hbb⟩ : ∃ b, b = m'.size + 1 := ⟨_, rfl⟩
        rw [← hbb] at gB ⊢
        rw [← hab] at gA ⊢
        refine Ref_inner (r := xs) (f := g) (hS.old o1) (fun r hr' => (hrM r hr').old o1) h10 hn (by omega) (hsl.old o1) hal gA gB (G1.old o1) (fun x hx => by cases hx; exact ⟨by show Lb ≠ ab; omega, by show Lb ≠ bb; omega, na _ rfl (by omega)⟩) (fun r hr' x hx => ?_) (fun x hx => by cases hx; exact ⟨by show xb ≠ ab; omega, by show xb ≠ bb; omega, nr _ hmem _ rfl⟩) (by omega)
          (by simp (decide := true) only [go_sem, e0, ↓reduceIte]) (by simp (decide := true) only [go_sem, e5, ↓reduceIte]) (by simp (decide := true) only [go_sem, ↓reduceIte]) (by simp (decide := true) only [go_sem, k0, ↓reduceIte]) (by simp (decide := true) only [go_sem, k1, ↓reduceIte]) (by simp (decide := true) only [go_sem, ↓reduceIte]) (by simp (decide := true) only [go_sem, ↓reduceIte]) (by simp (decide := true) only [go_sem, ↓reduceIte]) fun t2 m2 hag J => ?_
        · have hne : (r.xs.map (Value.int .i64)) ≠ [] := fun e => by
            have := congrArg List.length e
            simp only [List.length_map, List.length_nil] at this
            rw [(hr r hr').len, h10 r hr'] at this
            omega
          have := ((hr r hr').sl.rows x hx hne).lt
          exact ⟨by omega, by omega, nr r hr' x hx⟩
        have f4 := hag 4 (by decide +kernel)
        have f7 := hag 7 (by decide +kernel)
        have f8 := hag 8 (by decide +kernel)
        have f9 := hag 9 (by decide +kernel)
        have f10 := hag 10 (by decide +kernel)
        have f11 := hag 11 (by decide +kernel)
        have f23 := hag 23 (by decide +kernel)
        simp (decide := true) only [go_sem, e4, e23, ↓reduceIte] at f4 f7 f8 f9 f10 f11 f23
        clear hag
        rw [← k0, ← hB2] at f8
        rw [← k1, ← hB2] at f9
        have JA := J.a
        have JB := J.b
        rw [← hrs, ebo] at JA JB
        have s2 := J.size
        have g2 : ∀ x, x < m'.size → x ≠ db → m2.get x = m'.get x := fun x hx h => by rw [J.keep x (by omega) (by omega) (by omega) h, o1.get hx]
        have p82 : m2.at xb (xo + Int.toNat 8) = some (.int .i64 (bo.key.getD 2 0)) := by
          rw [hB2, k2]
          unfold Mem.at at q8 ⊢
          rw [g2 xb (by omega) (nr _ hmem _ rfl)]
          exact q8
        simp (decide := true) (implicitDefEqProofs := false) (maxDischargeDepth := 20) only [go_sem, nilOk, ↓reduceIte, Int.toNat_natCast, true_implies, false_implies]
        refine Ref_tell (B := m0.size) (bo := bo) (ps := ps) (rs0 := xsp) (rc := xc) JA JB p82 hB1 hB3 hB4 (H.vec.keep fun y hy => g2 _ (hax y hy).2 (by have := hax y hy; omega)) (H.own.keep fun p hp => g2 _ (H.own.lt p hp) (by have := H.own.lo p hp; omega)) H.dis (by omega) (by omega) (by rw [hB2]; exact hkf 0 (by omega)) (by rw [hB2]; exact hkf 1 (by omega)) (by rw [hB2]; exact hkf 2 (by omega)) (fun y hy => by have := hax y hy; omega)
          f4 f7 f8 f9 f10 f11 (fun hok t3 m3 a3 ps3 hag h1 h2 h3 h4 h5 h6 h7 => ?_) (fun hno t3 m3 hag h1 h2 o3 => ?_)
        · have d23 := (hag 23 (by decide +kernel)).trans f23
          simp (decide := true) (implicitDefEqProofs := false) (maxDischargeDepth := 20) only [go_sem, nilOk, d23, w1, ↓reduceIte, Int.toNat_natCast, true_implies, false_implies]
          have hp7 : ps3.length ≤ ps.length + 2 := by
            have := congrArg List.length h5
            simp only [List.length_map, List.length_append] at this
            have := boRows_len bo
            omega
          refine ⟨n - (k + 1), by omega, k + 1, a3, ps3, Ks ++ [keyL xs], by omega, rfl, rfl, h1, h2, h3, h4, ?_, ?_, by omega, by omega, fun x hx hne => ?_⟩
          · obtain ⟨g', J1, J2, J3⟩ := J.d
            rw [← hrs] at J2 J3
            refine ⟨g', J1.keep (h7 db (by omega) fun y hy e => by have := hax y hy; omega), fun j hj => ?_⟩
            by_cases hsm : sameK (keyL xs) (rs.getD j []) = true
            · have hsm' : alI (rs.getD j []) = false ∧ keyL (rs.getD j []) = keyL xs := by unfold sameK at hsm; simpa using hsm
              have hkj : k ≤ j := by
                refine Nat.le_of_not_lt fun hjk => hnp ⟨rs.getD j [], ?_, hsm'⟩
                rw [List.getD_eq_getElem?_getD, List.getElem?_eq_getElem hj]
                exact List.mem_take_iff_getElem.2 ⟨j, by omega, rfl⟩
              rw [J2 j hkj (by omega) hsm, hsm'.1, hsm'.2, decide_eq_true (List.mem_append.2 (.inr (List.mem_singleton.2 rfl)))]
              rfl
            · rw [J3 j fun h => hsm h.2.2, G2 j hj]
              have e1 : (!alI (rs.getD j []) && decide (keyL (rs.getD j []) ∈ Ks)) = (!alI (rs.getD j []) && decide (keyL (rs.getD j []) ∈ Ks ++ [keyL xs])) := by
                cases hal' : alI (rs.getD j []) with
                | true => rfl
                | false =>
                  have : keyL (rs.getD j []) ≠ keyL xs := fun e => hsm (by unfold sameK; rw [hal', e]; simp)
                  generalize rs.getD j [] = z at this ⊢
                  simp [this]
              rw [e1]
          · have := H.p.more (by omega) (by rw [exk]; exact hal) (by rw [exk]; exact hin) (by rw [exk, ← hbo]; exact hok)
            rw [exk, ← hbo] at this
            rw [h5]
            exact this
          · rw [h7 x (by omega) fun y hy e => by have := hax y hy; omega, g2 x (by omega) hne, H.keep x hx hne]
        · simp (decide := true) (implicitDefEqProofs := false) (maxDischargeDepth := 20) only [go_sem, nilOk, ↓reduceIte, Int.toNat_natCast, true_implies, false_implies]
          refine .inr ⟨h1, h2, ⟨keyL xs, ⟨xs, ?_, hal, rfl⟩, by rw [← hbo]; exact hno⟩, by have := o3.size; omega, fun x hx hne => by rw [o3.get (by omega), g2 x (by omega) hne, H.keep x hx hne]⟩
          rw [← exk, List.getD_eq_getElem?_getD, List.getElem?_eq_getElem (by omega)]
          exact List.getElem_mem _
  · have d1 : decide ((k : Int) < (n : Int)) = false := by simp; omega
    have hkn : k = n := by omega
    subst hkn
    simp (decide := true) (implicitDefEqProofs := false) (maxDischargeDepth := 20) only [go_sem, e22, e23, d1, ↓reduceIte, true_implies, false_implies]
    exact .inl ⟨a, ps, Ks, e4, H⟩

/-- What the document says of pairs. -/
def PairsR (rs : List (List Int)) (w : Value) (m : Mem) : Prop :=
  (∃ (a : Option Addr) (ps : List (Nat × List Int)) (B : Nat) (Ks : List (List Int)), w = .tuple #[.slice a ps.length ps.length, .bool true] ∧ Vec B m 1 a ps.length ((ps.map rowH).map HRow.v) ∧ Own2 B m ps ∧ OutP rs rs.length (ps.map Prod.snd) Ks ∧ ps.length ≤ 2 * rs.length) ∨
  (w = .tuple #[.slice none 0 0, .bool false] ∧ ∃ k, PK rs k ∧ ¬ boOk (boK rs k))

set_option maxRecDepth 100000 in
set_option maxHeartbeats 16000000 in
theorem Pairs_at {m : Mem} {a0 : Option Addr} {n c0 : Nat} {ls : List HRow} (hs : SlA m 1 a0 n c0 (ls.map HRow.v)) (hr : ∀ r ∈ ls, r.At m) (h10 : ∀ r ∈ ls, r.n = 10) (hn : n ≤ 900) :
    CallQ E F_sheafref16_Pairs [.slice a0 n c0].toArray m fun w m' => PairsR (ls.map HRow.xs) w m' ∧ Old m m' := by
  have hl : ls.length = n := by have := hs.len; simpa using this
  refine .enter fn_sheafref16_Pairs (by simp) ?_
  have mk : ∀ mm : Mem, makeMapV E mm 79 none = some (.map (some mm.size), mm.push (.map [] 0)) := fun mm => makeMapV_int imap79
  simp (decide := true) (implicitDefEqProofs := false) (maxDischargeDepth := 20) only [go_sem, mk, Option.map_none, ↓reduceIte, true_implies, false_implies]
  obtain ⟨m1, hm1⟩ : ∃ m1, m1 = m.push (.map [] 0) := ⟨_, rfl⟩
  have o1 : Old m m1 := by rw [hm1]; exact .push (.refl m) _
  have g1 : m1.get m.size = some (.map [] 0) := by rw [hm1, getM_push, if_pos rfl]
  rw [← hm1]
  have D := IMap.new g1
  refine Ref_outer (hs.old o1) (fun r hr' => (hr r hr').old o1) h10 hn D (fun x hx h0 => ?_) (fun r hr' x hx => ?_) (by simp (decide := true) only [go_sem, ↓reduceIte]) (by simp (decide := true) only [go_sem, ↓reduceIte]) (by simp (decide := true) only [go_sem, ↓reduceIte]) (by simp (decide := true) only [go_sem, ↓reduceIte]) (by simp (decide := true) only [go_sem, ↓reduceIte]) (by simp (decide := true) only [go_sem, ↓reduceIte])
    (fun t2 m2 a ps Ks hag e4 J => ?_) (fun t2 m2 hag e2 e3 hbad hsz hkp => ?_)
  · have := (hs.rows x hx (fun e => by have h := hs.len; rw [e] at h; simp only [List.length_nil] at h; omega)).lt
    omega
  · have := ((hr r hr').sl.rows x hx (fun e => by have h := (hr r hr').sl.len; rw [e, h10 r hr'] at h; simp only [List.length_nil] at h; omega)).lt
    omega
  · simp (decide := true) (implicitDefEqProofs := false) (maxDischargeDepth := 20) only [go_sem, e4, ↓reduceIte, true_implies, false_implies]
    have hlr : (ls.map HRow.xs).length = n := by rw [List.length_map, hl]
    refine ⟨.inl ⟨a, ps, m1.size, Ks, rfl, J.vec, J.own, by rw [hlr]; exact J.p, by rw [hlr]; exact J.len⟩, .of_get (by have := o1.size; have := J.size; omega) fun i hi => ?_⟩
    rw [J.keep i (by have := o1.size; omega) (by omega), o1.get hi]
  · simp (decide := true) (implicitDefEqProofs := false) (maxDischargeDepth := 20) only [go_sem, e2, e3, ↓reduceIte, true_implies, false_implies]
    refine ⟨.inr ⟨rfl, hbad⟩, .of_get (by have := o1.size; omega) fun i hi => ?_⟩
    rw [hkp i (by have := o1.size; omega) (by omega), o1.get hi]


/-! ### PairZ -/

theorem seven (z : List Int) (h : z.length = 7) : ∃ e p a b d n w, z = [e, p, a, b, d, n, w] := by
  match z, h with
  | [e, p, a, b, d, n, w], _ => exact ⟨e, p, a, b, d, n, w, rfl⟩

set_option maxRecDepth 100000 in
set_option maxHeartbeats 4000000 in
theorem line3_at {m : Mem} (e p a b d n w : Int) (he : -9223372036854775808 ≤ e ∧ e < 9223372036854775808) (hp : -9223372036854775808 ≤ p ∧ p < 9223372036854775808) (ha : -9223372036854775808 ≤ a ∧ a < 9223372036854775808) :
    CallQ E F_sheaflaw18_line #[.agg #[.int .i64 e, .int .i64 p, .int .i64 a, .int .i64 b, .int .i64 d, .int .i64 n, .int .i64 w]] m fun v m' => ∃ b e1 p1 a1, v = .slice (some ⟨b, 0, none⟩) 10 10 ∧ m.size ≤ b ∧ m'.get b = some (.cells false true ((lineL e1 p1 a1 n).map (.int .i64))) ∧ (1 ≤ e1 ∧ e1 ≤ 4 ∧ 0 ≤ p1 ∧ p1 ≤ 4 ∧ p1 ≠ e1 ∧ 1 ≤ a1 ∧ a1 ≤ 3) ∧ Old m m' := by
  have k1 := Within_ans e 1 4 he.1 he.2 (by decide) (by decide) (by decide) (by decide)
  have k2 := Within_ans p 0 4 hp.1 hp.2 (by decide) (by decide) (by decide) (by decide)
  have k3 := Within_ans a 1 3 ha.1 ha.2 (by decide) (by decide) (by decide) (by decide)
  refine CallQ.enter (args := [.agg #[.int .i64 e, .int .i64 p, .int .i64 a, .int .i64 b, .int .i64 d, .int .i64 n, .int .i64 w]]) fn_sheaflaw18_line (by simp) ?_
  obtain ⟨E1, hE⟩ : ∃ x, x = 1 + e % (4 - 1 + 1) := ⟨_, rfl⟩
  obtain ⟨P1, hP⟩ : ∃ x, x = 0 + p % (4 - 0 + 1) := ⟨_, rfl⟩
  obtain ⟨A1, hA⟩ : ∃ x, x = 1 + a % (3 - 1 + 1) := ⟨_, rfl⟩
  rw [← hE] at k1
  rw [← hP] at k2
  rw [← hA] at k3
  have w1 : IntKind.wrap .i64 (1000 * E1) = 1000 * E1 := wrap_i64_id _ (by omega) (by omega)
  by_cases h : P1 = E1
  · have d1 : (P1 == E1) = true := by simpa using h
    simp (decide := true) (implicitDefEqProofs := false) (maxDischargeDepth := 20) only [go_sem, k1.eq, k2.eq, k3.eq, d1, w1, ↓reduceIte, true_implies, false_implies]
    refine ⟨_, E1, 0, A1, rfl, ?_, ?_, ?_⟩
    · exact (Old.ansM (.ansM (.ansM (.push (.refl m) _)))).size
    · rw [if_pos rfl]; rfl
    · omega
  · have d1 : (P1 == E1) = false := by simpa using h
    simp (decide := true) (implicitDefEqProofs := false) (maxDischargeDepth := 20) only [go_sem, k1.eq, k2.eq, k3.eq, d1, w1, ↓reduceIte, true_implies, false_implies]
    refine ⟨_, E1, P1, A1, rfl, ?_, ?_, ?_⟩
    · exact (Old.ansM (.ansM (.ansM (.push (.refl m) _)))).size
    · rw [if_pos rfl]; rfl
    · omega

theorem map_getD_perm (ls : List HRow) {n : Nat} (hn : ls.length = n) {idxs : List Nat} (h : idxs.Perm (List.range n)) : (idxs.map fun i => ls.getD i noRow).Perm ls := by
  refine (h.map _).trans ?_
  have : (List.range n).map (fun i => ls.getD i noRow) = ls := by
    refine List.ext_getElem (by simp [hn]) fun i h1 h2 => ?_
    simp [List.getD_eq_getElem?_getD, h2]
  rw [this]

/-- Lines at work. -/
structure LnR (m0 m : Mem) (a : Option Addr) (es : List HRow) : Prop where
  vec : Vec m0.size m 1 a es.length (es.map HRow.v)
  row : ∀ e ∈ es, e.At m
  n10 : ∀ e ∈ es, e.n = 10
  blk : ∀ e ∈ es, ∃ b, e.ad = some ⟨b, 0, none⟩ ∧ m0.size ≤ b ∧ b < m.size ∧ ∀ y, a = some y → b ≠ y.block
  old : Old m0 m

set_option maxRecDepth 100000 in
set_option maxHeartbeats 8000000 in
theorem PairParts_lines {m0 : Mem} {t : Fr} {a0 : Option Addr} {l0 c0 : Nat} {zs : List (List Int)} (hs : SlA m0 7 a0 l0 c0 ((zs.map fun z => z.map (.int .i64)).flatten)) (hl : zs.length = l0) (hz : ∀ z ∈ zs, z.length = 7 ∧ ∀ x ∈ z, -9223372036854775808 ≤ x ∧ x < 9223372036854775808)
    (t0 : t 0 = .slice a0 l0 c0) (t3 : t 3 = .slice none 0 0) (t4 : t 4 = vI 0) {K : Post3}
    (hK : ∀ t' m' a es, Agree (writes c_sheaflaw18_PairParts_6) t t' → es.length ≤ 25 → t' 3 = .slice a es.length es.length → LnR m0 m' a es → K .normal t' m') :
    wpM E F_sheaflaw18_PairParts 50 none c_sheaflaw18_PairParts_6 K t m0 := by
  refine wpM_cut (fun t' m' => ∃ a es, es.length ≤ 25 ∧ t' 3 = .slice a es.length es.length ∧ LnR m0 m' a es) ?_ fun t' m' ha ⟨a, es, h1, h2, h4⟩ => hK t' m' a es ha h1 h2 h4
  simp only [c_sheaflaw18_PairParts_6_at, wpM_block, c_sheaflaw18_PairParts_5_at]
  refine wpM_loopA (fun j t' m' => ∃ k a es, k ≤ min l0 25 ∧ j = min l0 25 - k ∧ es.length = k ∧ t' 4 = vI (k : Nat) ∧ t' 3 = .slice a es.length es.length ∧ LnR m0 m' a es) (min l0 25)
    ⟨0, none, [], by omega, rfl, rfl, t4, t3, ⟨.nil _ _ _, fun e h => by simp at h, fun e h => by simp at h, fun e h => by simp at h, .refl m0⟩⟩ ?_
  rintro j t' m' ha ⟨k, a, es, hk, rfl, hel, e4, e3, H⟩
  have e0 := (ha 0 (by decide +kernel)).trans t0
  by_cases hlt : k < min l0 25
  · have d1 : decide ((k : Int) < (l0 : Int)) = true := by simp; omega
    have d2 : decide ((k : Int) < 25) = true := by simp; omega
    have w1 : IntKind.wrap .i64 ((k : Int) + 1) = ((k + 1 : Nat) : Int) := by rw [wrap_i64_id _ (by omega) (by omega)]; omega
    have z0 : (0 : Int) ≤ (k : Int) := by omega
    have z1 : (k : Int) < (l0 : Int) := by omega
    have hS := hs.old H.old
    obtain ⟨ab, ao, asp, rfl⟩ := hS.addr (by omega)
    have hrow := hS.srow (fun z hz' => (hz z hz').1) (by omega) (show k < zs.length by omega)
    have hzk := hz (zs[k]'(by omega)) (List.getElem_mem _)
    generalize zs[k]'(by omega) = z at hrow hzk
    obtain ⟨e, p, a1, b1, d, n, w, rfl⟩ := seven z hzk.1
    have hb := hzk.2
    simp only [List.map_cons, List.map_nil] at hrow
    have he := hb e (by simp)
    have hp := hb p (by simp)
    have ha1 := hb a1 (by simp)
    have hn := hb n (by simp)
    simp (decide := true) (implicitDefEqProofs := false) (maxDischargeDepth := 20) only [go_sem, e0, e3, e4, d1, d2, z0, z1, hrow, ↓reduceIte, Int.toNat_natCast, true_implies, false_implies]
    refine (line3_at e p a1 b1 d n w he hp ha1).mono ?_
    rintro v m4 ⟨rb, e1, p1, A, rfl, hrb, g4, hf, o04⟩
    have V := H.vec.old o04
    have lrb := getM_lt g4
    have s04 := o04.size
    have szH := H.old.size
    simp (decide := true) (implicitDefEqProofs := false) (maxDischargeDepth := 20) only [go_sem, e3, ↓reduceIte, true_implies, false_implies]
    refine V.appendQ rfl (by omega) rfl (by decide) (by decide +kernel) (by decide +kernel) rfl (by omega) fun m5 b5 s5 v5 k5 hb5 => ?_
    have g5 : ∀ i, i < m4.size → (∀ x, a = some x → i ≠ x.block) → m5.get i = m4.get i := fun i hi hne => k5.2 i hi hne
    have hax : ∀ x, a = some x → m0.size ≤ x.block ∧ x.block < m'.size := fun x hx => ⟨(H.vec.blk x hx).1, H.vec.lt hx⟩
    have gr5 := (g5 rb lrb fun x hx e => by have := hax x hx; omega).trans g4
    have s5' := k5.1
    have l5 : b5 < m5.size := v5.lt rfl
    simp (decide := true) (implicitDefEqProofs := false) (maxDischargeDepth := 20) only [go_sem, e4, w1, ↓reduceIte, true_implies, false_implies]
    obtain ⟨row, hrow'⟩ : ∃ r, r = lineL e1 p1 A n := ⟨_, rfl⟩
    rw [← hrow'] at gr5
    have rat : (⟨some ⟨rb, 0, none⟩, 10, 10, row⟩ : HRow).At m5 := by
      refine ⟨.new gr5 (by rw [hrow']; rfl) rfl, by rw [hrow']; rfl, fun x hx => ?_⟩
      rw [hrow'] at hx
      simp only [lineL, List.mem_cons, List.not_mem_nil, or_false] at hx
      omega
    refine ⟨_, by omega, k + 1, some ⟨b5, 0, s5⟩, es ++ [⟨some ⟨rb, 0, none⟩, 10, 10, row⟩], by omega, rfl, by rw [List.length_append]; simp; omega, rfl, by rw [List.length_append]; rfl, ⟨by rw [List.length_append, List.map_append]; exact v5, fun x hx => ?_, fun x hx => ?_, fun x hx => ?_, ?_⟩⟩
    · rcases List.mem_append.1 hx with hx | hx
      · obtain ⟨b, hb1, hb2, hb3, hb4⟩ := H.blk x hx
        exact ((H.row x hx).old o04).keep fun y hy _ => by
          rw [hb1] at hy; cases hy
          exact g5 b (by omega) hb4
      · rw [List.mem_singleton.1 hx]; exact rat
    · rcases List.mem_append.1 hx with hx | hx
      · exact H.n10 x hx
      · rw [List.mem_singleton.1 hx]
    · rcases List.mem_append.1 hx with hx | hx
      · obtain ⟨b, hb1, hb2, hb3, hb4⟩ := H.blk x hx
        exact ⟨b, hb1, hb2, by omega, fun y hy => by cases hy; show b ≠ b5; omega⟩
      · rw [List.mem_singleton.1 hx]
        exact ⟨rb, rfl, by omega, by omega, fun y hy => by cases hy; show rb ≠ b5; omega⟩
    · exact .of_get (by omega) fun i hi => by rw [g5 i (by omega) fun x hx e => by have := hax x hx; omega, o04.get (by omega), H.old.get hi]
  · by_cases h1 : k < l0
    · have d1 : decide ((k : Int) < (l0 : Int)) = true := by simp; omega
      have d2 : decide ((k : Int) < 25) = false := by simp; omega
      simp (decide := true) (implicitDefEqProofs := false) (maxDischargeDepth := 20) only [go_sem, e0, e4, d1, d2, ↓reduceIte, true_implies, false_implies]
      exact ⟨a, es, by omega, e3, H⟩
    · have d1 : decide ((k : Int) < (l0 : Int)) = false := by simp; omega
      simp (decide := true) (implicitDefEqProofs := false) (maxDischargeDepth := 20) only [go_sem, e0, e4, d1, ↓reduceIte, true_implies, false_implies]
      exact ⟨a, es, by omega, e3, H⟩

theorem len4 (rs : List (List Int)) (Ks : List (List Int)) : ∀ x ∈ ((rs.filter alI).map aloneL ++ Ks.flatMap fun K => boRows (boK rs K)), x.length = 4 := fun x hx => by
  rcases List.mem_append.1 hx with hx | hx
  · obtain ⟨r, _, rfl⟩ := List.mem_map.1 hx
    rfl
  · obtain ⟨K, _, hx⟩ := List.mem_flatMap.1 hx
    unfold boRows at hx
    rcases List.mem_append.1 hx with hx | hx
    · split at hx
      · rw [List.mem_singleton.1 hx]; rfl
      · cases hx
    · split at hx
      · rw [List.mem_singleton.1 hx]; rfl
      · cases hx

/-- Rows in their order are the same, if they are the same. -/
theorem sort_same {es fs : List HRow} (h : (es.map HRow.xs).Perm (fs.map HRow.xs)) : (sortL [] es).map HRow.xs = (sortL [] fs).map HRow.xs := by
  refine List.Perm.eq_of_pairwise (le := fun a b => cmpL a b [] ≤ 0) (fun a b _ _ h k => ?_) ?_ ?_ (((sortL_perm _ _).map _).trans (h.trans ((sortL_perm _ _).map _).symm))
  · rw [cmpL_neg] at k
    exact (cmpL_zero _ _ []).1 (by omega)
  · rw [List.pairwise_map]; exact sortL_sorted _ _
  · rw [List.pairwise_map]; exact sortL_sorted _ _

set_option maxRecDepth 100000 in
set_option maxHeartbeats 8000000 in
theorem PairParts_end {m : Mem} {t : Fr} {a b : Option Addr} {es fs : List HRow} {o : Bool} (ha : SlA m 1 a es.length es.length (es.map HRow.v)) (hb : SlA m 1 b fs.length fs.length (fs.map HRow.v)) (he : ∀ r ∈ es, r.At m ∧ r.n ≤ 1000000) (hf : ∀ r ∈ fs, r.At m ∧ r.n ≤ 1000000) (hel : es.length ≤ 1000) (hfl : fs.length ≤ 1000)
    (hp : (es.map HRow.xs).Perm (fs.map HRow.xs)) (t5 : t 5 = .slice a es.length es.length) (t6 : t 6 = .bool o) (t7 : t 7 = .slice b fs.length fs.length) (t8 : t 8 = .bool o) :
    wpM E F_sheaflaw18_PairParts 50 none c_sheaflaw18_PairParts_8 (retK (ResK E [.tmp 2] fun v _ => v = .bool true)) t m := by
  have d1 : (o == o) = true := by simp
  simp (decide := true) (implicitDefEqProofs := false) (maxDischargeDepth := 20) only [go_sem, t5, t6, t7, t8, d1, ↓reduceIte, true_implies, false_implies]
  refine (Sorted_at (cols := []) ha (fun r hr => (he r hr).1) (fun r hr => (he r hr).2) (.empty 1) (by omega) (by omega)).mono ?_
  rintro w m1 ⟨b1, s1, rfl, V1, o1⟩
  simp (decide := true) (implicitDefEqProofs := false) (maxDischargeDepth := 20) only [go_sem, t5, t6, t7, t8, d1, ↓reduceIte, true_implies, false_implies]
  refine (Sorted_at (cols := []) (hb.old o1) (fun r hr => (hf r hr).1.old o1) (fun r hr => (hf r hr).2) (.empty 1) (by omega) (by omega)).mono ?_
  rintro w m2 ⟨b2, s2, rfl, V2, o2⟩
  have p1 := sortL_perm [] es
  have p2 := sortL_perm [] fs
  simp (decide := true) (implicitDefEqProofs := false) (maxDischargeDepth := 20) only [go_sem, ↓reduceIte, true_implies, false_implies]
  refine (Rows_at (V1.sl.old o2) V2.sl (fun r hr => ⟨((he r (p1.mem_iff.1 hr)).1.old o1).old o2, (he r (p1.mem_iff.1 hr)).2⟩) (fun r hr => ⟨((hf r (p2.mem_iff.1 hr)).1.old o1).old o2, (hf r (p2.mem_iff.1 hr)).2⟩) (by omega) (by omega)).mono ?_
  rintro w m3 ⟨rfl, o3⟩
  rw [decide_eq_true (sort_same hp)]
  simp (decide := true) (implicitDefEqProofs := false) (maxDischargeDepth := 20) only [go_sem, ↓reduceIte, true_implies, false_implies]

attribute [-go_sem] c_sheaflaw18_PairParts_8_at in
set_option maxRecDepth 100000 in
set_option maxHeartbeats 8000000 in
theorem PairParts_law (m : Mem) (hro : ∀ i c, m.get i = some c → c.writable = false)
    (a0 : Option Addr) (l0 c0 : Nat) (zs : List (List Int)) (hs0 : SlA m 7 a0 l0 c0 ((zs.map fun z => z.map (.int .i64)).flatten)) (hl0 : zs.length = l0) (hz0 : ∀ z ∈ zs, z.length = 7 ∧ ∀ x ∈ z, -9223372036854775808 ≤ x ∧ x < 9223372036854775808) :
    CallQ E F_sheaflaw18_PairParts [.slice a0 l0 c0].toArray m fun v _ => v = .bool true := by
  refine .enter fn_sheaflaw18_PairParts (by simp) ?_
  simp (decide := true) (implicitDefEqProofs := false) (maxDischargeDepth := 20) only [go_sem, ↓reduceIte, true_implies, false_implies]
  refine PairParts_lines hs0 hl0 hz0 (by simp (decide := true) only [go_sem, ↓reduceIte]) (by simp (decide := true) only [go_sem, ↓reduceIte]) (by simp (decide := true) only [go_sem, ↓reduceIte]) fun t2 m2 a es hag hel e3 L => ?_
  clear hag
  simp (decide := true) (implicitDefEqProofs := false) (maxDischargeDepth := 20) only [go_sem, e3, ↓reduceIte, true_implies, false_implies]
  refine PartsF_at L.vec.sl L.row L.n10 (by omega) fun idxs w m3 hp hsrt hres o3 => ?_
  obtain ⟨Ks, hnd, hmem, hS1, hS2⟩ := parts_spec hp hsrt
  have pairs := Pairs_at (L.vec.sl.old o3) (fun r hr => (L.row r hr).old o3) L.n10 (by omega)
  have hrl : (es.map HRow.xs).length ≤ 25 := by rw [List.length_map]; exact hel
  obtain ⟨rs, hrs⟩ : ∃ rs, rs = es.map HRow.xs := ⟨_, rfl⟩
  rw [← hrs] at hmem hS1 hS2 pairs hrl
  by_cases hall : ∀ K ∈ Ks, boOk (boK rs K)
  · obtain ⟨ou, hou, hpo⟩ := hS1 hall
    rw [hou] at hres
    rcases hres with ⟨ao, os, hos, rfl, SO, hro'⟩ | ⟨hno, _⟩
    · have hxs : os.map HRow.xs = ou := by
        have e1 : os.map (fun r => some r.xs) = (os.map HRow.xs).map some := by rw [List.map_map]; rfl
        rw [e1] at hos
        exact ((List.map_inj_right (fun x y h => Option.some.inj h)).1 hos).symm
      simp (decide := true) (implicitDefEqProofs := false) (maxDischargeDepth := 20) only [go_sem, e3, ↓reduceIte, true_implies, false_implies]
      refine pairs.mono ?_
      rintro w m4 ⟨hR, o4⟩
      rcases hR with ⟨b, ps, B, Ks2, rfl, V2, O2, P2, hpl⟩ | ⟨_, k, hk, hbad⟩
      · simp (decide := true) (implicitDefEqProofs := false) (maxDischargeDepth := 20) only [go_sem, e3, ↓reduceIte, true_implies, false_implies]
        have hmem2 : ∀ K, K ∈ Ks2 ↔ PK rs K := fun K => by rw [P2.mem, List.take_length]
        have hKs : Ks.Perm Ks2 := (List.perm_ext_iff_of_nodup hnd P2.nd).2 fun K => (hmem K).trans (hmem2 K).symm
        have hout := P2.out
        rw [List.take_length] at hout
        have hpp : (os.map HRow.xs).Perm ((ps.map rowH).map HRow.xs) := by
          rw [hxs]
          have e1 : (ps.map rowH).map HRow.xs = ps.map Prod.snd := by rw [List.map_map]; rfl
          rw [e1]
          exact hpo.trans (((List.Perm.refl _).append (hKs.flatMap_right _)).trans hout.symm)
        have hlen : os.length = ps.length := by have := hpp.length_eq; simpa using this
        have V2' : SlA m4 1 b (ps.map rowH).length (ps.map rowH).length ((ps.map rowH).map HRow.v) := by rw [List.length_map]; exact V2.sl
        refine PairParts_end (o := true) (SO.old o4) V2' (fun r hr => ⟨(hro' r hr).old o4, ?_⟩) (fun r hr => ?_) (by omega) (by rw [List.length_map]; omega) hpp
          (by simp (decide := true) only [go_sem, ↓reduceIte]) (by simp (decide := true) only [go_sem, ↓reduceIte]) (by simp (decide := true) only [go_sem, List.length_map, ↓reduceIte]) (by simp (decide := true) only [go_sem, ↓reduceIte])
        · have h1 : r.xs ∈ ou := by rw [← hxs]; exact List.mem_map.2 ⟨r, hr, rfl⟩
          rw [← (hro' r hr).len, len4 _ _ _ (hpo.mem_iff.1 h1)]
          omega
        · obtain ⟨p, hp', rfl⟩ := List.mem_map.1 hr
          refine ⟨O2.at_ p hp', ?_⟩
          show p.2.length ≤ 1000000
          rw [len4 _ _ _ (hout.mem_iff.1 (List.mem_map.2 ⟨p, hp', rfl⟩))]
          omega
      · exact (hbad (hall k ((hmem k).2 hk))).elim
    · simp at hno
  · have hno := hS2 hall
    rcases hres with ⟨ao, os, hos, rfl, SO, hro'⟩ | ⟨_, rfl⟩
    · rw [hos] at hno
      simp at hno
    · simp (decide := true) (implicitDefEqProofs := false) (maxDischargeDepth := 20) only [go_sem, e3, ↓reduceIte, true_implies, false_implies]
      refine pairs.mono ?_
      rintro w m4 ⟨hR, o4⟩
      rcases hR with ⟨b, ps, B, Ks2, rfl, V2, O2, P2, hpl⟩ | ⟨rfl, _⟩
      · refine (hall fun K hK => P2.ok K ((P2.mem K).2 ?_)).elim
        rw [List.take_length]
        exact (hmem K).1 hK
      · simp (decide := true) (implicitDefEqProofs := false) (maxDischargeDepth := 20) only [go_sem, e3, ↓reduceIte, true_implies, false_implies]
        refine PairParts_end (o := false) (es := []) (fs := []) (.empty 1) (.empty 1) (fun r hr => by cases hr) (fun r hr => by cases hr) (by simp) (by simp) (.refl _)
          (by simp (decide := true) only [go_sem, List.length_nil, ↓reduceIte]) (by simp (decide := true) only [go_sem, ↓reduceIte]) (by simp (decide := true) only [go_sem, List.length_nil, ↓reduceIte]) (by simp (decide := true) only [go_sem, ↓reduceIte])

end Go.Proofs.Ytjmppooebppecaa.W
