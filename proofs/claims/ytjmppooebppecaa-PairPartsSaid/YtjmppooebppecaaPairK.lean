/-
  The law's parts of lines: the keys. The law's parts of lines: the order in which they go in. The law's parts of lines. The law's parts of lines: the whole.
-/
import Derived.Test.YtjmppooebppecaaPairE
import Derived.Test.YtjmppooebppecaaSrtB
import Derived.Test.YtjmppooebppecaaLstR
namespace Go.Proofs.Ytjmppooebppecaa.W
open Go.Abs
set_option linter.unusedSimpArgs false
set_option linter.unusedVariables false


/-! ### PairK -/

theorem ints_one (xs : List Int) : (xs.map (Value.int .i64)).all oneCell = true := by
  rw [List.all_eq_true]
  intro x hx
  obtain ⟨y, _, rfl⟩ := List.mem_map.1 hx
  rfl
/-- A row's key, and where it is. -/
def keyRow (ls : List HRow) (i : Nat) : List Int := keyL (ls.getD i noRow).xs ++ [(i : Int)]
def keyRows (ls : List HRow) (n : Nat) : List (List Int) := (List.range n).map (keyRow ls)
theorem keyRows_succ (ls : List HRow) (n : Nat) : keyRows ls (n + 1) = keyRows ls n ++ [keyRow ls n] := by unfold keyRows; rw [List.range_succ, List.map_append]; rfl

/-- New rows, and a list of them. -/
structure KeyJ (m0 m : Mem) (a : Option Addr) (es : List HRow) (xss : List (List Int)) : Prop where
  vec : Vec m0.size m 1 a es.length (es.map HRow.v)
  xs : es.map HRow.xs = xss
  row : ∀ e ∈ es, e.At m
  blk : ∀ e ∈ es, ∃ b s, e.ad = some ⟨b, 0, s⟩ ∧ m0.size ≤ b ∧ b < m.size ∧ ∀ y, a = some y → b ≠ y.block
  old : Old m0 m

set_option maxRecDepth 100000 in
set_option maxHeartbeats 8000000 in
theorem Parts_keys {m0 : Mem} {t : Fr} {a0 : Option Addr} {n c0 : Nat} {ls : List HRow} (hs : SlA m0 1 a0 n c0 (ls.map HRow.v)) (hr : ∀ r ∈ ls, r.At m0) (h10 : ∀ r ∈ ls, r.n = 10) (hn : n ≤ 1000)
    (t17 : t 17 = .slice a0 n c0) (t18 : t 18 = .int .i64 (n : Nat)) (t19 : t 19 = .int .i64 0) (t4 : t 4 = .slice none 0 0) {K : Post3}
    (hK : ∀ t' m' a es, Agree (writes c_sheaflaw18_parts_12) t t' → t' 4 = .slice a es.length es.length → KeyJ m0 m' a es (keyRows ls n) → K .normal t' m') :
    wpM E F_sheaflaw18_parts 89 none c_sheaflaw18_parts_12 K t m0 := by
  refine wpM_cut (fun t' m' => ∃ a es, t' 4 = .slice a es.length es.length ∧ KeyJ m0 m' a es (keyRows ls n)) ?_ fun t' m' ha ⟨a, es, h1, h2⟩ => hK t' m' a es ha h1 h2
  have hl : ls.length = n := by have := hs.len; simpa using this
  simp only [c_sheaflaw18_parts_12_at, wpM_block, c_sheaflaw18_parts_11_at]
  refine wpM_loopA (fun j t' m' => ∃ k a es, k ≤ n ∧ j = n - k ∧ t' 19 = .int .i64 (k : Nat) ∧ t' 4 = .slice a es.length es.length ∧ KeyJ m0 m' a es (keyRows ls k)) n
    ⟨0, none, [], by omega, rfl, t19, t4, ⟨.nil _ _ _, rfl, fun e h => by simp at h, fun e h => by simp at h, .refl m0⟩⟩ ?_
  rintro j t' m' ha ⟨k, a, es, hk, rfl, e19, e4, H⟩
  have e17 := (ha 17 (by decide +kernel)).trans t17
  have e18 := (ha 18 (by decide +kernel)).trans t18
  have hel : es.length = k := by
    have := congrArg List.length H.xs
    simpa [keyRows] using this
  by_cases hlt : k < n
  · have d1 : decide ((k : Int) < (n : Int)) = true := by simp; omega
    have w1 : IntKind.wrap .i64 ((k : Int) + 1) = ((k + 1 : Nat) : Int) := by rw [wrap_i64_id _ (by omega) (by omega)]; omega
    have z0 : (0 : Int) ≤ (k : Int) := by omega
    have z1 : (k : Int) < (n : Int) := by omega
    have hS := hs.old H.old
    obtain ⟨ab, ao, asp, rfl⟩ := hS.addr (by omega)
    have r0 : m'.at ab (ao + k) = some (HRow.v (ls[k]'(by omega))) := hS.at_map hlt
    have hAt := (hr (ls[k]'(by omega)) (List.getElem_mem _)).old H.old
    have hr10 := h10 (ls[k]'(by omega)) (List.getElem_mem _)
    have ekr : keyRow ls k = keyL (ls[k]'(by omega)).xs ++ [(k : Int)] := by unfold keyRow; rw [show ls.getD k noRow = ls[k]'(by omega) by simp [List.getD_eq_getElem?_getD, show k < ls.length by omega]]
    generalize ls[k]'(by omega) = r at *
    obtain ⟨rad, rn, rc, rxs⟩ := r
    simp only at hr10 ekr
    subst hr10
    have r1 : m'.at ab (ao + k) = some (.slice rad 10 rc) := r0
    have hsl : SlA m' 1 rad 10 rc (rxs.map (.int .i64)) := hAt.sl
    have hbd := hAt.bd
    have hlen := hAt.len
    simp only at hbd hlen
    simp (decide := true) (implicitDefEqProofs := false) (maxDischargeDepth := 20) only [go_sem, e17, e18, e19, e4, d1, z0, z1, r1, ↓reduceIte, Int.toNat_natCast, true_implies, false_implies]
    refine (Key_at hsl).mono ?_
    rintro w m1 ⟨ka, rfl, V, o1⟩
    have s1 := o1.size
    simp (decide := true) (implicitDefEqProofs := false) (maxDischargeDepth := 20) only [go_sem, e17, e18, e19, e4, ↓reduceIte, true_implies, false_implies]
    obtain ⟨mp, hmp⟩ : ∃ mp, mp = m1.push (.cells false true []) := ⟨_, rfl⟩
    have sp : mp.size = m1.size + 1 := by rw [hmp, size_push]
    have op : Old m1 mp := by rw [hmp]; exact .push (.refl m1) _
    have v0 : Vec m1.size mp 1 (some ⟨m1.size, 0, none⟩) 0 [] := by rw [hmp]; exact .built (Nat.le_refl _) rfl
    rw [← hmp]
    refine v0.append (by omega) ((V.sl.old op).appended' (by decide +kernel) (by decide)) (by simp [keyL_len]) (by decide +kernel) (ints_one _) (by omega) fun m2 b2 v2 k2 hb2 => ?_
    have o12 : Old m1 m2 := v0.keepOld k2 op
    simp only [Nat.zero_add, List.nil_append] at v2 ⊢
    simp (decide := true) (implicitDefEqProofs := false) (maxDischargeDepth := 20) only [go_sem, e17, e18, e19, e4, ↓reduceIte, true_implies, false_implies]
    have s2 := o12.size
    refine v2.appendQ rfl (by omega) rfl (by decide) (by decide +kernel) (by decide +kernel) rfl (by omega) fun m3 b3 s3 v3 k3 hb3 => ?_
    have o13 : Old m1 m3 := v2.keepOld k3 o12
    have s13 := o13.size
    simp (decide := true) (implicitDefEqProofs := false) (maxDischargeDepth := 20) only [go_sem, e17, e18, e19, e4, ↓reduceIte, true_implies, false_implies]
    have o03 := o1.trans o13
    refine (H.vec.old o03).appendQ rfl (by have := H.old.size; omega) rfl (by decide) (by decide +kernel) (by decide +kernel) rfl (by omega) fun m4 b4 s4 v4 k4 hb4 => ?_
    have e3 : (keyL rxs).map (Value.int .i64) ++ [.int .i64 ((es.length : Nat) : Int)] = (keyRow ls k).map (.int .i64) := by rw [ekr, hel, List.map_append]; rfl
    rw [e3] at v3
    have l3 : b3 < m3.size := v3.lt rfl
    have l4 : b4 < m4.size := v4.lt rfl
    have hbx : ∀ x, a = some x → x.block < m'.size := fun x hx => H.vec.lt hx
    have s4' := k4.1
    have szH := H.old.size
    have s03 := o03.size
    have g4 : ∀ i, i < m3.size → (∀ x, a = some x → i ≠ x.block) → m4.get i = m3.get i := fun i hi hne => k4.2 i hi hne
    simp (decide := true) (implicitDefEqProofs := false) (maxDischargeDepth := 20) only [go_sem, e17, e18, e19, e4, w1, ↓reduceIte, true_implies, false_implies]
    have krb : ∀ x ∈ keyRow ls k, -9223372036854775808 ≤ x ∧ x < 9223372036854775808 := fun x hx => by
      rw [ekr] at hx
      rcases List.mem_append.1 hx with hx | hx
      · exact keyL_fits hbd (by omega) x hx
      · rw [List.mem_singleton.1 hx]; omega
    refine ⟨n - (k + 1), by omega, k + 1, some ⟨b4, 0, s4⟩, es ++ [⟨some ⟨b3, 0, s3⟩, 4, 4, keyRow ls k⟩], by omega, rfl, rfl, by rw [List.length_append]; rfl, ?_, ?_, ?_, ?_, ?_⟩
    · rw [List.length_append, List.map_append]
      exact v4
    · rw [List.map_append, H.xs, keyRows_succ]
      rfl
    · intro e he
      rcases List.mem_append.1 he with he | he
      · obtain ⟨b, s, hb1, hb2, hb3', hb4'⟩ := H.blk e he
        exact ((H.row e he).old o03).keep fun x hx hne => by
          rw [hb1] at hx; cases hx
          exact g4 b (by omega) hb4'
      · rw [List.mem_singleton.1 he]
        refine ⟨v3.sl.keep fun x hx hne => ?_, by unfold keyRow; rw [List.length_append, keyL_len]; rfl, krb⟩
        cases hx
        exact g4 b3 l3 fun y hy => by have := hbx y hy; omega
    · intro e he
      rcases List.mem_append.1 he with he | he
      · obtain ⟨b, s, hb1, hb2, hb3', hb4'⟩ := H.blk e he
        exact ⟨b, s, hb1, hb2, by omega, fun y hy => by cases hy; show b ≠ b4; omega⟩
      · rw [List.mem_singleton.1 he]
        exact ⟨b3, s3, rfl, by omega, by omega, fun y hy => by cases hy; show b3 ≠ b4; omega⟩
    · exact H.vec.keepOld ⟨by omega, fun i hi hne => by rw [g4 i (by omega) hne, o03.get hi]⟩ H.old
  · have d1 : decide ((k : Int) < (n : Int)) = false := by simp; omega
    have hkn : k = n := by omega
    subst hkn
    simp (decide := true) (implicitDefEqProofs := false) (maxDischargeDepth := 20) only [go_sem, e17, e18, e19, d1, ↓reduceIte, true_implies, false_implies]
    exact ⟨a, es, e4, H⟩


/-! ### PairL -/

def aloneB (r : HRow) : Bool := r.xs.getD 5 0 == 0
def pickR (ls : List HRow) (t : HRow) : HRow := ls.getD (t.xs.getD 3 0).toNat noRow

set_option maxRecDepth 100000 in
set_option maxHeartbeats 8000000 in
theorem Parts_pick {m0 m : Mem} {t : Fr} {a0 aT a8 : Option Addr} {n c0 nT : Nat} {ls ts es : List HRow} {al : Bool} (hs : SlA m0 1 a0 n c0 (ls.map HRow.v)) (hr : ∀ r ∈ ls, r.At m0) (h10 : ∀ r ∈ ls, r.n = 10) (o0 : Old m0 m)
    (hT : SlA m 1 aT nT nT (ts.map HRow.v)) (hrT : ∀ r ∈ ts, r.At m0) (h4 : ∀ r ∈ ts, r.n = 4) (hix : ∀ r ∈ ts, 0 ≤ r.xs.getD 3 0 ∧ r.xs.getD 3 0 < n) (hne : ∀ x y, aT = some x → a8 = some y → x.block ≠ y.block) (hnT : nT ≤ 1000) (V8 : Vec m0.size m 1 a8 es.length (es.map HRow.v)) (hes : es.length ≤ 1000)
    (t0 : t 0 = .slice a0 n c0) (t46 : t 46 = .slice aT nT nT) (t47 : t 47 = .int .i64 (nT : Nat)) (t48 : t 48 = .int .i64 0) (t10 : t 10 = .bool al) (t8 : t 8 = .slice a8 es.length es.length) {K : Post3}
    (hK : ∀ t' m' a8' es', Agree (writes c_sheaflaw18_parts_24) t t' → t' 8 = .slice a8' es'.length es'.length → es' = es ++ (ts.map (pickR ls)).filter (fun r => aloneB r == al) → Vec m0.size m' 1 a8' es'.length (es'.map HRow.v) → Old m0 m' → K .normal t' m') :
    wpM E F_sheaflaw18_parts 89 none c_sheaflaw18_parts_24 K t m := by
  refine wpM_cut (fun t' m' => ∃ a8' es', t' 8 = .slice a8' es'.length es'.length ∧ es' = es ++ (ts.map (pickR ls)).filter (fun r => aloneB r == al) ∧ Vec m0.size m' 1 a8' es'.length (es'.map HRow.v) ∧ Old m0 m') ?_ fun t' m' ha ⟨a, e, h1, h2, h3, h4⟩ => hK t' m' a e ha h1 h2 h3 h4
  have hl : ls.length = n := by have := hs.len; simpa using this
  have hlT : ts.length = nT := by have := hT.len; simpa using this
  simp only [c_sheaflaw18_parts_24_at, wpM_block, c_sheaflaw18_parts_23_at]
  refine wpM_loopA (fun j t' m' => ∃ k a8' es', k ≤ nT ∧ j = nT - k ∧ t' 48 = .int .i64 (k : Nat) ∧ t' 8 = .slice a8' es'.length es'.length ∧ es' = es ++ ((ts.take k).map (pickR ls)).filter (fun r => aloneB r == al) ∧ es'.length ≤ es.length + k ∧ Vec m0.size m' 1 a8' es'.length (es'.map HRow.v) ∧ (a8' = a8 ∨ ∀ x, a8' = some x → m.size ≤ x.block) ∧ m.size ≤ m'.size ∧ ∀ i, i < m.size → (∀ x, a8 = some x → i ≠ x.block) → m'.get i = m.get i) nT
    ⟨0, a8, es, by omega, rfl, t48, t8, by simp, by omega, V8, .inl rfl, Nat.le_refl _, fun _ _ _ => rfl⟩ ?_
  rintro j t' m' ha ⟨k, a8', es', hk, rfl, e48, e8, hes', hlen', V, hfr, hsz, hkp⟩
  have e0 := (ha 0 (by decide +kernel)).trans t0
  have e46 := (ha 46 (by decide +kernel)).trans t46
  have e47 := (ha 47 (by decide +kernel)).trans t47
  have e10 := (ha 10 (by decide +kernel)).trans t10
  have s0 := o0.size
  have n8 : ∀ i, i < m0.size → ∀ x, a8 = some x → i ≠ x.block := fun i hi x hx e => by have := (V8.blk x hx).1; omega
  have o0' : Old m0 m' := .of_get (by omega) fun i hi => by rw [hkp i (by omega) (n8 i hi), o0.get hi]
  by_cases hlt : k < nT
  · have d1 : decide ((k : Int) < (nT : Int)) = true := by simp; omega
    have w1 : IntKind.wrap .i64 ((k : Int) + 1) = ((k + 1 : Nat) : Int) := by rw [wrap_i64_id _ (by omega) (by omega)]; omega
    have z0 : (0 : Int) ≤ (k : Int) := by omega
    have z1 : (k : Int) < (nT : Int) := by omega
    have hT' : SlA m' 1 aT nT nT (ts.map HRow.v) := hT.keep fun x hx hne' => hkp _ ((hT.rows x hx hne').lt) fun y hy => hne x y hx hy
    obtain ⟨Tb, To, Ts, rfl⟩ := hT'.addr (by omega)
    have rT : m'.at Tb (To + k) = some (HRow.v (ts[k]'(by omega))) := hT'.at_map hlt
    have hmem : ts[k]'(by omega) ∈ ts := List.getElem_mem _
    have AT := (hrT _ hmem).old o0'
    have h4k := h4 _ hmem
    have hik := hix _ hmem
    have htk : (ts.take (k + 1)).map (pickR ls) = (ts.take k).map (pickR ls) ++ [pickR ls (ts[k]'(by omega))] := by rw [List.take_succ_eq_append_getElem (by omega), List.map_append]; rfl
    rw [show pickR ls (ts[k]'(by omega)) = ls.getD ((ts[k]'(by omega)).xs.getD 3 0).toNat noRow from rfl] at htk
    generalize ts[k]'(by omega) = r at *
    obtain ⟨rad, rn, rc, rxs⟩ := r
    simp only at h4k hik htk
    subst h4k
    have rT' : m'.at Tb (To + k) = some (.slice rad 4 rc) := rT
    have hrl := AT.len
    simp only at hrl
    obtain ⟨kb, ko, ks, hka⟩ := AT.sl.addr (show 0 < 4 by omega)
    simp only at hka
    subst hka
    obtain ⟨q, hq⟩ : ∃ q : Nat, (q : Int) = rxs.getD 3 0 := ⟨(rxs.getD 3 0).toNat, by omega⟩
    have rk : m'.at kb (ko + Int.toNat 3) = some (.int .i64 (q : Nat)) := by
      rw [hq]
      have := AT.sl.at_map (show 3 < 4 by omega)
      rw [show rxs.getD 3 0 = rxs[3]'(by omega) by simp [List.getD_eq_getElem?_getD, List.getElem?_eq_getElem (show 3 < rxs.length by omega)]]
      exact this
    have hqn : q < n := by omega
    rw [← hq, Int.toNat_natCast] at htk
    have hS := hs.old o0'
    obtain ⟨ab, ao, asp, rfl⟩ := hS.addr (by omega)
    have rL : m'.at ab (ao + q) = some (HRow.v (ls[q]'(by omega))) := hS.at_map hqn
    have hmL : ls[q]'(by omega) ∈ ls := List.getElem_mem _
    have AL := (hr _ hmL).old o0'
    have h10k := h10 _ hmL
    rw [show ls.getD q noRow = ls[q]'(by omega) by simp [List.getD_eq_getElem?_getD, show q < ls.length by omega]] at htk
    generalize ls[q]'(by omega) = L at *
    obtain ⟨Lad, Ln, Lc, Lxs⟩ := L
    simp only at h10k
    subst h10k
    have rL' : m'.at ab (ao + q) = some (.slice Lad 10 Lc) := rL
    have hLl := AL.len
    simp only at hLl
    obtain ⟨Lb, Lo, Ls, hLa⟩ := AL.sl.addr (show 0 < 10 by omega)
    simp only at hLa
    subst hLa
    have r5 : m'.at Lb (Lo + Int.toNat 5) = some (.int .i64 (Lxs.getD 5 0)) := by
      have := AL.sl.at_map (show 5 < 10 by omega)
      rw [show Lxs.getD 5 0 = Lxs[5]'(by omega) by simp [List.getD_eq_getElem?_getD, List.getElem?_eq_getElem (show 5 < Lxs.length by omega)]]
      exact this
    have q0 : (0 : Int) ≤ (q : Int) := by omega
    have q1 : (q : Int) < (n : Int) := by omega
    have eal : aloneB ⟨some ⟨Lb, Lo, Ls⟩, 10, Lc, Lxs⟩ = (Lxs.getD 5 0 == 0) := rfl
    cases hc : (Lxs.getD 5 0 == 0) == al with
    | true =>
      have rm1 : ((ts.take (k + 1)).map (pickR ls)).filter (fun r => aloneB r == al) = ((ts.take k).map (pickR ls)).filter (fun r => aloneB r == al) ++ [⟨some ⟨Lb, Lo, Ls⟩, 10, Lc, Lxs⟩] := by
        rw [htk, List.filter_append]
        congr 1
        rw [List.filter_cons_of_pos (by rw [eal]; exact hc)]
        rfl
      simp (decide := true) (implicitDefEqProofs := false) (maxDischargeDepth := 20) only [go_sem, e0, e46, e47, e48, e10, e8, d1, z0, z1, rT', rk, rL', r5, q0, q1, hc, ↓reduceIte, Int.toNat_natCast, true_implies, false_implies]
      refine V.appendQ rfl (by omega) rfl (by decide) (by decide +kernel) (by decide +kernel) rfl (by omega) fun m4 b4 s4 v4 k4 hb4 => ?_
      simp (decide := true) (implicitDefEqProofs := false) (maxDischargeDepth := 20) only [go_sem, e48, w1, ↓reduceIte, true_implies, false_implies]
      have k41 := k4.1
      refine ⟨nT - (k + 1), by omega, k + 1, some ⟨b4, 0, s4⟩, es' ++ [⟨some ⟨Lb, Lo, Ls⟩, 10, Lc, Lxs⟩], by omega, rfl, rfl, by rw [List.length_append]; rfl, by rw [rm1, hes', List.append_assoc], by rw [List.length_append]; simp; omega, by rw [List.length_append, List.map_append]; exact v4, .inr fun x hx => by cases hx; show m.size ≤ b4; omega, by omega, fun i hi hx => ?_⟩
      rw [k4.2 i (by omega) fun y hy => ?_, hkp i hi hx]
      rcases hfr with h | h
      · rw [h] at hy; exact hx y hy
      · have := h y hy; omega
    | false =>
      have rm1 : ((ts.take (k + 1)).map (pickR ls)).filter (fun r => aloneB r == al) = ((ts.take k).map (pickR ls)).filter (fun r => aloneB r == al) := by
        rw [htk, List.filter_append, List.filter_cons_of_neg (by rw [eal, hc]; exact Bool.noConfusion)]
        simp
      simp (decide := true) (implicitDefEqProofs := false) (maxDischargeDepth := 20) only [go_sem, e0, e46, e47, e48, e10, e8, d1, z0, z1, rT', rk, rL', r5, q0, q1, hc, w1, ↓reduceIte, Int.toNat_natCast, true_implies, false_implies]
      exact ⟨nT - (k + 1), by omega, k + 1, a8', es', by omega, rfl, rfl, rfl, by rw [rm1]; exact hes', by omega, V, hfr, hsz, hkp⟩
  · have d1 : decide ((k : Int) < (nT : Int)) = false := by simp; omega
    rw [List.take_of_length_le (by omega)] at hes'
    simp (decide := true) (implicitDefEqProofs := false) (maxDischargeDepth := 20) only [go_sem, e46, e47, e48, d1, ↓reduceIte, true_implies, false_implies]
    exact ⟨a8', es', e8, hes', V, o0'⟩


/-! ### PairM -/

def inL (ys : List HRow) : List HRow := ys.filter (fun r => aloneB r == true) ++ ys.filter (fun r => aloneB r == false)
def inK (ys : List HRow) : Nat → List HRow
  | 0 => []
  | 1 => ys.filter (fun r => aloneB r == true)
  | _ => inL ys

theorem inL_perm (ys : List HRow) : (inL ys).Perm ys := by
  unfold inL
  have : (fun r => aloneB r == false) = fun r => !(aloneB r == true) := funext fun r => by cases aloneB r <;> rfl
  rw [this]
  exact List.filter_append_perm (fun r => aloneB r == true) ys

theorem keyRow_idx (ls : List HRow) (i : Nat) : (keyRow ls i).getD 3 0 = (i : Int) := by
  unfold keyRow
  rw [List.getD_eq_getElem?_getD, List.getElem?_append_right (by rw [keyL_len]; omega), keyL_len]
  rfl

set_option maxRecDepth 100000 in
set_option maxHeartbeats 8000000 in
theorem Parts_in {m0 : Mem} {t : Fr} {a0 a4 bA : Option Addr} {n c0 : Nat} {ls ks : List HRow} (hs : SlA m0 1 a0 n c0 (ls.map HRow.v)) (hr : ∀ r ∈ ls, r.At m0) (h10 : ∀ r ∈ ls, r.n = 10) (hn : n ≤ 1000)
    (h4 : SlA m0 1 a4 ks.length ks.length (ks.map HRow.v)) (hk : ∀ r ∈ ks, r.At m0) (hkx : ks.map HRow.xs = keyRows ls n) (hb : SlA m0 1 bA 2 2 [.bool true, .bool false])
    (t0 : t 0 = .slice a0 n c0) (t4 : t 4 = .slice a4 ks.length ks.length) (t8 : t 8 = .slice none 0 0) (t39 : t 39 = .slice bA 2 2) (t40 : t 40 = .int .i64 2) (t41 : t 41 = .int .i64 0) {K : Post3}
    (hK : ∀ (t' : Fr) (m' : Mem) (a8 : Option Addr) (es : List HRow) (idxs : List Nat), Agree (writes c_sheaflaw18_parts_32) t t' → t' 8 = .slice a8 es.length es.length → idxs.Perm (List.range n) → idxs.Pairwise (fun i j => cmpL (keyRow ls i) (keyRow ls j) [] ≤ 0) → es = inL (idxs.map fun i => ls.getD i noRow) → Vec m0.size m' 1 a8 es.length (es.map HRow.v) → Old m0 m' → K .normal t' m') :
    wpM E F_sheaflaw18_parts 89 none c_sheaflaw18_parts_32 K t m0 := by
  have hl : ls.length = n := by have := hs.len; simpa using this
  have hkl : ks.length = n := by have := congrArg List.length hkx; simpa [keyRows] using this
  obtain ⟨ts, hts⟩ : ∃ x, x = sortL [] ks := ⟨_, rfl⟩
  have hperm : ts.Perm ks := by rw [hts]; exact sortL_perm _ _
  have hsort : ts.Pairwise (fun a b => cmpL a.xs b.xs [] ≤ 0) := by rw [hts]; exact sortL_sorted _ _
  have htx : ∀ r ∈ ts, ∃ i, i < n ∧ r.xs = keyRow ls i := fun r hr => by
    have h1 : r.xs ∈ ks.map HRow.xs := List.mem_map.2 ⟨r, hperm.mem_iff.1 hr, rfl⟩
    rw [hkx] at h1
    obtain ⟨i, hi, he⟩ := List.mem_map.1 h1
    exact ⟨i, by simpa using hi, he.symm⟩
  obtain ⟨ys, hys⟩ : ∃ x, x = ts.map (pickR ls) := ⟨_, rfl⟩
  refine wpM_cut (fun t' m' => ∃ a8 es, t' 8 = .slice a8 es.length es.length ∧ es = inL ys ∧ Vec m0.size m' 1 a8 es.length (es.map HRow.v) ∧ Old m0 m') ?_ fun t' m' ha ⟨a8, es, h1, h2, h3, h4⟩ => ?_
  · have n4 : ∀ r ∈ ts, r.n = 4 := fun r hr => by
      obtain ⟨i, hi, he⟩ := htx r hr
      rw [← (hk r (hperm.mem_iff.1 hr)).len, he]
      unfold keyRow
      rw [List.length_append, keyL_len]
      rfl
    have nk4 : ∀ r ∈ ks, r.n ≤ 1000000 := fun r hr => by rw [n4 r (hperm.mem_iff.2 hr)]; omega
    have ix : ∀ r ∈ ts, 0 ≤ r.xs.getD 3 0 ∧ r.xs.getD 3 0 < n := fun r hr => by
      obtain ⟨i, hi, he⟩ := htx r hr
      rw [he, keyRow_idx]
      omega
    have hyl : ys.length = n := by rw [hys, List.length_map, hperm.length_eq, hkl]
    simp only [c_sheaflaw18_parts_32_at, wpM_block, c_sheaflaw18_parts_31_at]
    refine wpM_loopA (fun j t' m' => ∃ k a8 es, k ≤ 2 ∧ j = 2 - k ∧ t' 41 = .int .i64 (k : Nat) ∧ t' 8 = .slice a8 es.length es.length ∧ es = inK ys k ∧ Vec m0.size m' 1 a8 es.length (es.map HRow.v) ∧ Old m0 m') 2
      ⟨0, none, [], by omega, rfl, t41, t8, rfl, .nil _ _ _, .refl m0⟩ ?_
    rintro j t' m' ha ⟨k, a8, es, hk2, rfl, e41, e8, hes, V, o⟩
    have e0 := (ha 0 (by decide +kernel)).trans t0
    have e4 := (ha 4 (by decide +kernel)).trans t4
    have e39 := (ha 39 (by decide +kernel)).trans t39
    have e40 := (ha 40 (by decide +kernel)).trans t40
    have hel : es.length ≤ 1000 := by
      rw [hes]
      cases k with
      | zero => simp [inK]
      | succ k =>
        cases k with
        | zero => exact Nat.le_trans (List.length_filter_le _ _) (by omega)
        | succ k => show (inL ys).length ≤ 1000; rw [(inL_perm ys).length_eq]; omega
    by_cases hlt : k < 2
    · have d1 : decide ((k : Int) < 2) = true := by simp; omega
      have w1 : IntKind.wrap .i64 ((k : Int) + 1) = ((k + 1 : Nat) : Int) := by rw [wrap_i64_id _ (by omega) (by omega)]; omega
      have z0 : (0 : Int) ≤ (k : Int) := by omega
      have z1 : (k : Int) < ((2 : Nat) : Int) := by omega
      obtain ⟨al, hal⟩ : ∃ al : Bool, al = decide (k = 0) := ⟨_, rfl⟩
      have hbs := hb.old o
      obtain ⟨bb, bo, bs, rfl⟩ := hbs.addr (by omega)
      have rb : m'.at bb (bo + k) = some (.bool al) := by
        have := hbs.at hlt
        rw [this, hal]
        have : k = 0 ∨ k = 1 := by omega
        rcases this with rfl | rfl <;> rfl
      have h4' := h4.old o
      simp (decide := true) (implicitDefEqProofs := false) (maxDischargeDepth := 20) only [go_sem, e0, e4, e39, e40, e41, e8, d1, z0, z1, rb, ↓reduceIte, Int.toNat_natCast, true_implies, false_implies]
      refine (Sorted_at (cols := []) h4' (fun r hr => (hk r hr).old o) nk4 (.empty 1) (by omega) (by omega)).mono ?_
      rintro w m1 ⟨b3, s3, rfl, V3, o1⟩
      rw [← hts] at V3
      have htl : ts.length = ks.length := hperm.length_eq
      simp (decide := true) (implicitDefEqProofs := false) (maxDischargeDepth := 20) only [go_sem, e0, e4, e39, e40, e41, e8, ↓reduceIte, true_implies, false_implies]
      have o01 := o.trans o1
      refine Parts_pick (al := al) (ts := ts) (es := es) hs hr h10 o01 V3.sl (fun r hr => hk r (hperm.mem_iff.1 hr)) n4 (fun r hr => ix r hr) (fun x y hx hy => ?_) (by omega) (V.old o1) hel (by simp (decide := true) only [go_sem, e0, ↓reduceIte]) (by simp (decide := true) only [go_sem, ↓reduceIte]) (by simp (decide := true) only [go_sem, ↓reduceIte]) (by simp (decide := true) only [go_sem, ↓reduceIte]) (by simp (decide := true) only [go_sem, ↓reduceIte]) (by simp (decide := true) only [go_sem, e8, ↓reduceIte]) fun t2 m2 a8' es' hag g8 hes' V2 o2 => ?_
      · have := V.lt hy
        have := (V3.blk x hx).1
        omega
      have g41 := hag 41 (by decide +kernel)
      simp (decide := true) only [go_sem, e41, ↓reduceIte] at g41
      simp (decide := true) (implicitDefEqProofs := false) (maxDischargeDepth := 20) only [go_sem, g41, w1, ↓reduceIte, true_implies, false_implies]
      refine ⟨2 - (k + 1), by omega, k + 1, a8', es', by omega, rfl, rfl, g8, ?_, V2, o2⟩
      rw [hes', hes, ← hys, hal]
      have : k = 0 ∨ k = 1 := by omega
      rcases this with rfl | rfl <;> rfl
    · have d1 : decide ((k : Int) < 2) = false := by simp; omega
      have hk2' : k = 2 := by omega
      subst hk2'
      simp (decide := true) (implicitDefEqProofs := false) (maxDischargeDepth := 20) only [go_sem, e40, e41, d1, ↓reduceIte, true_implies, false_implies]
      exact ⟨a8, es, e8, hes, V, o⟩
  · refine hK t' m' a8 es (ts.map fun r => (r.xs.getD 3 0).toNat) ha h1 ?_ ?_ ?_ h3 h4
    · refine (hperm.map _).trans ?_
      have : ks.map (fun r => (r.xs.getD 3 0).toNat) = List.range n := by
        have e : ks.map (fun r => (r.xs.getD 3 0).toNat) = (ks.map HRow.xs).map fun x => (x.getD 3 0).toNat := by rw [List.map_map]; rfl
        rw [e, hkx, keyRows, List.map_map]
        conv => rhs; rw [← List.map_id (List.range n)]
        refine List.map_congr_left fun i _ => ?_
        show ((keyRow ls i).getD 3 0).toNat = i
        rw [keyRow_idx]
        omega
      rw [this]
    · rw [List.pairwise_map]
      refine hsort.imp_of_mem fun {a b} ha hb h => ?_
      obtain ⟨i, hi, he⟩ := htx a ha
      obtain ⟨j, hj, he'⟩ := htx b hb
      rw [he, he', keyRow_idx, keyRow_idx]
      rw [he, he'] at h
      simpa using h
    · rw [h2, hys, List.map_map]
      rfl


/-! ### PairN -/

def PRes (outs : List ORow) (w : Value) (m : Mem) : Prop :=
  (∃ ao os, outs = (os : List HRow).map (fun r => some r.xs) ∧ w = .tuple #[.slice ao os.length os.length, .bool true] ∧ SlA m 1 ao os.length os.length (os.map HRow.v) ∧ ∀ r ∈ os, r.At m) ∨
  (none ∈ outs ∧ w = .tuple #[.slice none 0 0, .bool false])

/-- The rows that are told, in a list; the boxes of the answer. -/
structure PLJ (outs : List ORow) (ob xb kb k : Nat) (m : Mem) (A A0 : Set') (ag : Option Addr) (gs : List HRow) : Prop where
  l : ListJ 0 ob (gs.map HRow.xs) m A0 ag gs
  pre : outs.take k = gs.map fun r => some r.xs
  gx : cap1 m xb (.slice none 0 0)
  gk : cap1 m kb (.bool false)
  iff : ∀ i, A i ↔ A0 i ∨ i = xb ∨ i = kb
  nx : ¬ A0 xb
  nk : ¬ A0 kb
def PLJ' (outs : List ORow) (ob xb kb : Nat) (k : Nat) (m : Mem) (A : Set') : Prop := ∃ A0 ag gs, PLJ outs ob xb kb k m A A0 ag gs
theorem PLJ'.loc (outs : List ORow) (ob xb kb k : Nat) : LocP (PLJ' outs ob xb kb k) := by
  rintro m m' A ⟨A0, ag, gs, h⟩ hk hs
  have l := h.l
  refine ⟨A0, ag, gs, ?_, h.pre, (hk _ ((h.iff _).2 (.inr (.inl rfl)))).trans h.gx, (hk _ ((h.iff _).2 (.inr (.inr rfl)))).trans h.gk, h.iff, h.nx, h.nk⟩
  have k0 : ∀ i, A0 i → m'.get i = m.get i := fun i hi => hk i ((h.iff i).2 (.inl hi))
  exact ⟨(k0 _ l.ao).trans l.box, l.vec.keep fun x hx => k0 _ (l.own x hx).1, l.xs, fun g hg => (l.row g hg).keep fun x hx _ => k0 _ (l.blk g hg x hx).1, l.blk, l.own, l.ao⟩
def PLD (outs : List ORow) (xb kb : Nat) (k : Nat) (x : Exit) (m : Mem) (A : Set') : Prop := x = .ret ∧ none ∈ outs ∧ cap1 m xb (.slice none 0 0) ∧ cap1 m kb (.bool false) ∧ A xb ∧ A kb
theorem PLD.loc (outs : List ORow) (xb kb k : Nat) (x : Exit) : LocP (PLD outs xb kb k x) := fun m m' A ⟨h1, h2, h3, h4, h5, h6⟩ hk _ => ⟨h1, h2, (hk _ h5).trans h3, (hk _ h6).trans h4, h5, h6⟩

set_option maxRecDepth 100000 in
set_option maxHeartbeats 8000000 in
theorem Parts_range {m : Mem} {t : Fr} {s : Value} {ob xb kb : Nat} {outs : List ORow} (it : Iter E (butL m [ob, xb, kb]) none' s outs.length anyO (partEl outs)) (hN : outs.length ≤ 100000)
    (gO : cap1 m ob (.slice none 0 0)) (gX : cap1 m xb (.slice none 0 0)) (gK : cap1 m kb (.bool false)) (hne : ob ≠ xb ∧ ob ≠ kb ∧ xb ≠ kb)
    (t79 : t 79 = s) (t13 : t 13 = ptr ob) (t2 : t 2 = ptr xb) (t3 : t 3 = ptr kb) {K : Post3}
    (hK : ∀ m' A, PLJ' outs ob xb kb outs.length m' A → m.size ≤ m'.size → (∀ i, i < m.size → i ≠ ob → i ≠ xb → i ≠ kb → m'.get i = m.get i) → (∀ i, A i → i = ob ∨ i = xb ∨ i = kb ∨ m.size ≤ i) → K .normal t m')
    (hK' : ∀ m', none ∈ outs → cap1 m' xb (.slice none 0 0) → cap1 m' kb (.bool false) → m.size ≤ m'.size → (∀ i, i < m.size → i ≠ ob → i ≠ xb → i ≠ kb → m'.get i = m.get i) → K .ret t m') :
    wpM E F_sheaflaw18_parts 89 none c_sheaflaw18_parts_44 K t m := by
  simp only [c_sheaflaw18_parts_44_at, wpM_block, c_sheaflaw18_parts_43_at]
  have lO := getM_lt gO
  have lX := getM_lt gX
  have lK := getM_lt gK
  refine wpM_rangeP (A := fun i => i = ob ∨ i = xb ∨ i = kb) it (fun t => upd (upd t 15 (t 80)) 16 (t 81)) (by simp (decide := true) only [go_sem, t79, ↓reduceIte]) rfl asg_sheaflaw18_parts_0 body_sheaflaw18_parts_0 (by decide) (fun K l t m h => by simp (decide := true) only [go_sem, ↓reduceIte]; exact h)
    (PLJ' outs ob xb kb) (PLD outs xb kb) (PLJ'.loc outs ob xb kb) (PLD.loc outs xb kb) (butL_frozen _ _) (fun i hi => ⟨by rcases hi with rfl | rfl | rfl <;> assumption, butL_no (by simpa using hi), fun h => h.elim⟩) (fun i hi => hi.elim) trivial
    ⟨fun i => i = ob, none, [], ⟨gO, .nil _ _ _, rfl, (fun g h => by simp at h), (fun g h => by simp at h), (fun y h => by cases h), rfl⟩, by simp, gX, gK, fun i => Iff.rfl, hne.1.symm, hne.2.1.symm⟩ ?_ ?_ ?_
  · rintro k vs m4 A B l hk z4 oA oB dis - ⟨A0, ag, gs, J⟩ hel hin hms
    have lA : ∀ i, A i → i < m4.size := fun i hi => (oA i hi).1
    have hax : A xb := (J.iff _).2 (.inr (.inl rfl))
    have hak : A kb := (J.iff _).2 (.inr (.inr rfl))
    rcases hel with ⟨r, b, hat, rfl, gb, hfit, hB⟩ | ⟨hat, rfl, hB⟩
    · refine ⟨rfl, ?_⟩
      have rO := get_at0 J.l.box
      have hgl : gs.length = k := by
        have := congrArg List.length J.pre
        simp at this
        omega
      simp (decide := true) (implicitDefEqProofs := false) (maxDischargeDepth := 20) only [go_sem, t13, t2, t3, rO, ↓reduceIte, true_implies, false_implies]
      refine J.l.vec.append1' (Nat.zero_le _) rfl (by decide) (by decide +kernel) (by decide +kernel) rfl (by omega) fun m5 b5 s5 v5 k5 hb5 => ?_
      have gO5 : m5.get ob = _ := (k5.2 ob (getM_lt J.l.box) fun y hy e => (J.l.own y hy).2 e.symm).trans J.l.box
      simp (decide := true) (implicitDefEqProofs := false) (maxDischargeDepth := 20) only [go_sem, t13, t2, t3, gO5, ↓reduceIte, true_implies, false_implies]
      have hrow : (⟨some ⟨b, 0, none⟩, r.length, r.length, r⟩ : HRow).At m4 := ⟨.new gb (by simp) rfl, rfl, hfit⟩
      obtain ⟨J', T⟩ := J.l.more (B := B) hrow (fun i hi => lA i ((J.iff i).2 (.inl hi))) (fun i hi => (oB i hi).1) (fun i hi => dis i ((J.iff i).2 (.inl hi))) (fun x hx => by cases hx; exact (hB _).2 rfl) v5 k5 hb5 rfl
      have s45 := k5.1
      have lx4 := lA _ hax
      have lk4 := lA _ hak
      have gx6 : ∀ i, i < m4.size → i ≠ ob → (∀ y, ag = some y → i ≠ y.block) → (m5.put ob (some (.cells false true [.slice (some ⟨b5, 0, s5⟩) (gs.length + 1) (gs.length + 1)]))).get i = m4.get i := fun i hi h1 h2 => by rw [getM_put, if_neg (fun e => h1 e.1), k5.2 i hi h2]
      have nag : ∀ i, ¬ A0 i → ∀ y, ag = some y → i ≠ y.block := fun i hi y hy e => hi (e ▸ (J.l.own y hy).1)
      refine ⟨fun i => ((A0 i ∨ B i) ∨ i = b5) ∨ i = xb ∨ i = kb, T.c.mono fun i hi => hi.imp (fun h => (J.iff i).2 (.inl h)) fun h => h, fun i hi => ?_, fun i => (A0 i ∨ B i) ∨ i = b5, some ⟨b5, 0, s5⟩, gs ++ [⟨some ⟨b, 0, none⟩, r.length, r.length, r⟩], ⟨by rw [List.map_append]; exact J', ?_, (gx6 xb lx4 hne.1.symm (nag xb J.nx)).trans J.gx, (gx6 kb lk4 hne.2.1.symm (nag kb J.nk)).trans J.gk, fun i => Iff.rfl, ?_, ?_⟩⟩
      · rcases hi with hi | rfl | rfl
        · have := T.n i hi
          exact ⟨this.1, this.2.imp (fun h => h.imp (fun h => (J.iff i).2 (.inl h)) fun h => h) fun h => h⟩
        · exact ⟨by rw [size_put]; omega, .inl (.inl hax)⟩
        · exact ⟨by rw [size_put]; omega, .inl (.inl hak)⟩
      · obtain ⟨hlt, he⟩ := List.getElem?_eq_some_iff.1 hat
        rw [List.take_succ_eq_append_getElem hlt, List.map_append, J.pre, he]
        rfl
      · rintro ((h | h) | h)
        · exact J.nx h
        · exact dis _ hax h
        · omega
      · rintro ((h | h) | h)
        · exact J.nk h
        · exact dis _ hak h
        · omega
    · refine ⟨rfl, ?_⟩
      have gX4 : m4.get xb = some (.cells false true [.slice none 0 0]) := J.gx
      have gK4 : m4.get kb = some (.cells false true [.bool false]) := J.gk
      have lx4 := lA _ hax
      have lk4 := lA _ hak
      have nkx : ¬ kb = xb := fun e => hne.2.2 e.symm
      simp (decide := true) (implicitDefEqProofs := false) (maxDischargeDepth := 20) only [go_sem, t13, t2, t3, gX4, gK4, lx4, lk4, nkx, ↓reduceIte, true_implies, false_implies]
      refine ⟨A, ⟨by rw [size_put, size_put]; exact Nat.le_refl _, fun i hi hna => ?_⟩, fun i hi => ⟨by rw [size_put, size_put]; exact lA i hi, .inl (.inl hi)⟩, .inl trivial, rfl, List.mem_of_getElem? hat, ?_, ?_, hax, hak⟩
      · rw [getM_put, if_neg (fun e => hna (.inl (by rw [e.1]; exact hak))), getM_put, if_neg (fun e => hna (.inl (by rw [e.1]; exact hax)))]
      · unfold cap1
        rw [getM_put, if_neg (fun e => hne.2.2 e.1), getM_put, if_pos ⟨rfl, lx4⟩]
      · unfold cap1
        rw [getM_put, if_pos ⟨rfl, by rw [size_put]; exact lk4⟩]
  · rintro m' A' z' o' - J c1 c2
    simp (decide := true) (implicitDefEqProofs := false) (maxDischargeDepth := 20) only [go_sem, ↓reduceIte, true_implies, false_implies]
    refine hK m' A' J c1.size (fun i hi h1 h2 h3 => c1.get i hi fun e => ?_) fun i hi => ?_
    · rcases e with (e | e | e) | e
      · exact h1 e
      · exact h2 e
      · exact h3 e
      · exact e
    · rcases (c2 i hi).2 with (e | e | e) | e
      · exact .inl e
      · exact .inr (.inl e)
      · exact .inr (.inr (.inl e))
      · exact .inr (.inr (.inr e))
  · rintro k x m' A' hk z' o' - hx ⟨rfl, h2, h3, h4, _⟩ c1 c2
    simp (decide := true) (implicitDefEqProofs := false) (maxDischargeDepth := 20) only [go_sem, ↓reduceIte, true_implies, false_implies]
    refine hK' m' h2 h3 h4 c1.size fun i hi h1 h2 h3 => c1.get i hi fun e => ?_
    rcases e with (e | e | e) | e
    · exact h1 e
    · exact h2 e
    · exact h3 e
    · exact e

theorem tellO_len (c : Option Bo) : (tellO c).length ≤ 2 * c.toList.length := by
  cases c with
  | none => exact Nat.le_refl _
  | some b =>
    have e : tellO (some b) = if boOk b then (boRows b).map some else [none] := rfl
    rw [e]
    split
    · rw [List.length_map]
      unfold boRows
      rw [List.length_append]
      split <;> split <;> simp
    · simp
def szP (st : PSt) : Nat := st.out.length + 2 * st.cur.toList.length
theorem tellS_sz (st : PSt) : szP (tellS st) ≤ szP st := by
  unfold szP tellS
  have := tellO_len st.cur
  simp only [List.length_append, Option.toList_none, List.length_nil]
  omega
theorem partA_sz (st : PSt) (r : List Int) : szP (partA st r) ≤ szP st := by
  unfold partA
  split
  · exact Nat.le_refl _
  · split
    · exact Nat.le_refl _
    · exact tellS_sz st
theorem partB_sz (st : PSt) (r : List Int) : szP (partB st r) ≤ szP st + 2 := by
  unfold partB
  split
  · have := tellS_sz st
    split
    · omega
    · unfold szP at *
      simp only [List.length_append, Option.toList_none, List.length_nil, List.length_singleton]
      unfold tellS at *
      simp only [Option.toList_none, List.length_nil] at this ⊢
      omega
  · unfold szP
    simp only [Option.toList_some, List.length_singleton]
    omega
theorem stepP_sz (st : PSt) (r : List Int) : szP (stepP st r) ≤ szP st + 2 := by
  unfold stepP
  have h1 := partA_sz st r
  have h2 := partB_sz (partA st r) r
  split
  · omega
  · split <;> omega
theorem foldl_sz : ∀ (l : List (List Int)) (st : PSt), szP (l.foldl stepP st) ≤ szP st + 2 * l.length
  | [], st => Nat.le_refl _
  | r :: l, st => by
    have h1 := stepP_sz st r
    have h2 := foldl_sz l (stepP st r)
    rw [List.foldl_cons, List.length_cons]
    omega
theorem partsO_len (l : List (List Int)) : (partsO l).length ≤ 2 * l.length := by
  have h := foldl_sz l ⟨[], none, false⟩
  have h2 := tellO_len (stP l).cur
  have e : stP l = l.foldl stepP ⟨[], none, false⟩ := rfl
  rw [← e] at h
  unfold szP at h
  simp only [List.length_nil, Option.toList_none] at h
  unfold partsO finP
  split
  · omega
  · rw [List.length_append]; omega

set_option maxRecDepth 100000 in
set_option maxHeartbeats 8000000 in
theorem PartsF_at {m : Mem} {a : Option Addr} {n c : Nat} {ls : List HRow} (h : SlA m 1 a n c (ls.map HRow.v)) (hr : ∀ r ∈ ls, r.At m) (h10 : ∀ r ∈ ls, r.n = 10) (hn : n ≤ 900) {K : Value → Mem → Prop}
    (hK : ∀ (idxs : List Nat) w m', idxs.Perm (List.range n) → idxs.Pairwise (fun i j => cmpL (keyRow ls i) (keyRow ls j) [] ≤ 0) → PRes (partsO ((inL (idxs.map fun i => ls.getD i noRow)).map HRow.xs)) w m' → Old m m' → K w m') :
    CallQ E F_sheaflaw18_parts [.slice a n c].toArray m K := by
  have hl : ls.length = n := by have := h.len; simpa using this
  refine .enter fn_sheaflaw18_parts (by simp) ?_
  simp (decide := true) (implicitDefEqProofs := false) (maxDischargeDepth := 20) only [go_sem, ↓reduceIte, true_implies, false_implies]
  obtain ⟨xb, hxb⟩ : ∃ b, b = m.size := ⟨_, rfl⟩
  obtain ⟨kb, hkb⟩ : ∃ b, b = m.size + 1 := ⟨_, rfl⟩
  obtain ⟨m1, hm1⟩ : ∃ m1, m1 = (m.push (.cells false true [.slice none 0 0])).push (.cells false true [.bool false]) := ⟨_, rfl⟩
  have gX : cap1 m1 xb (.slice none 0 0) := by unfold cap1; rw [hm1, hxb, getM_push, if_neg (by simp), getM_push, if_pos rfl]
  have gK : cap1 m1 kb (.bool false) := by unfold cap1; rw [hm1, hkb, getM_push, if_pos (by simp)]
  have o1 : Old m m1 := by rw [hm1]; exact .push (.push (.refl m) _) _
  have s1 : m1.size = m.size + 2 := by rw [hm1, size_push, size_push]
  rw [← hkb, ← hxb, ← hm1]
  clear hm1
  refine Parts_keys (h.old o1) (fun r h => (hr r h).old o1) h10 (by omega) (by simp (decide := true) only [go_sem, ↓reduceIte]) (by simp (decide := true) only [go_sem, ↓reduceIte]) (by simp (decide := true) only [go_sem, ↓reduceIte]) (by simp (decide := true) only [go_sem, ↓reduceIte]) fun t2 m2 a4 ks hag e4 J2 => ?_
  have e0 := hag 0 (by decide +kernel)
  have e2 := hag 2 (by decide +kernel)
  have e3 := hag 3 (by decide +kernel)
  simp (decide := true) only [go_sem, ↓reduceIte] at e0 e2 e3
  clear hag
  have o12 := J2.old
  simp (decide := true) (implicitDefEqProofs := false) (maxDischargeDepth := 20) only [go_sem, e0, e2, e3, e4, ↓reduceIte, true_implies, false_implies]
  obtain ⟨bbk, hbbk⟩ : ∃ b, b = m2.size := ⟨_, rfl⟩
  obtain ⟨m3, hm3⟩ : ∃ m3, m3 = m2.push (.cells false true [.bool true, .bool false]) := ⟨_, rfl⟩
  have o23 : Old m2 m3 := by rw [hm3]; exact .push (.refl m2) _
  have gB : SlA m3 1 (some ⟨bbk, 0, none⟩) 2 2 [.bool true, .bool false] := .new (by rw [hm3, hbbk, getM_push, if_pos rfl]) rfl rfl
  rw [← hbbk, ← hm3]
  clear hm3
  have o13 := o12.trans o23
  have o03 := o1.trans o13
  refine Parts_in (ks := ks) (h.old o03) (fun r h => (hr r h).old o03) h10 (by omega) (J2.vec.sl.old o23) (fun r h => (J2.row r h).old o23) J2.xs gB (by simp (decide := true) only [go_sem, e0, ↓reduceIte]) (by simp (decide := true) only [go_sem, e4, ↓reduceIte]) (by simp (decide := true) only [go_sem, ↓reduceIte]) (by simp (decide := true) only [go_sem, ↓reduceIte]) (by simp (decide := true) only [go_sem, ↓reduceIte]; rfl) (by simp (decide := true) only [go_sem, ↓reduceIte]) fun t4 m4 a8 es idxs hag e8 hp hs hes V4 o34 => ?_
  have f2 := hag 2 (by decide +kernel)
  have f3 := hag 3 (by decide +kernel)
  simp (decide := true) only [go_sem, e2, e3, ↓reduceIte] at f2 f3
  clear hag
  simp (decide := true) (implicitDefEqProofs := false) (maxDischargeDepth := 20) only [go_sem, f2, f3, e8, ↓reduceIte, true_implies, false_implies]
  obtain ⟨ob, hob⟩ : ∃ b, b = m4.size := ⟨_, rfl⟩
  obtain ⟨m5, hm5⟩ : ∃ m5, m5 = m4.push (.cells false true [.slice none 0 0]) := ⟨_, rfl⟩
  have gO5 : cap1 m5 ob (.slice none 0 0) := by unfold cap1; rw [hm5, hob, getM_push, if_pos rfl]
  have o45 : Old m4 m5 := by rw [hm5]; exact .push (.refl m4) _
  rw [← hob, ← hm5]
  have s5 : m5.size = m4.size + 1 := by rw [hm5, size_push]
  clear hm5
  refine (From_at).mono ?_
  rintro w m6 ⟨bv, rfl, cv, hbv, o56⟩
  simp (decide := true) (implicitDefEqProofs := false) (maxDischargeDepth := 20) only [go_sem, f2, f3, e8, ↓reduceIte, true_implies, false_implies]
  refine (Parts_at).mono ?_
  rintro w m7 ⟨bp, rfl, cp, hbp, o67⟩
  simp (decide := true) (implicitDefEqProofs := false) (maxDischargeDepth := 20) only [go_sem, f2, f3, e8, ↓reduceIte, true_implies, false_implies]
  have o57 := o56.trans o67
  have o47 := o45.trans o57
  have o37 := o34.trans o47
  have o17 := o13.trans o37
  have o07 := o1.trans o17
  have z13 := o13.size
  have z34 := o34.size
  have z57 := o57.size
  have z56 := o56.size
  obtain ⟨outs, houts⟩ : ∃ x, x = partsO (es.map HRow.xs) := ⟨_, rfl⟩
  have hesp : es.Perm (idxs.map fun i => ls.getD i noRow) := by rw [hes]; exact inL_perm _
  have hin : ∀ r ∈ es, r ∈ ls := fun r hr' => by
    obtain ⟨i, hi, rfl⟩ := List.mem_map.1 (hesp.mem_iff.1 hr')
    have : i < ls.length := by have := hp.mem_iff.1 hi; simp at this; omega
    rw [List.getD_eq_getElem?_getD, List.getElem?_eq_getElem this]
    exact List.getElem_mem _
  have hel : es.length = n := by rw [hesp.length_eq, List.length_map, hp.length_eq, List.length_range]
  have lrow : ∀ r ∈ es, ∀ b, r.ad = some b → r.xs ≠ [] → b.block < m.size := fun r hm b hb hx => ((hr r (hin r hm)).sl.rows b hb (by simpa using hx)).lt
  have hR : ∀ m', Frozen (butL m7 [ob, xb, kb]) m' → ∀ k, (es.getD k noRow).At m' := fun m' z k => by
    rw [List.getD_eq_getElem?_getD]
    cases hg : es[k]? with
    | none => exact noRow_at m'
    | some r =>
      have hm := List.mem_of_getElem? hg
      exact row_but ((hr r (hin r hm)).old o07) z fun b hb hx => by have := lrow r hm b hb hx; simp; omega
  have gX7 := gX.old o17
  have gK7 := gK.old o17
  have gO7 := gO5.old o57
  have no5 : ∀ b, m5.size ≤ b → b ∉ [ob, xb, kb] := fun b hb => by simp; omega
  have outs_len : outs.length ≤ 100000 := by
    rw [houts]
    exact Nat.le_trans (partsO_len _) (by rw [List.length_map, hel]; omega)
  have it := PartsI (rs := es) (n := es.length) (F := none') (ValuesR (butL_at (cv.old o67) (no5 _ hbv)) (fun m' z => sla_but (V4.sl.old o47) z fun b hb hx => by have := (V4.blk b hb).1; have := V4.lt hb; simp; omega) (by omega)) hR rfl (fun r hr' => h10 r (hin r hr')) (by omega) (butL_at cp (no5 _ (by omega)))
  rw [← houts] at it
  have fin := hK idxs
  rw [← hes, ← houts] at fin
  refine Parts_range it outs_len gO7 gX7 gK7 (by omega) (by simp (decide := true) only [go_sem, ↓reduceIte]) (by simp (decide := true) only [go_sem, ↓reduceIte]) (by simp (decide := true) only [go_sem, f2, ↓reduceIte]) (by simp (decide := true) only [go_sem, f3, ↓reduceIte]) (fun m8 A ⟨A0, ag, gs, J⟩ s8 k8 hA => ?_) fun m8 hno gX8 gK8 s8 k8 => ?_
  · have l := J.l
    have rO := get_at0 l.box
    have gX8 : m8.get xb = some (.cells false true [.slice none 0 0]) := J.gx
    have gK8 : m8.get kb = some (.cells false true [.bool false]) := J.gk
    have lx8 := getM_lt gX8
    have lk8 := getM_lt gK8
    have nkx : ¬ kb = xb := by omega
    have nxk : ¬ xb = kb := by omega
    have pre := J.pre
    rw [List.take_length] at pre
    simp (decide := true) (implicitDefEqProofs := false) (maxDischargeDepth := 20) only [go_sem, f2, f3, rO, gX8, gK8, lx8, lk8, nkx, nxk, ↓reduceIte, true_implies, false_implies]
    have gp : ∀ i, i ≠ xb → i ≠ kb → ((m8.put xb (some (.cells false true [.slice ag gs.length gs.length]))).put kb (some (.cells false true [.bool true]))).get i = m8.get i := fun i h1 h2 => by
      rw [getM_put, if_neg (fun e => h2 e.1), getM_put, if_neg (fun e => h1 e.1)]
    have nA : ∀ i, A0 i → i ≠ xb ∧ i ≠ kb := fun i hi => ⟨fun e => J.nx (e ▸ hi), fun e => J.nk (e ▸ hi)⟩
    refine fin _ _ hp hs (.inl ⟨ag, gs, pre, rfl, l.vec.sl.keep fun x hx _ => gp _ (nA _ (l.own x hx).1).1 (nA _ (l.own x hx).1).2, fun r hr' => (l.row r hr').keep fun x hx _ => gp _ (nA _ (l.blk r hr' x hx).1).1 (nA _ (l.blk r hr' x hx).1).2⟩) (.of_get (by rw [size_put, size_put]; omega) fun i hi => ?_)
    rw [gp i (by omega) (by omega), k8 i (by omega) (by omega) (by omega) (by omega), o07.get hi]
  · have gX8 : m8.get xb = some (.cells false true [.slice none 0 0]) := gX8
    have gK8 : m8.get kb = some (.cells false true [.bool false]) := gK8
    have rx := get_at0 gX8
    have rk := get_at0 gK8
    simp (decide := true) (implicitDefEqProofs := false) (maxDischargeDepth := 20) only [go_sem, f2, f3, rx, rk, ↓reduceIte, true_implies, false_implies]
    refine fin _ _ hp hs (.inr ⟨hno, rfl⟩) (.of_get (by omega) fun i hi => ?_)
    rw [k8 i (by omega) (by omega) (by omega) (by omega), o07.get hi]

end Go.Proofs.Ytjmppooebppecaa.W
