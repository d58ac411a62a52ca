/-
  The law PairKey: the call returns true, for all arguments (no condition).
-/
import Derived.Test.YtjmppooebppecaaPairD
import Derived.Test.YtjmppooebppecaaAbs27
import Derived.WalkKit
import Derived.ProofKit
import Derived.OpenShut
namespace Go.Proofs.Ytjmppooebppecaa.pairKey
open Go.ChangeShapes Go.WideShapes Go.ChangeAt Go.RowKit Go.Abs
set_option linter.unusedVariables false

theorem own : ownKnob Try.prog.godebug = none := by kernel_rfl
theorem kids : Kids Try.prog (· < Try.prog.types.size) := kids_rows (by kernel_rfl) (by kernel_rfl)
theorem full : ∀ t e, t < Try.prog.types.size → Try.prog.underlying t = some (.slice e) → 0 < Try.prog.cellsOf e := slices_full_of Try.prog (by kernel_rfl)
theorem smallB : ([37, 37].all fun t => decide (t < Try.prog.types.size)) = true := by kernel_rfl
theorem small : ∀ t ∈ [37, 37], t < Try.prog.types.size := fun t ht => of_decide_eq_true (List.all_eq_true.1 smallB t ht)
theorem takenB : ([37, 37].all fun t => plainB Try.prog 6 t) = true := by kernel_rfl
theorem taken : ∀ t ∈ [37, 37], ∃ n, plainB Try.prog n t = true := fun t ht => ⟨6, List.all_eq_true.1 takenB t ht⟩

set_option maxRecDepth 100000 in
theorem law (m : Mem) (av : List Value) (hro : ∀ i c, m.get i = some c → c.writable = false) (hlen : av.length = 2)
    (hwf : ∀ (i : Nat) t a, [37, 37][i]? = some t → av[i]? = some a → ArgWf Try.prog m t a) : CallQ (envOf Try.prog Go.Proofs.Ytjmppooebppecaa.W.tab) 4 av.toArray m fun v _ => v = .bool true := by
  obtain ⟨x0, x1, rfl⟩ : ∃ x0 x1, av = [x0, x1] := by
    match av, hlen with
    | [x0, x1], _ => exact ⟨x0, x1, rfl⟩
  have h0 := hwf 0 37 x0 rfl rfl
  have h1 := hwf 1 37 x1 rfl rfl
  obtain ⟨zs0, rfl, e0, w0⟩ := h0.struct Try.underlying37 (by kernel_rfl) (by rfl)
  obtain ⟨zs1, rfl, e1, w1⟩ := h1.struct Try.underlying37 (by kernel_rfl) (by rfl)
  exact W.PairKey_law m hro zs0 e0 (fun x hx => wf_i64 (w0 x hx)) zs1 e1 (fun x hx => wf_i64 (w1 x hx))

set_option maxRecDepth 100000 in
theorem lifted (os : Os) (started : os.Started) (H : Type) (enc : TypeId × Value → H) :
    ReturnsInHanded {} Try.checked os 4 .any (Rows.pairKeySpec.pre6 enc Try.prog Try.f4 Rows.pairKeyRow.domain false) (Rows.pairKeySpec.post enc Try.prog Try.f4 false true false false) := by
  refine returnsInHanded_of_change (C := Try.checked) own started (by kernel_rfl) Try.func4
    (ChangeSpec.witness6 (enc := enc) (C := Try.checked) false ⟨#[], #[.agg #[.int .i64 0, .int .i64 0, .int .i64 0, .int .i64 0, .int .i64 0, .int .i64 0, .int .i64 0], .agg #[.int .i64 0, .int .i64 0, .int .i64 0, .int .i64 0, .int .i64 0, .int .i64 0, .int .i64 0]], []⟩ 8 (by kernel_rfl) (by kernel_rfl) (by kernel_rfl) (by kernel_rfl)) ?_
  intro W base args ds gs before hval0 hW hcnd _
  have hval : ∀ (j : Nat) t v, Try.f4.params[j]? = some t → args[j]? = some v → Value.okWide Try.prog W .any base t v := hval0
  have hW' := hW
  obtain ⟨p, q, hA0, hV, rfl, hfz, hnd⟩ := hW
  have hA : DataW.TrodAll enc Try.prog W 0 (fun _ => true) true Try.f4.params.toList args.toList ds p := hA0
  rw [Try.params4] at hA hval
  have hA2 := hA
  obtain ⟨v0, vs0, d0, ds0, p0, q0, hargs, rfl, rfl, h0, r0⟩ := trodAll_cons hA
  obtain ⟨v1, vs1, d1, ds1, p1, q1, rfl, rfl, rfl, h1, r1⟩ := trodAll_cons r0
  obtain ⟨rfl, rfl, rfl⟩ := trodAll_nil r1
  obtain rfl : args = #[v0, v1] := by cases args; simp_all
  obtain ⟨rfl, rfl⟩ := trodVars_none hV
  simp only [List.append_nil] at hW'
  have hflat : ∀ (i : Nat) (t : TypeId) (v : Value), [37, 37][i]? = some t → [v0, v1][i]? = some v → FlatArg Try.prog t v
  | 0, t, v, ht, hv => by
    obtain rfl : 37 = t := Option.some.inj ht
    obtain rfl : v0 = v := Option.some.inj hv
    exact flatArg_struct Try.underlying37 (by kernel_rfl) (hval 0 37 v0 rfl rfl)
  | 1, t, v, ht, hv => by
    obtain rfl : 37 = t := Option.some.inj ht
    obtain rfl : v1 = v := Option.some.inj hv
    exact flatArg_struct Try.underlying37 (by kernel_rfl) (hval 1 37 v1 rfl rfl)
  | k + 2, t, v, ht, hv => by simp at ht
  refine (calls_of_args2 Go.Proofs.Ytjmppooebppecaa.W.facts (plain_of Try.prog) hA2 taken hflat law).mono fun e W' ⟨he, hg⟩ => ?_
  subst he
  exact ⟨_, rfl, post_of_kept (pa := _) (pv := []) hW' (fun _ _ _ => (trodAll_cons_mk (shut_bool Try.underlying4 _) trodAll_mk0)) (fun sp hs => trodAll_kept kids (fun h1 h2 => full _ _ h1 h2) hg small hA2 (kept_same hg fun p hp => hW'.lt p (by simpa using hp)) sp (fun p hp => hs p (by simpa using hp))) (fun _ _ => rfl) (by simp) hg
    (ok_one (by kernel_rfl) rfl (okWide_bool_mk Try.underlying4 _))⟩

theorem over : Rows.pairKeyRow.holds Try.pinned (OpenSpec.ofChange Rows.pairKeySpec) :=
  OpenClaim.holds_of_wide 4 Try.f4 rfl rfl rfl rfl rfl rfl rfl ⟨rfl, rfl, rfl, rfl, rfl⟩ rfl rfl rfl rfl rfl (by kernel_rfl) Try.func4 (by kernel_rfl)
    (of_decide_eq_true (by kernel_rfl)) (by unfold Func.isWrapper; first | (rw [if_pos (by decide +kernel)]; kernel_rfl) | (rw [if_neg (by decide +kernel)]; exact ⟨rfl, rfl⟩))
    (fun os started H enc _ => lifted os started H enc)

/-- ████ THE STATEMENT ████ -/
theorem proved : Rows.PairKeySaid :=
  over
#print axioms proved
end Go.Proofs.Ytjmppooebppecaa.pairKey
