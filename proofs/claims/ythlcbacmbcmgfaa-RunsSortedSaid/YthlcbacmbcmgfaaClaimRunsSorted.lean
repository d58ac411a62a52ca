/-
  The law RunsSorted: the call returns true, for all arguments (no condition).
-/
import Derived.Test.YthlcbacmbcmgfaaRunsO
import Derived.WalkKit
import Derived.ProofKit
import Derived.OpenShut
namespace Go.Proofs.Ythlcbacmbcmgfaa.runsSorted
open Go.ChangeShapes Go.WideShapes Go.ChangeAt Go.RowKit Go.Abs
set_option linter.unusedVariables false

theorem own : ownKnob Try.prog.godebug = none := by kernel_rfl
theorem kids : Kids Try.prog (· < Try.prog.types.size) := kids_rows (by kernel_rfl) (by kernel_rfl)
theorem full : ∀ t e, t < Try.prog.types.size → Try.prog.underlying t = some (.slice e) → 0 < Try.prog.cellsOf e := slices_full_of Try.prog (by kernel_rfl)
theorem smallB : ([25, 3].all fun t => decide (t < Try.prog.types.size)) = true := by kernel_rfl
theorem small : ∀ t ∈ [25, 3], t < Try.prog.types.size := fun t ht => of_decide_eq_true (List.all_eq_true.1 smallB t ht)
theorem takenB : ([25, 3].all fun t => plainB Try.prog 6 t) = true := by kernel_rfl
theorem taken : ∀ t ∈ [25, 3], ∃ n, plainB Try.prog n t = true := fun t ht => ⟨6, List.all_eq_true.1 takenB t ht⟩
theorem cells3 : Try.prog.cellsOf 3 = 1 := by kernel_rfl

theorem law (m : Mem) (av : List Value) (hro : ∀ i c, m.get i = some c → c.writable = false) (hlen : av.length = 2)
    (hwf : ∀ (i : Nat) t a, [25, 3][i]? = some t → av[i]? = some a → ∃ n, Wf Try.prog m n t [a]) : CallX Try.prog Go.Proofs.Ythlcbacmbcmgfaa.W.tab 10 av m := by
  obtain ⟨x0, x1, rfl⟩ : ∃ x0 x1, av = [x0, x1] := by
    match av, hlen with
    | [x0, x1], _ => exact ⟨x0, x1, rfl⟩
  obtain ⟨n0, h0⟩ := hwf 0 25 x0 rfl rfl
  obtain ⟨n1, h1⟩ := hwf 1 3 x1 rfl rfl
  obtain ⟨a0, l0, c0, xs0, rfl, s0, e0, w0⟩ := Wf.ints Try.underlying25 Try.underlying3 cells3 h0
  obtain ⟨z1, rfl, w1⟩ := Wf.int Try.underlying3 h1
  exact W.RunsSorted_law m hro a0 l0 c0 xs0 s0 e0 (fun x hx => wf_i64 (w0 x hx)) z1 (wf_i64 w1).1 (wf_i64 w1).2

set_option maxRecDepth 100000 in
theorem lifted (os : Os) (started : os.Started) (H : Type) (enc : TypeId × Value → H) :
    ReturnsInHanded {} Try.checked os 10 .any (Rows.runsSortedSpec.pre6 enc Try.prog Try.f10 Rows.runsSortedRow.domain false) (Rows.runsSortedSpec.post enc Try.prog Try.f10 false true false false) := by
  refine returnsInHanded_of_change (C := Try.checked) own started (by kernel_rfl) Try.func10
    (ChangeSpec.witness6 (enc := enc) (C := Try.checked) false ⟨#[], #[.slice none 0 0, .int .i64 0], []⟩ 8 (by kernel_rfl) (by kernel_rfl) (by kernel_rfl) (by kernel_rfl)) ?_
  intro W base args ds gs before hval0 hW hcnd _
  have hval : ∀ (j : Nat) t v, Try.f10.params[j]? = some t → args[j]? = some v → Value.okWide Try.prog W .any base t v := hval0
  have hW' := hW
  obtain ⟨p, q, hA0, hV, rfl, hfz, hnd⟩ := hW
  have hA : DataW.TrodAll enc Try.prog W 0 (fun _ => true) true Try.f10.params.toList args.toList ds p := hA0
  rw [Try.params10] at hA hval
  have hA2 := hA
  obtain ⟨v0, vs0, d0, ds0, p0, q0, hargs, rfl, rfl, h0, r0⟩ := trodAll_cons hA
  obtain ⟨v1, vs1, d1, ds1, p1, q1, rfl, rfl, rfl, h1, r1⟩ := trodAll_cons r0
  obtain ⟨rfl, rfl, rfl⟩ := trodAll_nil r1
  obtain rfl : args = #[v0, v1] := by cases args; simp_all
  obtain ⟨rfl, rfl⟩ := trodVars_none hV
  simp only [List.append_nil] at hW'
  have hone : ∀ v ∈ [v0, v1], OneArg v := by
    intro v hv
    simp only [List.mem_cons, List.not_mem_nil, or_false] at hv
    rcases hv with e | e
    · rw [e]; exact oneArg_slice Try.underlying25 (hval 0 25 v0 rfl rfl)
    · rw [e]; exact oneArg_int Try.underlying3 (hval 1 3 v1 rfl rfl)
  refine (calls_of_argsX (T := Go.Proofs.Ythlcbacmbcmgfaa.W.tab) (plain_of Try.prog) hA2 taken hone law).mono fun e W' ⟨he, hg⟩ => ?_
  subst he
  exact ⟨_, rfl, post_of_kept (pa := _) (pv := []) hW' (fun _ _ _ => (trodAll_cons_mk (shut_bool Try.underlying4 _) trodAll_mk0)) (fun sp hs => trodAll_kept kids (fun h1 h2 => full _ _ h1 h2) hg small hA2 (kept_same hg fun p hp => hW'.lt p (by simpa using hp)) sp (fun p hp => hs p (by simpa using hp))) (fun _ _ => rfl) (by simp) hg
    (ok_one (by kernel_rfl) rfl (okWide_bool_mk Try.underlying4 _))⟩

theorem over : Rows.runsSortedRow.holds Try.pinned (OpenSpec.ofChange Rows.runsSortedSpec) :=
  OpenClaim.holds_of_wide 10 Try.f10 rfl rfl rfl rfl rfl rfl rfl ⟨rfl, rfl, rfl, rfl, rfl⟩ rfl rfl rfl rfl rfl (by kernel_rfl) Try.func10 (by kernel_rfl)
    (of_decide_eq_true (by kernel_rfl)) (by unfold Func.isWrapper; first | (rw [if_pos (by decide +kernel)]; kernel_rfl) | (rw [if_neg (by decide +kernel)]; exact ⟨rfl, rfl⟩))
    (fun os started H enc _ => lifted os started H enc)

/-- ████ THE STATEMENT ████ -/
theorem proved : Rows.RunsSortedSaid :=
  over
#print axioms proved
end Go.Proofs.Ythlcbacmbcmgfaa.runsSorted
