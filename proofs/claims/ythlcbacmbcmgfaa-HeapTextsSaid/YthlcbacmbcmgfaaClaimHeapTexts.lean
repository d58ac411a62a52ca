/-
  The law HeapTexts: the call returns true, for all arguments (no condition).
-/
import Derived.Test.YthlcbacmbcmgfaaHeapU
import Derived.WalkKit
import Derived.ProofKit
import Derived.OpenShut
namespace Go.Proofs.Ythlcbacmbcmgfaa.heapTexts
open Go.ChangeShapes Go.WideShapes Go.ChangeAt Go.RowKit Go.Abs
set_option linter.unusedVariables false

theorem own : ownKnob Try.prog.godebug = none := by kernel_rfl
theorem kids : Kids Try.prog (· < Try.prog.types.size) := kids_rows (by kernel_rfl) (by kernel_rfl)
theorem full : ∀ t e, t < Try.prog.types.size → Try.prog.underlying t = some (.slice e) → 0 < Try.prog.cellsOf e := slices_full_of Try.prog (by kernel_rfl)
theorem smallB : ([46, 42].all fun t => decide (t < Try.prog.types.size)) = true := by kernel_rfl
theorem small : ∀ t ∈ [46, 42], t < Try.prog.types.size := fun t ht => of_decide_eq_true (List.all_eq_true.1 smallB t ht)
theorem takenB : ([46, 42].all fun t => plainB Try.prog 6 t) = true := by kernel_rfl
theorem taken : ∀ t ∈ [46, 42], ∃ n, plainB Try.prog n t = true := fun t ht => ⟨6, List.all_eq_true.1 takenB t ht⟩
theorem cells4 : Try.prog.cellsOf 4 = 1 := by kernel_rfl
theorem cells9 : Try.prog.cellsOf 9 = 1 := by kernel_rfl

theorem law (m : Mem) (av : List Value) (hro : ∀ i c, m.get i = some c → c.writable = false) (hlen : av.length = 2)
    (hwf : ∀ (i : Nat) t a, [46, 42][i]? = some t → av[i]? = some a → ∃ n, Wf Try.prog m n t [a]) : CallX Try.prog Go.Proofs.Ythlcbacmbcmgfaa.W.tab 6 av m := by
  obtain ⟨x0, x1, rfl⟩ : ∃ x0 x1, av = [x0, x1] := by
    match av, hlen with
    | [x0, x1], _ => exact ⟨x0, x1, rfl⟩
  obtain ⟨n0, h0⟩ := hwf 0 46 x0 rfl rfl
  obtain ⟨n1, h1⟩ := hwf 1 42 x1 rfl rfl
  obtain ⟨a0, l0, c0, xs0, rfl, s0, e0⟩ := W.Wf_strs Try.underlying46 Try.underlying9 cells9 h0
  obtain ⟨a1, l1, c1, xs1, rfl, s1, e1⟩ := Wf.bools Try.underlying42 Try.underlying4 cells4 h1
  exact W.HeapTexts_law m hro a0 l0 c0 xs0 s0 e0 a1 l1 c1 xs1 s1 e1

set_option maxRecDepth 100000 in
theorem lifted (os : Os) (started : os.Started) (H : Type) (enc : TypeId × Value → H) :
    ReturnsInHanded {} Try.checked os 6 .any (Rows.heapTextsSpec.pre6 enc Try.prog Try.f6 Rows.heapTextsRow.domain false) (Rows.heapTextsSpec.post enc Try.prog Try.f6 false true false false) := by
  refine returnsInHanded_of_change (C := Try.checked) own started (by kernel_rfl) Try.func6
    (ChangeSpec.witness6 (enc := enc) (C := Try.checked) false ⟨#[], #[.slice none 0 0, .slice none 0 0], []⟩ 8 (by kernel_rfl) (by kernel_rfl) (by kernel_rfl) (by kernel_rfl)) ?_
  intro W base args ds gs before hval0 hW hcnd _
  have hval : ∀ (j : Nat) t v, Try.f6.params[j]? = some t → args[j]? = some v → Value.okWide Try.prog W .any base t v := hval0
  have hW' := hW
  obtain ⟨p, q, hA0, hV, rfl, hfz, hnd⟩ := hW
  have hA : DataW.TrodAll enc Try.prog W 0 (fun _ => true) true Try.f6.params.toList args.toList ds p := hA0
  rw [Try.params6] at hA hval
  have hA2 := hA
  obtain ⟨v0, vs0, d0, ds0, p0, q0, hargs, rfl, rfl, h0, r0⟩ := trodAll_cons hA
  obtain ⟨v1, vs1, d1, ds1, p1, q1, rfl, rfl, rfl, h1, r1⟩ := trodAll_cons r0
  obtain ⟨rfl, rfl, rfl⟩ := trodAll_nil r1
  obtain rfl : args = #[v0, v1] := by cases args; simp_all
  obtain ⟨rfl, rfl⟩ := trodVars_none hV
  simp only [List.append_nil] at hW'
  have hone : ∀ v ∈ [v0, v1], OneArg v := by
    intro v hv
    simp only [List.mem_cons, List.not_mem_nil, or_false] at hv
    rcases hv with e | e
    · rw [e]; exact oneArg_slice Try.underlying46 (hval 0 46 v0 rfl rfl)
    · rw [e]; exact oneArg_slice Try.underlying42 (hval 1 42 v1 rfl rfl)
  refine (calls_of_argsX (T := Go.Proofs.Ythlcbacmbcmgfaa.W.tab) (plain_of Try.prog) hA2 taken hone law).mono fun e W' ⟨he, hg⟩ => ?_
  subst he
  exact ⟨_, rfl, post_of_kept (pa := _) (pv := []) hW' (fun _ _ _ => (trodAll_cons_mk (shut_bool Try.underlying4 _) trodAll_mk0)) (fun sp hs => trodAll_kept kids (fun h1 h2 => full _ _ h1 h2) hg small hA2 (kept_same hg fun p hp => hW'.lt p (by simpa using hp)) sp (fun p hp => hs p (by simpa using hp))) (fun _ _ => rfl) (by simp) hg
    (ok_one (by kernel_rfl) rfl (okWide_bool_mk Try.underlying4 _))⟩

theorem over : Rows.heapTextsRow.holds Try.pinned (OpenSpec.ofChange Rows.heapTextsSpec) :=
  OpenClaim.holds_of_wide 6 Try.f6 rfl rfl rfl rfl rfl rfl rfl ⟨rfl, rfl, rfl, rfl, rfl⟩ rfl rfl rfl rfl rfl (by kernel_rfl) Try.func6 (by kernel_rfl)
    (of_decide_eq_true (by kernel_rfl)) (by unfold Func.isWrapper; first | (rw [if_pos (by decide +kernel)]; kernel_rfl) | (rw [if_neg (by decide +kernel)]; exact ⟨rfl, rfl⟩))
    (fun os started H enc _ => lifted os started H enc)

/-- ████ THE STATEMENT ████ -/
theorem proved : Rows.HeapTextsSaid :=
  over
#print axioms proved
end Go.Proofs.Ythlcbacmbcmgfaa.heapTexts
