/-
  The executor's knowledge, the closed laws among it: calls of them are not walked again.
-/
import Derived.Test.YthlcbacmbcmgfaaEnv
namespace Go.Proofs.Ythlcbacmbcmgfaa.W
open Go.Abs

def answer (o : Option Out) : Bool :=
  match o with
  | some o => match o.t.getD 0 undef with
    | .bool b => b
    | _ => false
  | none => false

set_option maxRecDepth 1000000 in
theorem ran3 : answer (run Go.Proofs.Ythlcbacmbcmgfaa.E 3000 (.call 3 #[]) ⟨[]⟩) = true := by kernel_rfl
set_option maxRecDepth 1000000 in
theorem ran8 : answer (run Go.Proofs.Ythlcbacmbcmgfaa.E 3000 (.call 8 #[]) ⟨[]⟩) = true := by kernel_rfl

theorem known {k : FuncId} {n : Nat} (h : answer (run Go.Proofs.Ythlcbacmbcmgfaa.E n (.call k #[]) ⟨[]⟩) = true) : Known Try.prog k (.bool true) := by
  unfold answer at h
  split at h
  · rename_i o ho
    split at h
    · rename_i b hb
      subst h
      exact known_closed (x := o.x) (t := o.t) (m := o.m) Go.Proofs.Ythlcbacmbcmgfaa.facts ho hb
    · cases h
  · cases h

def tab : Tab := ⟨Go.Proofs.Ythlcbacmbcmgfaa.tab.ord, Go.Proofs.Ythlcbacmbcmgfaa.tab.prot, Go.Proofs.Ythlcbacmbcmgfaa.tab.eqs, Go.Proofs.Ythlcbacmbcmgfaa.tab.skip, Go.Proofs.Ythlcbacmbcmgfaa.tab.ext, [(3, .bool true), (8, .bool true)]⟩

noncomputable def E : Env := envOf Try.prog tab

set_option maxRecDepth 1000000 in
theorem codes : codesOk Try.prog tab = true := by kernel_rfl

theorem facts : Facts Try.prog tab where
  mixed := Go.Proofs.Ythlcbacmbcmgfaa.facts.mixed
  codes := codes
  names := Go.Proofs.Ythlcbacmbcmgfaa.facts.names
  eqs := Go.Proofs.Ythlcbacmbcmgfaa.facts.eqs
  ext := Go.Proofs.Ythlcbacmbcmgfaa.facts.ext
  closed := fun e he => by
    simp only [tab, List.mem_cons, List.not_mem_nil, or_false] at he
    rcases he with rfl | rfl
    · exact known ran3
    · exact known ran8

end Go.Proofs.Ythlcbacmbcmgfaa.W
