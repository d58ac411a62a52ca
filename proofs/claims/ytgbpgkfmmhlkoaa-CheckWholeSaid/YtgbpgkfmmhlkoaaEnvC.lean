/-
  The executor's knowledge, the closed laws among it: calls of them are not walked again.
-/
import Derived.Test.YtgbpgkfmmhlkoaaEnv
namespace Go.Proofs.Ytgbpgkfmmhlkoaa.W
open Go.Abs

def answer (o : Option Out) : Bool :=
  match o with
  | some o => match o.t.getD 0 undef with
    | .bool b => b
    | _ => false
  | none => false

set_option maxRecDepth 1000000 in
theorem ran3 : answer (run Go.Proofs.Ytgbpgkfmmhlkoaa.E 3000 (.call 3 #[]) ⟨[]⟩) = true := by kernel_rfl
set_option maxRecDepth 1000000 in
theorem ran7 : answer (run Go.Proofs.Ytgbpgkfmmhlkoaa.E 3000 (.call 7 #[]) ⟨[]⟩) = true := by kernel_rfl

theorem known {k : FuncId} {n : Nat} (h : answer (run Go.Proofs.Ytgbpgkfmmhlkoaa.E n (.call k #[]) ⟨[]⟩) = true) : Known Try.prog k (.bool true) := by
  unfold answer at h
  split at h
  · rename_i o ho
    split at h
    · rename_i b hb
      subst h
      exact known_closed (x := o.x) (t := o.t) (m := o.m) Go.Proofs.Ytgbpgkfmmhlkoaa.facts ho hb
    · cases h
  · cases h

def tab : Tab := ⟨Go.Proofs.Ytgbpgkfmmhlkoaa.tab.ord, Go.Proofs.Ytgbpgkfmmhlkoaa.tab.prot, Go.Proofs.Ytgbpgkfmmhlkoaa.tab.eqs, Go.Proofs.Ytgbpgkfmmhlkoaa.tab.skip, Go.Proofs.Ytgbpgkfmmhlkoaa.tab.ext, [(3, .bool true), (7, .bool true)]⟩

noncomputable def E : Env := envOf Try.prog tab

set_option maxRecDepth 1000000 in
theorem codes : codesOk Try.prog tab = true := by kernel_rfl

theorem facts : Facts Try.prog tab where
  mixed := Go.Proofs.Ytgbpgkfmmhlkoaa.facts.mixed
  codes := codes
  names := Go.Proofs.Ytgbpgkfmmhlkoaa.facts.names
  eqs := Go.Proofs.Ytgbpgkfmmhlkoaa.facts.eqs
  ext := Go.Proofs.Ytgbpgkfmmhlkoaa.facts.ext
  closed := fun e he => by
    simp only [tab, List.mem_cons, List.not_mem_nil, or_false] at he
    rcases he with rfl | rfl
    · exact known ran3
    · exact known ran7

end Go.Proofs.Ytgbpgkfmmhlkoaa.W
