/-
  The executor's knowledge of this seat's program.
-/
import Derived.Test.YtkbjkmhmkefckaaRows
import Derived.Test.YtkbjkmhmkefckaaAbs13
namespace Go.Proofs.Ytkbjkmhmkefckaa
open Go.Abs

def tab : Tab where
  ord := []
  prot := []
  eqs := []
  skip := []
  ext := []
  closed := []

noncomputable def E : Env := envOf Try.prog tab

set_option maxRecDepth 1000000 in
theorem codes : codesOk Try.prog tab = true := by kernel_rfl

set_option maxRecDepth 1000000 in
theorem names : namesOk Try.prog = true := by kernel_rfl

theorem facts : Facts Try.prog tab where
  mixed := by kernel_rfl
  codes := codes
  names := names
  eqs := by kernel_rfl
  ext := fun e he => by cases he
  closed := fun e he => by cases he

end Go.Proofs.Ytkbjkmhmkefckaa
