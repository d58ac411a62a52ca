/-
  The executor's knowledge of this seat's program.
-/
import Derived.Test.YtgbpgkfmmhlkoaaRows
import Derived.Test.YtgbpgkfmmhlkoaaAbs13
namespace Go.Proofs.Ytgbpgkfmmhlkoaa
open Go.Abs

def tab : Tab where
  ord := [(6, 30, [0, 3, 4, 5, 1, 2, 6, 7, 8, 9, 10, 11]), (13, 7, [0, 1, 3, 2, 4, 5, 6])]
  prot := [(6, 30, 1, [5]), (13, 7, 2, [3]), (48, 1, 3, [0]), (62, 3, 3, [0]), (66, 3, 3, [0]), (67, 3, 3, [0])]
  eqs := []
  skip := []
  ext := []
  closed := []

noncomputable def E : Env := envOf Try.prog tab

set_option maxRecDepth 1000000 in
theorem codes : codesOk Try.prog tab = true := by kernel_rfl

set_option maxRecDepth 1000000 in
theorem names : namesOk Try.prog = true := by kernel_rfl

theorem facts : Facts Try.prog tab where
  mixed := by kernel_rfl
  codes := codes
  names := names
  eqs := by kernel_rfl
  ext := fun e he => by cases he
  closed := fun e he => by cases he

end Go.Proofs.Ytgbpgkfmmhlkoaa
