/-
  The executor's knowledge of this seat's program.
-/
import Derived.Test.YthlcbacmbcmgfaaRows
import Derived.Test.YthlcbacmbcmgfaaAbs13
namespace Go.Proofs.Ythlcbacmbcmgfaa
open Go.Abs

def tab : Tab where
  ord := [(11, 15, [0, 2, 1, 3, 4, 5, 6, 7, 8, 9, 10, 11, 12, 13, 14, 15, 16, 17, 18]), (47, 6, [0, 2, 1, 3]), (57, 6, [0, 2, 1, 3])]
  prot := [(5, 20, 5, [3]), (11, 15, 1, [2]), (23, 6, 18, [16]), (47, 6, 1, [2]), (47, 10, 2, [0]), (47, 17, 2, [0]), (52, 3, 3, [0]), (53, 6, 18, [16]), (57, 6, 1, [2]), (57, 10, 2, [0]), (57, 17, 2, [0]), (62, 3, 3, [0]), (63, 6, 18, [16])]
  eqs := [64]
  skip := []
  ext := []
  closed := []

noncomputable def E : Env := envOf Try.prog tab

set_option maxRecDepth 1000000 in
theorem codes : codesOk Try.prog tab = true := by kernel_rfl

set_option maxRecDepth 1000000 in
theorem names : namesOk Try.prog = true := by kernel_rfl

theorem facts : Facts Try.prog tab where
  mixed := by kernel_rfl
  codes := codes
  names := names
  eqs := by kernel_rfl
  ext := fun e he => by cases he
  closed := fun e he => by cases he

end Go.Proofs.Ythlcbacmbcmgfaa
