/-
  The executor's knowledge of this seat's program.
-/
import Derived.Test.YtokkjdlnbccojaaRows
import Derived.Test.YtokkjdlnbccojaaAbs13
namespace Go.Proofs.Ytokkjdlnbccojaa
open Go.Abs

def tab : Tab where
  ord := [(5, 9, [0, 2, 1, 3, 4]), (7, 12, [0, 1, 2, 3, 4, 5, 6, 7, 8, 9, 11, 14, 15, 16, 17, 18, 19, 20, 21, 22, 10, 12, 13, 23, 24, 25, 26, 27, 28, 29])]
  prot := [(5, 9, 1, [2]), (7, 12, 10, [17, 22]), (7, 12, 12, [17, 22])]
  eqs := []
  skip := []
  ext := []
  closed := []

noncomputable def E : Env := envOf Try.prog tab

set_option maxRecDepth 1000000 in
theorem codes : codesOk Try.prog tab = true := by kernel_rfl

set_option maxRecDepth 1000000 in
theorem names : namesOk Try.prog = true := by kernel_rfl

theorem facts : Facts Try.prog tab where
  mixed := by kernel_rfl
  codes := codes
  names := names
  eqs := by kernel_rfl
  ext := fun e he => by cases he
  closed := fun e he => by cases he

end Go.Proofs.Ytokkjdlnbccojaa
