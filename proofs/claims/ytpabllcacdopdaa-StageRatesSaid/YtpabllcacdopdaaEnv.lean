/-
  The executor's knowledge of this seat's program.
-/
import Derived.Test.YtpabllcacdopdaaRows
import Derived.Test.YtpabllcacdopdaaAbs13
namespace Go.Proofs.Ytpabllcacdopdaa
open Go.Abs

def tab : Tab where
  ord := [(5, 17, [0, 2, 1, 3, 4, 5]), (6, 18, [0, 2, 1, 3, 4, 5]), (6, 20, [0, 2, 1, 3, 4, 5]), (7, 24, [0, 2, 1, 3, 4]), (8, 8, [0, 2, 1, 3, 4, 5, 6, 7, 8, 9]), (8, 13, [0, 1, 4, 5, 2, 3, 6, 7, 8, 9, 10, 11, 12, 13, 14]), (8, 17, [0, 1, 4, 5, 2, 3, 6, 7, 8, 9, 10, 11, 12, 13, 14]), (25, 28, [0, 1, 2, 4, 5, 3, 6, 7, 8, 9]), (25, 31, [0, 1, 3, 4, 2, 5, 6, 7]), (25, 42, [0, 1, 2, 5, 6, 7, 8, 10, 11, 12, 13, 15, 16, 18, 19, 21, 22, 3, 4, 9, 14, 17, 20, 23, 24, 25, 26, 27]), (28, 27, [0, 1, 3, 4, 5, 6, 7, 8, 9, 10, 11, 2, 12, 13, 14]), (35, 8, [0, 2, 4, 1, 3, 5, 6, 7, 8]), (35, 14, [0, 2, 3, 1, 4, 5, 6, 7, 8, 9]), (72, 2, [0, 2, 1, 3])]
  prot := [(5, 14, 7, [0]), (5, 17, 1, [2]), (6, 15, 6, [1]), (6, 18, 1, [2]), (6, 20, 1, [2]), (7, 2, 3, [1]), (7, 7, 13, [0]), (7, 24, 1, [2]), (8, 8, 1, [2]), (8, 13, 2, [5]), (8, 13, 3, [5]), (8, 17, 2, [5]), (8, 17, 3, [5]), (9, 9, 3, [0]), (25, 22, 13, [1]), (25, 28, 3, [5]), (25, 31, 2, [4]), (25, 42, 3, [6, 11, 16, 19, 22]), (25, 42, 9, [11, 16, 19, 22]), (25, 42, 14, [16, 19, 22]), (25, 42, 17, [19, 22]), (25, 42, 20, [22]), (25, 43, 5, [1]), (28, 27, 2, [5, 8, 11]), (35, 8, 1, [2, 4]), (35, 8, 3, [4]), (35, 12, 5, [3]), (35, 14, 1, [2, 3]), (62, 6, 2, [0]), (72, 2, 1, [2])]
  eqs := [83]
  skip := []
  ext := [(75, true)]
  closed := []

noncomputable def E : Env := envOf Try.prog tab

set_option maxRecDepth 1000000 in
theorem codes : codesOk Try.prog tab = true := by kernel_rfl

set_option maxRecDepth 1000000 in
theorem names : namesOk Try.prog = true := by kernel_rfl

theorem ext75 : ExtIs Try.prog 75 true := ⟨_, Try.func75, by kernel_rfl, by kernel_rfl, by kernel_rfl, by kernel_rfl⟩

theorem facts : Facts Try.prog tab where
  mixed := by kernel_rfl
  codes := codes
  names := names
  eqs := by kernel_rfl
  ext := fun e he => by
    simp only [tab, List.mem_cons, List.not_mem_nil, or_false] at he
    subst he; exact ext75
  closed := fun e he => by cases he

end Go.Proofs.Ytpabllcacdopdaa
