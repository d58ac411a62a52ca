/-
  The executor's knowledge of this seat's program.
-/
import Derived.Test.YtjkekcihhmiegaaRows
import Derived.Test.YtjkekcihhmiegaaAbs13
namespace Go.Proofs.Ytjkekcihhmiegaa
open Go.Abs

def tab : Tab where
  ord := [(3, 5, [0, 1, 3, 4, 2, 5, 6, 7, 8, 9, 10, 11, 12, 13]), (4, 1, [0, 2, 1, 3, 4, 5]), (5, 5, [0, 1, 3, 4, 2, 5, 6, 7]), (5, 6, [0, 1, 3, 4, 2, 5, 6, 7, 8, 9, 10, 11, 12, 13, 14, 15, 16]), (14, 6, [0, 1, 2, 3, 4, 6, 7, 8, 9, 10, 5, 11, 12, 13]), (14, 7, [0, 1, 2, 3, 4, 6, 7, 8, 9, 10, 5, 11, 12, 13]), (15, 1, [0, 2, 1, 3, 4, 5]), (15, 5, [0, 2, 1, 3, 4]), (17, 2, [0, 2, 1, 3]), (20, 1, [0, 1, 3, 4, 2, 5, 6, 7]), (20, 4, [0, 1, 2, 3, 4, 5, 6, 7, 9, 10, 8, 11, 12]), (26, 18, [0, 1, 2, 3, 4, 7, 8, 9, 5, 6, 10, 11]), (26, 19, [0, 1, 2, 3, 4, 7, 8, 9, 5, 6, 10, 11]), (32, 5, [0, 1, 2, 3, 4, 5, 7, 8, 9, 10, 11, 13, 14, 15, 16, 17, 18, 6, 12, 19, 20, 21, 22]), (47, 1, [0, 2, 1, 3, 4, 5]), (47, 6, [0, 2, 1, 3, 4]), (48, 2, [0, 2, 1, 3]), (63, 11, [0, 2, 3, 4, 1, 5])]
  prot := [(3, 5, 2, [4]), (4, 1, 1, [2]), (5, 5, 2, [3, 4]), (5, 6, 2, [3, 4]), (11, 5, 10, [3]), (12, 5, 10, [3]), (14, 6, 5, [10]), (14, 7, 5, [10]), (15, 1, 1, [2]), (15, 2, 2, [1]), (15, 5, 1, [2]), (15, 6, 2, [1]), (15, 7, 2, [1]), (17, 2, 1, [2]), (20, 1, 2, [4]), (20, 4, 8, [2, 10]), (26, 18, 5, [1, 9]), (26, 18, 6, [9]), (26, 19, 5, [1, 9]), (26, 19, 6, [9]), (29, 0, 6, [4]), (32, 5, 6, [11, 18]), (32, 5, 12, [18]), (33, 19, 8, [0]), (47, 1, 1, [2]), (47, 2, 2, [1]), (47, 6, 1, [2]), (47, 8, 2, [1]), (48, 2, 1, [2]), (51, 7, 4, [0]), (57, 10, 2, [0]), (57, 11, 4, [0]), (57, 12, 4, [0]), (59, 1, 7, [1, 4]), (63, 8, 6, [4]), (63, 8, 8, [4]), (63, 8, 10, [4]), (63, 8, 12, [4]), (63, 11, 1, [4])]
  eqs := [27]
  skip := [37]
  ext := [(43, false)]

noncomputable def E : Env := envOf Try.prog tab

set_option maxRecDepth 1000000 in
theorem codes : codesOk Try.prog tab = true := by kernel_rfl

set_option maxRecDepth 1000000 in
theorem names : namesOk Try.prog = true := by kernel_rfl

theorem ext43 : ExtIs Try.prog 43 false := ⟨_, Try.func43, by kernel_rfl, by kernel_rfl, by kernel_rfl, by kernel_rfl⟩

theorem facts : Facts Try.prog tab where
  mixed := by kernel_rfl
  codes := codes
  names := names
  eqs := by kernel_rfl
  ext := fun e he => by
    simp only [tab, List.mem_cons, List.not_mem_nil, or_false] at he
    subst he; exact ext43

end Go.Proofs.Ytjkekcihhmiegaa
