/-
  The executor's knowledge of this seat's program.
-/
import Derived.Test.YtjmppooebppecaaRows
import Derived.Test.YtjmppooebppecaaAbs13
namespace Go.Proofs.Ytjmppooebppecaa
open Go.Abs

def tab : Tab where
  ord := [(3, 5, [0, 1, 3, 4, 2, 5, 6, 7, 8, 9, 10, 11, 12, 13]), (4, 1, [0, 2, 1, 3, 4, 5]), (9, 5, [0, 1, 3, 4, 2, 5, 6, 7]), (9, 6, [0, 1, 3, 4, 2, 5, 6, 7, 8, 9, 10, 11, 12, 13, 14, 15, 16]), (11, 6, [0, 1, 2, 3, 4, 6, 7, 8, 9, 10, 5, 11, 12, 13]), (11, 7, [0, 1, 2, 3, 4, 6, 7, 8, 9, 10, 5, 11, 12, 13]), (15, 1, [0, 2, 1, 3, 4, 5]), (15, 5, [0, 2, 1, 3, 4]), (17, 2, [0, 2, 1, 3]), (20, 1, [0, 1, 3, 4, 2, 5, 6, 7]), (20, 4, [0, 1, 2, 3, 4, 5, 6, 7, 9, 10, 8, 11, 12]), (23, 5, [0, 1, 2, 3, 4, 5, 7, 8, 9, 10, 11, 13, 14, 15, 16, 17, 18, 6, 12, 19, 20, 21, 22]), (35, 18, [0, 1, 2, 3, 4, 7, 8, 9, 5, 6, 10, 11]), (35, 19, [0, 1, 2, 3, 4, 7, 8, 9, 5, 6, 10, 11]), (42, 2, [0, 2, 1, 3]), (60, 1, [0, 2, 1, 3, 4, 5]), (60, 6, [0, 2, 1, 3, 4]), (65, 11, [0, 2, 3, 4, 1, 5])]
  prot := [(3, 5, 2, [4]), (4, 1, 1, [2]), (7, 5, 10, [3]), (8, 5, 10, [3]), (9, 5, 2, [3, 4]), (9, 6, 2, [3, 4]), (11, 6, 5, [10]), (11, 7, 5, [10]), (15, 1, 1, [2]), (15, 2, 2, [1]), (15, 5, 1, [2]), (15, 6, 2, [1]), (15, 7, 2, [1]), (17, 2, 1, [2]), (20, 1, 2, [4]), (20, 4, 8, [2, 10]), (23, 5, 6, [11, 18]), (23, 5, 12, [18]), (24, 19, 8, [0]), (33, 11, 8, [4]), (33, 12, 8, [4]), (35, 18, 5, [1, 9]), (35, 18, 6, [9]), (35, 19, 5, [1, 9]), (35, 19, 6, [9]), (36, 0, 6, [4]), (42, 2, 1, [2]), (45, 7, 4, [0]), (55, 10, 2, [0]), (55, 11, 4, [0]), (55, 12, 4, [0]), (57, 1, 7, [1, 4]), (60, 1, 1, [2]), (60, 2, 2, [1]), (60, 6, 1, [2]), (60, 8, 2, [1]), (65, 8, 6, [4]), (65, 8, 8, [4]), (65, 8, 10, [4]), (65, 8, 12, [4]), (65, 11, 1, [4])]
  eqs := [27]
  skip := []
  ext := [(54, false)]
  closed := []

noncomputable def E : Env := envOf Try.prog tab

set_option maxRecDepth 1000000 in
theorem codes : codesOk Try.prog tab = true := by kernel_rfl

set_option maxRecDepth 1000000 in
theorem names : namesOk Try.prog = true := by kernel_rfl

theorem ext54 : ExtIs Try.prog 54 false := ⟨_, Try.func54, by kernel_rfl, by kernel_rfl, by kernel_rfl, by kernel_rfl⟩

theorem facts : Facts Try.prog tab where
  mixed := by kernel_rfl
  codes := codes
  names := names
  eqs := by kernel_rfl
  ext := fun e he => by
    simp only [tab, List.mem_cons, List.not_mem_nil, or_false] at he
    subst he; exact ext54
  closed := fun e he => by cases he

end Go.Proofs.Ytjmppooebppecaa
