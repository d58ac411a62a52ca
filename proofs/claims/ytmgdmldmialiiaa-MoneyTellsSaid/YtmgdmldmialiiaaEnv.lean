/-
  The executor's knowledge of this seat's program.
-/
import Derived.Test.YtmgdmldmialiiaaRows
import Derived.Test.YtmgdmldmialiiaaAbs13
namespace Go.Proofs.Ytmgdmldmialiiaa
open Go.Abs

def tab : Tab where
  ord := [(9, 14, [0, 1, 2, 3, 4, 5, 6, 7, 8, 9, 10, 11, 12, 13, 14, 15, 16, 17, 18, 19, 20, 22, 21, 23, 24, 25, 26, 27, 28, 29, 30, 31, 32, 33, 34, 35, 36, 37, 38]), (11, 8, [0, 1, 2, 3, 4, 5, 6, 7, 8, 9, 10, 11, 12, 13, 14, 15, 16, 17, 18, 20, 21, 19, 22, 23, 24, 25, 26, 27, 28, 29, 30, 31]), (11, 14, [0, 1, 2, 3, 4, 5, 6, 7, 9, 8, 10, 11, 12, 13, 14, 15, 16, 17, 18, 19, 20, 21, 22, 25, 26, 23, 24, 27, 28, 29, 30, 31, 32, 33]), (12, 7, [0, 1, 2, 3, 4, 5, 6, 7, 8, 9, 10, 11, 12, 13, 14, 15, 16, 17, 18, 19, 20, 21, 22, 23, 24, 25, 26, 27, 28, 29, 30, 31, 32, 33, 34, 35, 36, 37, 38, 39, 41, 42, 40, 43, 44, 45, 46, 47, 48, 49]), (13, 10, [0, 1, 2, 5, 3, 4, 6, 7, 8, 9, 10]), (15, 2, [0, 2, 1, 3]), (29, 2, [0, 2, 1, 3])]
  prot := [(5, 11, 6, [0]), (5, 12, 10, [0]), (9, 11, 5, [0]), (9, 14, 21, [22]), (11, 8, 19, [20, 21]), (11, 13, 1, [0]), (11, 13, 6, [5]), (11, 14, 8, [9]), (11, 14, 23, [25, 26]), (12, 7, 3, [0]), (12, 7, 40, [41, 42]), (13, 10, 3, [0, 5]), (13, 10, 4, [5]), (13, 10, 7, [5]), (15, 2, 1, [2]), (23, 0, 6, [4]), (29, 2, 1, [2])]
  eqs := [24]
  skip := []
  ext := [(39, false), (45, true)]
  closed := []

noncomputable def E : Env := envOf Try.prog tab

set_option maxRecDepth 1000000 in
theorem codes : codesOk Try.prog tab = true := by kernel_rfl

set_option maxRecDepth 1000000 in
theorem names : namesOk Try.prog = true := by kernel_rfl

theorem ext39 : ExtIs Try.prog 39 false := ⟨_, Try.func39, by kernel_rfl, by kernel_rfl, by kernel_rfl, by kernel_rfl⟩

theorem ext45 : ExtIs Try.prog 45 true := ⟨_, Try.func45, by kernel_rfl, by kernel_rfl, by kernel_rfl, by kernel_rfl⟩

theorem facts : Facts Try.prog tab where
  mixed := by kernel_rfl
  codes := codes
  names := names
  eqs := by kernel_rfl
  ext := fun e he => by
    simp only [tab, List.mem_cons, List.not_mem_nil, or_false] at he
    rcases he with rfl | rfl
    · exact ext39
    · exact ext45
  closed := fun e he => by cases he

end Go.Proofs.Ytmgdmldmialiiaa
