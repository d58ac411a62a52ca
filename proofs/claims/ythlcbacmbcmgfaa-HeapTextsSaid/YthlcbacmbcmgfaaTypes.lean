/-
  The types, printed by a program of mine (wip/dev/AbsPrint.lean).
-/
import Derived.Test.YthlcbacmbcmgfaaEnvC
import Derived.Test.YthlcbacmbcmgfaaAbs26
set_option linter.unusedSimpArgs false
set_option linter.unusedVariables false
namespace Go.Proofs.Ythlcbacmbcmgfaa.W
open Go.Abs

@[go_sem] theorem ti1 : E.ti 1 = some ⟨(.func #[] #[] false), 1, .nilFunc, 8⟩ := by kernel_rfl
@[go_sem] theorem desc1 : E.desc 1 = some (.func #[] #[] false) := by kernel_rfl
@[go_sem] theorem ti2 : E.ti 2 = some ⟨(.int .i64), 1, (.int .i64 0), 8⟩ := by kernel_rfl
@[go_sem] theorem desc2 : E.desc 2 = some (.int .i64) := by kernel_rfl
@[go_sem] theorem ti3 : E.ti 3 = some ⟨(.int .i64), 1, (.int .i64 0), 8⟩ := by kernel_rfl
@[go_sem] theorem desc3 : E.desc 3 = some (.int .i64) := by kernel_rfl
@[go_sem] theorem ti4 : E.ti 4 = some ⟨.bool, 1, (.bool false), 1⟩ := by kernel_rfl
@[go_sem] theorem desc4 : E.desc 4 = some .bool := by kernel_rfl
@[go_sem] theorem ti5 : E.ti 5 = some ⟨(.int .u8), 1, (.int .u8 0), 1⟩ := by kernel_rfl
@[go_sem] theorem desc5 : E.desc 5 = some (.int .u8) := by kernel_rfl
@[go_sem] theorem ti6 : E.ti 6 = some ⟨(.int .u8), 1, (.int .u8 0), 1⟩ := by kernel_rfl
@[go_sem] theorem desc6 : E.desc 6 = some (.int .u8) := by kernel_rfl
@[go_sem] theorem ti7 : E.ti 7 = some ⟨(.struct #[⟨"x", 2, 0, false, "", "runtime", 0⟩, ⟨"y", 3, 1, false, "", "runtime", 8⟩, ⟨"signed", 4, 2, false, "", "runtime", 16⟩, ⟨"code", 6, 3, false, "", "runtime", 17⟩]), 4, (.agg #[(.int .i64 0), (.int .i64 0), (.bool false), (.int .u8 0)]), 24⟩ := by kernel_rfl
@[go_sem] theorem desc7 : E.desc 7 = some (.struct #[⟨"x", 2, 0, false, "", "runtime", 0⟩, ⟨"y", 3, 1, false, "", "runtime", 8⟩, ⟨"signed", 4, 2, false, "", "runtime", 16⟩, ⟨"code", 6, 3, false, "", "runtime", 17⟩]) := by kernel_rfl
@[go_sem] theorem ti8 : E.ti 8 = some ⟨(.struct #[⟨"x", 2, 0, false, "", "runtime", 0⟩, ⟨"y", 3, 1, false, "", "runtime", 8⟩, ⟨"signed", 4, 2, false, "", "runtime", 16⟩, ⟨"code", 6, 3, false, "", "runtime", 17⟩]), 4, (.agg #[(.int .i64 0), (.int .i64 0), (.bool false), (.int .u8 0)]), 24⟩ := by kernel_rfl
@[go_sem] theorem desc8 : E.desc 8 = some (.struct #[⟨"x", 2, 0, false, "", "runtime", 0⟩, ⟨"y", 3, 1, false, "", "runtime", 8⟩, ⟨"signed", 4, 2, false, "", "runtime", 16⟩, ⟨"code", 6, 3, false, "", "runtime", 17⟩]) := by kernel_rfl
@[go_sem] theorem ti9 : E.ti 9 = some ⟨.string, 1, (.string ⟨#[]⟩), 16⟩ := by kernel_rfl
@[go_sem] theorem desc9 : E.desc 9 = some .string := by kernel_rfl
@[go_sem] theorem ti10 : E.ti 10 = some ⟨.string, 1, (.string ⟨#[]⟩), 16⟩ := by kernel_rfl
@[go_sem] theorem desc10 : E.desc 10 = some .string := by kernel_rfl
@[go_sem] theorem ti11 : E.ti 11 = some ⟨.string, 1, (.string ⟨#[]⟩), 16⟩ := by kernel_rfl
@[go_sem] theorem desc11 : E.desc 11 = some .string := by kernel_rfl
@[go_sem] theorem ti12 : E.ti 12 = some ⟨(.int .u64), 1, (.int .u64 0), 8⟩ := by kernel_rfl
@[go_sem] theorem desc12 : E.desc 12 = some (.int .u64) := by kernel_rfl
@[go_sem] theorem ti13 : E.ti 13 = some ⟨(.struct #[⟨"msg", 9, 0, false, "", "runtime", 0⟩, ⟨"addr", 12, 1, false, "", "runtime", 16⟩]), 2, (.agg #[(.string ⟨#[]⟩), (.int .u64 0)]), 24⟩ := by kernel_rfl
@[go_sem] theorem desc13 : E.desc 13 = some (.struct #[⟨"msg", 9, 0, false, "", "runtime", 0⟩, ⟨"addr", 12, 1, false, "", "runtime", 16⟩]) := by kernel_rfl
@[go_sem] theorem ti14 : E.ti 14 = some ⟨(.struct #[⟨"msg", 9, 0, false, "", "runtime", 0⟩, ⟨"addr", 12, 1, false, "", "runtime", 16⟩]), 2, (.agg #[(.string ⟨#[]⟩), (.int .u64 0)]), 24⟩ := by kernel_rfl
@[go_sem] theorem desc14 : E.desc 14 = some (.struct #[⟨"msg", 9, 0, false, "", "runtime", 0⟩, ⟨"addr", 12, 1, false, "", "runtime", 16⟩]) := by kernel_rfl
@[go_sem] theorem ti15 : E.ti 15 = some ⟨(.pointer 119), 1, (.pointer none), 8⟩ := by kernel_rfl
@[go_sem] theorem desc15 : E.desc 15 = some (.pointer 119) := by kernel_rfl
@[go_sem] theorem ti16 : E.ti 16 = some ⟨(.pointer 122), 1, (.pointer none), 8⟩ := by kernel_rfl
@[go_sem] theorem desc16 : E.desc 16 = some (.pointer 122) := by kernel_rfl
@[go_sem] theorem ti17 : E.ti 17 = some ⟨(.pointer 131), 1, (.pointer none), 8⟩ := by kernel_rfl
@[go_sem] theorem desc17 : E.desc 17 = some (.pointer 131) := by kernel_rfl
@[go_sem] theorem ti18 : E.ti 18 = some ⟨(.struct #[⟨"typ", 17, 0, false, "", "internal/runtime/maps", 0⟩]), 1, (.agg #[(.pointer none)]), 8⟩ := by kernel_rfl
@[go_sem] theorem desc18 : E.desc 18 = some (.struct #[⟨"typ", 17, 0, false, "", "internal/runtime/maps", 0⟩]) := by kernel_rfl
@[go_sem] theorem ti19 : E.ti 19 = some ⟨(.struct #[⟨"typ", 17, 0, false, "", "internal/runtime/maps", 0⟩]), 1, (.agg #[(.pointer none)]), 8⟩ := by kernel_rfl
@[go_sem] theorem desc19 : E.desc 19 = some (.struct #[⟨"typ", 17, 0, false, "", "internal/runtime/maps", 0⟩]) := by kernel_rfl
@[go_sem] theorem ti21 : E.ti 21 = some ⟨(.int .i32), 1, (.int .i32 0), 4⟩ := by kernel_rfl
@[go_sem] theorem desc21 : E.desc 21 = some (.int .i32) := by kernel_rfl
@[go_sem] theorem ti22 : E.ti 22 = some ⟨(.pointer 86), 1, (.pointer none), 8⟩ := by kernel_rfl
@[go_sem] theorem desc22 : E.desc 22 = some (.pointer 86) := by kernel_rfl
@[go_sem] theorem ti23 : E.ti 23 = some ⟨(.func #[24] #[22] false), 1, .nilFunc, 8⟩ := by kernel_rfl
@[go_sem] theorem desc23 : E.desc 23 = some (.func #[24] #[22] false) := by kernel_rfl
@[go_sem] theorem ti24 : E.ti 24 = some ⟨(.func #[3, 3] #[4] false), 1, .nilFunc, 8⟩ := by kernel_rfl
@[go_sem] theorem desc24 : E.desc 24 = some (.func #[3, 3] #[4] false) := by kernel_rfl
@[go_sem] theorem ti25 : E.ti 25 = some ⟨(.slice 3), 1, (.slice none 0 0), 24⟩ := by kernel_rfl
@[go_sem] theorem desc25 : E.desc 25 = some (.slice 3) := by kernel_rfl
@[go_sem] theorem ti26 : E.ti 26 = some ⟨(.func #[3] #[] false), 1, .nilFunc, 8⟩ := by kernel_rfl
@[go_sem] theorem desc26 : E.desc 26 = some (.func #[3] #[] false) := by kernel_rfl
@[go_sem] theorem ti28 : E.ti 28 = some ⟨(.func #[] #[3, 4] false), 1, .nilFunc, 8⟩ := by kernel_rfl
@[go_sem] theorem desc28 : E.desc 28 = some (.func #[] #[3, 4] false) := by kernel_rfl
@[go_sem] theorem ti29 : E.ti 29 = some ⟨(.func #[25, 25] #[4] false), 1, .nilFunc, 8⟩ := by kernel_rfl
@[go_sem] theorem desc29 : E.desc 29 = some (.func #[25, 25] #[4] false) := by kernel_rfl
@[go_sem] theorem ti30 : E.ti 30 = some ⟨(.func #[] #[3] false), 1, .nilFunc, 8⟩ := by kernel_rfl
@[go_sem] theorem desc30 : E.desc 30 = some (.func #[] #[3] false) := by kernel_rfl
@[go_sem] theorem ti31 : E.ti 31 = some ⟨(.func #[] #[4] false), 1, .nilFunc, 8⟩ := by kernel_rfl
@[go_sem] theorem desc31 : E.desc 31 = some (.func #[] #[4] false) := by kernel_rfl
@[go_sem] theorem ti32 : E.ti 32 = some ⟨(.slice 34), 1, (.slice none 0 0), 24⟩ := by kernel_rfl
@[go_sem] theorem desc32 : E.desc 32 = some (.slice 34) := by kernel_rfl
@[go_sem] theorem ti33 : E.ti 33 = some ⟨(.struct #[⟨"Kind", 3, 0, false, "", "", 0⟩, ⟨"X", 3, 1, false, "", "", 8⟩]), 2, (.agg #[(.int .i64 0), (.int .i64 0)]), 16⟩ := by kernel_rfl
@[go_sem] theorem desc33 : E.desc 33 = some (.struct #[⟨"Kind", 3, 0, false, "", "", 0⟩, ⟨"X", 3, 1, false, "", "", 8⟩]) := by kernel_rfl
@[go_sem] theorem ti34 : E.ti 34 = some ⟨(.struct #[⟨"Kind", 3, 0, false, "", "", 0⟩, ⟨"X", 3, 1, false, "", "", 8⟩]), 2, (.agg #[(.int .i64 0), (.int .i64 0)]), 16⟩ := by kernel_rfl
@[go_sem] theorem desc34 : E.desc 34 = some (.struct #[⟨"Kind", 3, 0, false, "", "", 0⟩, ⟨"X", 3, 1, false, "", "", 8⟩]) := by kernel_rfl
@[go_sem] theorem ti35 : E.ti 35 = some ⟨(.func #[32] #[4] false), 1, .nilFunc, 8⟩ := by kernel_rfl
@[go_sem] theorem desc35 : E.desc 35 = some (.func #[32] #[4] false) := by kernel_rfl
@[go_sem] theorem ti36 : E.ti 36 = some ⟨(.pointer 89), 1, (.pointer none), 8⟩ := by kernel_rfl
@[go_sem] theorem desc36 : E.desc 36 = some (.pointer 89) := by kernel_rfl
@[go_sem] theorem ti37 : E.ti 37 = some ⟨(.func #[40] #[36] false), 1, .nilFunc, 8⟩ := by kernel_rfl
@[go_sem] theorem desc37 : E.desc 37 = some (.func #[40] #[36] false) := by kernel_rfl
@[go_sem] theorem ti38 : E.ti 38 = some ⟨(.struct #[⟨"n", 3, 0, false, "", "sheaf/sheaflaw8", 0⟩, ⟨"mark", 3, 1, false, "", "sheaf/sheaflaw8", 8⟩]), 2, (.agg #[(.int .i64 0), (.int .i64 0)]), 16⟩ := by kernel_rfl
@[go_sem] theorem desc38 : E.desc 38 = some (.struct #[⟨"n", 3, 0, false, "", "sheaf/sheaflaw8", 0⟩, ⟨"mark", 3, 1, false, "", "sheaf/sheaflaw8", 8⟩]) := by kernel_rfl
@[go_sem] theorem ti39 : E.ti 39 = some ⟨(.struct #[⟨"n", 3, 0, false, "", "sheaf/sheaflaw8", 0⟩, ⟨"mark", 3, 1, false, "", "sheaf/sheaflaw8", 8⟩]), 2, (.agg #[(.int .i64 0), (.int .i64 0)]), 16⟩ := by kernel_rfl
@[go_sem] theorem desc39 : E.desc 39 = some (.struct #[⟨"n", 3, 0, false, "", "sheaf/sheaflaw8", 0⟩, ⟨"mark", 3, 1, false, "", "sheaf/sheaflaw8", 8⟩]) := by kernel_rfl
@[go_sem] theorem ti40 : E.ti 40 = some ⟨(.func #[39, 39] #[4] false), 1, .nilFunc, 8⟩ := by kernel_rfl
@[go_sem] theorem desc40 : E.desc 40 = some (.func #[39, 39] #[4] false) := by kernel_rfl
@[go_sem] theorem ti41 : E.ti 41 = some ⟨(.func #[39] #[] false), 1, .nilFunc, 8⟩ := by kernel_rfl
@[go_sem] theorem desc41 : E.desc 41 = some (.func #[39] #[] false) := by kernel_rfl
@[go_sem] theorem ti42 : E.ti 42 = some ⟨(.slice 4), 1, (.slice none 0 0), 24⟩ := by kernel_rfl
@[go_sem] theorem desc42 : E.desc 42 = some (.slice 4) := by kernel_rfl
@[go_sem] theorem ti44 : E.ti 44 = some ⟨(.func #[] #[39, 4] false), 1, .nilFunc, 8⟩ := by kernel_rfl
@[go_sem] theorem desc44 : E.desc 44 = some (.func #[] #[39, 4] false) := by kernel_rfl
@[go_sem] theorem ti45 : E.ti 45 = some ⟨(.func #[25, 4] #[4] false), 1, .nilFunc, 8⟩ := by kernel_rfl
@[go_sem] theorem desc45 : E.desc 45 = some (.func #[25, 4] #[4] false) := by kernel_rfl
@[go_sem] theorem ti46 : E.ti 46 = some ⟨(.slice 9), 1, (.slice none 0 0), 24⟩ := by kernel_rfl
@[go_sem] theorem desc46 : E.desc 46 = some (.slice 9) := by kernel_rfl
@[go_sem] theorem ti47 : E.ti 47 = some ⟨(.pointer 91), 1, (.pointer none), 8⟩ := by kernel_rfl
@[go_sem] theorem desc47 : E.desc 47 = some (.pointer 91) := by kernel_rfl
@[go_sem] theorem ti48 : E.ti 48 = some ⟨(.func #[49] #[47] false), 1, .nilFunc, 8⟩ := by kernel_rfl
@[go_sem] theorem desc48 : E.desc 48 = some (.func #[49] #[47] false) := by kernel_rfl
@[go_sem] theorem ti49 : E.ti 49 = some ⟨(.func #[9, 9] #[4] false), 1, .nilFunc, 8⟩ := by kernel_rfl
@[go_sem] theorem desc49 : E.desc 49 = some (.func #[9, 9] #[4] false) := by kernel_rfl
@[go_sem] theorem ti50 : E.ti 50 = some ⟨(.map 9 3), 1, (.map none), 8⟩ := by kernel_rfl
@[go_sem] theorem desc50 : E.desc 50 = some (.map 9 3) := by kernel_rfl
theorem map50 : mapD E 50 = some (9, .string, ⟨(.int .i64), 1, (.int .i64 0), 8⟩) := by kernel_rfl
@[go_sem] theorem ti51 : E.ti 51 = some ⟨(.func #[9] #[] false), 1, .nilFunc, 8⟩ := by kernel_rfl
@[go_sem] theorem desc51 : E.desc 51 = some (.func #[9] #[] false) := by kernel_rfl
@[go_sem] theorem ti53 : E.ti 53 = some ⟨(.func #[] #[9, 4] false), 1, .nilFunc, 8⟩ := by kernel_rfl
@[go_sem] theorem desc53 : E.desc 53 = some (.func #[] #[9, 4] false) := by kernel_rfl
@[go_sem] theorem ti54 : E.ti 54 = some ⟨(.func #[46, 42] #[4] false), 1, .nilFunc, 8⟩ := by kernel_rfl
@[go_sem] theorem desc54 : E.desc 54 = some (.func #[46, 42] #[4] false) := by kernel_rfl
@[go_sem] theorem ti55 : E.ti 55 = some ⟨(.func #[3, 3, 3] #[3] false), 1, .nilFunc, 8⟩ := by kernel_rfl
@[go_sem] theorem desc55 : E.desc 55 = some (.func #[3, 3, 3] #[3] false) := by kernel_rfl
@[go_sem] theorem ti56 : E.ti 56 = some ⟨(.func #[25, 3] #[4] false), 1, .nilFunc, 8⟩ := by kernel_rfl
@[go_sem] theorem desc56 : E.desc 56 = some (.func #[25, 3] #[4] false) := by kernel_rfl
@[go_sem] theorem ti57 : E.ti 57 = some ⟨(.pointer 59), 1, (.pointer none), 8⟩ := by kernel_rfl
@[go_sem] theorem desc57 : E.desc 57 = some (.pointer 59) := by kernel_rfl
@[go_sem] theorem ti58 : E.ti 58 = some ⟨(.struct #[⟨"Now", 3, 0, false, "", "", 0⟩, ⟨"Most", 3, 1, false, "", "", 8⟩]), 2, (.agg #[(.int .i64 0), (.int .i64 0)]), 16⟩ := by kernel_rfl
@[go_sem] theorem desc58 : E.desc 58 = some (.struct #[⟨"Now", 3, 0, false, "", "", 0⟩, ⟨"Most", 3, 1, false, "", "", 8⟩]) := by kernel_rfl
@[go_sem] theorem ti59 : E.ti 59 = some ⟨(.struct #[⟨"Now", 3, 0, false, "", "", 0⟩, ⟨"Most", 3, 1, false, "", "", 8⟩]), 2, (.agg #[(.int .i64 0), (.int .i64 0)]), 16⟩ := by kernel_rfl
@[go_sem] theorem desc59 : E.desc 59 = some (.struct #[⟨"Now", 3, 0, false, "", "", 0⟩, ⟨"Most", 3, 1, false, "", "", 8⟩]) := by kernel_rfl
@[go_sem] theorem ti60 : E.ti 60 = some ⟨(.slice 64), 1, (.slice none 0 0), 24⟩ := by kernel_rfl
@[go_sem] theorem desc60 : E.desc 60 = some (.slice 64) := by kernel_rfl
@[go_sem] theorem ti61 : E.ti 61 = some ⟨(.func #[25, 3, 57] #[60] false), 1, .nilFunc, 8⟩ := by kernel_rfl
@[go_sem] theorem desc61 : E.desc 61 = some (.func #[25, 3, 57] #[60] false) := by kernel_rfl
@[go_sem] theorem ti62 : E.ti 62 = some ⟨(.func #[60, 60] #[4] false), 1, .nilFunc, 8⟩ := by kernel_rfl
@[go_sem] theorem desc62 : E.desc 62 = some (.func #[60, 60] #[4] false) := by kernel_rfl
@[go_sem] theorem ti63 : E.ti 63 = some ⟨(.struct #[⟨"Run", 3, 0, false, "", "", 0⟩, ⟨"X", 3, 1, false, "", "", 8⟩]), 2, (.agg #[(.int .i64 0), (.int .i64 0)]), 16⟩ := by kernel_rfl
@[go_sem] theorem desc63 : E.desc 63 = some (.struct #[⟨"Run", 3, 0, false, "", "", 0⟩, ⟨"X", 3, 1, false, "", "", 8⟩]) := by kernel_rfl
@[go_sem] theorem ti64 : E.ti 64 = some ⟨(.struct #[⟨"Run", 3, 0, false, "", "", 0⟩, ⟨"X", 3, 1, false, "", "", 8⟩]), 2, (.agg #[(.int .i64 0), (.int .i64 0)]), 16⟩ := by kernel_rfl
@[go_sem] theorem desc64 : E.desc 64 = some (.struct #[⟨"Run", 3, 0, false, "", "", 0⟩, ⟨"X", 3, 1, false, "", "", 8⟩]) := by kernel_rfl
@[go_sem] theorem ti65 : E.ti 65 = some ⟨(.map 3 3), 1, (.map none), 8⟩ := by kernel_rfl
@[go_sem] theorem desc65 : E.desc 65 = some (.map 3 3) := by kernel_rfl
theorem map65 : mapD E 65 = some (3, (.int .i64), ⟨(.int .i64), 1, (.int .i64 0), 8⟩) := by kernel_rfl
@[go_sem] theorem ti66 : E.ti 66 = some ⟨(.func #[94] #[] false), 1, .nilFunc, 8⟩ := by kernel_rfl
@[go_sem] theorem desc66 : E.desc 66 = some (.func #[94] #[] false) := by kernel_rfl
@[go_sem] theorem ti67 : E.ti 67 = some ⟨(.func #[94] #[] false), 1, .nilFunc, 8⟩ := by kernel_rfl
@[go_sem] theorem desc67 : E.desc 67 = some (.func #[94] #[] false) := by kernel_rfl
@[go_sem] theorem ti68 : E.ti 68 = some ⟨(.func #[92, 3, 24, 57] #[67] false), 1, .nilFunc, 8⟩ := by kernel_rfl
@[go_sem] theorem desc68 : E.desc 68 = some (.func #[92, 3, 24, 57] #[67] false) := by kernel_rfl
@[go_sem] theorem ti69 : E.ti 69 = some ⟨(.func #[3] #[4] false), 1, .nilFunc, 8⟩ := by kernel_rfl
@[go_sem] theorem desc69 : E.desc 69 = some (.func #[3] #[4] false) := by kernel_rfl
@[go_sem] theorem ti70 : E.ti 70 = some ⟨(.func #[69] #[] false), 1, .nilFunc, 8⟩ := by kernel_rfl
@[go_sem] theorem desc70 : E.desc 70 = some (.func #[69] #[] false) := by kernel_rfl
@[go_sem] theorem ti71 : E.ti 71 = some ⟨(.func #[67] #[60] false), 1, .nilFunc, 8⟩ := by kernel_rfl
@[go_sem] theorem desc71 : E.desc 71 = some (.func #[67] #[60] false) := by kernel_rfl
@[go_sem] theorem ti72 : E.ti 72 = some ⟨(.func #[25, 3, 3] #[4] false), 1, .nilFunc, 8⟩ := by kernel_rfl
@[go_sem] theorem desc72 : E.desc 72 = some (.func #[25, 3, 3] #[4] false) := by kernel_rfl
@[go_sem] theorem ti73 : E.ti 73 = some ⟨(.slice 5), 1, (.slice none 0 0), 24⟩ := by kernel_rfl
@[go_sem] theorem desc73 : E.desc 73 = some (.slice 5) := by kernel_rfl
@[go_sem] theorem ti74 : E.ti 74 = some ⟨(.slice 77), 1, (.slice none 0 0), 24⟩ := by kernel_rfl
@[go_sem] theorem desc74 : E.desc 74 = some (.slice 77) := by kernel_rfl
@[go_sem] theorem ti75 : E.ti 75 = some ⟨(.func #[79] #[74] false), 1, .nilFunc, 8⟩ := by kernel_rfl
@[go_sem] theorem desc75 : E.desc 75 = some (.func #[79] #[74] false) := by kernel_rfl
@[go_sem] theorem ti76 : E.ti 76 = some ⟨(.struct #[⟨"Run", 3, 0, false, "", "", 0⟩, ⟨"X", 9, 1, false, "", "", 8⟩]), 2, (.agg #[(.int .i64 0), (.string ⟨#[]⟩)]), 24⟩ := by kernel_rfl
@[go_sem] theorem desc76 : E.desc 76 = some (.struct #[⟨"Run", 3, 0, false, "", "", 0⟩, ⟨"X", 9, 1, false, "", "", 8⟩]) := by kernel_rfl
@[go_sem] theorem ti77 : E.ti 77 = some ⟨(.struct #[⟨"Run", 3, 0, false, "", "", 0⟩, ⟨"X", 9, 1, false, "", "", 8⟩]), 2, (.agg #[(.int .i64 0), (.string ⟨#[]⟩)]), 24⟩ := by kernel_rfl
@[go_sem] theorem desc77 : E.desc 77 = some (.struct #[⟨"Run", 3, 0, false, "", "", 0⟩, ⟨"X", 9, 1, false, "", "", 8⟩]) := by kernel_rfl
@[go_sem] theorem ti78 : E.ti 78 = some ⟨(.func #[102] #[] false), 1, .nilFunc, 8⟩ := by kernel_rfl
@[go_sem] theorem desc78 : E.desc 78 = some (.func #[102] #[] false) := by kernel_rfl
@[go_sem] theorem ti79 : E.ti 79 = some ⟨(.func #[102] #[] false), 1, .nilFunc, 8⟩ := by kernel_rfl
@[go_sem] theorem desc79 : E.desc 79 = some (.func #[102] #[] false) := by kernel_rfl
@[go_sem] theorem ti80 : E.ti 80 = some ⟨(.func #[82, 3, 49, 57] #[79] false), 1, .nilFunc, 8⟩ := by kernel_rfl
@[go_sem] theorem desc80 : E.desc 80 = some (.func #[82, 3, 49, 57] #[79] false) := by kernel_rfl
@[go_sem] theorem ti81 : E.ti 81 = some ⟨(.func #[116] #[] false), 1, .nilFunc, 8⟩ := by kernel_rfl
@[go_sem] theorem desc81 : E.desc 81 = some (.func #[116] #[] false) := by kernel_rfl
@[go_sem] theorem ti82 : E.ti 82 = some ⟨(.func #[116] #[] false), 1, .nilFunc, 8⟩ := by kernel_rfl
@[go_sem] theorem desc82 : E.desc 82 = some (.func #[116] #[] false) := by kernel_rfl
@[go_sem] theorem ti83 : E.ti 83 = some ⟨(.func #[46] #[82] false), 1, .nilFunc, 8⟩ := by kernel_rfl
@[go_sem] theorem desc83 : E.desc 83 = some (.func #[46] #[82] false) := by kernel_rfl
@[go_sem] theorem ti84 : E.ti 84 = some ⟨(.func #[3, 3, 4] #[4] false), 1, .nilFunc, 8⟩ := by kernel_rfl
@[go_sem] theorem desc84 : E.desc 84 = some (.func #[3, 3, 4] #[4] false) := by kernel_rfl
@[go_sem] theorem ti85 : E.ti 85 = some ⟨(.struct #[⟨"less", 24, 0, false, "", "sheaf/heap", 0⟩, ⟨"l", 25, 1, false, "", "sheaf/heap", 8⟩]), 2, (.agg #[.nilFunc, (.slice none 0 0)]), 32⟩ := by kernel_rfl
@[go_sem] theorem desc85 : E.desc 85 = some (.struct #[⟨"less", 24, 0, false, "", "sheaf/heap", 0⟩, ⟨"l", 25, 1, false, "", "sheaf/heap", 8⟩]) := by kernel_rfl
@[go_sem] theorem ti86 : E.ti 86 = some ⟨(.struct #[⟨"less", 24, 0, false, "", "sheaf/heap", 0⟩, ⟨"l", 25, 1, false, "", "sheaf/heap", 8⟩]), 2, (.agg #[.nilFunc, (.slice none 0 0)]), 32⟩ := by kernel_rfl
@[go_sem] theorem desc86 : E.desc 86 = some (.struct #[⟨"less", 24, 0, false, "", "sheaf/heap", 0⟩, ⟨"l", 25, 1, false, "", "sheaf/heap", 8⟩]) := by kernel_rfl
@[go_sem] theorem ti87 : E.ti 87 = some ⟨(.slice 39), 1, (.slice none 0 0), 24⟩ := by kernel_rfl
@[go_sem] theorem desc87 : E.desc 87 = some (.slice 39) := by kernel_rfl
@[go_sem] theorem ti88 : E.ti 88 = some ⟨(.struct #[⟨"less", 40, 0, false, "", "sheaf/heap", 0⟩, ⟨"l", 87, 1, false, "", "sheaf/heap", 8⟩]), 2, (.agg #[.nilFunc, (.slice none 0 0)]), 32⟩ := by kernel_rfl
@[go_sem] theorem desc88 : E.desc 88 = some (.struct #[⟨"less", 40, 0, false, "", "sheaf/heap", 0⟩, ⟨"l", 87, 1, false, "", "sheaf/heap", 8⟩]) := by kernel_rfl
@[go_sem] theorem ti89 : E.ti 89 = some ⟨(.struct #[⟨"less", 40, 0, false, "", "sheaf/heap", 0⟩, ⟨"l", 87, 1, false, "", "sheaf/heap", 8⟩]), 2, (.agg #[.nilFunc, (.slice none 0 0)]), 32⟩ := by kernel_rfl
@[go_sem] theorem desc89 : E.desc 89 = some (.struct #[⟨"less", 40, 0, false, "", "sheaf/heap", 0⟩, ⟨"l", 87, 1, false, "", "sheaf/heap", 8⟩]) := by kernel_rfl
@[go_sem] theorem ti90 : E.ti 90 = some ⟨(.struct #[⟨"less", 49, 0, false, "", "sheaf/heap", 0⟩, ⟨"l", 46, 1, false, "", "sheaf/heap", 8⟩]), 2, (.agg #[.nilFunc, (.slice none 0 0)]), 32⟩ := by kernel_rfl
@[go_sem] theorem desc90 : E.desc 90 = some (.struct #[⟨"less", 49, 0, false, "", "sheaf/heap", 0⟩, ⟨"l", 46, 1, false, "", "sheaf/heap", 8⟩]) := by kernel_rfl
@[go_sem] theorem ti91 : E.ti 91 = some ⟨(.struct #[⟨"less", 49, 0, false, "", "sheaf/heap", 0⟩, ⟨"l", 46, 1, false, "", "sheaf/heap", 8⟩]), 2, (.agg #[.nilFunc, (.slice none 0 0)]), 32⟩ := by kernel_rfl
@[go_sem] theorem desc91 : E.desc 91 = some (.struct #[⟨"less", 49, 0, false, "", "sheaf/heap", 0⟩, ⟨"l", 46, 1, false, "", "sheaf/heap", 8⟩]) := by kernel_rfl
@[go_sem] theorem ti92 : E.ti 92 = some ⟨(.func #[69] #[] false), 1, .nilFunc, 8⟩ := by kernel_rfl
@[go_sem] theorem desc92 : E.desc 92 = some (.func #[69] #[] false) := by kernel_rfl
@[go_sem] theorem ti93 : E.ti 93 = some ⟨(.func #[25] #[92] false), 1, .nilFunc, 8⟩ := by kernel_rfl
@[go_sem] theorem desc93 : E.desc 93 = some (.func #[25] #[92] false) := by kernel_rfl
@[go_sem] theorem ti94 : E.ti 94 = some ⟨(.func #[64] #[4] false), 1, .nilFunc, 8⟩ := by kernel_rfl
@[go_sem] theorem desc94 : E.desc 94 = some (.func #[64] #[4] false) := by kernel_rfl
@[go_sem] theorem ti95 : E.ti 95 = some ⟨(.pointer 111), 1, (.pointer none), 8⟩ := by kernel_rfl
@[go_sem] theorem desc95 : E.desc 95 = some (.pointer 111) := by kernel_rfl
@[go_sem] theorem ti96 : E.ti 96 = some ⟨(.func #[97] #[95] false), 1, .nilFunc, 8⟩ := by kernel_rfl
@[go_sem] theorem desc96 : E.desc 96 = some (.func #[97] #[95] false) := by kernel_rfl
@[go_sem] theorem ti97 : E.ti 97 = some ⟨(.func #[64, 64] #[4] false), 1, .nilFunc, 8⟩ := by kernel_rfl
@[go_sem] theorem desc97 : E.desc 97 = some (.func #[64, 64] #[4] false) := by kernel_rfl
@[go_sem] theorem ti98 : E.ti 98 = some ⟨(.func #[64] #[] false), 1, .nilFunc, 8⟩ := by kernel_rfl
@[go_sem] theorem desc98 : E.desc 98 = some (.func #[64] #[] false) := by kernel_rfl
@[go_sem] theorem ti99 : E.ti 99 = some ⟨(.func #[3, 3] #[] false), 1, .nilFunc, 8⟩ := by kernel_rfl
@[go_sem] theorem desc99 : E.desc 99 = some (.func #[3, 3] #[] false) := by kernel_rfl
@[go_sem] theorem ti101 : E.ti 101 = some ⟨(.func #[] #[64, 4] false), 1, .nilFunc, 8⟩ := by kernel_rfl
@[go_sem] theorem desc101 : E.desc 101 = some (.func #[] #[64, 4] false) := by kernel_rfl
@[go_sem] theorem ti102 : E.ti 102 = some ⟨(.func #[77] #[4] false), 1, .nilFunc, 8⟩ := by kernel_rfl
@[go_sem] theorem desc102 : E.desc 102 = some (.func #[77] #[4] false) := by kernel_rfl
@[go_sem] theorem ti103 : E.ti 103 = some ⟨(.pointer 115), 1, (.pointer none), 8⟩ := by kernel_rfl
@[go_sem] theorem desc103 : E.desc 103 = some (.pointer 115) := by kernel_rfl
@[go_sem] theorem ti104 : E.ti 104 = some ⟨(.func #[105] #[103] false), 1, .nilFunc, 8⟩ := by kernel_rfl
@[go_sem] theorem desc104 : E.desc 104 = some (.func #[105] #[103] false) := by kernel_rfl
@[go_sem] theorem ti105 : E.ti 105 = some ⟨(.func #[77, 77] #[4] false), 1, .nilFunc, 8⟩ := by kernel_rfl
@[go_sem] theorem desc105 : E.desc 105 = some (.func #[77, 77] #[4] false) := by kernel_rfl
@[go_sem] theorem ti106 : E.ti 106 = some ⟨(.func #[77] #[] false), 1, .nilFunc, 8⟩ := by kernel_rfl
@[go_sem] theorem desc106 : E.desc 106 = some (.func #[77] #[] false) := by kernel_rfl
@[go_sem] theorem ti107 : E.ti 107 = some ⟨(.func #[3, 9] #[] false), 1, .nilFunc, 8⟩ := by kernel_rfl
@[go_sem] theorem desc107 : E.desc 107 = some (.func #[3, 9] #[] false) := by kernel_rfl
@[go_sem] theorem ti109 : E.ti 109 = some ⟨(.func #[] #[77, 4] false), 1, .nilFunc, 8⟩ := by kernel_rfl
@[go_sem] theorem desc109 : E.desc 109 = some (.func #[] #[77, 4] false) := by kernel_rfl
@[go_sem] theorem ti110 : E.ti 110 = some ⟨(.struct #[⟨"less", 97, 0, false, "", "sheaf/heap", 0⟩, ⟨"l", 60, 1, false, "", "sheaf/heap", 8⟩]), 2, (.agg #[.nilFunc, (.slice none 0 0)]), 32⟩ := by kernel_rfl
@[go_sem] theorem desc110 : E.desc 110 = some (.struct #[⟨"less", 97, 0, false, "", "sheaf/heap", 0⟩, ⟨"l", 60, 1, false, "", "sheaf/heap", 8⟩]) := by kernel_rfl
@[go_sem] theorem ti111 : E.ti 111 = some ⟨(.struct #[⟨"less", 97, 0, false, "", "sheaf/heap", 0⟩, ⟨"l", 60, 1, false, "", "sheaf/heap", 8⟩]), 2, (.agg #[.nilFunc, (.slice none 0 0)]), 32⟩ := by kernel_rfl
@[go_sem] theorem desc111 : E.desc 111 = some (.struct #[⟨"less", 97, 0, false, "", "sheaf/heap", 0⟩, ⟨"l", 60, 1, false, "", "sheaf/heap", 8⟩]) := by kernel_rfl
@[go_sem] theorem ti112 : E.ti 112 = some ⟨(.func #[60, 67] #[60] false), 1, .nilFunc, 8⟩ := by kernel_rfl
@[go_sem] theorem desc112 : E.desc 112 = some (.func #[60, 67] #[60] false) := by kernel_rfl
@[go_sem] theorem ti113 : E.ti 113 = some ⟨(.func #[74, 79] #[74] false), 1, .nilFunc, 8⟩ := by kernel_rfl
@[go_sem] theorem desc113 : E.desc 113 = some (.func #[74, 79] #[74] false) := by kernel_rfl
@[go_sem] theorem ti114 : E.ti 114 = some ⟨(.struct #[⟨"less", 105, 0, false, "", "sheaf/heap", 0⟩, ⟨"l", 74, 1, false, "", "sheaf/heap", 8⟩]), 2, (.agg #[.nilFunc, (.slice none 0 0)]), 32⟩ := by kernel_rfl
@[go_sem] theorem desc114 : E.desc 114 = some (.struct #[⟨"less", 105, 0, false, "", "sheaf/heap", 0⟩, ⟨"l", 74, 1, false, "", "sheaf/heap", 8⟩]) := by kernel_rfl
@[go_sem] theorem ti115 : E.ti 115 = some ⟨(.struct #[⟨"less", 105, 0, false, "", "sheaf/heap", 0⟩, ⟨"l", 74, 1, false, "", "sheaf/heap", 8⟩]), 2, (.agg #[.nilFunc, (.slice none 0 0)]), 32⟩ := by kernel_rfl
@[go_sem] theorem desc115 : E.desc 115 = some (.struct #[⟨"less", 105, 0, false, "", "sheaf/heap", 0⟩, ⟨"l", 74, 1, false, "", "sheaf/heap", 8⟩]) := by kernel_rfl
@[go_sem] theorem ti116 : E.ti 116 = some ⟨(.func #[9] #[4] false), 1, .nilFunc, 8⟩ := by kernel_rfl
@[go_sem] theorem desc116 : E.desc 116 = some (.func #[9] #[4] false) := by kernel_rfl
@[go_sem] theorem ti117 : E.ti 117 = some ⟨(.func #[] #[9] false), 1, .nilFunc, 8⟩ := by kernel_rfl
@[go_sem] theorem desc117 : E.desc 117 = some (.func #[] #[9] false) := by kernel_rfl
@[go_sem] theorem ti118 : E.ti 118 = some ⟨(.struct #[⟨"_interface", 17, 0, false, "", "runtime", 0⟩, ⟨"concrete", 17, 1, false, "", "runtime", 8⟩, ⟨"asserted", 17, 2, false, "", "runtime", 16⟩, ⟨"missingMethod", 9, 3, false, "", "runtime", 24⟩]), 4, (.agg #[(.pointer none), (.pointer none), (.pointer none), (.string ⟨#[]⟩)]), 40⟩ := by kernel_rfl
@[go_sem] theorem desc118 : E.desc 118 = some (.struct #[⟨"_interface", 17, 0, false, "", "runtime", 0⟩, ⟨"concrete", 17, 1, false, "", "runtime", 8⟩, ⟨"asserted", 17, 2, false, "", "runtime", 16⟩, ⟨"missingMethod", 9, 3, false, "", "runtime", 24⟩]) := by kernel_rfl
@[go_sem] theorem ti119 : E.ti 119 = some ⟨(.struct #[⟨"_interface", 17, 0, false, "", "runtime", 0⟩, ⟨"concrete", 17, 1, false, "", "runtime", 8⟩, ⟨"asserted", 17, 2, false, "", "runtime", 16⟩, ⟨"missingMethod", 9, 3, false, "", "runtime", 24⟩]), 4, (.agg #[(.pointer none), (.pointer none), (.pointer none), (.string ⟨#[]⟩)]), 40⟩ := by kernel_rfl
@[go_sem] theorem desc119 : E.desc 119 = some (.struct #[⟨"_interface", 17, 0, false, "", "runtime", 0⟩, ⟨"concrete", 17, 1, false, "", "runtime", 8⟩, ⟨"asserted", 17, 2, false, "", "runtime", 16⟩, ⟨"missingMethod", 9, 3, false, "", "runtime", 24⟩]) := by kernel_rfl
@[go_sem] theorem ti120 : E.ti 120 = some ⟨(.array 0 16), 0, (.agg #[]), 0⟩ := by kernel_rfl
@[go_sem] theorem desc120 : E.desc 120 = some (.array 0 16) := by kernel_rfl
@[go_sem] theorem ti121 : E.ti 121 = some ⟨(.struct #[⟨"_", 120, 0, false, "", "runtime", 0⟩]), 0, (.agg #[]), 0⟩ := by kernel_rfl
@[go_sem] theorem desc121 : E.desc 121 = some (.struct #[⟨"_", 120, 0, false, "", "runtime", 0⟩]) := by kernel_rfl
@[go_sem] theorem ti122 : E.ti 122 = some ⟨(.struct #[⟨"_", 120, 0, false, "", "runtime", 0⟩]), 0, (.agg #[]), 0⟩ := by kernel_rfl
@[go_sem] theorem desc122 : E.desc 122 = some (.struct #[⟨"_", 120, 0, false, "", "runtime", 0⟩]) := by kernel_rfl
@[go_sem] theorem ti123 : E.ti 123 = some ⟨(.int .u32), 1, (.int .u32 0), 4⟩ := by kernel_rfl
@[go_sem] theorem desc123 : E.desc 123 = some (.int .u32) := by kernel_rfl
@[go_sem] theorem ti124 : E.ti 124 = some ⟨(.int .u8), 1, (.int .u8 0), 1⟩ := by kernel_rfl
@[go_sem] theorem desc124 : E.desc 124 = some (.int .u8) := by kernel_rfl
@[go_sem] theorem ti125 : E.ti 125 = some ⟨(.int .u8), 1, (.int .u8 0), 1⟩ := by kernel_rfl
@[go_sem] theorem desc125 : E.desc 125 = some (.int .u8) := by kernel_rfl
@[go_sem] theorem ti126 : E.ti 126 = some ⟨(.func #[132, 132] #[4] false), 1, .nilFunc, 8⟩ := by kernel_rfl
@[go_sem] theorem desc126 : E.desc 126 = some (.func #[132, 132] #[4] false) := by kernel_rfl
@[go_sem] theorem ti127 : E.ti 127 = some ⟨(.pointer 5), 1, (.pointer none), 8⟩ := by kernel_rfl
@[go_sem] theorem desc127 : E.desc 127 = some (.pointer 5) := by kernel_rfl
@[go_sem] theorem ti128 : E.ti 128 = some ⟨(.int .i32), 1, (.int .i32 0), 4⟩ := by kernel_rfl
@[go_sem] theorem desc128 : E.desc 128 = some (.int .i32) := by kernel_rfl
@[go_sem] theorem ti129 : E.ti 129 = some ⟨(.int .i32), 1, (.int .i32 0), 4⟩ := by kernel_rfl
@[go_sem] theorem desc129 : E.desc 129 = some (.int .i32) := by kernel_rfl
@[go_sem] theorem ti130 : E.ti 130 = some ⟨(.struct #[⟨"Size_", 12, 0, false, "", "", 0⟩, ⟨"PtrBytes", 12, 1, false, "", "", 8⟩, ⟨"Hash", 123, 2, false, "", "", 16⟩, ⟨"TFlag", 124, 3, false, "", "", 20⟩, ⟨"Align_", 5, 4, false, "", "", 21⟩, ⟨"FieldAlign_", 5, 5, false, "", "", 22⟩, ⟨"Kind_", 125, 6, false, "", "", 23⟩, ⟨"Equal", 126, 7, false, "", "", 24⟩, ⟨"GCData", 127, 8, false, "", "", 32⟩, ⟨"Str", 128, 9, false, "", "", 40⟩, ⟨"PtrToThis", 129, 10, false, "", "", 44⟩]), 11, (.agg #[(.int .u64 0), (.int .u64 0), (.int .u32 0), (.int .u8 0), (.int .u8 0), (.int .u8 0), (.int .u8 0), .nilFunc, (.pointer none), (.int .i32 0), (.int .i32 0)]), 48⟩ := by kernel_rfl
@[go_sem] theorem desc130 : E.desc 130 = some (.struct #[⟨"Size_", 12, 0, false, "", "", 0⟩, ⟨"PtrBytes", 12, 1, false, "", "", 8⟩, ⟨"Hash", 123, 2, false, "", "", 16⟩, ⟨"TFlag", 124, 3, false, "", "", 20⟩, ⟨"Align_", 5, 4, false, "", "", 21⟩, ⟨"FieldAlign_", 5, 5, false, "", "", 22⟩, ⟨"Kind_", 125, 6, false, "", "", 23⟩, ⟨"Equal", 126, 7, false, "", "", 24⟩, ⟨"GCData", 127, 8, false, "", "", 32⟩, ⟨"Str", 128, 9, false, "", "", 40⟩, ⟨"PtrToThis", 129, 10, false, "", "", 44⟩]) := by kernel_rfl
@[go_sem] theorem ti131 : E.ti 131 = some ⟨(.struct #[⟨"Size_", 12, 0, false, "", "", 0⟩, ⟨"PtrBytes", 12, 1, false, "", "", 8⟩, ⟨"Hash", 123, 2, false, "", "", 16⟩, ⟨"TFlag", 124, 3, false, "", "", 20⟩, ⟨"Align_", 5, 4, false, "", "", 21⟩, ⟨"FieldAlign_", 5, 5, false, "", "", 22⟩, ⟨"Kind_", 125, 6, false, "", "", 23⟩, ⟨"Equal", 126, 7, false, "", "", 24⟩, ⟨"GCData", 127, 8, false, "", "", 32⟩, ⟨"Str", 128, 9, false, "", "", 40⟩, ⟨"PtrToThis", 129, 10, false, "", "", 44⟩]), 11, (.agg #[(.int .u64 0), (.int .u64 0), (.int .u32 0), (.int .u8 0), (.int .u8 0), (.int .u8 0), (.int .u8 0), .nilFunc, (.pointer none), (.int .i32 0), (.int .i32 0)]), 48⟩ := by kernel_rfl
@[go_sem] theorem desc131 : E.desc 131 = some (.struct #[⟨"Size_", 12, 0, false, "", "", 0⟩, ⟨"PtrBytes", 12, 1, false, "", "", 8⟩, ⟨"Hash", 123, 2, false, "", "", 16⟩, ⟨"TFlag", 124, 3, false, "", "", 20⟩, ⟨"Align_", 5, 4, false, "", "", 21⟩, ⟨"FieldAlign_", 5, 5, false, "", "", 22⟩, ⟨"Kind_", 125, 6, false, "", "", 23⟩, ⟨"Equal", 126, 7, false, "", "", 24⟩, ⟨"GCData", 127, 8, false, "", "", 32⟩, ⟨"Str", 128, 9, false, "", "", 40⟩, ⟨"PtrToThis", 129, 10, false, "", "", 44⟩]) := by kernel_rfl
theorem eqs64 : E.eqs 64 = true := by kernel_rfl
set_option maxRecDepth 10000 in
@[go_sem] theorem eq64 (a0 b0 : Int) (a1 b1 : Int) : binV E .eql 64 (.agg #[.int .i64 a0, .int .i64 a1]) (.agg #[.int .i64 b0, .int .i64 b1]) = some (.bool (a0 == b0 && a1 == b1)) := by simp (decide := true) [binV, eqV, desc64, eqs64, flatFields, scalarD, desc3, sameFields, sameCell] <;> rfl
set_option maxRecDepth 10000 in
@[go_sem] theorem ne64 (a0 b0 : Int) (a1 b1 : Int) : binV E .neq 64 (.agg #[.int .i64 a0, .int .i64 a1]) (.agg #[.int .i64 b0, .int .i64 b1]) = some (.bool !(a0 == b0 && a1 == b1)) := by simp (decide := true) [binV, eqV, desc64, eqs64, flatFields, scalarD, desc3, sameFields, sameCell] <;> rfl
abbrev F_sheaflaw8_HeapRuns : FuncId := 3
@[go_sem] theorem closed3 (m : Mem) (K : Value → Mem → Prop) : CallQ E 3 #[] m K = K (.bool true) m := CallQ.closed (by kernel_rfl)
@[go_sem] theorem some3 : (E.fn 3).isSome = true := by kernel_rfl
abbrev F_sheaflaw11_RunsRuns : FuncId := 8
@[go_sem] theorem closed8 (m : Mem) (K : Value → Mem → Prop) : CallQ E 8 #[] m K = K (.bool true) m := CallQ.closed (by kernel_rfl)
@[go_sem] theorem some8 : (E.fn 8).isSome = true := by kernel_rfl

end Go.Proofs.Ythlcbacmbcmgfaa.W
