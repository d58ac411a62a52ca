/-
  The types, printed by a program of mine (wip/dev/AbsPrint.lean).
-/
import Derived.Test.YtgbpgkfmmhlkoaaEnvC
import Derived.Test.YtgbpgkfmmhlkoaaAbs24
set_option linter.unusedVariables false
namespace Go.Proofs.Ytgbpgkfmmhlkoaa.W
open Go.Abs

@[go_sem] theorem ti1 : E.ti 1 = some ⟨(.func #[] #[] false), 1, .nilFunc, 8⟩ := by kernel_rfl
@[go_sem] theorem desc1 : E.desc 1 = some (.func #[] #[] false) := by kernel_rfl
@[go_sem] theorem ti2 : E.ti 2 = some ⟨(.int .i64), 1, (.int .i64 0), 8⟩ := by kernel_rfl
@[go_sem] theorem desc2 : E.desc 2 = some (.int .i64) := by kernel_rfl
@[go_sem] theorem ti3 : E.ti 3 = some ⟨(.int .i64), 1, (.int .i64 0), 8⟩ := by kernel_rfl
@[go_sem] theorem desc3 : E.desc 3 = some (.int .i64) := by kernel_rfl
@[go_sem] theorem ti4 : E.ti 4 = some ⟨.bool, 1, (.bool false), 1⟩ := by kernel_rfl
@[go_sem] theorem desc4 : E.desc 4 = some .bool := by kernel_rfl
@[go_sem] theorem ti5 : E.ti 5 = some ⟨(.int .u8), 1, (.int .u8 0), 1⟩ := by kernel_rfl
@[go_sem] theorem desc5 : E.desc 5 = some (.int .u8) := by kernel_rfl
@[go_sem] theorem ti6 : E.ti 6 = some ⟨(.int .u8), 1, (.int .u8 0), 1⟩ := by kernel_rfl
@[go_sem] theorem desc6 : E.desc 6 = some (.int .u8) := by kernel_rfl
@[go_sem] theorem ti7 : E.ti 7 = some ⟨(.struct #[⟨"x", 2, 0, false, "", "runtime", 0⟩, ⟨"y", 3, 1, false, "", "runtime", 8⟩, ⟨"signed", 4, 2, false, "", "runtime", 16⟩, ⟨"code", 6, 3, false, "", "runtime", 17⟩]), 4, (.agg #[(.int .i64 0), (.int .i64 0), (.bool false), (.int .u8 0)]), 24⟩ := by kernel_rfl
@[go_sem] theorem desc7 : E.desc 7 = some (.struct #[⟨"x", 2, 0, false, "", "runtime", 0⟩, ⟨"y", 3, 1, false, "", "runtime", 8⟩, ⟨"signed", 4, 2, false, "", "runtime", 16⟩, ⟨"code", 6, 3, false, "", "runtime", 17⟩]) := by kernel_rfl
@[go_sem] theorem ti8 : E.ti 8 = some ⟨(.struct #[⟨"x", 2, 0, false, "", "runtime", 0⟩, ⟨"y", 3, 1, false, "", "runtime", 8⟩, ⟨"signed", 4, 2, false, "", "runtime", 16⟩, ⟨"code", 6, 3, false, "", "runtime", 17⟩]), 4, (.agg #[(.int .i64 0), (.int .i64 0), (.bool false), (.int .u8 0)]), 24⟩ := by kernel_rfl
@[go_sem] theorem desc8 : E.desc 8 = some (.struct #[⟨"x", 2, 0, false, "", "runtime", 0⟩, ⟨"y", 3, 1, false, "", "runtime", 8⟩, ⟨"signed", 4, 2, false, "", "runtime", 16⟩, ⟨"code", 6, 3, false, "", "runtime", 17⟩]) := by kernel_rfl
@[go_sem] theorem ti9 : E.ti 9 = some ⟨.string, 1, (.string ⟨#[]⟩), 16⟩ := by kernel_rfl
@[go_sem] theorem desc9 : E.desc 9 = some .string := by kernel_rfl
@[go_sem] theorem ti10 : E.ti 10 = some ⟨.string, 1, (.string ⟨#[]⟩), 16⟩ := by kernel_rfl
@[go_sem] theorem desc10 : E.desc 10 = some .string := by kernel_rfl
@[go_sem] theorem ti11 : E.ti 11 = some ⟨.string, 1, (.string ⟨#[]⟩), 16⟩ := by kernel_rfl
@[go_sem] theorem desc11 : E.desc 11 = some .string := by kernel_rfl
@[go_sem] theorem ti12 : E.ti 12 = some ⟨(.int .u64), 1, (.int .u64 0), 8⟩ := by kernel_rfl
@[go_sem] theorem desc12 : E.desc 12 = some (.int .u64) := by kernel_rfl
@[go_sem] theorem ti13 : E.ti 13 = some ⟨(.struct #[⟨"msg", 9, 0, false, "", "runtime", 0⟩, ⟨"addr", 12, 1, false, "", "runtime", 16⟩]), 2, (.agg #[(.string ⟨#[]⟩), (.int .u64 0)]), 24⟩ := by kernel_rfl
@[go_sem] theorem desc13 : E.desc 13 = some (.struct #[⟨"msg", 9, 0, false, "", "runtime", 0⟩, ⟨"addr", 12, 1, false, "", "runtime", 16⟩]) := by kernel_rfl
@[go_sem] theorem ti14 : E.ti 14 = some ⟨(.struct #[⟨"msg", 9, 0, false, "", "runtime", 0⟩, ⟨"addr", 12, 1, false, "", "runtime", 16⟩]), 2, (.agg #[(.string ⟨#[]⟩), (.int .u64 0)]), 24⟩ := by kernel_rfl
@[go_sem] theorem desc14 : E.desc 14 = some (.struct #[⟨"msg", 9, 0, false, "", "runtime", 0⟩, ⟨"addr", 12, 1, false, "", "runtime", 16⟩]) := by kernel_rfl
@[go_sem] theorem ti15 : E.ti 15 = some ⟨(.pointer 79), 1, (.pointer none), 8⟩ := by kernel_rfl
@[go_sem] theorem desc15 : E.desc 15 = some (.pointer 79) := by kernel_rfl
@[go_sem] theorem ti16 : E.ti 16 = some ⟨(.pointer 82), 1, (.pointer none), 8⟩ := by kernel_rfl
@[go_sem] theorem desc16 : E.desc 16 = some (.pointer 82) := by kernel_rfl
@[go_sem] theorem ti17 : E.ti 17 = some ⟨(.pointer 92), 1, (.pointer none), 8⟩ := by kernel_rfl
@[go_sem] theorem desc17 : E.desc 17 = some (.pointer 92) := by kernel_rfl
@[go_sem] theorem ti18 : E.ti 18 = some ⟨(.struct #[⟨"typ", 17, 0, false, "", "internal/runtime/maps", 0⟩]), 1, (.agg #[(.pointer none)]), 8⟩ := by kernel_rfl
@[go_sem] theorem desc18 : E.desc 18 = some (.struct #[⟨"typ", 17, 0, false, "", "internal/runtime/maps", 0⟩]) := by kernel_rfl
@[go_sem] theorem ti19 : E.ti 19 = some ⟨(.struct #[⟨"typ", 17, 0, false, "", "internal/runtime/maps", 0⟩]), 1, (.agg #[(.pointer none)]), 8⟩ := by kernel_rfl
@[go_sem] theorem desc19 : E.desc 19 = some (.struct #[⟨"typ", 17, 0, false, "", "internal/runtime/maps", 0⟩]) := by kernel_rfl
@[go_sem] theorem ti21 : E.ti 21 = some ⟨(.int .i32), 1, (.int .i32 0), 4⟩ := by kernel_rfl
@[go_sem] theorem desc21 : E.desc 21 = some (.int .i32) := by kernel_rfl
@[go_sem] theorem ti22 : E.ti 22 = some ⟨(.func #[3, 23] #[4] false), 1, .nilFunc, 8⟩ := by kernel_rfl
@[go_sem] theorem desc22 : E.desc 22 = some (.func #[3, 23] #[4] false) := by kernel_rfl
@[go_sem] theorem ti23 : E.ti 23 = some ⟨(.slice 3), 1, (.slice none 0 0), 24⟩ := by kernel_rfl
@[go_sem] theorem desc23 : E.desc 23 = some (.slice 3) := by kernel_rfl
@[go_sem] theorem ti24 : E.ti 24 = some ⟨(.func #[3, 26] #[4] false), 1, .nilFunc, 8⟩ := by kernel_rfl
@[go_sem] theorem desc24 : E.desc 24 = some (.func #[3, 26] #[4] false) := by kernel_rfl
@[go_sem] theorem ti25 : E.ti 25 = some ⟨(.func #[31] #[] false), 1, .nilFunc, 8⟩ := by kernel_rfl
@[go_sem] theorem desc25 : E.desc 25 = some (.func #[31] #[] false) := by kernel_rfl
@[go_sem] theorem ti26 : E.ti 26 = some ⟨(.func #[31] #[] false), 1, .nilFunc, 8⟩ := by kernel_rfl
@[go_sem] theorem desc26 : E.desc 26 = some (.func #[31] #[] false) := by kernel_rfl
@[go_sem] theorem ti27 : E.ti 27 = some ⟨(.func #[28] #[26] false), 1, .nilFunc, 8⟩ := by kernel_rfl
@[go_sem] theorem desc27 : E.desc 27 = some (.func #[28] #[26] false) := by kernel_rfl
@[go_sem] theorem ti28 : E.ti 28 = some ⟨(.slice 23), 1, (.slice none 0 0), 24⟩ := by kernel_rfl
@[go_sem] theorem desc28 : E.desc 28 = some (.slice 23) := by kernel_rfl
@[go_sem] theorem ti29 : E.ti 29 = some ⟨(.func #[] #[4] false), 1, .nilFunc, 8⟩ := by kernel_rfl
@[go_sem] theorem desc29 : E.desc 29 = some (.func #[] #[4] false) := by kernel_rfl
@[go_sem] theorem ti30 : E.ti 30 = some ⟨(.func #[3, 23, 23] #[4] false), 1, .nilFunc, 8⟩ := by kernel_rfl
@[go_sem] theorem desc30 : E.desc 30 = some (.func #[3, 23, 23] #[4] false) := by kernel_rfl
@[go_sem] theorem ti31 : E.ti 31 = some ⟨(.func #[23] #[4] false), 1, .nilFunc, 8⟩ := by kernel_rfl
@[go_sem] theorem desc31 : E.desc 31 = some (.func #[23] #[4] false) := by kernel_rfl
@[go_sem] theorem ti32 : E.ti 32 = some ⟨(.func #[3, 28] #[4] false), 1, .nilFunc, 8⟩ := by kernel_rfl
@[go_sem] theorem desc32 : E.desc 32 = some (.func #[3, 28] #[4] false) := by kernel_rfl
@[go_sem] theorem ti33 : E.ti 33 = some ⟨(.func #[3, 3, 3] #[3] false), 1, .nilFunc, 8⟩ := by kernel_rfl
@[go_sem] theorem desc33 : E.desc 33 = some (.func #[3, 3, 3] #[3] false) := by kernel_rfl
@[go_sem] theorem ti34 : E.ti 34 = some ⟨(.func #[3, 3] #[4] false), 1, .nilFunc, 8⟩ := by kernel_rfl
@[go_sem] theorem desc34 : E.desc 34 = some (.func #[3, 3] #[4] false) := by kernel_rfl
@[go_sem] theorem ti35 : E.ti 35 = some ⟨(.func #[26] #[28] false), 1, .nilFunc, 8⟩ := by kernel_rfl
@[go_sem] theorem desc35 : E.desc 35 = some (.func #[26] #[28] false) := by kernel_rfl
@[go_sem] theorem ti36 : E.ti 36 = some ⟨(.func #[38, 34] #[26] false), 1, .nilFunc, 8⟩ := by kernel_rfl
@[go_sem] theorem desc36 : E.desc 36 = some (.func #[38, 34] #[26] false) := by kernel_rfl
@[go_sem] theorem ti37 : E.ti 37 = some ⟨(.func #[55] #[] false), 1, .nilFunc, 8⟩ := by kernel_rfl
@[go_sem] theorem desc37 : E.desc 37 = some (.func #[55] #[] false) := by kernel_rfl
@[go_sem] theorem ti38 : E.ti 38 = some ⟨(.func #[55] #[] false), 1, .nilFunc, 8⟩ := by kernel_rfl
@[go_sem] theorem desc38 : E.desc 38 = some (.func #[55] #[] false) := by kernel_rfl
@[go_sem] theorem ti39 : E.ti 39 = some ⟨(.func #[23] #[38] false), 1, .nilFunc, 8⟩ := by kernel_rfl
@[go_sem] theorem desc39 : E.desc 39 = some (.func #[23] #[38] false) := by kernel_rfl
@[go_sem] theorem ti40 : E.ti 40 = some ⟨(.func #[23, 23] #[4] false), 1, .nilFunc, 8⟩ := by kernel_rfl
@[go_sem] theorem desc40 : E.desc 40 = some (.func #[23, 23] #[4] false) := by kernel_rfl
@[go_sem] theorem ti41 : E.ti 41 = some ⟨(.func #[23, 23] #[23] false), 1, .nilFunc, 8⟩ := by kernel_rfl
@[go_sem] theorem desc41 : E.desc 41 = some (.func #[23, 23] #[23] false) := by kernel_rfl
@[go_sem] theorem ti42 : E.ti 42 = some ⟨(.func #[38] #[23] false), 1, .nilFunc, 8⟩ := by kernel_rfl
@[go_sem] theorem desc42 : E.desc 42 = some (.func #[38] #[23] false) := by kernel_rfl
@[go_sem] theorem ti43 : E.ti 43 = some ⟨(.func #[23, 3] #[4] false), 1, .nilFunc, 8⟩ := by kernel_rfl
@[go_sem] theorem desc43 : E.desc 43 = some (.func #[23, 3] #[4] false) := by kernel_rfl
@[go_sem] theorem ti44 : E.ti 44 = some ⟨(.func #[] #[3, 4] false), 1, .nilFunc, 8⟩ := by kernel_rfl
@[go_sem] theorem desc44 : E.desc 44 = some (.func #[] #[3, 4] false) := by kernel_rfl
@[go_sem] theorem ti45 : E.ti 45 = some ⟨(.func #[23] #[44] false), 1, .nilFunc, 8⟩ := by kernel_rfl
@[go_sem] theorem desc45 : E.desc 45 = some (.func #[23] #[44] false) := by kernel_rfl
@[go_sem] theorem ti47 : E.ti 47 = some ⟨(.func #[72] #[] false), 1, .nilFunc, 8⟩ := by kernel_rfl
@[go_sem] theorem desc47 : E.desc 47 = some (.func #[72] #[] false) := by kernel_rfl
@[go_sem] theorem ti48 : E.ti 48 = some ⟨(.func #[72] #[] false), 1, .nilFunc, 8⟩ := by kernel_rfl
@[go_sem] theorem desc48 : E.desc 48 = some (.func #[72] #[] false) := by kernel_rfl
@[go_sem] theorem ti49 : E.ti 49 = some ⟨(.func #[38, 44, 50] #[48] false), 1, .nilFunc, 8⟩ := by kernel_rfl
@[go_sem] theorem desc49 : E.desc 49 = some (.func #[38, 44, 50] #[48] false) := by kernel_rfl
@[go_sem] theorem ti50 : E.ti 50 = some ⟨(.func #[3, 3] #[3] false), 1, .nilFunc, 8⟩ := by kernel_rfl
@[go_sem] theorem desc50 : E.desc 50 = some (.func #[3, 3] #[3] false) := by kernel_rfl
@[go_sem] theorem ti51 : E.ti 51 = some ⟨(.pointer 3), 1, (.pointer none), 8⟩ := by kernel_rfl
@[go_sem] theorem desc51 : E.desc 51 = some (.pointer 3) := by kernel_rfl
@[go_sem] theorem ti52 : E.ti 52 = some ⟨(.func #[38, 56] #[38] false), 1, .nilFunc, 8⟩ := by kernel_rfl
@[go_sem] theorem desc52 : E.desc 52 = some (.func #[38, 56] #[38] false) := by kernel_rfl
@[go_sem] theorem ti53 : E.ti 53 = some ⟨(.func #[38, 55] #[38] false), 1, .nilFunc, 8⟩ := by kernel_rfl
@[go_sem] theorem desc53 : E.desc 53 = some (.func #[38, 55] #[38] false) := by kernel_rfl
@[go_sem] theorem ti54 : E.ti 54 = some ⟨(.func #[23, 51] #[37] false), 1, .nilFunc, 8⟩ := by kernel_rfl
@[go_sem] theorem desc54 : E.desc 54 = some (.func #[23, 51] #[37] false) := by kernel_rfl
@[go_sem] theorem ti55 : E.ti 55 = some ⟨(.func #[3] #[4] false), 1, .nilFunc, 8⟩ := by kernel_rfl
@[go_sem] theorem desc55 : E.desc 55 = some (.func #[3] #[4] false) := by kernel_rfl
@[go_sem] theorem ti56 : E.ti 56 = some ⟨(.func #[3] #[3] false), 1, .nilFunc, 8⟩ := by kernel_rfl
@[go_sem] theorem desc56 : E.desc 56 = some (.func #[3] #[3] false) := by kernel_rfl
@[go_sem] theorem ti57 : E.ti 57 = some ⟨(.slice 9), 1, (.slice none 0 0), 24⟩ := by kernel_rfl
@[go_sem] theorem desc57 : E.desc 57 = some (.slice 9) := by kernel_rfl
@[go_sem] theorem ti58 : E.ti 58 = some ⟨(.func #[60] #[57] false), 1, .nilFunc, 8⟩ := by kernel_rfl
@[go_sem] theorem desc58 : E.desc 58 = some (.func #[60] #[57] false) := by kernel_rfl
@[go_sem] theorem ti59 : E.ti 59 = some ⟨(.func #[73] #[] false), 1, .nilFunc, 8⟩ := by kernel_rfl
@[go_sem] theorem desc59 : E.desc 59 = some (.func #[73] #[] false) := by kernel_rfl
@[go_sem] theorem ti60 : E.ti 60 = some ⟨(.func #[73] #[] false), 1, .nilFunc, 8⟩ := by kernel_rfl
@[go_sem] theorem desc60 : E.desc 60 = some (.func #[73] #[] false) := by kernel_rfl
@[go_sem] theorem ti61 : E.ti 61 = some ⟨(.func #[38, 63] #[60] false), 1, .nilFunc, 8⟩ := by kernel_rfl
@[go_sem] theorem desc61 : E.desc 61 = some (.func #[38, 63] #[60] false) := by kernel_rfl
@[go_sem] theorem ti62 : E.ti 62 = some ⟨(.slice 5), 1, (.slice none 0 0), 24⟩ := by kernel_rfl
@[go_sem] theorem desc62 : E.desc 62 = some (.slice 5) := by kernel_rfl
@[go_sem] theorem ti63 : E.ti 63 = some ⟨(.func #[3] #[9] false), 1, .nilFunc, 8⟩ := by kernel_rfl
@[go_sem] theorem desc63 : E.desc 63 = some (.func #[3] #[9] false) := by kernel_rfl
@[go_sem] theorem ti64 : E.ti 64 = some ⟨(.func #[38, 3, 50] #[3] false), 1, .nilFunc, 8⟩ := by kernel_rfl
@[go_sem] theorem desc64 : E.desc 64 = some (.func #[38, 3, 50] #[3] false) := by kernel_rfl
@[go_sem] theorem ti65 : E.ti 65 = some ⟨(.func #[23, 3, 3] #[4] false), 1, .nilFunc, 8⟩ := by kernel_rfl
@[go_sem] theorem desc65 : E.desc 65 = some (.func #[23, 3, 3] #[4] false) := by kernel_rfl
@[go_sem] theorem ti66 : E.ti 66 = some ⟨(.func #[26, 67] #[38] false), 1, .nilFunc, 8⟩ := by kernel_rfl
@[go_sem] theorem desc66 : E.desc 66 = some (.func #[26, 67] #[38] false) := by kernel_rfl
@[go_sem] theorem ti67 : E.ti 67 = some ⟨(.func #[23] #[3] false), 1, .nilFunc, 8⟩ := by kernel_rfl
@[go_sem] theorem desc67 : E.desc 67 = some (.func #[23] #[3] false) := by kernel_rfl
@[go_sem] theorem ti68 : E.ti 68 = some ⟨(.slice 71), 1, (.slice none 0 0), 24⟩ := by kernel_rfl
@[go_sem] theorem desc68 : E.desc 68 = some (.slice 71) := by kernel_rfl
@[go_sem] theorem ti69 : E.ti 69 = some ⟨(.func #[3] #[68] false), 1, .nilFunc, 8⟩ := by kernel_rfl
@[go_sem] theorem desc69 : E.desc 69 = some (.func #[3] #[68] false) := by kernel_rfl
@[go_sem] theorem ti70 : E.ti 70 = some ⟨(.struct #[⟨"from", 3, 0, false, "", "sheaf/check", 0⟩, ⟨"to", 3, 1, false, "", "sheaf/check", 8⟩]), 2, (.agg #[(.int .i64 0), (.int .i64 0)]), 16⟩ := by kernel_rfl
@[go_sem] theorem desc70 : E.desc 70 = some (.struct #[⟨"from", 3, 0, false, "", "sheaf/check", 0⟩, ⟨"to", 3, 1, false, "", "sheaf/check", 8⟩]) := by kernel_rfl
@[go_sem] theorem ti71 : E.ti 71 = some ⟨(.struct #[⟨"from", 3, 0, false, "", "sheaf/check", 0⟩, ⟨"to", 3, 1, false, "", "sheaf/check", 8⟩]), 2, (.agg #[(.int .i64 0), (.int .i64 0)]), 16⟩ := by kernel_rfl
@[go_sem] theorem desc71 : E.desc 71 = some (.struct #[⟨"from", 3, 0, false, "", "sheaf/check", 0⟩, ⟨"to", 3, 1, false, "", "sheaf/check", 8⟩]) := by kernel_rfl
@[go_sem] theorem ti72 : E.ti 72 = some ⟨(.func #[3, 51] #[4] false), 1, .nilFunc, 8⟩ := by kernel_rfl
@[go_sem] theorem desc72 : E.desc 72 = some (.func #[3, 51] #[4] false) := by kernel_rfl
@[go_sem] theorem ti73 : E.ti 73 = some ⟨(.func #[9] #[4] false), 1, .nilFunc, 8⟩ := by kernel_rfl
@[go_sem] theorem desc73 : E.desc 73 = some (.func #[9] #[4] false) := by kernel_rfl
@[go_sem] theorem ti74 : E.ti 74 = some ⟨(.func #[28, 26] #[28] false), 1, .nilFunc, 8⟩ := by kernel_rfl
@[go_sem] theorem desc74 : E.desc 74 = some (.func #[28, 26] #[28] false) := by kernel_rfl
@[go_sem] theorem ti75 : E.ti 75 = some ⟨(.func #[23, 38] #[23] false), 1, .nilFunc, 8⟩ := by kernel_rfl
@[go_sem] theorem desc75 : E.desc 75 = some (.func #[23, 38] #[23] false) := by kernel_rfl
@[go_sem] theorem ti76 : E.ti 76 = some ⟨(.func #[57, 60] #[57] false), 1, .nilFunc, 8⟩ := by kernel_rfl
@[go_sem] theorem desc76 : E.desc 76 = some (.func #[57, 60] #[57] false) := by kernel_rfl
@[go_sem] theorem ti77 : E.ti 77 = some ⟨(.func #[] #[9] false), 1, .nilFunc, 8⟩ := by kernel_rfl
@[go_sem] theorem desc77 : E.desc 77 = some (.func #[] #[9] false) := by kernel_rfl
@[go_sem] theorem ti78 : E.ti 78 = some ⟨(.struct #[⟨"_interface", 17, 0, false, "", "runtime", 0⟩, ⟨"concrete", 17, 1, false, "", "runtime", 8⟩, ⟨"asserted", 17, 2, false, "", "runtime", 16⟩, ⟨"missingMethod", 9, 3, false, "", "runtime", 24⟩]), 4, (.agg #[(.pointer none), (.pointer none), (.pointer none), (.string ⟨#[]⟩)]), 40⟩ := by kernel_rfl
@[go_sem] theorem desc78 : E.desc 78 = some (.struct #[⟨"_interface", 17, 0, false, "", "runtime", 0⟩, ⟨"concrete", 17, 1, false, "", "runtime", 8⟩, ⟨"asserted", 17, 2, false, "", "runtime", 16⟩, ⟨"missingMethod", 9, 3, false, "", "runtime", 24⟩]) := by kernel_rfl
@[go_sem] theorem ti79 : E.ti 79 = some ⟨(.struct #[⟨"_interface", 17, 0, false, "", "runtime", 0⟩, ⟨"concrete", 17, 1, false, "", "runtime", 8⟩, ⟨"asserted", 17, 2, false, "", "runtime", 16⟩, ⟨"missingMethod", 9, 3, false, "", "runtime", 24⟩]), 4, (.agg #[(.pointer none), (.pointer none), (.pointer none), (.string ⟨#[]⟩)]), 40⟩ := by kernel_rfl
@[go_sem] theorem desc79 : E.desc 79 = some (.struct #[⟨"_interface", 17, 0, false, "", "runtime", 0⟩, ⟨"concrete", 17, 1, false, "", "runtime", 8⟩, ⟨"asserted", 17, 2, false, "", "runtime", 16⟩, ⟨"missingMethod", 9, 3, false, "", "runtime", 24⟩]) := by kernel_rfl
@[go_sem] theorem ti80 : E.ti 80 = some ⟨(.array 0 16), 0, (.agg #[]), 0⟩ := by kernel_rfl
@[go_sem] theorem desc80 : E.desc 80 = some (.array 0 16) := by kernel_rfl
@[go_sem] theorem ti81 : E.ti 81 = some ⟨(.struct #[⟨"_", 80, 0, false, "", "runtime", 0⟩]), 0, (.agg #[]), 0⟩ := by kernel_rfl
@[go_sem] theorem desc81 : E.desc 81 = some (.struct #[⟨"_", 80, 0, false, "", "runtime", 0⟩]) := by kernel_rfl
@[go_sem] theorem ti82 : E.ti 82 = some ⟨(.struct #[⟨"_", 80, 0, false, "", "runtime", 0⟩]), 0, (.agg #[]), 0⟩ := by kernel_rfl
@[go_sem] theorem desc82 : E.desc 82 = some (.struct #[⟨"_", 80, 0, false, "", "runtime", 0⟩]) := by kernel_rfl
@[go_sem] theorem ti83 : E.ti 83 = some ⟨(.func #[] #[3] false), 1, .nilFunc, 8⟩ := by kernel_rfl
@[go_sem] theorem desc83 : E.desc 83 = some (.func #[] #[3] false) := by kernel_rfl
@[go_sem] theorem ti84 : E.ti 84 = some ⟨(.int .u32), 1, (.int .u32 0), 4⟩ := by kernel_rfl
@[go_sem] theorem desc84 : E.desc 84 = some (.int .u32) := by kernel_rfl
@[go_sem] theorem ti85 : E.ti 85 = some ⟨(.int .u8), 1, (.int .u8 0), 1⟩ := by kernel_rfl
@[go_sem] theorem desc85 : E.desc 85 = some (.int .u8) := by kernel_rfl
@[go_sem] theorem ti86 : E.ti 86 = some ⟨(.int .u8), 1, (.int .u8 0), 1⟩ := by kernel_rfl
@[go_sem] theorem desc86 : E.desc 86 = some (.int .u8) := by kernel_rfl
@[go_sem] theorem ti87 : E.ti 87 = some ⟨(.func #[93, 93] #[4] false), 1, .nilFunc, 8⟩ := by kernel_rfl
@[go_sem] theorem desc87 : E.desc 87 = some (.func #[93, 93] #[4] false) := by kernel_rfl
@[go_sem] theorem ti88 : E.ti 88 = some ⟨(.pointer 5), 1, (.pointer none), 8⟩ := by kernel_rfl
@[go_sem] theorem desc88 : E.desc 88 = some (.pointer 5) := by kernel_rfl
@[go_sem] theorem ti89 : E.ti 89 = some ⟨(.int .i32), 1, (.int .i32 0), 4⟩ := by kernel_rfl
@[go_sem] theorem desc89 : E.desc 89 = some (.int .i32) := by kernel_rfl
@[go_sem] theorem ti90 : E.ti 90 = some ⟨(.int .i32), 1, (.int .i32 0), 4⟩ := by kernel_rfl
@[go_sem] theorem desc90 : E.desc 90 = some (.int .i32) := by kernel_rfl
@[go_sem] theorem ti91 : E.ti 91 = some ⟨(.struct #[⟨"Size_", 12, 0, false, "", "", 0⟩, ⟨"PtrBytes", 12, 1, false, "", "", 8⟩, ⟨"Hash", 84, 2, false, "", "", 16⟩, ⟨"TFlag", 85, 3, false, "", "", 20⟩, ⟨"Align_", 5, 4, false, "", "", 21⟩, ⟨"FieldAlign_", 5, 5, false, "", "", 22⟩, ⟨"Kind_", 86, 6, false, "", "", 23⟩, ⟨"Equal", 87, 7, false, "", "", 24⟩, ⟨"GCData", 88, 8, false, "", "", 32⟩, ⟨"Str", 89, 9, false, "", "", 40⟩, ⟨"PtrToThis", 90, 10, false, "", "", 44⟩]), 11, (.agg #[(.int .u64 0), (.int .u64 0), (.int .u32 0), (.int .u8 0), (.int .u8 0), (.int .u8 0), (.int .u8 0), .nilFunc, (.pointer none), (.int .i32 0), (.int .i32 0)]), 48⟩ := by kernel_rfl
@[go_sem] theorem desc91 : E.desc 91 = some (.struct #[⟨"Size_", 12, 0, false, "", "", 0⟩, ⟨"PtrBytes", 12, 1, false, "", "", 8⟩, ⟨"Hash", 84, 2, false, "", "", 16⟩, ⟨"TFlag", 85, 3, false, "", "", 20⟩, ⟨"Align_", 5, 4, false, "", "", 21⟩, ⟨"FieldAlign_", 5, 5, false, "", "", 22⟩, ⟨"Kind_", 86, 6, false, "", "", 23⟩, ⟨"Equal", 87, 7, false, "", "", 24⟩, ⟨"GCData", 88, 8, false, "", "", 32⟩, ⟨"Str", 89, 9, false, "", "", 40⟩, ⟨"PtrToThis", 90, 10, false, "", "", 44⟩]) := by kernel_rfl
@[go_sem] theorem ti92 : E.ti 92 = some ⟨(.struct #[⟨"Size_", 12, 0, false, "", "", 0⟩, ⟨"PtrBytes", 12, 1, false, "", "", 8⟩, ⟨"Hash", 84, 2, false, "", "", 16⟩, ⟨"TFlag", 85, 3, false, "", "", 20⟩, ⟨"Align_", 5, 4, false, "", "", 21⟩, ⟨"FieldAlign_", 5, 5, false, "", "", 22⟩, ⟨"Kind_", 86, 6, false, "", "", 23⟩, ⟨"Equal", 87, 7, false, "", "", 24⟩, ⟨"GCData", 88, 8, false, "", "", 32⟩, ⟨"Str", 89, 9, false, "", "", 40⟩, ⟨"PtrToThis", 90, 10, false, "", "", 44⟩]), 11, (.agg #[(.int .u64 0), (.int .u64 0), (.int .u32 0), (.int .u8 0), (.int .u8 0), (.int .u8 0), (.int .u8 0), .nilFunc, (.pointer none), (.int .i32 0), (.int .i32 0)]), 48⟩ := by kernel_rfl
@[go_sem] theorem desc92 : E.desc 92 = some (.struct #[⟨"Size_", 12, 0, false, "", "", 0⟩, ⟨"PtrBytes", 12, 1, false, "", "", 8⟩, ⟨"Hash", 84, 2, false, "", "", 16⟩, ⟨"TFlag", 85, 3, false, "", "", 20⟩, ⟨"Align_", 5, 4, false, "", "", 21⟩, ⟨"FieldAlign_", 5, 5, false, "", "", 22⟩, ⟨"Kind_", 86, 6, false, "", "", 23⟩, ⟨"Equal", 87, 7, false, "", "", 24⟩, ⟨"GCData", 88, 8, false, "", "", 32⟩, ⟨"Str", 89, 9, false, "", "", 40⟩, ⟨"PtrToThis", 90, 10, false, "", "", 44⟩]) := by kernel_rfl
abbrev F_sheaflaw16_CheckRuns : FuncId := 3
@[go_sem] theorem closed3 (m : Mem) (K : Value → Mem → Prop) : CallQ E 3 #[] m K = K (.bool true) m := CallQ.closed (by kernel_rfl)
@[go_sem] theorem some3 : (E.fn 3).isSome = true := by kernel_rfl
abbrev F_sheaflaw10_FlowRuns : FuncId := 7
@[go_sem] theorem closed7 (m : Mem) (K : Value → Mem → Prop) : CallQ E 7 #[] m K = K (.bool true) m := CallQ.closed (by kernel_rfl)
@[go_sem] theorem some7 : (E.fn 7).isSome = true := by kernel_rfl

end Go.Proofs.Ytgbpgkfmmhlkoaa.W
