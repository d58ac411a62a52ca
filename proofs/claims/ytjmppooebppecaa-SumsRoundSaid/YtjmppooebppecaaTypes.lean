/-
  The types, printed by a program of mine (wip/dev/AbsPrint.lean).
-/
import Derived.Test.YtjmppooebppecaaEnvC
import Derived.Test.YtjmppooebppecaaAbs26
set_option linter.unusedVariables false
namespace Go.Proofs.Ytjmppooebppecaa.W
open Go.Abs

@[go_sem] theorem ti1 : E.ti 1 = some ⟨(.func #[] #[] false), 1, .nilFunc, 8⟩ := by kernel_rfl
@[go_sem] theorem desc1 : E.desc 1 = some (.func #[] #[] false) := by kernel_rfl
@[go_sem] theorem ti2 : E.ti 2 = some ⟨(.int .i64), 1, (.int .i64 0), 8⟩ := by kernel_rfl
@[go_sem] theorem desc2 : E.desc 2 = some (.int .i64) := by kernel_rfl
@[go_sem] theorem ti3 : E.ti 3 = some ⟨(.int .i64), 1, (.int .i64 0), 8⟩ := by kernel_rfl
@[go_sem] theorem desc3 : E.desc 3 = some (.int .i64) := by kernel_rfl
@[go_sem] theorem ti4 : E.ti 4 = some ⟨.bool, 1, (.bool false), 1⟩ := by kernel_rfl
@[go_sem] theorem desc4 : E.desc 4 = some .bool := by kernel_rfl
@[go_sem] theorem ti5 : E.ti 5 = some ⟨(.int .u8), 1, (.int .u8 0), 1⟩ := by kernel_rfl
@[go_sem] theorem desc5 : E.desc 5 = some (.int .u8) := by kernel_rfl
@[go_sem] theorem ti6 : E.ti 6 = some ⟨(.int .u8), 1, (.int .u8 0), 1⟩ := by kernel_rfl
@[go_sem] theorem desc6 : E.desc 6 = some (.int .u8) := by kernel_rfl
@[go_sem] theorem ti7 : E.ti 7 = some ⟨(.struct #[⟨"x", 2, 0, false, "", "runtime", 0⟩, ⟨"y", 3, 1, false, "", "runtime", 8⟩, ⟨"signed", 4, 2, false, "", "runtime", 16⟩, ⟨"code", 6, 3, false, "", "runtime", 17⟩]), 4, (.agg #[(.int .i64 0), (.int .i64 0), (.bool false), (.int .u8 0)]), 24⟩ := by kernel_rfl
@[go_sem] theorem desc7 : E.desc 7 = some (.struct #[⟨"x", 2, 0, false, "", "runtime", 0⟩, ⟨"y", 3, 1, false, "", "runtime", 8⟩, ⟨"signed", 4, 2, false, "", "runtime", 16⟩, ⟨"code", 6, 3, false, "", "runtime", 17⟩]) := by kernel_rfl
@[go_sem] theorem ti8 : E.ti 8 = some ⟨(.struct #[⟨"x", 2, 0, false, "", "runtime", 0⟩, ⟨"y", 3, 1, false, "", "runtime", 8⟩, ⟨"signed", 4, 2, false, "", "runtime", 16⟩, ⟨"code", 6, 3, false, "", "runtime", 17⟩]), 4, (.agg #[(.int .i64 0), (.int .i64 0), (.bool false), (.int .u8 0)]), 24⟩ := by kernel_rfl
@[go_sem] theorem desc8 : E.desc 8 = some (.struct #[⟨"x", 2, 0, false, "", "runtime", 0⟩, ⟨"y", 3, 1, false, "", "runtime", 8⟩, ⟨"signed", 4, 2, false, "", "runtime", 16⟩, ⟨"code", 6, 3, false, "", "runtime", 17⟩]) := by kernel_rfl
@[go_sem] theorem ti9 : E.ti 9 = some ⟨.string, 1, (.string ⟨#[]⟩), 16⟩ := by kernel_rfl
@[go_sem] theorem desc9 : E.desc 9 = some .string := by kernel_rfl
@[go_sem] theorem ti10 : E.ti 10 = some ⟨.string, 1, (.string ⟨#[]⟩), 16⟩ := by kernel_rfl
@[go_sem] theorem desc10 : E.desc 10 = some .string := by kernel_rfl
@[go_sem] theorem ti11 : E.ti 11 = some ⟨.string, 1, (.string ⟨#[]⟩), 16⟩ := by kernel_rfl
@[go_sem] theorem desc11 : E.desc 11 = some .string := by kernel_rfl
@[go_sem] theorem ti12 : E.ti 12 = some ⟨(.int .u64), 1, (.int .u64 0), 8⟩ := by kernel_rfl
@[go_sem] theorem desc12 : E.desc 12 = some (.int .u64) := by kernel_rfl
@[go_sem] theorem ti13 : E.ti 13 = some ⟨(.struct #[⟨"msg", 9, 0, false, "", "runtime", 0⟩, ⟨"addr", 12, 1, false, "", "runtime", 16⟩]), 2, (.agg #[(.string ⟨#[]⟩), (.int .u64 0)]), 24⟩ := by kernel_rfl
@[go_sem] theorem desc13 : E.desc 13 = some (.struct #[⟨"msg", 9, 0, false, "", "runtime", 0⟩, ⟨"addr", 12, 1, false, "", "runtime", 16⟩]) := by kernel_rfl
@[go_sem] theorem ti14 : E.ti 14 = some ⟨(.struct #[⟨"msg", 9, 0, false, "", "runtime", 0⟩, ⟨"addr", 12, 1, false, "", "runtime", 16⟩]), 2, (.agg #[(.string ⟨#[]⟩), (.int .u64 0)]), 24⟩ := by kernel_rfl
@[go_sem] theorem desc14 : E.desc 14 = some (.struct #[⟨"msg", 9, 0, false, "", "runtime", 0⟩, ⟨"addr", 12, 1, false, "", "runtime", 16⟩]) := by kernel_rfl
@[go_sem] theorem ti15 : E.ti 15 = some ⟨(.pointer 114), 1, (.pointer none), 8⟩ := by kernel_rfl
@[go_sem] theorem desc15 : E.desc 15 = some (.pointer 114) := by kernel_rfl
@[go_sem] theorem ti16 : E.ti 16 = some ⟨(.pointer 117), 1, (.pointer none), 8⟩ := by kernel_rfl
@[go_sem] theorem desc16 : E.desc 16 = some (.pointer 117) := by kernel_rfl
@[go_sem] theorem ti17 : E.ti 17 = some ⟨(.pointer 127), 1, (.pointer none), 8⟩ := by kernel_rfl
@[go_sem] theorem desc17 : E.desc 17 = some (.pointer 127) := by kernel_rfl
@[go_sem] theorem ti18 : E.ti 18 = some ⟨(.struct #[⟨"typ", 17, 0, false, "", "internal/runtime/maps", 0⟩]), 1, (.agg #[(.pointer none)]), 8⟩ := by kernel_rfl
@[go_sem] theorem desc18 : E.desc 18 = some (.struct #[⟨"typ", 17, 0, false, "", "internal/runtime/maps", 0⟩]) := by kernel_rfl
@[go_sem] theorem ti19 : E.ti 19 = some ⟨(.struct #[⟨"typ", 17, 0, false, "", "internal/runtime/maps", 0⟩]), 1, (.agg #[(.pointer none)]), 8⟩ := by kernel_rfl
@[go_sem] theorem desc19 : E.desc 19 = some (.struct #[⟨"typ", 17, 0, false, "", "internal/runtime/maps", 0⟩]) := by kernel_rfl
@[go_sem] theorem ti21 : E.ti 21 = some ⟨(.int .i32), 1, (.int .i32 0), 4⟩ := by kernel_rfl
@[go_sem] theorem desc21 : E.desc 21 = some (.int .i32) := by kernel_rfl
@[go_sem] theorem ti22 : E.ti 22 = some ⟨(.slice 3), 1, (.slice none 0 0), 24⟩ := by kernel_rfl
@[go_sem] theorem desc22 : E.desc 22 = some (.slice 3) := by kernel_rfl
@[go_sem] theorem ti23 : E.ti 23 = some ⟨(.array 2 3), 2, (.agg #[(.int .i64 0), (.int .i64 0)]), 16⟩ := by kernel_rfl
@[go_sem] theorem desc23 : E.desc 23 = some (.array 2 3) := by kernel_rfl
@[go_sem] theorem ti24 : E.ti 24 = some ⟨(.slice 23), 1, (.slice none 0 0), 24⟩ := by kernel_rfl
@[go_sem] theorem desc24 : E.desc 24 = some (.slice 23) := by kernel_rfl
@[go_sem] theorem ti25 : E.ti 25 = some ⟨(.int .u64), 1, (.int .u64 0), 8⟩ := by kernel_rfl
@[go_sem] theorem desc25 : E.desc 25 = some (.int .u64) := by kernel_rfl
@[go_sem] theorem ti26 : E.ti 26 = some ⟨(.struct #[⟨"Hi", 2, 0, false, "", "", 0⟩, ⟨"Lo", 25, 1, false, "", "", 8⟩]), 2, (.agg #[(.int .i64 0), (.int .u64 0)]), 16⟩ := by kernel_rfl
@[go_sem] theorem desc26 : E.desc 26 = some (.struct #[⟨"Hi", 2, 0, false, "", "", 0⟩, ⟨"Lo", 25, 1, false, "", "", 8⟩]) := by kernel_rfl
@[go_sem] theorem ti27 : E.ti 27 = some ⟨(.struct #[⟨"Hi", 2, 0, false, "", "", 0⟩, ⟨"Lo", 25, 1, false, "", "", 8⟩]), 2, (.agg #[(.int .i64 0), (.int .u64 0)]), 16⟩ := by kernel_rfl
@[go_sem] theorem desc27 : E.desc 27 = some (.struct #[⟨"Hi", 2, 0, false, "", "", 0⟩, ⟨"Lo", 25, 1, false, "", "", 8⟩]) := by kernel_rfl
@[go_sem] theorem ti29 : E.ti 29 = some ⟨(.func #[27, 27] #[27, 27] false), 1, .nilFunc, 8⟩ := by kernel_rfl
@[go_sem] theorem desc29 : E.desc 29 = some (.func #[27, 27] #[27, 27] false) := by kernel_rfl
@[go_sem] theorem ti30 : E.ti 30 = some ⟨(.func #[3] #[27] false), 1, .nilFunc, 8⟩ := by kernel_rfl
@[go_sem] theorem desc30 : E.desc 30 = some (.func #[3] #[27] false) := by kernel_rfl
@[go_sem] theorem ti32 : E.ti 32 = some ⟨(.func #[27] #[3, 4] false), 1, .nilFunc, 8⟩ := by kernel_rfl
@[go_sem] theorem desc32 : E.desc 32 = some (.func #[27] #[3, 4] false) := by kernel_rfl
@[go_sem] theorem ti33 : E.ti 33 = some ⟨(.func #[22, 22] #[4] false), 1, .nilFunc, 8⟩ := by kernel_rfl
@[go_sem] theorem desc33 : E.desc 33 = some (.func #[22, 22] #[4] false) := by kernel_rfl
@[go_sem] theorem ti34 : E.ti 34 = some ⟨(.func #[22] #[22] false), 1, .nilFunc, 8⟩ := by kernel_rfl
@[go_sem] theorem desc34 : E.desc 34 = some (.func #[22] #[22] false) := by kernel_rfl
@[go_sem] theorem ti35 : E.ti 35 = some ⟨(.func #[] #[4] false), 1, .nilFunc, 8⟩ := by kernel_rfl
@[go_sem] theorem desc35 : E.desc 35 = some (.func #[] #[4] false) := by kernel_rfl
@[go_sem] theorem ti36 : E.ti 36 = some ⟨(.struct #[⟨"E", 3, 0, false, "", "", 0⟩, ⟨"P", 3, 1, false, "", "", 8⟩, ⟨"A", 3, 2, false, "", "", 16⟩, ⟨"B", 3, 3, false, "", "", 24⟩, ⟨"Day", 3, 4, false, "", "", 32⟩, ⟨"N", 3, 5, false, "", "", 40⟩, ⟨"Twist", 3, 6, false, "", "", 48⟩]), 7, (.agg #[(.int .i64 0), (.int .i64 0), (.int .i64 0), (.int .i64 0), (.int .i64 0), (.int .i64 0), (.int .i64 0)]), 56⟩ := by kernel_rfl
@[go_sem] theorem desc36 : E.desc 36 = some (.struct #[⟨"E", 3, 0, false, "", "", 0⟩, ⟨"P", 3, 1, false, "", "", 8⟩, ⟨"A", 3, 2, false, "", "", 16⟩, ⟨"B", 3, 3, false, "", "", 24⟩, ⟨"Day", 3, 4, false, "", "", 32⟩, ⟨"N", 3, 5, false, "", "", 40⟩, ⟨"Twist", 3, 6, false, "", "", 48⟩]) := by kernel_rfl
@[go_sem] theorem ti37 : E.ti 37 = some ⟨(.struct #[⟨"E", 3, 0, false, "", "", 0⟩, ⟨"P", 3, 1, false, "", "", 8⟩, ⟨"A", 3, 2, false, "", "", 16⟩, ⟨"B", 3, 3, false, "", "", 24⟩, ⟨"Day", 3, 4, false, "", "", 32⟩, ⟨"N", 3, 5, false, "", "", 40⟩, ⟨"Twist", 3, 6, false, "", "", 48⟩]), 7, (.agg #[(.int .i64 0), (.int .i64 0), (.int .i64 0), (.int .i64 0), (.int .i64 0), (.int .i64 0), (.int .i64 0)]), 56⟩ := by kernel_rfl
@[go_sem] theorem desc37 : E.desc 37 = some (.struct #[⟨"E", 3, 0, false, "", "", 0⟩, ⟨"P", 3, 1, false, "", "", 8⟩, ⟨"A", 3, 2, false, "", "", 16⟩, ⟨"B", 3, 3, false, "", "", 24⟩, ⟨"Day", 3, 4, false, "", "", 32⟩, ⟨"N", 3, 5, false, "", "", 40⟩, ⟨"Twist", 3, 6, false, "", "", 48⟩]) := by kernel_rfl
@[go_sem] theorem ti38 : E.ti 38 = some ⟨(.func #[37] #[22] false), 1, .nilFunc, 8⟩ := by kernel_rfl
@[go_sem] theorem desc38 : E.desc 38 = some (.func #[37] #[22] false) := by kernel_rfl
@[go_sem] theorem ti39 : E.ti 39 = some ⟨(.func #[37, 37] #[4] false), 1, .nilFunc, 8⟩ := by kernel_rfl
@[go_sem] theorem desc39 : E.desc 39 = some (.func #[37, 37] #[4] false) := by kernel_rfl
@[go_sem] theorem ti40 : E.ti 40 = some ⟨(.slice 22), 1, (.slice none 0 0), 24⟩ := by kernel_rfl
@[go_sem] theorem desc40 : E.desc 40 = some (.slice 22) := by kernel_rfl
@[go_sem] theorem ti42 : E.ti 42 = some ⟨(.func #[40, 3, 22] #[40, 4] true), 1, .nilFunc, 8⟩ := by kernel_rfl
@[go_sem] theorem desc42 : E.desc 42 = some (.func #[40, 3, 22] #[40, 4] true) := by kernel_rfl
@[go_sem] theorem ti43 : E.ti 43 = some ⟨(.func #[40, 40] #[4] false), 1, .nilFunc, 8⟩ := by kernel_rfl
@[go_sem] theorem desc43 : E.desc 43 = some (.func #[40, 40] #[4] false) := by kernel_rfl
@[go_sem] theorem ti44 : E.ti 44 = some ⟨(.slice 37), 1, (.slice none 0 0), 24⟩ := by kernel_rfl
@[go_sem] theorem desc44 : E.desc 44 = some (.slice 37) := by kernel_rfl
@[go_sem] theorem ti45 : E.ti 45 = some ⟨(.func #[44] #[40] false), 1, .nilFunc, 8⟩ := by kernel_rfl
@[go_sem] theorem desc45 : E.desc 45 = some (.func #[44] #[40] false) := by kernel_rfl
@[go_sem] theorem ti46 : E.ti 46 = some ⟨(.func #[40, 22, 3] #[40, 4] false), 1, .nilFunc, 8⟩ := by kernel_rfl
@[go_sem] theorem desc46 : E.desc 46 = some (.func #[40, 22, 3] #[40, 4] false) := by kernel_rfl
@[go_sem] theorem ti47 : E.ti 47 = some ⟨(.func #[44, 4] #[4] false), 1, .nilFunc, 8⟩ := by kernel_rfl
@[go_sem] theorem desc47 : E.desc 47 = some (.func #[44, 4] #[4] false) := by kernel_rfl
@[go_sem] theorem ti48 : E.ti 48 = some ⟨(.func #[3, 3, 3] #[3] false), 1, .nilFunc, 8⟩ := by kernel_rfl
@[go_sem] theorem desc48 : E.desc 48 = some (.func #[3, 3, 3] #[3] false) := by kernel_rfl
@[go_sem] theorem ti49 : E.ti 49 = some ⟨(.func #[40, 22] #[40] false), 1, .nilFunc, 8⟩ := by kernel_rfl
@[go_sem] theorem desc49 : E.desc 49 = some (.func #[40, 22] #[40] false) := by kernel_rfl
@[go_sem] theorem ti50 : E.ti 50 = some ⟨(.func #[81] #[] false), 1, .nilFunc, 8⟩ := by kernel_rfl
@[go_sem] theorem desc50 : E.desc 50 = some (.func #[81] #[] false) := by kernel_rfl
@[go_sem] theorem ti51 : E.ti 51 = some ⟨(.func #[81] #[] false), 1, .nilFunc, 8⟩ := by kernel_rfl
@[go_sem] theorem desc51 : E.desc 51 = some (.func #[81] #[] false) := by kernel_rfl
@[go_sem] theorem ti52 : E.ti 52 = some ⟨(.func #[54, 3, 22] #[51] true), 1, .nilFunc, 8⟩ := by kernel_rfl
@[go_sem] theorem desc52 : E.desc 52 = some (.func #[54, 3, 22] #[51] true) := by kernel_rfl
@[go_sem] theorem ti53 : E.ti 53 = some ⟨(.func #[101] #[] false), 1, .nilFunc, 8⟩ := by kernel_rfl
@[go_sem] theorem desc53 : E.desc 53 = some (.func #[101] #[] false) := by kernel_rfl
@[go_sem] theorem ti54 : E.ti 54 = some ⟨(.func #[101] #[] false), 1, .nilFunc, 8⟩ := by kernel_rfl
@[go_sem] theorem desc54 : E.desc 54 = some (.func #[101] #[] false) := by kernel_rfl
@[go_sem] theorem ti55 : E.ti 55 = some ⟨(.func #[40] #[54] false), 1, .nilFunc, 8⟩ := by kernel_rfl
@[go_sem] theorem desc55 : E.desc 55 = some (.func #[40] #[54] false) := by kernel_rfl
@[go_sem] theorem ti56 : E.ti 56 = some ⟨(.func #[44, 3] #[4] false), 1, .nilFunc, 8⟩ := by kernel_rfl
@[go_sem] theorem desc56 : E.desc 56 = some (.func #[44, 3] #[4] false) := by kernel_rfl
@[go_sem] theorem ti57 : E.ti 57 = some ⟨(.func #[44] #[4] false), 1, .nilFunc, 8⟩ := by kernel_rfl
@[go_sem] theorem desc57 : E.desc 57 = some (.func #[44] #[4] false) := by kernel_rfl
@[go_sem] theorem ti58 : E.ti 58 = some ⟨(.func #[3, 3] #[27] false), 1, .nilFunc, 8⟩ := by kernel_rfl
@[go_sem] theorem desc58 : E.desc 58 = some (.func #[3, 3] #[27] false) := by kernel_rfl
@[go_sem] theorem ti59 : E.ti 59 = some ⟨(.func #[27, 27] #[3] false), 1, .nilFunc, 8⟩ := by kernel_rfl
@[go_sem] theorem desc59 : E.desc 59 = some (.func #[27, 27] #[3] false) := by kernel_rfl
@[go_sem] theorem ti60 : E.ti 60 = some ⟨(.func #[27, 27] #[27] false), 1, .nilFunc, 8⟩ := by kernel_rfl
@[go_sem] theorem desc60 : E.desc 60 = some (.func #[27, 27] #[27] false) := by kernel_rfl
@[go_sem] theorem ti61 : E.ti 61 = some ⟨(.func #[3, 3, 3, 3] #[4] false), 1, .nilFunc, 8⟩ := by kernel_rfl
@[go_sem] theorem desc61 : E.desc 61 = some (.func #[3, 3, 3, 3] #[4] false) := by kernel_rfl
@[go_sem] theorem ti62 : E.ti 62 = some ⟨(.int .i64), 1, (.int .i64 0), 8⟩ := by kernel_rfl
@[go_sem] theorem desc62 : E.desc 62 = some (.int .i64) := by kernel_rfl
@[go_sem] theorem ti63 : E.ti 63 = some ⟨(.func #[89] #[] false), 1, .nilFunc, 8⟩ := by kernel_rfl
@[go_sem] theorem desc63 : E.desc 63 = some (.func #[89] #[] false) := by kernel_rfl
@[go_sem] theorem ti64 : E.ti 64 = some ⟨(.func #[89] #[] false), 1, .nilFunc, 8⟩ := by kernel_rfl
@[go_sem] theorem desc64 : E.desc 64 = some (.func #[89] #[] false) := by kernel_rfl
@[go_sem] theorem ti65 : E.ti 65 = some ⟨(.func #[54] #[64] false), 1, .nilFunc, 8⟩ := by kernel_rfl
@[go_sem] theorem desc65 : E.desc 65 = some (.func #[54] #[64] false) := by kernel_rfl
@[go_sem] theorem ti67 : E.ti 67 = some ⟨(.func #[40] #[40, 62] false), 1, .nilFunc, 8⟩ := by kernel_rfl
@[go_sem] theorem desc67 : E.desc 67 = some (.func #[40] #[40, 62] false) := by kernel_rfl
@[go_sem] theorem ti68 : E.ti 68 = some ⟨(.map 3 3), 1, (.map none), 8⟩ := by kernel_rfl
@[go_sem] theorem desc68 : E.desc 68 = some (.map 3 3) := by kernel_rfl
theorem map68 : mapD E 68 = some (3, (.int .i64), ⟨(.int .i64), 1, (.int .i64 0), 8⟩) := by kernel_rfl
@[go_sem] theorem ti69 : E.ti 69 = some ⟨(.func #[40] #[40, 4] false), 1, .nilFunc, 8⟩ := by kernel_rfl
@[go_sem] theorem desc69 : E.desc 69 = some (.func #[40] #[40, 4] false) := by kernel_rfl
@[go_sem] theorem ti70 : E.ti 70 = some ⟨(.struct #[⟨"w", 27, 0, false, "", "sheaf/money", 0⟩]), 2, (.agg #[(.int .i64 0), (.int .u64 0)]), 16⟩ := by kernel_rfl
@[go_sem] theorem desc70 : E.desc 70 = some (.struct #[⟨"w", 27, 0, false, "", "sheaf/money", 0⟩]) := by kernel_rfl
@[go_sem] theorem ti71 : E.ti 71 = some ⟨(.struct #[⟨"w", 27, 0, false, "", "sheaf/money", 0⟩]), 2, (.agg #[(.int .i64 0), (.int .u64 0)]), 16⟩ := by kernel_rfl
@[go_sem] theorem desc71 : E.desc 71 = some (.struct #[⟨"w", 27, 0, false, "", "sheaf/money", 0⟩]) := by kernel_rfl
@[go_sem] theorem ti72 : E.ti 72 = some ⟨(.array 4 71), 8, (.agg #[(.int .i64 0), (.int .u64 0), (.int .i64 0), (.int .u64 0), (.int .i64 0), (.int .u64 0), (.int .i64 0), (.int .u64 0)]), 64⟩ := by kernel_rfl
@[go_sem] theorem desc72 : E.desc 72 = some (.array 4 71) := by kernel_rfl
@[go_sem] theorem ti73 : E.ti 73 = some ⟨(.func #[3] #[] false), 1, .nilFunc, 8⟩ := by kernel_rfl
@[go_sem] theorem desc73 : E.desc 73 = some (.func #[3] #[] false) := by kernel_rfl
@[go_sem] theorem ti74 : E.ti 74 = some ⟨(.func #[] #[27] false), 1, .nilFunc, 8⟩ := by kernel_rfl
@[go_sem] theorem desc74 : E.desc 74 = some (.func #[] #[27] false) := by kernel_rfl
@[go_sem] theorem ti75 : E.ti 75 = some ⟨(.func #[3, 3, 3] #[4] false), 1, .nilFunc, 8⟩ := by kernel_rfl
@[go_sem] theorem desc75 : E.desc 75 = some (.func #[3, 3, 3] #[4] false) := by kernel_rfl
@[go_sem] theorem ti76 : E.ti 76 = some ⟨(.func #[27] #[3] false), 1, .nilFunc, 8⟩ := by kernel_rfl
@[go_sem] theorem desc76 : E.desc 76 = some (.func #[27] #[3] false) := by kernel_rfl
@[go_sem] theorem ti77 : E.ti 77 = some ⟨(.int .u64), 1, (.int .u64 0), 8⟩ := by kernel_rfl
@[go_sem] theorem desc77 : E.desc 77 = some (.int .u64) := by kernel_rfl
@[go_sem] theorem ti78 : E.ti 78 = some ⟨(.func #[22, 3] #[3] false), 1, .nilFunc, 8⟩ := by kernel_rfl
@[go_sem] theorem desc78 : E.desc 78 = some (.func #[22, 3] #[3] false) := by kernel_rfl
@[go_sem] theorem ti79 : E.ti 79 = some ⟨(.map 3 4), 1, (.map none), 8⟩ := by kernel_rfl
@[go_sem] theorem desc79 : E.desc 79 = some (.map 3 4) := by kernel_rfl
theorem map79 : mapD E 79 = some (3, (.int .i64), ⟨.bool, 1, (.bool false), 1⟩) := by kernel_rfl
@[go_sem] theorem ti80 : E.ti 80 = some ⟨(.func #[22, 22, 22] #[3] false), 1, .nilFunc, 8⟩ := by kernel_rfl
@[go_sem] theorem desc80 : E.desc 80 = some (.func #[22, 22, 22] #[3] false) := by kernel_rfl
@[go_sem] theorem ti81 : E.ti 81 = some ⟨(.func #[22, 4] #[4] false), 1, .nilFunc, 8⟩ := by kernel_rfl
@[go_sem] theorem desc81 : E.desc 81 = some (.func #[22, 4] #[4] false) := by kernel_rfl
@[go_sem] theorem ti82 : E.ti 82 = some ⟨(.func #[] #[3, 4] false), 1, .nilFunc, 8⟩ := by kernel_rfl
@[go_sem] theorem desc82 : E.desc 82 = some (.func #[] #[3, 4] false) := by kernel_rfl
@[go_sem] theorem ti83 : E.ti 83 = some ⟨(.func #[22, 22] #[22] false), 1, .nilFunc, 8⟩ := by kernel_rfl
@[go_sem] theorem desc83 : E.desc 83 = some (.func #[22, 22] #[22] false) := by kernel_rfl
@[go_sem] theorem ti85 : E.ti 85 = some ⟨(.func #[25, 25] #[25, 25] false), 1, .nilFunc, 8⟩ := by kernel_rfl
@[go_sem] theorem desc85 : E.desc 85 = some (.func #[25, 25] #[25, 25] false) := by kernel_rfl
@[go_sem] theorem ti86 : E.ti 86 = some ⟨(.func #[2, 2] #[3] false), 1, .nilFunc, 8⟩ := by kernel_rfl
@[go_sem] theorem desc86 : E.desc 86 = some (.func #[2, 2] #[3] false) := by kernel_rfl
@[go_sem] theorem ti87 : E.ti 87 = some ⟨(.func #[25, 25] #[3] false), 1, .nilFunc, 8⟩ := by kernel_rfl
@[go_sem] theorem desc87 : E.desc 87 = some (.func #[25, 25] #[3] false) := by kernel_rfl
@[go_sem] theorem ti88 : E.ti 88 = some ⟨(.func #[25, 25, 25] #[25, 25] false), 1, .nilFunc, 8⟩ := by kernel_rfl
@[go_sem] theorem desc88 : E.desc 88 = some (.func #[25, 25, 25] #[25, 25] false) := by kernel_rfl
@[go_sem] theorem ti89 : E.ti 89 = some ⟨(.func #[22, 62] #[4] false), 1, .nilFunc, 8⟩ := by kernel_rfl
@[go_sem] theorem desc89 : E.desc 89 = some (.func #[22, 62] #[4] false) := by kernel_rfl
@[go_sem] theorem ti90 : E.ti 90 = some ⟨(.pointer 92), 1, (.pointer none), 8⟩ := by kernel_rfl
@[go_sem] theorem desc90 : E.desc 90 = some (.pointer 92) := by kernel_rfl
@[go_sem] theorem ti91 : E.ti 91 = some ⟨(.struct #[⟨"id", 3, 0, false, "", "sheaf/sums", 0⟩, ⟨"parts", 3, 1, false, "", "sheaf/sums", 8⟩, ⟨"amount", 71, 2, false, "", "sheaf/sums", 16⟩, ⟨"money", 71, 4, false, "", "sheaf/sums", 32⟩]), 6, (.agg #[(.int .i64 0), (.int .i64 0), (.int .i64 0), (.int .u64 0), (.int .i64 0), (.int .u64 0)]), 48⟩ := by kernel_rfl
@[go_sem] theorem desc91 : E.desc 91 = some (.struct #[⟨"id", 3, 0, false, "", "sheaf/sums", 0⟩, ⟨"parts", 3, 1, false, "", "sheaf/sums", 8⟩, ⟨"amount", 71, 2, false, "", "sheaf/sums", 16⟩, ⟨"money", 71, 4, false, "", "sheaf/sums", 32⟩]) := by kernel_rfl
@[go_sem] theorem ti92 : E.ti 92 = some ⟨(.struct #[⟨"id", 3, 0, false, "", "sheaf/sums", 0⟩, ⟨"parts", 3, 1, false, "", "sheaf/sums", 8⟩, ⟨"amount", 71, 2, false, "", "sheaf/sums", 16⟩, ⟨"money", 71, 4, false, "", "sheaf/sums", 32⟩]), 6, (.agg #[(.int .i64 0), (.int .i64 0), (.int .i64 0), (.int .u64 0), (.int .i64 0), (.int .u64 0)]), 48⟩ := by kernel_rfl
@[go_sem] theorem desc92 : E.desc 92 = some (.struct #[⟨"id", 3, 0, false, "", "sheaf/sums", 0⟩, ⟨"parts", 3, 1, false, "", "sheaf/sums", 8⟩, ⟨"amount", 71, 2, false, "", "sheaf/sums", 16⟩, ⟨"money", 71, 4, false, "", "sheaf/sums", 32⟩]) := by kernel_rfl
@[go_sem] theorem ti93 : E.ti 93 = some ⟨(.map 3 27), 1, (.map none), 8⟩ := by kernel_rfl
@[go_sem] theorem desc93 : E.desc 93 = some (.map 3 27) := by kernel_rfl
theorem map93 : mapD E 93 = some (3, (.int .i64), ⟨(.struct #[⟨"Hi", 2, 0, false, "", "", 0⟩, ⟨"Lo", 25, 1, false, "", "", 8⟩]), 2, (.agg #[(.int .i64 0), (.int .u64 0)]), 16⟩) := by kernel_rfl
@[go_sem] theorem ti94 : E.ti 94 = some ⟨(.func #[27] #[27] false), 1, .nilFunc, 8⟩ := by kernel_rfl
@[go_sem] theorem desc94 : E.desc 94 = some (.func #[27] #[27] false) := by kernel_rfl
@[go_sem] theorem ti95 : E.ti 95 = some ⟨(.slice 4), 1, (.slice none 0 0), 24⟩ := by kernel_rfl
@[go_sem] theorem desc95 : E.desc 95 = some (.slice 4) := by kernel_rfl
@[go_sem] theorem ti96 : E.ti 96 = some ⟨(.func #[54] #[51] false), 1, .nilFunc, 8⟩ := by kernel_rfl
@[go_sem] theorem desc96 : E.desc 96 = some (.func #[54] #[51] false) := by kernel_rfl
@[go_sem] theorem ti97 : E.ti 97 = some ⟨(.struct #[⟨"Sum", 27, 0, false, "", "", 0⟩, ⟨"Parts", 3, 2, false, "", "", 16⟩, ⟨"Is", 4, 3, false, "", "", 24⟩]), 4, (.agg #[(.int .i64 0), (.int .u64 0), (.int .i64 0), (.bool false)]), 32⟩ := by kernel_rfl
@[go_sem] theorem desc97 : E.desc 97 = some (.struct #[⟨"Sum", 27, 0, false, "", "", 0⟩, ⟨"Parts", 3, 2, false, "", "", 16⟩, ⟨"Is", 4, 3, false, "", "", 24⟩]) := by kernel_rfl
@[go_sem] theorem ti98 : E.ti 98 = some ⟨(.struct #[⟨"Sum", 27, 0, false, "", "", 0⟩, ⟨"Parts", 3, 2, false, "", "", 16⟩, ⟨"Is", 4, 3, false, "", "", 24⟩]), 4, (.agg #[(.int .i64 0), (.int .u64 0), (.int .i64 0), (.bool false)]), 32⟩ := by kernel_rfl
@[go_sem] theorem desc98 : E.desc 98 = some (.struct #[⟨"Sum", 27, 0, false, "", "", 0⟩, ⟨"Parts", 3, 2, false, "", "", 16⟩, ⟨"Is", 4, 3, false, "", "", 24⟩]) := by kernel_rfl
@[go_sem] theorem ti99 : E.ti 99 = some ⟨(.pointer 71), 1, (.pointer none), 8⟩ := by kernel_rfl
@[go_sem] theorem desc99 : E.desc 99 = some (.pointer 71) := by kernel_rfl
@[go_sem] theorem ti100 : E.ti 100 = some ⟨(.func #[22, 22, 3] #[3] false), 1, .nilFunc, 8⟩ := by kernel_rfl
@[go_sem] theorem desc100 : E.desc 100 = some (.func #[22, 22, 3] #[3] false) := by kernel_rfl
@[go_sem] theorem ti101 : E.ti 101 = some ⟨(.func #[22] #[4] false), 1, .nilFunc, 8⟩ := by kernel_rfl
@[go_sem] theorem desc101 : E.desc 101 = some (.func #[22] #[4] false) := by kernel_rfl
@[go_sem] theorem ti102 : E.ti 102 = some ⟨(.func #[2] #[4] false), 1, .nilFunc, 8⟩ := by kernel_rfl
@[go_sem] theorem desc102 : E.desc 102 = some (.func #[2] #[4] false) := by kernel_rfl
@[go_sem] theorem ti103 : E.ti 103 = some ⟨(.func #[25] #[4] false), 1, .nilFunc, 8⟩ := by kernel_rfl
@[go_sem] theorem desc103 : E.desc 103 = some (.func #[25] #[4] false) := by kernel_rfl
@[go_sem] theorem ti104 : E.ti 104 = some ⟨(.pointer 109), 1, (.pointer none), 8⟩ := by kernel_rfl
@[go_sem] theorem desc104 : E.desc 104 = some (.pointer 109) := by kernel_rfl
@[go_sem] theorem ti105 : E.ti 105 = some ⟨(.func #[] #[40, 4] false), 1, .nilFunc, 8⟩ := by kernel_rfl
@[go_sem] theorem desc105 : E.desc 105 = some (.func #[] #[40, 4] false) := by kernel_rfl
@[go_sem] theorem ti106 : E.ti 106 = some ⟨(.struct #[⟨"entity", 3, 0, false, "", "sheaf/pair", 0⟩, ⟨"parts", 3, 1, false, "", "sheaf/pair", 8⟩, ⟨"sum", 71, 2, false, "", "sheaf/pair", 16⟩, ⟨"rows", 3, 4, false, "", "sheaf/pair", 32⟩]), 5, (.agg #[(.int .i64 0), (.int .i64 0), (.int .i64 0), (.int .u64 0), (.int .i64 0)]), 40⟩ := by kernel_rfl
@[go_sem] theorem desc106 : E.desc 106 = some (.struct #[⟨"entity", 3, 0, false, "", "sheaf/pair", 0⟩, ⟨"parts", 3, 1, false, "", "sheaf/pair", 8⟩, ⟨"sum", 71, 2, false, "", "sheaf/pair", 16⟩, ⟨"rows", 3, 4, false, "", "sheaf/pair", 32⟩]) := by kernel_rfl
@[go_sem] theorem ti107 : E.ti 107 = some ⟨(.struct #[⟨"entity", 3, 0, false, "", "sheaf/pair", 0⟩, ⟨"parts", 3, 1, false, "", "sheaf/pair", 8⟩, ⟨"sum", 71, 2, false, "", "sheaf/pair", 16⟩, ⟨"rows", 3, 4, false, "", "sheaf/pair", 32⟩]), 5, (.agg #[(.int .i64 0), (.int .i64 0), (.int .i64 0), (.int .u64 0), (.int .i64 0)]), 40⟩ := by kernel_rfl
@[go_sem] theorem desc107 : E.desc 107 = some (.struct #[⟨"entity", 3, 0, false, "", "sheaf/pair", 0⟩, ⟨"parts", 3, 1, false, "", "sheaf/pair", 8⟩, ⟨"sum", 71, 2, false, "", "sheaf/pair", 16⟩, ⟨"rows", 3, 4, false, "", "sheaf/pair", 32⟩]) := by kernel_rfl
@[go_sem] theorem ti108 : E.ti 108 = some ⟨(.struct #[⟨"key", 22, 0, false, "", "sheaf/pair", 0⟩, ⟨"lo", 107, 1, false, "", "sheaf/pair", 24⟩, ⟨"hi", 107, 6, false, "", "sheaf/pair", 64⟩]), 11, (.agg #[(.slice none 0 0), (.int .i64 0), (.int .i64 0), (.int .i64 0), (.int .u64 0), (.int .i64 0), (.int .i64 0), (.int .i64 0), (.int .i64 0), (.int .u64 0), (.int .i64 0)]), 104⟩ := by kernel_rfl
@[go_sem] theorem desc108 : E.desc 108 = some (.struct #[⟨"key", 22, 0, false, "", "sheaf/pair", 0⟩, ⟨"lo", 107, 1, false, "", "sheaf/pair", 24⟩, ⟨"hi", 107, 6, false, "", "sheaf/pair", 64⟩]) := by kernel_rfl
@[go_sem] theorem ti109 : E.ti 109 = some ⟨(.struct #[⟨"key", 22, 0, false, "", "sheaf/pair", 0⟩, ⟨"lo", 107, 1, false, "", "sheaf/pair", 24⟩, ⟨"hi", 107, 6, false, "", "sheaf/pair", 64⟩]), 11, (.agg #[(.slice none 0 0), (.int .i64 0), (.int .i64 0), (.int .i64 0), (.int .u64 0), (.int .i64 0), (.int .i64 0), (.int .i64 0), (.int .i64 0), (.int .u64 0), (.int .i64 0)]), 104⟩ := by kernel_rfl
@[go_sem] theorem desc109 : E.desc 109 = some (.struct #[⟨"key", 22, 0, false, "", "sheaf/pair", 0⟩, ⟨"lo", 107, 1, false, "", "sheaf/pair", 24⟩, ⟨"hi", 107, 6, false, "", "sheaf/pair", 64⟩]) := by kernel_rfl
@[go_sem] theorem ti110 : E.ti 110 = some ⟨(.func #[22] #[] false), 1, .nilFunc, 8⟩ := by kernel_rfl
@[go_sem] theorem desc110 : E.desc 110 = some (.func #[22] #[] false) := by kernel_rfl
@[go_sem] theorem ti111 : E.ti 111 = some ⟨(.pointer 107), 1, (.pointer none), 8⟩ := by kernel_rfl
@[go_sem] theorem desc111 : E.desc 111 = some (.pointer 107) := by kernel_rfl
@[go_sem] theorem ti112 : E.ti 112 = some ⟨(.func #[] #[9] false), 1, .nilFunc, 8⟩ := by kernel_rfl
@[go_sem] theorem desc112 : E.desc 112 = some (.func #[] #[9] false) := by kernel_rfl
@[go_sem] theorem ti113 : E.ti 113 = some ⟨(.struct #[⟨"_interface", 17, 0, false, "", "runtime", 0⟩, ⟨"concrete", 17, 1, false, "", "runtime", 8⟩, ⟨"asserted", 17, 2, false, "", "runtime", 16⟩, ⟨"missingMethod", 9, 3, false, "", "runtime", 24⟩]), 4, (.agg #[(.pointer none), (.pointer none), (.pointer none), (.string ⟨#[]⟩)]), 40⟩ := by kernel_rfl
@[go_sem] theorem desc113 : E.desc 113 = some (.struct #[⟨"_interface", 17, 0, false, "", "runtime", 0⟩, ⟨"concrete", 17, 1, false, "", "runtime", 8⟩, ⟨"asserted", 17, 2, false, "", "runtime", 16⟩, ⟨"missingMethod", 9, 3, false, "", "runtime", 24⟩]) := by kernel_rfl
@[go_sem] theorem ti114 : E.ti 114 = some ⟨(.struct #[⟨"_interface", 17, 0, false, "", "runtime", 0⟩, ⟨"concrete", 17, 1, false, "", "runtime", 8⟩, ⟨"asserted", 17, 2, false, "", "runtime", 16⟩, ⟨"missingMethod", 9, 3, false, "", "runtime", 24⟩]), 4, (.agg #[(.pointer none), (.pointer none), (.pointer none), (.string ⟨#[]⟩)]), 40⟩ := by kernel_rfl
@[go_sem] theorem desc114 : E.desc 114 = some (.struct #[⟨"_interface", 17, 0, false, "", "runtime", 0⟩, ⟨"concrete", 17, 1, false, "", "runtime", 8⟩, ⟨"asserted", 17, 2, false, "", "runtime", 16⟩, ⟨"missingMethod", 9, 3, false, "", "runtime", 24⟩]) := by kernel_rfl
@[go_sem] theorem ti115 : E.ti 115 = some ⟨(.array 0 16), 0, (.agg #[]), 0⟩ := by kernel_rfl
@[go_sem] theorem desc115 : E.desc 115 = some (.array 0 16) := by kernel_rfl
@[go_sem] theorem ti116 : E.ti 116 = some ⟨(.struct #[⟨"_", 115, 0, false, "", "runtime", 0⟩]), 0, (.agg #[]), 0⟩ := by kernel_rfl
@[go_sem] theorem desc116 : E.desc 116 = some (.struct #[⟨"_", 115, 0, false, "", "runtime", 0⟩]) := by kernel_rfl
@[go_sem] theorem ti117 : E.ti 117 = some ⟨(.struct #[⟨"_", 115, 0, false, "", "runtime", 0⟩]), 0, (.agg #[]), 0⟩ := by kernel_rfl
@[go_sem] theorem desc117 : E.desc 117 = some (.struct #[⟨"_", 115, 0, false, "", "runtime", 0⟩]) := by kernel_rfl
@[go_sem] theorem ti118 : E.ti 118 = some ⟨(.func #[] #[3] false), 1, .nilFunc, 8⟩ := by kernel_rfl
@[go_sem] theorem desc118 : E.desc 118 = some (.func #[] #[3] false) := by kernel_rfl
@[go_sem] theorem ti119 : E.ti 119 = some ⟨(.int .u32), 1, (.int .u32 0), 4⟩ := by kernel_rfl
@[go_sem] theorem desc119 : E.desc 119 = some (.int .u32) := by kernel_rfl
@[go_sem] theorem ti120 : E.ti 120 = some ⟨(.int .u8), 1, (.int .u8 0), 1⟩ := by kernel_rfl
@[go_sem] theorem desc120 : E.desc 120 = some (.int .u8) := by kernel_rfl
@[go_sem] theorem ti121 : E.ti 121 = some ⟨(.int .u8), 1, (.int .u8 0), 1⟩ := by kernel_rfl
@[go_sem] theorem desc121 : E.desc 121 = some (.int .u8) := by kernel_rfl
@[go_sem] theorem ti122 : E.ti 122 = some ⟨(.func #[128, 128] #[4] false), 1, .nilFunc, 8⟩ := by kernel_rfl
@[go_sem] theorem desc122 : E.desc 122 = some (.func #[128, 128] #[4] false) := by kernel_rfl
@[go_sem] theorem ti123 : E.ti 123 = some ⟨(.pointer 5), 1, (.pointer none), 8⟩ := by kernel_rfl
@[go_sem] theorem desc123 : E.desc 123 = some (.pointer 5) := by kernel_rfl
@[go_sem] theorem ti124 : E.ti 124 = some ⟨(.int .i32), 1, (.int .i32 0), 4⟩ := by kernel_rfl
@[go_sem] theorem desc124 : E.desc 124 = some (.int .i32) := by kernel_rfl
@[go_sem] theorem ti125 : E.ti 125 = some ⟨(.int .i32), 1, (.int .i32 0), 4⟩ := by kernel_rfl
@[go_sem] theorem desc125 : E.desc 125 = some (.int .i32) := by kernel_rfl
@[go_sem] theorem ti126 : E.ti 126 = some ⟨(.struct #[⟨"Size_", 12, 0, false, "", "", 0⟩, ⟨"PtrBytes", 12, 1, false, "", "", 8⟩, ⟨"Hash", 119, 2, false, "", "", 16⟩, ⟨"TFlag", 120, 3, false, "", "", 20⟩, ⟨"Align_", 5, 4, false, "", "", 21⟩, ⟨"FieldAlign_", 5, 5, false, "", "", 22⟩, ⟨"Kind_", 121, 6, false, "", "", 23⟩, ⟨"Equal", 122, 7, false, "", "", 24⟩, ⟨"GCData", 123, 8, false, "", "", 32⟩, ⟨"Str", 124, 9, false, "", "", 40⟩, ⟨"PtrToThis", 125, 10, false, "", "", 44⟩]), 11, (.agg #[(.int .u64 0), (.int .u64 0), (.int .u32 0), (.int .u8 0), (.int .u8 0), (.int .u8 0), (.int .u8 0), .nilFunc, (.pointer none), (.int .i32 0), (.int .i32 0)]), 48⟩ := by kernel_rfl
@[go_sem] theorem desc126 : E.desc 126 = some (.struct #[⟨"Size_", 12, 0, false, "", "", 0⟩, ⟨"PtrBytes", 12, 1, false, "", "", 8⟩, ⟨"Hash", 119, 2, false, "", "", 16⟩, ⟨"TFlag", 120, 3, false, "", "", 20⟩, ⟨"Align_", 5, 4, false, "", "", 21⟩, ⟨"FieldAlign_", 5, 5, false, "", "", 22⟩, ⟨"Kind_", 121, 6, false, "", "", 23⟩, ⟨"Equal", 122, 7, false, "", "", 24⟩, ⟨"GCData", 123, 8, false, "", "", 32⟩, ⟨"Str", 124, 9, false, "", "", 40⟩, ⟨"PtrToThis", 125, 10, false, "", "", 44⟩]) := by kernel_rfl
@[go_sem] theorem ti127 : E.ti 127 = some ⟨(.struct #[⟨"Size_", 12, 0, false, "", "", 0⟩, ⟨"PtrBytes", 12, 1, false, "", "", 8⟩, ⟨"Hash", 119, 2, false, "", "", 16⟩, ⟨"TFlag", 120, 3, false, "", "", 20⟩, ⟨"Align_", 5, 4, false, "", "", 21⟩, ⟨"FieldAlign_", 5, 5, false, "", "", 22⟩, ⟨"Kind_", 121, 6, false, "", "", 23⟩, ⟨"Equal", 122, 7, false, "", "", 24⟩, ⟨"GCData", 123, 8, false, "", "", 32⟩, ⟨"Str", 124, 9, false, "", "", 40⟩, ⟨"PtrToThis", 125, 10, false, "", "", 44⟩]), 11, (.agg #[(.int .u64 0), (.int .u64 0), (.int .u32 0), (.int .u8 0), (.int .u8 0), (.int .u8 0), (.int .u8 0), .nilFunc, (.pointer none), (.int .i32 0), (.int .i32 0)]), 48⟩ := by kernel_rfl
@[go_sem] theorem desc127 : E.desc 127 = some (.struct #[⟨"Size_", 12, 0, false, "", "", 0⟩, ⟨"PtrBytes", 12, 1, false, "", "", 8⟩, ⟨"Hash", 119, 2, false, "", "", 16⟩, ⟨"TFlag", 120, 3, false, "", "", 20⟩, ⟨"Align_", 5, 4, false, "", "", 21⟩, ⟨"FieldAlign_", 5, 5, false, "", "", 22⟩, ⟨"Kind_", 121, 6, false, "", "", 23⟩, ⟨"Equal", 122, 7, false, "", "", 24⟩, ⟨"GCData", 123, 8, false, "", "", 32⟩, ⟨"Str", 124, 9, false, "", "", 40⟩, ⟨"PtrToThis", 125, 10, false, "", "", 44⟩]) := by kernel_rfl
theorem eqs27 : E.eqs 27 = true := by kernel_rfl
set_option maxRecDepth 10000 in
@[go_sem] theorem eq27 (a0 b0 : Int) (a1 b1 : Int) : binV E .eql 27 (.agg #[.int .i64 a0, .int .u64 a1]) (.agg #[.int .i64 b0, .int .u64 b1]) = some (.bool (a0 == b0 && a1 == b1)) := by simp (decide := true) [binV, eqV, desc27, eqs27, flatFields, scalarD, desc2, desc25, sameFields, sameCell] <;> rfl
set_option maxRecDepth 10000 in
@[go_sem] theorem ne27 (a0 b0 : Int) (a1 b1 : Int) : binV E .neq 27 (.agg #[.int .i64 a0, .int .u64 a1]) (.agg #[.int .i64 b0, .int .u64 b1]) = some (.bool !(a0 == b0 && a1 == b1)) := by simp (decide := true) [binV, eqV, desc27, eqs27, flatFields, scalarD, desc2, desc25, sameFields, sameCell] <;> rfl
theorem noFnAdd64 : E.fn 54 = none := by kernel_rfl
theorem isExtAdd64 : E.ext 54 = some false := by kernel_rfl
@[go_sem] theorem callAdd64 (args : Array Operand) (tys : Array TypeId) (t : Fr) (m : Mem) : callV E ⟨.value (.func 54), args, tys⟩ (evF t) m = val? m (carryV false (args.map (evF t)).toList) := callV_ext 54 noFnAdd64 isExtAdd64 args tys
abbrev F_sheaflaw18_PairRuns : FuncId := 3
@[go_sem] theorem closed3 (m : Mem) (K : Value → Mem → Prop) : CallQ E 3 #[] m K = K (.bool true) m := CallQ.closed (by kernel_rfl)
@[go_sem] theorem some3 : (E.fn 3).isSome = true := by kernel_rfl
abbrev F_sheaflaw19_SumsRuns : FuncId := 5
@[go_sem] theorem closed5 (m : Mem) (K : Value → Mem → Prop) : CallQ E 5 #[] m K = K (.bool true) m := CallQ.closed (by kernel_rfl)
@[go_sem] theorem some5 : (E.fn 5).isSome = true := by kernel_rfl

end Go.Proofs.Ytjmppooebppecaa.W
