/-
  The types, printed by a program of mine (wip/dev/AbsPrint.lean).
-/
import Derived.Test.YtkbjkmhmkefckaaEnvC
import Derived.Test.YtkbjkmhmkefckaaAbs21
set_option linter.unusedVariables false
namespace Go.Proofs.Ytkbjkmhmkefckaa.W
open Go.Abs

@[go_sem] theorem ti1 : E.ti 1 = some ⟨(.func #[] #[] false), 1, .nilFunc, 8⟩ := by kernel_rfl
@[go_sem] theorem desc1 : E.desc 1 = some (.func #[] #[] false) := by kernel_rfl
@[go_sem] theorem ti2 : E.ti 2 = some ⟨(.int .i64), 1, (.int .i64 0), 8⟩ := by kernel_rfl
@[go_sem] theorem desc2 : E.desc 2 = some (.int .i64) := by kernel_rfl
@[go_sem] theorem ti3 : E.ti 3 = some ⟨(.int .i64), 1, (.int .i64 0), 8⟩ := by kernel_rfl
@[go_sem] theorem desc3 : E.desc 3 = some (.int .i64) := by kernel_rfl
@[go_sem] theorem ti4 : E.ti 4 = some ⟨.bool, 1, (.bool false), 1⟩ := by kernel_rfl
@[go_sem] theorem desc4 : E.desc 4 = some .bool := by kernel_rfl
@[go_sem] theorem ti5 : E.ti 5 = some ⟨(.int .u8), 1, (.int .u8 0), 1⟩ := by kernel_rfl
@[go_sem] theorem desc5 : E.desc 5 = some (.int .u8) := by kernel_rfl
@[go_sem] theorem ti6 : E.ti 6 = some ⟨(.int .u8), 1, (.int .u8 0), 1⟩ := by kernel_rfl
@[go_sem] theorem desc6 : E.desc 6 = some (.int .u8) := by kernel_rfl
@[go_sem] theorem ti7 : E.ti 7 = some ⟨(.struct #[⟨"x", 2, 0, false, "", "runtime", 0⟩, ⟨"y", 3, 1, false, "", "runtime", 8⟩, ⟨"signed", 4, 2, false, "", "runtime", 16⟩, ⟨"code", 6, 3, false, "", "runtime", 17⟩]), 4, (.agg #[(.int .i64 0), (.int .i64 0), (.bool false), (.int .u8 0)]), 24⟩ := by kernel_rfl
@[go_sem] theorem desc7 : E.desc 7 = some (.struct #[⟨"x", 2, 0, false, "", "runtime", 0⟩, ⟨"y", 3, 1, false, "", "runtime", 8⟩, ⟨"signed", 4, 2, false, "", "runtime", 16⟩, ⟨"code", 6, 3, false, "", "runtime", 17⟩]) := by kernel_rfl
@[go_sem] theorem ti8 : E.ti 8 = some ⟨(.struct #[⟨"x", 2, 0, false, "", "runtime", 0⟩, ⟨"y", 3, 1, false, "", "runtime", 8⟩, ⟨"signed", 4, 2, false, "", "runtime", 16⟩, ⟨"code", 6, 3, false, "", "runtime", 17⟩]), 4, (.agg #[(.int .i64 0), (.int .i64 0), (.bool false), (.int .u8 0)]), 24⟩ := by kernel_rfl
@[go_sem] theorem desc8 : E.desc 8 = some (.struct #[⟨"x", 2, 0, false, "", "runtime", 0⟩, ⟨"y", 3, 1, false, "", "runtime", 8⟩, ⟨"signed", 4, 2, false, "", "runtime", 16⟩, ⟨"code", 6, 3, false, "", "runtime", 17⟩]) := by kernel_rfl
@[go_sem] theorem ti9 : E.ti 9 = some ⟨.string, 1, (.string ⟨#[]⟩), 16⟩ := by kernel_rfl
@[go_sem] theorem desc9 : E.desc 9 = some .string := by kernel_rfl
@[go_sem] theorem ti10 : E.ti 10 = some ⟨.string, 1, (.string ⟨#[]⟩), 16⟩ := by kernel_rfl
@[go_sem] theorem desc10 : E.desc 10 = some .string := by kernel_rfl
@[go_sem] theorem ti11 : E.ti 11 = some ⟨.string, 1, (.string ⟨#[]⟩), 16⟩ := by kernel_rfl
@[go_sem] theorem desc11 : E.desc 11 = some .string := by kernel_rfl
@[go_sem] theorem ti12 : E.ti 12 = some ⟨(.int .u64), 1, (.int .u64 0), 8⟩ := by kernel_rfl
@[go_sem] theorem desc12 : E.desc 12 = some (.int .u64) := by kernel_rfl
@[go_sem] theorem ti13 : E.ti 13 = some ⟨(.struct #[⟨"msg", 9, 0, false, "", "runtime", 0⟩, ⟨"addr", 12, 1, false, "", "runtime", 16⟩]), 2, (.agg #[(.string ⟨#[]⟩), (.int .u64 0)]), 24⟩ := by kernel_rfl
@[go_sem] theorem desc13 : E.desc 13 = some (.struct #[⟨"msg", 9, 0, false, "", "runtime", 0⟩, ⟨"addr", 12, 1, false, "", "runtime", 16⟩]) := by kernel_rfl
@[go_sem] theorem ti14 : E.ti 14 = some ⟨(.struct #[⟨"msg", 9, 0, false, "", "runtime", 0⟩, ⟨"addr", 12, 1, false, "", "runtime", 16⟩]), 2, (.agg #[(.string ⟨#[]⟩), (.int .u64 0)]), 24⟩ := by kernel_rfl
@[go_sem] theorem desc14 : E.desc 14 = some (.struct #[⟨"msg", 9, 0, false, "", "runtime", 0⟩, ⟨"addr", 12, 1, false, "", "runtime", 16⟩]) := by kernel_rfl
@[go_sem] theorem ti15 : E.ti 15 = some ⟨(.pointer 51), 1, (.pointer none), 8⟩ := by kernel_rfl
@[go_sem] theorem desc15 : E.desc 15 = some (.pointer 51) := by kernel_rfl
@[go_sem] theorem ti16 : E.ti 16 = some ⟨(.pointer 54), 1, (.pointer none), 8⟩ := by kernel_rfl
@[go_sem] theorem desc16 : E.desc 16 = some (.pointer 54) := by kernel_rfl
@[go_sem] theorem ti17 : E.ti 17 = some ⟨(.pointer 64), 1, (.pointer none), 8⟩ := by kernel_rfl
@[go_sem] theorem desc17 : E.desc 17 = some (.pointer 64) := by kernel_rfl
@[go_sem] theorem ti18 : E.ti 18 = some ⟨(.struct #[⟨"typ", 17, 0, false, "", "internal/runtime/maps", 0⟩]), 1, (.agg #[(.pointer none)]), 8⟩ := by kernel_rfl
@[go_sem] theorem desc18 : E.desc 18 = some (.struct #[⟨"typ", 17, 0, false, "", "internal/runtime/maps", 0⟩]) := by kernel_rfl
@[go_sem] theorem ti19 : E.ti 19 = some ⟨(.struct #[⟨"typ", 17, 0, false, "", "internal/runtime/maps", 0⟩]), 1, (.agg #[(.pointer none)]), 8⟩ := by kernel_rfl
@[go_sem] theorem desc19 : E.desc 19 = some (.struct #[⟨"typ", 17, 0, false, "", "internal/runtime/maps", 0⟩]) := by kernel_rfl
@[go_sem] theorem ti21 : E.ti 21 = some ⟨(.int .i32), 1, (.int .i32 0), 4⟩ := by kernel_rfl
@[go_sem] theorem desc21 : E.desc 21 = some (.int .i32) := by kernel_rfl
@[go_sem] theorem ti22 : E.ti 22 = some ⟨(.slice 5), 1, (.slice none 0 0), 24⟩ := by kernel_rfl
@[go_sem] theorem desc22 : E.desc 22 = some (.slice 5) := by kernel_rfl
@[go_sem] theorem ti23 : E.ti 23 = some ⟨(.func #[24] #[22] false), 1, .nilFunc, 8⟩ := by kernel_rfl
@[go_sem] theorem desc23 : E.desc 23 = some (.func #[24] #[22] false) := by kernel_rfl
@[go_sem] theorem ti24 : E.ti 24 = some ⟨(.slice 3), 1, (.slice none 0 0), 24⟩ := by kernel_rfl
@[go_sem] theorem desc24 : E.desc 24 = some (.slice 3) := by kernel_rfl
@[go_sem] theorem ti26 : E.ti 26 = some ⟨(.func #[22] #[24, 3] false), 1, .nilFunc, 8⟩ := by kernel_rfl
@[go_sem] theorem desc26 : E.desc 26 = some (.func #[22] #[24, 3] false) := by kernel_rfl
@[go_sem] theorem ti27 : E.ti 27 = some ⟨(.func #[22, 22] #[4] false), 1, .nilFunc, 8⟩ := by kernel_rfl
@[go_sem] theorem desc27 : E.desc 27 = some (.func #[22, 22] #[4] false) := by kernel_rfl
@[go_sem] theorem ti28 : E.ti 28 = some ⟨(.func #[24, 24] #[4] false), 1, .nilFunc, 8⟩ := by kernel_rfl
@[go_sem] theorem desc28 : E.desc 28 = some (.func #[24, 24] #[4] false) := by kernel_rfl
@[go_sem] theorem ti29 : E.ti 29 = some ⟨(.func #[24, 24, 24] #[3] true), 1, .nilFunc, 8⟩ := by kernel_rfl
@[go_sem] theorem desc29 : E.desc 29 = some (.func #[24, 24, 24] #[3] true) := by kernel_rfl
@[go_sem] theorem ti30 : E.ti 30 = some ⟨(.func #[] #[4] false), 1, .nilFunc, 8⟩ := by kernel_rfl
@[go_sem] theorem desc30 : E.desc 30 = some (.func #[] #[4] false) := by kernel_rfl
@[go_sem] theorem ti31 : E.ti 31 = some ⟨(.func #[3, 3, 3] #[3] false), 1, .nilFunc, 8⟩ := by kernel_rfl
@[go_sem] theorem desc31 : E.desc 31 = some (.func #[3, 3, 3] #[3] false) := by kernel_rfl
@[go_sem] theorem ti32 : E.ti 32 = some ⟨(.func #[22, 5] #[22] false), 1, .nilFunc, 8⟩ := by kernel_rfl
@[go_sem] theorem desc32 : E.desc 32 = some (.func #[22, 5] #[22] false) := by kernel_rfl
@[go_sem] theorem ti33 : E.ti 33 = some ⟨(.func #[24, 24, 24] #[3] false), 1, .nilFunc, 8⟩ := by kernel_rfl
@[go_sem] theorem desc33 : E.desc 33 = some (.func #[24, 24, 24] #[3] false) := by kernel_rfl
@[go_sem] theorem ti34 : E.ti 34 = some ⟨(.func #[22, 22, 5] #[4] false), 1, .nilFunc, 8⟩ := by kernel_rfl
@[go_sem] theorem desc34 : E.desc 34 = some (.func #[22, 22, 5] #[4] false) := by kernel_rfl
@[go_sem] theorem ti35 : E.ti 35 = some ⟨(.func #[24, 24, 22, 3, 5, 24] #[4] false), 1, .nilFunc, 8⟩ := by kernel_rfl
@[go_sem] theorem desc35 : E.desc 35 = some (.func #[24, 24, 22, 3, 5, 24] #[4] false) := by kernel_rfl
@[go_sem] theorem ti36 : E.ti 36 = some ⟨(.func #[24, 22, 3] #[4] false), 1, .nilFunc, 8⟩ := by kernel_rfl
@[go_sem] theorem desc36 : E.desc 36 = some (.func #[24, 22, 3] #[4] false) := by kernel_rfl
@[go_sem] theorem ti37 : E.ti 37 = some ⟨(.func #[24, 24, 24, 24] #[4] false), 1, .nilFunc, 8⟩ := by kernel_rfl
@[go_sem] theorem desc37 : E.desc 37 = some (.func #[24, 24, 24, 24] #[4] false) := by kernel_rfl
@[go_sem] theorem ti38 : E.ti 38 = some ⟨(.slice 24), 1, (.slice none 0 0), 24⟩ := by kernel_rfl
@[go_sem] theorem desc38 : E.desc 38 = some (.slice 24) := by kernel_rfl
@[go_sem] theorem ti39 : E.ti 39 = some ⟨(.func #[38] #[4] false), 1, .nilFunc, 8⟩ := by kernel_rfl
@[go_sem] theorem desc39 : E.desc 39 = some (.func #[38] #[4] false) := by kernel_rfl
@[go_sem] theorem ti40 : E.ti 40 = some ⟨(.int .u64), 1, (.int .u64 0), 8⟩ := by kernel_rfl
@[go_sem] theorem desc40 : E.desc 40 = some (.int .u64) := by kernel_rfl
@[go_sem] theorem ti41 : E.ti 41 = some ⟨(.int .u64), 1, (.int .u64 0), 8⟩ := by kernel_rfl
@[go_sem] theorem desc41 : E.desc 41 = some (.int .u64) := by kernel_rfl
@[go_sem] theorem ti43 : E.ti 43 = some ⟨(.func #[22] #[3, 22, 4] false), 1, .nilFunc, 8⟩ := by kernel_rfl
@[go_sem] theorem desc43 : E.desc 43 = some (.func #[22] #[3, 22, 4] false) := by kernel_rfl
@[go_sem] theorem ti44 : E.ti 44 = some ⟨(.func #[24, 24, 3] #[3] false), 1, .nilFunc, 8⟩ := by kernel_rfl
@[go_sem] theorem desc44 : E.desc 44 = some (.func #[24, 24, 3] #[3] false) := by kernel_rfl
@[go_sem] theorem ti45 : E.ti 45 = some ⟨(.func #[40] #[3] false), 1, .nilFunc, 8⟩ := by kernel_rfl
@[go_sem] theorem desc45 : E.desc 45 = some (.func #[40] #[3] false) := by kernel_rfl
@[go_sem] theorem ti46 : E.ti 46 = some ⟨(.func #[3] #[40] false), 1, .nilFunc, 8⟩ := by kernel_rfl
@[go_sem] theorem desc46 : E.desc 46 = some (.func #[3] #[40] false) := by kernel_rfl
@[go_sem] theorem ti47 : E.ti 47 = some ⟨(.func #[3, 3] #[3] false), 1, .nilFunc, 8⟩ := by kernel_rfl
@[go_sem] theorem desc47 : E.desc 47 = some (.func #[3, 3] #[3] false) := by kernel_rfl
@[go_sem] theorem ti48 : E.ti 48 = some ⟨(.func #[3] #[4] false), 1, .nilFunc, 8⟩ := by kernel_rfl
@[go_sem] theorem desc48 : E.desc 48 = some (.func #[3] #[4] false) := by kernel_rfl
@[go_sem] theorem ti49 : E.ti 49 = some ⟨(.func #[] #[9] false), 1, .nilFunc, 8⟩ := by kernel_rfl
@[go_sem] theorem desc49 : E.desc 49 = some (.func #[] #[9] false) := by kernel_rfl
@[go_sem] theorem ti50 : E.ti 50 = some ⟨(.struct #[⟨"_interface", 17, 0, false, "", "runtime", 0⟩, ⟨"concrete", 17, 1, false, "", "runtime", 8⟩, ⟨"asserted", 17, 2, false, "", "runtime", 16⟩, ⟨"missingMethod", 9, 3, false, "", "runtime", 24⟩]), 4, (.agg #[(.pointer none), (.pointer none), (.pointer none), (.string ⟨#[]⟩)]), 40⟩ := by kernel_rfl
@[go_sem] theorem desc50 : E.desc 50 = some (.struct #[⟨"_interface", 17, 0, false, "", "runtime", 0⟩, ⟨"concrete", 17, 1, false, "", "runtime", 8⟩, ⟨"asserted", 17, 2, false, "", "runtime", 16⟩, ⟨"missingMethod", 9, 3, false, "", "runtime", 24⟩]) := by kernel_rfl
@[go_sem] theorem ti51 : E.ti 51 = some ⟨(.struct #[⟨"_interface", 17, 0, false, "", "runtime", 0⟩, ⟨"concrete", 17, 1, false, "", "runtime", 8⟩, ⟨"asserted", 17, 2, false, "", "runtime", 16⟩, ⟨"missingMethod", 9, 3, false, "", "runtime", 24⟩]), 4, (.agg #[(.pointer none), (.pointer none), (.pointer none), (.string ⟨#[]⟩)]), 40⟩ := by kernel_rfl
@[go_sem] theorem desc51 : E.desc 51 = some (.struct #[⟨"_interface", 17, 0, false, "", "runtime", 0⟩, ⟨"concrete", 17, 1, false, "", "runtime", 8⟩, ⟨"asserted", 17, 2, false, "", "runtime", 16⟩, ⟨"missingMethod", 9, 3, false, "", "runtime", 24⟩]) := by kernel_rfl
@[go_sem] theorem ti52 : E.ti 52 = some ⟨(.array 0 16), 0, (.agg #[]), 0⟩ := by kernel_rfl
@[go_sem] theorem desc52 : E.desc 52 = some (.array 0 16) := by kernel_rfl
@[go_sem] theorem ti53 : E.ti 53 = some ⟨(.struct #[⟨"_", 52, 0, false, "", "runtime", 0⟩]), 0, (.agg #[]), 0⟩ := by kernel_rfl
@[go_sem] theorem desc53 : E.desc 53 = some (.struct #[⟨"_", 52, 0, false, "", "runtime", 0⟩]) := by kernel_rfl
@[go_sem] theorem ti54 : E.ti 54 = some ⟨(.struct #[⟨"_", 52, 0, false, "", "runtime", 0⟩]), 0, (.agg #[]), 0⟩ := by kernel_rfl
@[go_sem] theorem desc54 : E.desc 54 = some (.struct #[⟨"_", 52, 0, false, "", "runtime", 0⟩]) := by kernel_rfl
@[go_sem] theorem ti55 : E.ti 55 = some ⟨(.func #[] #[3] false), 1, .nilFunc, 8⟩ := by kernel_rfl
@[go_sem] theorem desc55 : E.desc 55 = some (.func #[] #[3] false) := by kernel_rfl
@[go_sem] theorem ti56 : E.ti 56 = some ⟨(.int .u32), 1, (.int .u32 0), 4⟩ := by kernel_rfl
@[go_sem] theorem desc56 : E.desc 56 = some (.int .u32) := by kernel_rfl
@[go_sem] theorem ti57 : E.ti 57 = some ⟨(.int .u8), 1, (.int .u8 0), 1⟩ := by kernel_rfl
@[go_sem] theorem desc57 : E.desc 57 = some (.int .u8) := by kernel_rfl
@[go_sem] theorem ti58 : E.ti 58 = some ⟨(.int .u8), 1, (.int .u8 0), 1⟩ := by kernel_rfl
@[go_sem] theorem desc58 : E.desc 58 = some (.int .u8) := by kernel_rfl
@[go_sem] theorem ti59 : E.ti 59 = some ⟨(.func #[65, 65] #[4] false), 1, .nilFunc, 8⟩ := by kernel_rfl
@[go_sem] theorem desc59 : E.desc 59 = some (.func #[65, 65] #[4] false) := by kernel_rfl
@[go_sem] theorem ti60 : E.ti 60 = some ⟨(.pointer 5), 1, (.pointer none), 8⟩ := by kernel_rfl
@[go_sem] theorem desc60 : E.desc 60 = some (.pointer 5) := by kernel_rfl
@[go_sem] theorem ti61 : E.ti 61 = some ⟨(.int .i32), 1, (.int .i32 0), 4⟩ := by kernel_rfl
@[go_sem] theorem desc61 : E.desc 61 = some (.int .i32) := by kernel_rfl
@[go_sem] theorem ti62 : E.ti 62 = some ⟨(.int .i32), 1, (.int .i32 0), 4⟩ := by kernel_rfl
@[go_sem] theorem desc62 : E.desc 62 = some (.int .i32) := by kernel_rfl
@[go_sem] theorem ti63 : E.ti 63 = some ⟨(.struct #[⟨"Size_", 12, 0, false, "", "", 0⟩, ⟨"PtrBytes", 12, 1, false, "", "", 8⟩, ⟨"Hash", 56, 2, false, "", "", 16⟩, ⟨"TFlag", 57, 3, false, "", "", 20⟩, ⟨"Align_", 5, 4, false, "", "", 21⟩, ⟨"FieldAlign_", 5, 5, false, "", "", 22⟩, ⟨"Kind_", 58, 6, false, "", "", 23⟩, ⟨"Equal", 59, 7, false, "", "", 24⟩, ⟨"GCData", 60, 8, false, "", "", 32⟩, ⟨"Str", 61, 9, false, "", "", 40⟩, ⟨"PtrToThis", 62, 10, false, "", "", 44⟩]), 11, (.agg #[(.int .u64 0), (.int .u64 0), (.int .u32 0), (.int .u8 0), (.int .u8 0), (.int .u8 0), (.int .u8 0), .nilFunc, (.pointer none), (.int .i32 0), (.int .i32 0)]), 48⟩ := by kernel_rfl
@[go_sem] theorem desc63 : E.desc 63 = some (.struct #[⟨"Size_", 12, 0, false, "", "", 0⟩, ⟨"PtrBytes", 12, 1, false, "", "", 8⟩, ⟨"Hash", 56, 2, false, "", "", 16⟩, ⟨"TFlag", 57, 3, false, "", "", 20⟩, ⟨"Align_", 5, 4, false, "", "", 21⟩, ⟨"FieldAlign_", 5, 5, false, "", "", 22⟩, ⟨"Kind_", 58, 6, false, "", "", 23⟩, ⟨"Equal", 59, 7, false, "", "", 24⟩, ⟨"GCData", 60, 8, false, "", "", 32⟩, ⟨"Str", 61, 9, false, "", "", 40⟩, ⟨"PtrToThis", 62, 10, false, "", "", 44⟩]) := by kernel_rfl
@[go_sem] theorem ti64 : E.ti 64 = some ⟨(.struct #[⟨"Size_", 12, 0, false, "", "", 0⟩, ⟨"PtrBytes", 12, 1, false, "", "", 8⟩, ⟨"Hash", 56, 2, false, "", "", 16⟩, ⟨"TFlag", 57, 3, false, "", "", 20⟩, ⟨"Align_", 5, 4, false, "", "", 21⟩, ⟨"FieldAlign_", 5, 5, false, "", "", 22⟩, ⟨"Kind_", 58, 6, false, "", "", 23⟩, ⟨"Equal", 59, 7, false, "", "", 24⟩, ⟨"GCData", 60, 8, false, "", "", 32⟩, ⟨"Str", 61, 9, false, "", "", 40⟩, ⟨"PtrToThis", 62, 10, false, "", "", 44⟩]), 11, (.agg #[(.int .u64 0), (.int .u64 0), (.int .u32 0), (.int .u8 0), (.int .u8 0), (.int .u8 0), (.int .u8 0), .nilFunc, (.pointer none), (.int .i32 0), (.int .i32 0)]), 48⟩ := by kernel_rfl
@[go_sem] theorem desc64 : E.desc 64 = some (.struct #[⟨"Size_", 12, 0, false, "", "", 0⟩, ⟨"PtrBytes", 12, 1, false, "", "", 8⟩, ⟨"Hash", 56, 2, false, "", "", 16⟩, ⟨"TFlag", 57, 3, false, "", "", 20⟩, ⟨"Align_", 5, 4, false, "", "", 21⟩, ⟨"FieldAlign_", 5, 5, false, "", "", 22⟩, ⟨"Kind_", 58, 6, false, "", "", 23⟩, ⟨"Equal", 59, 7, false, "", "", 24⟩, ⟨"GCData", 60, 8, false, "", "", 32⟩, ⟨"Str", 61, 9, false, "", "", 40⟩, ⟨"PtrToThis", 62, 10, false, "", "", 44⟩]) := by kernel_rfl
abbrev F_sheaflaw13_RowRuns : FuncId := 3
@[go_sem] theorem closed3 (m : Mem) (K : Value → Mem → Prop) : CallQ E 3 #[] m K = K (.bool true) m := CallQ.closed (by kernel_rfl)
@[go_sem] theorem some3 : (E.fn 3).isSome = true := by kernel_rfl

end Go.Proofs.Ytkbjkmhmkefckaa.W
