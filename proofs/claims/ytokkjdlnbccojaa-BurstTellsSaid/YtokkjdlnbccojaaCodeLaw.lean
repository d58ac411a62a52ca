/-
  Compact code, printed by a program of mine (wip/dev/AbsPrint.lean).
-/
import Derived.Test.YtokkjdlnbccojaaTypes
set_option linter.unusedVariables false
namespace Go.Proofs.Ytokkjdlnbccojaa.W
open Go.Abs

/-! sheaf/sheaflaw3.BurstTells -/
abbrev F_sheaflaw3_BurstTells : FuncId := 4
def c_sheaflaw3_BurstTells_0 : MC := (.seq (.ops [⟨(some 50), .move (.tmp 3), none⟩,
    ⟨(some 51), .move (.tmp 9), none⟩,
    ⟨(some 52), .slice 22 (.tmp 50) none (some (.tmp 51)) none, none⟩,
    ⟨(some 53), .call ⟨.value (.func 12), #[(.tmp 52)], #[22]⟩, none⟩,
    ⟨(some 10), .assign (.tmp 53), none⟩]) (.ops [⟨(some 54), .move (.tmp 3), none⟩,
    ⟨(some 55), .move (.tmp 9), none⟩,
    ⟨(some 56), .indexAddr 22 (.tmp 54) (.tmp 55), none⟩,
    ⟨(some 57), .load 5 (.tmp 56), none⟩,
    ⟨(some 58), .move (.tmp 10), none⟩,
    ⟨(some 59), .convert 24 5 (.tmp 58), none⟩,
    ⟨(some 60), .binOp .eql 5 (.tmp 57) (.tmp 59) 5, none⟩,
    ⟨(some 61), .move (.tmp 60), none⟩,
    ⟨(some 62), .move (.tmp 3), (some (some 61, true))⟩,
    ⟨(some 63), .move (.tmp 9), (some (some 61, true))⟩,
    ⟨(some 64), .binOp .add 3 (.tmp 63) (.const (.int .i64 1)) 3, (some (some 61, true))⟩,
    ⟨(some 65), .indexAddr 22 (.tmp 62) (.tmp 64), (some (some 61, true))⟩,
    ⟨(some 66), .load 5 (.tmp 65), (some (some 61, true))⟩,
    ⟨(some 67), .move (.tmp 10), (some (some 61, true))⟩,
    ⟨(some 68), .binOp .shr 24 (.tmp 67) (.const (.int .u64 8)) 29, (some (some 61, true))⟩,
    ⟨(some 69), .convert 24 5 (.tmp 68), (some (some 61, true))⟩,
    ⟨(some 70), .binOp .eql 5 (.tmp 66) (.tmp 69) 5, (some (some 61, true))⟩,
    ⟨(some 71), .pick (.tmp 61) (.tmp 70) (.const (.bool false)), none⟩,
    ⟨(some 72), .move (.tmp 71), none⟩,
    ⟨(some 73), .move (.tmp 3), (some (some 72, true))⟩,
    ⟨(some 74), .move (.tmp 9), (some (some 72, true))⟩,
    ⟨(some 75), .binOp .add 3 (.tmp 74) (.const (.int .i64 2)) 3, (some (some 72, true))⟩,
    ⟨(some 76), .indexAddr 22 (.tmp 73) (.tmp 75), (some (some 72, true))⟩,
    ⟨(some 77), .load 5 (.tmp 76), (some (some 72, true))⟩,
    ⟨(some 78), .move (.tmp 10), (some (some 72, true))⟩,
    ⟨(some 79), .binOp .shr 24 (.tmp 78) (.const (.int .u64 16)) 29, (some (some 72, true))⟩,
    ⟨(some 80), .convert 24 5 (.tmp 79), (some (some 72, true))⟩,
    ⟨(some 81), .binOp .eql 5 (.tmp 77) (.tmp 80) 5, (some (some 72, true))⟩,
    ⟨(some 82), .pick (.tmp 72) (.tmp 81) (.const (.bool false)), none⟩,
    ⟨(some 83), .move (.tmp 82), none⟩,
    ⟨(some 84), .move (.tmp 3), (some (some 83, true))⟩,
    ⟨(some 85), .move (.tmp 9), (some (some 83, true))⟩,
    ⟨(some 86), .binOp .add 3 (.tmp 85) (.const (.int .i64 3)) 3, (some (some 83, true))⟩,
    ⟨(some 87), .indexAddr 22 (.tmp 84) (.tmp 86), (some (some 83, true))⟩,
    ⟨(some 88), .load 5 (.tmp 87), (some (some 83, true))⟩,
    ⟨(some 89), .move (.tmp 10), (some (some 83, true))⟩,
    ⟨(some 90), .binOp .shr 24 (.tmp 89) (.const (.int .u64 24)) 29, (some (some 83, true))⟩,
    ⟨(some 91), .convert 24 5 (.tmp 90), (some (some 83, true))⟩,
    ⟨(some 92), .binOp .eql 5 (.tmp 88) (.tmp 91) 5, (some (some 83, true))⟩,
    ⟨(some 93), .pick (.tmp 83) (.tmp 92) (.const (.bool false)), none⟩,
    ⟨(some 8), .assign (.tmp 93), none⟩]))
@[go_sem] theorem c_sheaflaw3_BurstTells_0_at (rd : Option Nat) (K : Post3) (t : Fr) (m : Mem) : wpM E 4 117 rd c_sheaflaw3_BurstTells_0 K t m = wpM E 4 117 rd (.seq (.ops [⟨(some 50), .move (.tmp 3), none⟩,
    ⟨(some 51), .move (.tmp 9), none⟩,
    ⟨(some 52), .slice 22 (.tmp 50) none (some (.tmp 51)) none, none⟩,
    ⟨(some 53), .call ⟨.value (.func 12), #[(.tmp 52)], #[22]⟩, none⟩,
    ⟨(some 10), .assign (.tmp 53), none⟩]) (.ops [⟨(some 54), .move (.tmp 3), none⟩,
    ⟨(some 55), .move (.tmp 9), none⟩,
    ⟨(some 56), .indexAddr 22 (.tmp 54) (.tmp 55), none⟩,
    ⟨(some 57), .load 5 (.tmp 56), none⟩,
    ⟨(some 58), .move (.tmp 10), none⟩,
    ⟨(some 59), .convert 24 5 (.tmp 58), none⟩,
    ⟨(some 60), .binOp .eql 5 (.tmp 57) (.tmp 59) 5, none⟩,
    ⟨(some 61), .move (.tmp 60), none⟩,
    ⟨(some 62), .move (.tmp 3), (some (some 61, true))⟩,
    ⟨(some 63), .move (.tmp 9), (some (some 61, true))⟩,
    ⟨(some 64), .binOp .add 3 (.tmp 63) (.const (.int .i64 1)) 3, (some (some 61, true))⟩,
    ⟨(some 65), .indexAddr 22 (.tmp 62) (.tmp 64), (some (some 61, true))⟩,
    ⟨(some 66), .load 5 (.tmp 65), (some (some 61, true))⟩,
    ⟨(some 67), .move (.tmp 10), (some (some 61, true))⟩,
    ⟨(some 68), .binOp .shr 24 (.tmp 67) (.const (.int .u64 8)) 29, (some (some 61, true))⟩,
    ⟨(some 69), .convert 24 5 (.tmp 68), (some (some 61, true))⟩,
    ⟨(some 70), .binOp .eql 5 (.tmp 66) (.tmp 69) 5, (some (some 61, true))⟩,
    ⟨(some 71), .pick (.tmp 61) (.tmp 70) (.const (.bool false)), none⟩,
    ⟨(some 72), .move (.tmp 71), none⟩,
    ⟨(some 73), .move (.tmp 3), (some (some 72, true))⟩,
    ⟨(some 74), .move (.tmp 9), (some (some 72, true))⟩,
    ⟨(some 75), .binOp .add 3 (.tmp 74) (.const (.int .i64 2)) 3, (some (some 72, true))⟩,
    ⟨(some 76), .indexAddr 22 (.tmp 73) (.tmp 75), (some (some 72, true))⟩,
    ⟨(some 77), .load 5 (.tmp 76), (some (some 72, true))⟩,
    ⟨(some 78), .move (.tmp 10), (some (some 72, true))⟩,
    ⟨(some 79), .binOp .shr 24 (.tmp 78) (.const (.int .u64 16)) 29, (some (some 72, true))⟩,
    ⟨(some 80), .convert 24 5 (.tmp 79), (some (some 72, true))⟩,
    ⟨(some 81), .binOp .eql 5 (.tmp 77) (.tmp 80) 5, (some (some 72, true))⟩,
    ⟨(some 82), .pick (.tmp 72) (.tmp 81) (.const (.bool false)), none⟩,
    ⟨(some 83), .move (.tmp 82), none⟩,
    ⟨(some 84), .move (.tmp 3), (some (some 83, true))⟩,
    ⟨(some 85), .move (.tmp 9), (some (some 83, true))⟩,
    ⟨(some 86), .binOp .add 3 (.tmp 85) (.const (.int .i64 3)) 3, (some (some 83, true))⟩,
    ⟨(some 87), .indexAddr 22 (.tmp 84) (.tmp 86), (some (some 83, true))⟩,
    ⟨(some 88), .load 5 (.tmp 87), (some (some 83, true))⟩,
    ⟨(some 89), .move (.tmp 10), (some (some 83, true))⟩,
    ⟨(some 90), .binOp .shr 24 (.tmp 89) (.const (.int .u64 24)) 29, (some (some 83, true))⟩,
    ⟨(some 91), .convert 24 5 (.tmp 90), (some (some 83, true))⟩,
    ⟨(some 92), .binOp .eql 5 (.tmp 88) (.tmp 91) 5, (some (some 83, true))⟩,
    ⟨(some 93), .pick (.tmp 83) (.tmp 92) (.const (.bool false)), none⟩,
    ⟨(some 8), .assign (.tmp 93), none⟩])) K t m := rfl

def c_sheaflaw3_BurstTells_1 : MC := (.seq (.ops [⟨(some 47), .move (.tmp 3), none⟩,
    ⟨(some 48), .call ⟨.builtin .len, #[(.tmp 47)], #[22]⟩, none⟩,
    ⟨(some 49), .binOp .sub 3 (.tmp 48) (.const (.int .i64 4)) 3, none⟩,
    ⟨(some 9), .assign (.tmp 49), none⟩]) c_sheaflaw3_BurstTells_0)
@[go_sem] theorem c_sheaflaw3_BurstTells_1_at (rd : Option Nat) (K : Post3) (t : Fr) (m : Mem) : wpM E 4 117 rd c_sheaflaw3_BurstTells_1 K t m = wpM E 4 117 rd (.seq (.ops [⟨(some 47), .move (.tmp 3), none⟩,
    ⟨(some 48), .call ⟨.builtin .len, #[(.tmp 47)], #[22]⟩, none⟩,
    ⟨(some 49), .binOp .sub 3 (.tmp 48) (.const (.int .i64 4)) 3, none⟩,
    ⟨(some 9), .assign (.tmp 49), none⟩]) c_sheaflaw3_BurstTells_0) K t m := rfl

def c_sheaflaw3_BurstTells_2 : MC := (.cond (.tmp 46) c_sheaflaw3_BurstTells_1 .skip)
@[go_sem] theorem c_sheaflaw3_BurstTells_2_at (rd : Option Nat) (K : Post3) (t : Fr) (m : Mem) : wpM E 4 117 rd c_sheaflaw3_BurstTells_2 K t m = wpM E 4 117 rd (.cond (.tmp 46) c_sheaflaw3_BurstTells_1 .skip) K t m := rfl

def c_sheaflaw3_BurstTells_3 : MC := (.seq (.ops [⟨(some 46), .move (.tmp 8), none⟩]) c_sheaflaw3_BurstTells_2)
@[go_sem] theorem c_sheaflaw3_BurstTells_3_at (rd : Option Nat) (K : Post3) (t : Fr) (m : Mem) : wpM E 4 117 rd c_sheaflaw3_BurstTells_3 K t m = wpM E 4 117 rd (.seq (.ops [⟨(some 46), .move (.tmp 8), none⟩]) c_sheaflaw3_BurstTells_2) K t m := rfl

def c_sheaflaw3_BurstTells_4 : MC := (.seq (.ops [⟨(some 94), .move (.tmp 3), none⟩,
    ⟨(some 95), .call ⟨.value (.func 9), #[(.tmp 94)], #[22]⟩, none⟩,
    ⟨(some 96), .move (.tmp 6), none⟩,
    ⟨(some 97), .binOp .eql 24 (.tmp 95) (.tmp 96) 24, none⟩,
    ⟨(some 98), .move (.tmp 97), none⟩,
    ⟨(some 99), .move (.tmp 5), (some (some 98, true))⟩,
    ⟨(some 100), .move (.tmp 7), (some (some 98, true))⟩,
    ⟨(some 101), .call ⟨.value (.func 13), #[(.tmp 99), (.tmp 100)], #[22, 22]⟩, (some (some 98, true))⟩,
    ⟨(some 102), .pick (.tmp 98) (.tmp 101) (.const (.bool false)), none⟩,
    ⟨(some 103), .move (.tmp 102), none⟩,
    ⟨(some 104), .move (.tmp 3), (some (some 103, true))⟩,
    ⟨(some 105), .call ⟨.value (.func 10), #[(.tmp 104)], #[22]⟩, (some (some 103, true))⟩,
    ⟨(some 106), .move (.tmp 8), (some (some 103, true))⟩,
    ⟨(some 107), .binOp .eql 4 (.tmp 105) (.tmp 106) 4, (some (some 103, true))⟩,
    ⟨(some 108), .pick (.tmp 103) (.tmp 107) (.const (.bool false)), none⟩,
    ⟨(some 109), .move (.tmp 108), none⟩,
    ⟨(some 110), .move (.tmp 4), (some (some 109, true))⟩,
    ⟨(some 111), .move (.tmp 3), (some (some 109, true))⟩,
    ⟨(some 112), .call ⟨.value (.func 14), #[(.tmp 110), (.tmp 111), (.const (.int .u8 7))], #[22, 22, 5]⟩, (some (some 109, true))⟩,
    ⟨(some 113), .pick (.tmp 109) (.tmp 112) (.const (.bool false)), none⟩,
    ⟨(some 114), .move (.tmp 113), none⟩,
    ⟨(some 115), .call ⟨.value (.func 3), #[], #[]⟩, (some (some 114, true))⟩,
    ⟨(some 116), .pick (.tmp 114) (.tmp 115) (.const (.bool false)), none⟩,
    ⟨(some 2), .assign (.tmp 116), none⟩]) .ret)
@[go_sem] theorem c_sheaflaw3_BurstTells_4_at (rd : Option Nat) (K : Post3) (t : Fr) (m : Mem) : wpM E 4 117 rd c_sheaflaw3_BurstTells_4 K t m = wpM E 4 117 rd (.seq (.ops [⟨(some 94), .move (.tmp 3), none⟩,
    ⟨(some 95), .call ⟨.value (.func 9), #[(.tmp 94)], #[22]⟩, none⟩,
    ⟨(some 96), .move (.tmp 6), none⟩,
    ⟨(some 97), .binOp .eql 24 (.tmp 95) (.tmp 96) 24, none⟩,
    ⟨(some 98), .move (.tmp 97), none⟩,
    ⟨(some 99), .move (.tmp 5), (some (some 98, true))⟩,
    ⟨(some 100), .move (.tmp 7), (some (some 98, true))⟩,
    ⟨(some 101), .call ⟨.value (.func 13), #[(.tmp 99), (.tmp 100)], #[22, 22]⟩, (some (some 98, true))⟩,
    ⟨(some 102), .pick (.tmp 98) (.tmp 101) (.const (.bool false)), none⟩,
    ⟨(some 103), .move (.tmp 102), none⟩,
    ⟨(some 104), .move (.tmp 3), (some (some 103, true))⟩,
    ⟨(some 105), .call ⟨.value (.func 10), #[(.tmp 104)], #[22]⟩, (some (some 103, true))⟩,
    ⟨(some 106), .move (.tmp 8), (some (some 103, true))⟩,
    ⟨(some 107), .binOp .eql 4 (.tmp 105) (.tmp 106) 4, (some (some 103, true))⟩,
    ⟨(some 108), .pick (.tmp 103) (.tmp 107) (.const (.bool false)), none⟩,
    ⟨(some 109), .move (.tmp 108), none⟩,
    ⟨(some 110), .move (.tmp 4), (some (some 109, true))⟩,
    ⟨(some 111), .move (.tmp 3), (some (some 109, true))⟩,
    ⟨(some 112), .call ⟨.value (.func 14), #[(.tmp 110), (.tmp 111), (.const (.int .u8 7))], #[22, 22, 5]⟩, (some (some 109, true))⟩,
    ⟨(some 113), .pick (.tmp 109) (.tmp 112) (.const (.bool false)), none⟩,
    ⟨(some 114), .move (.tmp 113), none⟩,
    ⟨(some 115), .call ⟨.value (.func 3), #[], #[]⟩, (some (some 114, true))⟩,
    ⟨(some 116), .pick (.tmp 114) (.tmp 115) (.const (.bool false)), none⟩,
    ⟨(some 2), .assign (.tmp 116), none⟩]) .ret) K t m := rfl

def c_sheaflaw3_BurstTells_5 : MC := (.seq c_sheaflaw3_BurstTells_3 c_sheaflaw3_BurstTells_4)
@[go_sem] theorem c_sheaflaw3_BurstTells_5_at (rd : Option Nat) (K : Post3) (t : Fr) (m : Mem) : wpM E 4 117 rd c_sheaflaw3_BurstTells_5 K t m = wpM E 4 117 rd (.seq c_sheaflaw3_BurstTells_3 c_sheaflaw3_BurstTells_4) K t m := rfl

def c_sheaflaw3_BurstTells_6 : MC := (.seq (.ops [⟨(some 43), .move (.tmp 3), none⟩,
    ⟨(some 44), .call ⟨.builtin .len, #[(.tmp 43)], #[22]⟩, none⟩,
    ⟨(some 45), .binOp .geq 3 (.tmp 44) (.const (.int .i64 4)) 3, none⟩,
    ⟨(some 8), .assign (.tmp 45), none⟩]) c_sheaflaw3_BurstTells_5)
@[go_sem] theorem c_sheaflaw3_BurstTells_6_at (rd : Option Nat) (K : Post3) (t : Fr) (m : Mem) : wpM E 4 117 rd c_sheaflaw3_BurstTells_6 K t m = wpM E 4 117 rd (.seq (.ops [⟨(some 43), .move (.tmp 3), none⟩,
    ⟨(some 44), .call ⟨.builtin .len, #[(.tmp 43)], #[22]⟩, none⟩,
    ⟨(some 45), .binOp .geq 3 (.tmp 44) (.const (.int .i64 4)) 3, none⟩,
    ⟨(some 8), .assign (.tmp 45), none⟩]) c_sheaflaw3_BurstTells_5) K t m := rfl

def c_sheaflaw3_BurstTells_7 : MC := (.seq (.ops [⟨(some 27), .buildSlice 22 0 #[], none⟩,
    ⟨(some 28), .move (.tmp 3), none⟩,
    ⟨(some 29), .call ⟨.builtin .append, #[(.tmp 27), (.tmp 28)], #[22, 22]⟩, none⟩,
    ⟨(some 30), .move (.tmp 6), none⟩,
    ⟨(some 31), .convert 24 5 (.tmp 30), none⟩,
    ⟨(some 32), .move (.tmp 6), none⟩,
    ⟨(some 33), .binOp .shr 24 (.tmp 32) (.const (.int .u64 8)) 29, none⟩,
    ⟨(some 34), .convert 24 5 (.tmp 33), none⟩,
    ⟨(some 35), .move (.tmp 6), none⟩,
    ⟨(some 36), .binOp .shr 24 (.tmp 35) (.const (.int .u64 16)) 29, none⟩,
    ⟨(some 37), .convert 24 5 (.tmp 36), none⟩,
    ⟨(some 38), .move (.tmp 6), none⟩,
    ⟨(some 39), .binOp .shr 24 (.tmp 38) (.const (.int .u64 24)) 29, none⟩,
    ⟨(some 40), .convert 24 5 (.tmp 39), none⟩,
    ⟨(some 41), .buildSlice 22 4 #[(0, (.tmp 31)), (1, (.tmp 34)), (2, (.tmp 37)), (3, (.tmp 40))], none⟩,
    ⟨(some 42), .call ⟨.builtin .append, #[(.tmp 29), (.tmp 41)], #[22, 22]⟩, none⟩,
    ⟨(some 7), .assign (.tmp 42), none⟩]) c_sheaflaw3_BurstTells_6)
@[go_sem] theorem c_sheaflaw3_BurstTells_7_at (rd : Option Nat) (K : Post3) (t : Fr) (m : Mem) : wpM E 4 117 rd c_sheaflaw3_BurstTells_7 K t m = wpM E 4 117 rd (.seq (.ops [⟨(some 27), .buildSlice 22 0 #[], none⟩,
    ⟨(some 28), .move (.tmp 3), none⟩,
    ⟨(some 29), .call ⟨.builtin .append, #[(.tmp 27), (.tmp 28)], #[22, 22]⟩, none⟩,
    ⟨(some 30), .move (.tmp 6), none⟩,
    ⟨(some 31), .convert 24 5 (.tmp 30), none⟩,
    ⟨(some 32), .move (.tmp 6), none⟩,
    ⟨(some 33), .binOp .shr 24 (.tmp 32) (.const (.int .u64 8)) 29, none⟩,
    ⟨(some 34), .convert 24 5 (.tmp 33), none⟩,
    ⟨(some 35), .move (.tmp 6), none⟩,
    ⟨(some 36), .binOp .shr 24 (.tmp 35) (.const (.int .u64 16)) 29, none⟩,
    ⟨(some 37), .convert 24 5 (.tmp 36), none⟩,
    ⟨(some 38), .move (.tmp 6), none⟩,
    ⟨(some 39), .binOp .shr 24 (.tmp 38) (.const (.int .u64 24)) 29, none⟩,
    ⟨(some 40), .convert 24 5 (.tmp 39), none⟩,
    ⟨(some 41), .buildSlice 22 4 #[(0, (.tmp 31)), (1, (.tmp 34)), (2, (.tmp 37)), (3, (.tmp 40))], none⟩,
    ⟨(some 42), .call ⟨.builtin .append, #[(.tmp 29), (.tmp 41)], #[22, 22]⟩, none⟩,
    ⟨(some 7), .assign (.tmp 42), none⟩]) c_sheaflaw3_BurstTells_6) K t m := rfl

def c_sheaflaw3_BurstTells_8 : MC := (.seq (.ops [⟨(some 25), .move (.tmp 3), none⟩,
    ⟨(some 26), .call ⟨.value (.func 12), #[(.tmp 25)], #[22]⟩, none⟩,
    ⟨(some 6), .assign (.tmp 26), none⟩]) c_sheaflaw3_BurstTells_7)
@[go_sem] theorem c_sheaflaw3_BurstTells_8_at (rd : Option Nat) (K : Post3) (t : Fr) (m : Mem) : wpM E 4 117 rd c_sheaflaw3_BurstTells_8 K t m = wpM E 4 117 rd (.seq (.ops [⟨(some 25), .move (.tmp 3), none⟩,
    ⟨(some 26), .call ⟨.value (.func 12), #[(.tmp 25)], #[22]⟩, none⟩,
    ⟨(some 6), .assign (.tmp 26), none⟩]) c_sheaflaw3_BurstTells_7) K t m := rfl

def c_sheaflaw3_BurstTells_9 : MC := (.seq (.ops [⟨(some 20), .move (.tmp 4), none⟩,
    ⟨(some 21), .move (.tmp 3), none⟩,
    ⟨(some 22), .call ⟨.builtin .len, #[(.tmp 21)], #[22]⟩, none⟩,
    ⟨(some 23), .slice 22 (.tmp 20) none (some (.tmp 22)) none, none⟩,
    ⟨(some 24), .call ⟨.value (.func 8), #[(.tmp 23)], #[22]⟩, none⟩,
    ⟨(some 5), .assign (.tmp 24), none⟩]) c_sheaflaw3_BurstTells_8)
@[go_sem] theorem c_sheaflaw3_BurstTells_9_at (rd : Option Nat) (K : Post3) (t : Fr) (m : Mem) : wpM E 4 117 rd c_sheaflaw3_BurstTells_9 K t m = wpM E 4 117 rd (.seq (.ops [⟨(some 20), .move (.tmp 4), none⟩,
    ⟨(some 21), .move (.tmp 3), none⟩,
    ⟨(some 22), .call ⟨.builtin .len, #[(.tmp 21)], #[22]⟩, none⟩,
    ⟨(some 23), .slice 22 (.tmp 20) none (some (.tmp 22)) none, none⟩,
    ⟨(some 24), .call ⟨.value (.func 8), #[(.tmp 23)], #[22]⟩, none⟩,
    ⟨(some 5), .assign (.tmp 24), none⟩]) c_sheaflaw3_BurstTells_8) K t m := rfl

def c_sheaflaw3_BurstTells_10 : MC := (.seq (.ops [⟨(some 18), .move (.tmp 3), none⟩,
    ⟨(some 19), .call ⟨.value (.func 11), #[(.tmp 18), (.const (.int .u8 7))], #[22, 5]⟩, none⟩,
    ⟨(some 4), .assign (.tmp 19), none⟩]) c_sheaflaw3_BurstTells_9)
@[go_sem] theorem c_sheaflaw3_BurstTells_10_at (rd : Option Nat) (K : Post3) (t : Fr) (m : Mem) : wpM E 4 117 rd c_sheaflaw3_BurstTells_10 K t m = wpM E 4 117 rd (.seq (.ops [⟨(some 18), .move (.tmp 3), none⟩,
    ⟨(some 19), .call ⟨.value (.func 11), #[(.tmp 18), (.const (.int .u8 7))], #[22, 5]⟩, none⟩,
    ⟨(some 4), .assign (.tmp 19), none⟩]) c_sheaflaw3_BurstTells_9) K t m := rfl

def c_sheaflaw3_BurstTells_11 : MC := (.seq (.ops [⟨(some 11), .buildSlice 22 0 #[], none⟩,
    ⟨(some 12), .move (.tmp 0), none⟩,
    ⟨(some 13), .move (.tmp 0), none⟩,
    ⟨(some 14), .call ⟨.builtin .len, #[(.tmp 13)], #[22]⟩, none⟩,
    ⟨(some 15), .call ⟨.builtin .min, #[(.tmp 14), (.const (.int .i64 90))], #[3, 3]⟩, none⟩,
    ⟨(some 16), .slice 22 (.tmp 12) none (some (.tmp 15)) none, none⟩,
    ⟨(some 17), .call ⟨.builtin .append, #[(.tmp 11), (.tmp 16)], #[22, 22]⟩, none⟩,
    ⟨(some 3), .assign (.tmp 17), none⟩]) c_sheaflaw3_BurstTells_10)
@[go_sem] theorem c_sheaflaw3_BurstTells_11_at (rd : Option Nat) (K : Post3) (t : Fr) (m : Mem) : wpM E 4 117 rd c_sheaflaw3_BurstTells_11 K t m = wpM E 4 117 rd (.seq (.ops [⟨(some 11), .buildSlice 22 0 #[], none⟩,
    ⟨(some 12), .move (.tmp 0), none⟩,
    ⟨(some 13), .move (.tmp 0), none⟩,
    ⟨(some 14), .call ⟨.builtin .len, #[(.tmp 13)], #[22]⟩, none⟩,
    ⟨(some 15), .call ⟨.builtin .min, #[(.tmp 14), (.const (.int .i64 90))], #[3, 3]⟩, none⟩,
    ⟨(some 16), .slice 22 (.tmp 12) none (some (.tmp 15)) none, none⟩,
    ⟨(some 17), .call ⟨.builtin .append, #[(.tmp 11), (.tmp 16)], #[22, 22]⟩, none⟩,
    ⟨(some 3), .assign (.tmp 17), none⟩]) c_sheaflaw3_BurstTells_10) K t m := rfl

def c_sheaflaw3_BurstTells_12 : MC := (.seq (.ops [⟨(some 2), .assign (.const (.bool false)), none⟩]) c_sheaflaw3_BurstTells_11)
@[go_sem] theorem c_sheaflaw3_BurstTells_12_at (rd : Option Nat) (K : Post3) (t : Fr) (m : Mem) : wpM E 4 117 rd c_sheaflaw3_BurstTells_12 K t m = wpM E 4 117 rd (.seq (.ops [⟨(some 2), .assign (.const (.bool false)), none⟩]) c_sheaflaw3_BurstTells_11) K t m := rfl

@[go_sem] theorem some4 : (E.fn 4).isSome = true := by kernel_rfl
set_option maxRecDepth 100000 in
theorem fn_sheaflaw3_BurstTells : FnIs E 4 117 [.tmp 2] c_sheaflaw3_BurstTells_12 := ⟨by kernel_rfl, by kernel_rfl⟩

/-! sheaf/sheaflaw3.BurstFound -/
abbrev F_sheaflaw3_BurstFound : FuncId := 5
def c_sheaflaw3_BurstFound_0 : MC := (.seq (.ops [⟨(some 6), .assign (.const (.bool false)), none⟩]) .ret)
@[go_sem] theorem c_sheaflaw3_BurstFound_0_at (rd : Option Nat) (K : Post3) (t : Fr) (m : Mem) : wpM E 5 43 rd c_sheaflaw3_BurstFound_0 K t m = wpM E 5 43 rd (.seq (.ops [⟨(some 6), .assign (.const (.bool false)), none⟩]) .ret) K t m := rfl

def c_sheaflaw3_BurstFound_1 : MC := (.cond (.tmp 18) c_sheaflaw3_BurstFound_0 .skip)
@[go_sem] theorem c_sheaflaw3_BurstFound_1_at (rd : Option Nat) (K : Post3) (t : Fr) (m : Mem) : wpM E 5 43 rd c_sheaflaw3_BurstFound_1 K t m = wpM E 5 43 rd (.cond (.tmp 18) c_sheaflaw3_BurstFound_0 .skip) K t m := rfl

def c_sheaflaw3_BurstFound_2 : MC := (.seq (.ops [⟨(some 16), .load 22 (.tmp 7), none⟩,
    ⟨(some 17), .call ⟨.builtin .len, #[(.tmp 16)], #[22]⟩, none⟩,
    ⟨(some 18), .binOp .lss 3 (.tmp 17) (.const (.int .i64 4)) 3, none⟩]) c_sheaflaw3_BurstFound_1)
@[go_sem] theorem c_sheaflaw3_BurstFound_2_at (rd : Option Nat) (K : Post3) (t : Fr) (m : Mem) : wpM E 5 43 rd c_sheaflaw3_BurstFound_2 K t m = wpM E 5 43 rd (.seq (.ops [⟨(some 16), .load 22 (.tmp 7), none⟩,
    ⟨(some 17), .call ⟨.builtin .len, #[(.tmp 16)], #[22]⟩, none⟩,
    ⟨(some 18), .binOp .lss 3 (.tmp 17) (.const (.int .i64 4)) 3, none⟩]) c_sheaflaw3_BurstFound_1) K t m := rfl

def c_sheaflaw3_BurstFound_3 : MC := (.seq (.ops [⟨(some 6), .assign (.const (.bool false)), none⟩]) .ret)
@[go_sem] theorem c_sheaflaw3_BurstFound_3_at (rd : Option Nat) (K : Post3) (t : Fr) (m : Mem) : wpM E 5 43 rd c_sheaflaw3_BurstFound_3 K t m = wpM E 5 43 rd (.seq (.ops [⟨(some 6), .assign (.const (.bool false)), none⟩]) .ret) K t m := rfl

def c_sheaflaw3_BurstFound_4 : MC := (.cond (.tmp 28) c_sheaflaw3_BurstFound_3 .skip)
@[go_sem] theorem c_sheaflaw3_BurstFound_4_at (rd : Option Nat) (K : Post3) (t : Fr) (m : Mem) : wpM E 5 43 rd c_sheaflaw3_BurstFound_4 K t m = wpM E 5 43 rd (.cond (.tmp 28) c_sheaflaw3_BurstFound_3 .skip) K t m := rfl

def c_sheaflaw3_BurstFound_5 : MC := (.seq (.ops [⟨(some 26), .load 22 (.tmp 7), none⟩,
    ⟨(some 27), .call ⟨.value (.func 10), #[(.tmp 26)], #[22]⟩, none⟩,
    ⟨(some 28), .unOp .not 4 (.tmp 27), none⟩]) c_sheaflaw3_BurstFound_4)
@[go_sem] theorem c_sheaflaw3_BurstFound_5_at (rd : Option Nat) (K : Post3) (t : Fr) (m : Mem) : wpM E 5 43 rd c_sheaflaw3_BurstFound_5 K t m = wpM E 5 43 rd (.seq (.ops [⟨(some 26), .load 22 (.tmp 7), none⟩,
    ⟨(some 27), .call ⟨.value (.func 10), #[(.tmp 26)], #[22]⟩, none⟩,
    ⟨(some 28), .unOp .not 4 (.tmp 27), none⟩]) c_sheaflaw3_BurstFound_4) K t m := rfl

def c_sheaflaw3_BurstFound_6 : MC := (.seq (.ops [⟨(some 6), .assign (.const (.bool false)), none⟩]) .ret)
@[go_sem] theorem c_sheaflaw3_BurstFound_6_at (rd : Option Nat) (K : Post3) (t : Fr) (m : Mem) : wpM E 5 43 rd c_sheaflaw3_BurstFound_6 K t m = wpM E 5 43 rd (.seq (.ops [⟨(some 6), .assign (.const (.bool false)), none⟩]) .ret) K t m := rfl

def c_sheaflaw3_BurstFound_7 : MC := (.cond (.tmp 35) c_sheaflaw3_BurstFound_6 .skip)
@[go_sem] theorem c_sheaflaw3_BurstFound_7_at (rd : Option Nat) (K : Post3) (t : Fr) (m : Mem) : wpM E 5 43 rd c_sheaflaw3_BurstFound_7 K t m = wpM E 5 43 rd (.cond (.tmp 35) c_sheaflaw3_BurstFound_6 .skip) K t m := rfl

def c_sheaflaw3_BurstFound_8 : MC := (.seq (.draw [(0, [], ⟨(some 31), .load 22 (.tmp 7), none⟩),
    (2, [], ⟨(some 33), .load 24 (.tmp 5), none⟩),
    (1, [2], ⟨(some 32), .call ⟨.value (.func 10), #[(.tmp 31)], #[22]⟩, none⟩),
    (3, [], ⟨(some 34), .binOp .eql 24 (.tmp 33) (.const (.int .u32 0)) 24, none⟩),
    (4, [], ⟨(some 35), .binOp .neq 4 (.tmp 32) (.tmp 34) 4, none⟩)]) c_sheaflaw3_BurstFound_7)
@[go_sem] theorem c_sheaflaw3_BurstFound_8_at (rd : Option Nat) (K : Post3) (t : Fr) (m : Mem) : wpM E 5 43 rd c_sheaflaw3_BurstFound_8 K t m = wpM E 5 43 rd (.seq (.draw [(0, [], ⟨(some 31), .load 22 (.tmp 7), none⟩),
    (2, [], ⟨(some 33), .load 24 (.tmp 5), none⟩),
    (1, [2], ⟨(some 32), .call ⟨.value (.func 10), #[(.tmp 31)], #[22]⟩, none⟩),
    (3, [], ⟨(some 34), .binOp .eql 24 (.tmp 33) (.const (.int .u32 0)) 24, none⟩),
    (4, [], ⟨(some 35), .binOp .neq 4 (.tmp 32) (.tmp 34) 4, none⟩)]) c_sheaflaw3_BurstFound_7) K t m := rfl

def c_sheaflaw3_BurstFound_9 : MC := (.seq (.ops [⟨(some 38), .load 22 (.tmp 7), none⟩,
    ⟨(some 39), .call ⟨.value (.func 10), #[(.tmp 38)], #[22]⟩, none⟩,
    ⟨(some 40), .move (.tmp 39), none⟩,
    ⟨(some 41), .call ⟨.value (.func 3), #[], #[]⟩, (some (some 40, true))⟩,
    ⟨(some 42), .pick (.tmp 40) (.tmp 41) (.const (.bool false)), none⟩,
    ⟨(some 6), .assign (.tmp 42), none⟩]) .ret)
@[go_sem] theorem c_sheaflaw3_BurstFound_9_at (rd : Option Nat) (K : Post3) (t : Fr) (m : Mem) : wpM E 5 43 rd c_sheaflaw3_BurstFound_9 K t m = wpM E 5 43 rd (.seq (.ops [⟨(some 38), .load 22 (.tmp 7), none⟩,
    ⟨(some 39), .call ⟨.value (.func 10), #[(.tmp 38)], #[22]⟩, none⟩,
    ⟨(some 40), .move (.tmp 39), none⟩,
    ⟨(some 41), .call ⟨.value (.func 3), #[], #[]⟩, (some (some 40, true))⟩,
    ⟨(some 42), .pick (.tmp 40) (.tmp 41) (.const (.bool false)), none⟩,
    ⟨(some 6), .assign (.tmp 42), none⟩]) .ret) K t m := rfl

def c_sheaflaw3_BurstFound_10 : MC := (.seq (.ops [⟨(some 36), .move (.tmp 9), none⟩,
    ⟨(some 37), .call ⟨.value (.tmp 36), #[], #[]⟩, none⟩]) c_sheaflaw3_BurstFound_9)
@[go_sem] theorem c_sheaflaw3_BurstFound_10_at (rd : Option Nat) (K : Post3) (t : Fr) (m : Mem) : wpM E 5 43 rd c_sheaflaw3_BurstFound_10 K t m = wpM E 5 43 rd (.seq (.ops [⟨(some 36), .move (.tmp 9), none⟩,
    ⟨(some 37), .call ⟨.value (.tmp 36), #[], #[]⟩, none⟩]) c_sheaflaw3_BurstFound_9) K t m := rfl

def c_sheaflaw3_BurstFound_11 : MC := (.seq c_sheaflaw3_BurstFound_8 c_sheaflaw3_BurstFound_10)
@[go_sem] theorem c_sheaflaw3_BurstFound_11_at (rd : Option Nat) (K : Post3) (t : Fr) (m : Mem) : wpM E 5 43 rd c_sheaflaw3_BurstFound_11 K t m = wpM E 5 43 rd (.seq c_sheaflaw3_BurstFound_8 c_sheaflaw3_BurstFound_10) K t m := rfl

def c_sheaflaw3_BurstFound_12 : MC := (.seq (.ops [⟨(some 29), .move (.tmp 9), none⟩,
    ⟨(some 30), .call ⟨.value (.tmp 29), #[], #[]⟩, none⟩]) c_sheaflaw3_BurstFound_11)
@[go_sem] theorem c_sheaflaw3_BurstFound_12_at (rd : Option Nat) (K : Post3) (t : Fr) (m : Mem) : wpM E 5 43 rd c_sheaflaw3_BurstFound_12 K t m = wpM E 5 43 rd (.seq (.ops [⟨(some 29), .move (.tmp 9), none⟩,
    ⟨(some 30), .call ⟨.value (.tmp 29), #[], #[]⟩, none⟩]) c_sheaflaw3_BurstFound_11) K t m := rfl

def c_sheaflaw3_BurstFound_13 : MC := (.seq c_sheaflaw3_BurstFound_5 c_sheaflaw3_BurstFound_12)
@[go_sem] theorem c_sheaflaw3_BurstFound_13_at (rd : Option Nat) (K : Post3) (t : Fr) (m : Mem) : wpM E 5 43 rd c_sheaflaw3_BurstFound_13 K t m = wpM E 5 43 rd (.seq c_sheaflaw3_BurstFound_5 c_sheaflaw3_BurstFound_12) K t m := rfl

def c_sheaflaw3_BurstFound_14 : MC := (.seq (.ops [⟨(some 25), .makeFunc (.func 16) #[] #[(.tmp 5), (.tmp 7), (.tmp 8)], none⟩,
    ⟨(some 9), .assign (.tmp 25), none⟩]) c_sheaflaw3_BurstFound_13)
@[go_sem] theorem c_sheaflaw3_BurstFound_14_at (rd : Option Nat) (K : Post3) (t : Fr) (m : Mem) : wpM E 5 43 rd c_sheaflaw3_BurstFound_14 K t m = wpM E 5 43 rd (.seq (.ops [⟨(some 25), .makeFunc (.func 16) #[] #[(.tmp 5), (.tmp 7), (.tmp 8)], none⟩,
    ⟨(some 9), .assign (.tmp 25), none⟩]) c_sheaflaw3_BurstFound_13) K t m := rfl

def c_sheaflaw3_BurstFound_15 : MC := (.seq (.ops [⟨(some 19), .move (.tmp 1), none⟩,
    ⟨(some 20), .load 22 (.tmp 7), none⟩,
    ⟨(some 21), .call ⟨.builtin .len, #[(.tmp 20)], #[22]⟩, none⟩,
    ⟨(some 22), .binOp .mul 3 (.const (.int .i64 8)) (.tmp 21) 3, none⟩,
    ⟨(some 23), .binOp .sub 3 (.tmp 22) (.const (.int .i64 32)) 3, none⟩,
    ⟨(some 24), .call ⟨.value (.func 15), #[(.tmp 19), (.const (.int .i64 0)), (.tmp 23)], #[3, 3, 3]⟩, none⟩,
    ⟨(some 8), .alloc 3, none⟩,
    ⟨none, .store 3 (.tmp 8) (.tmp 24), none⟩]) c_sheaflaw3_BurstFound_14)
@[go_sem] theorem c_sheaflaw3_BurstFound_15_at (rd : Option Nat) (K : Post3) (t : Fr) (m : Mem) : wpM E 5 43 rd c_sheaflaw3_BurstFound_15 K t m = wpM E 5 43 rd (.seq (.ops [⟨(some 19), .move (.tmp 1), none⟩,
    ⟨(some 20), .load 22 (.tmp 7), none⟩,
    ⟨(some 21), .call ⟨.builtin .len, #[(.tmp 20)], #[22]⟩, none⟩,
    ⟨(some 22), .binOp .mul 3 (.const (.int .i64 8)) (.tmp 21) 3, none⟩,
    ⟨(some 23), .binOp .sub 3 (.tmp 22) (.const (.int .i64 32)) 3, none⟩,
    ⟨(some 24), .call ⟨.value (.func 15), #[(.tmp 19), (.const (.int .i64 0)), (.tmp 23)], #[3, 3, 3]⟩, none⟩,
    ⟨(some 8), .alloc 3, none⟩,
    ⟨none, .store 3 (.tmp 8) (.tmp 24), none⟩]) c_sheaflaw3_BurstFound_14) K t m := rfl

def c_sheaflaw3_BurstFound_16 : MC := (.seq c_sheaflaw3_BurstFound_2 c_sheaflaw3_BurstFound_15)
@[go_sem] theorem c_sheaflaw3_BurstFound_16_at (rd : Option Nat) (K : Post3) (t : Fr) (m : Mem) : wpM E 5 43 rd c_sheaflaw3_BurstFound_16 K t m = wpM E 5 43 rd (.seq c_sheaflaw3_BurstFound_2 c_sheaflaw3_BurstFound_15) K t m := rfl

def c_sheaflaw3_BurstFound_17 : MC := (.seq (.ops [⟨(some 10), .move (.tmp 0), none⟩,
    ⟨(some 11), .move (.tmp 0), none⟩,
    ⟨(some 12), .call ⟨.builtin .len, #[(.tmp 11)], #[22]⟩, none⟩,
    ⟨(some 13), .call ⟨.builtin .min, #[(.tmp 12), (.const (.int .i64 90))], #[3, 3]⟩, none⟩,
    ⟨(some 14), .slice 22 (.tmp 10) none (some (.tmp 13)) none, none⟩,
    ⟨(some 15), .call ⟨.value (.func 8), #[(.tmp 14)], #[22]⟩, none⟩,
    ⟨(some 7), .alloc 22, none⟩,
    ⟨none, .store 22 (.tmp 7) (.tmp 15), none⟩]) c_sheaflaw3_BurstFound_16)
@[go_sem] theorem c_sheaflaw3_BurstFound_17_at (rd : Option Nat) (K : Post3) (t : Fr) (m : Mem) : wpM E 5 43 rd c_sheaflaw3_BurstFound_17 K t m = wpM E 5 43 rd (.seq (.ops [⟨(some 10), .move (.tmp 0), none⟩,
    ⟨(some 11), .move (.tmp 0), none⟩,
    ⟨(some 12), .call ⟨.builtin .len, #[(.tmp 11)], #[22]⟩, none⟩,
    ⟨(some 13), .call ⟨.builtin .min, #[(.tmp 12), (.const (.int .i64 90))], #[3, 3]⟩, none⟩,
    ⟨(some 14), .slice 22 (.tmp 10) none (some (.tmp 13)) none, none⟩,
    ⟨(some 15), .call ⟨.value (.func 8), #[(.tmp 14)], #[22]⟩, none⟩,
    ⟨(some 7), .alloc 22, none⟩,
    ⟨none, .store 22 (.tmp 7) (.tmp 15), none⟩]) c_sheaflaw3_BurstFound_16) K t m := rfl

def c_sheaflaw3_BurstFound_18 : MC := (.seq (.ops [⟨(some 5), .box 24 (.tmp 2), none⟩,
    ⟨(some 6), .assign (.const (.bool false)), none⟩]) c_sheaflaw3_BurstFound_17)
@[go_sem] theorem c_sheaflaw3_BurstFound_18_at (rd : Option Nat) (K : Post3) (t : Fr) (m : Mem) : wpM E 5 43 rd c_sheaflaw3_BurstFound_18 K t m = wpM E 5 43 rd (.seq (.ops [⟨(some 5), .box 24 (.tmp 2), none⟩,
    ⟨(some 6), .assign (.const (.bool false)), none⟩]) c_sheaflaw3_BurstFound_17) K t m := rfl

@[go_sem] theorem some5 : (E.fn 5).isSome = true := by kernel_rfl
set_option maxRecDepth 100000 in
theorem fn_sheaflaw3_BurstFound : FnIs E 5 43 [.tmp 6] c_sheaflaw3_BurstFound_18 := ⟨by kernel_rfl, by kernel_rfl⟩

/-! sheaf/sheaflaw3.BurstApart -/
abbrev F_sheaflaw3_BurstApart : FuncId := 6
def c_sheaflaw3_BurstApart_0 : MC := (.cond (.tmp 29) .skip (.exit 0))
@[go_sem] theorem c_sheaflaw3_BurstApart_0_at (rd : Option Nat) (K : Post3) (t : Fr) (m : Mem) : wpM E 6 108 rd c_sheaflaw3_BurstApart_0 K t m = wpM E 6 108 rd (.cond (.tmp 29) .skip (.exit 0)) K t m := rfl

def c_sheaflaw3_BurstApart_1 : MC := (.seq (.ops [⟨(some 30), .move (.tmp 28), none⟩,
    ⟨(some 13), .assign (.tmp 30), none⟩]) (.ops [⟨(some 31), .move (.tmp 12), none⟩,
    ⟨(some 32), .move (.tmp 13), none⟩,
    ⟨(some 33), .move (.tmp 0), none⟩,
    ⟨(some 34), .move (.tmp 13), none⟩,
    ⟨(some 35), .indexAddr 22 (.tmp 33) (.tmp 34), none⟩,
    ⟨(some 36), .load 5 (.tmp 35), none⟩,
    ⟨(some 37), .move (.tmp 1), none⟩,
    ⟨(some 38), .move (.tmp 13), none⟩,
    ⟨(some 39), .indexAddr 22 (.tmp 37) (.tmp 38), none⟩,
    ⟨(some 40), .load 5 (.tmp 39), none⟩,
    ⟨(some 41), .binOp .xor 5 (.tmp 36) (.tmp 40) 5, none⟩,
    ⟨(some 42), .move (.tmp 2), none⟩,
    ⟨(some 43), .move (.tmp 13), none⟩,
    ⟨(some 44), .indexAddr 22 (.tmp 42) (.tmp 43), none⟩,
    ⟨(some 45), .load 5 (.tmp 44), none⟩,
    ⟨(some 46), .binOp .xor 5 (.tmp 41) (.tmp 45) 5, none⟩,
    ⟨(some 47), .indexAddr 22 (.tmp 31) (.tmp 32), none⟩,
    ⟨none, .store 5 (.tmp 47) (.tmp 46), none⟩]))
@[go_sem] theorem c_sheaflaw3_BurstApart_1_at (rd : Option Nat) (K : Post3) (t : Fr) (m : Mem) : wpM E 6 108 rd c_sheaflaw3_BurstApart_1 K t m = wpM E 6 108 rd (.seq (.ops [⟨(some 30), .move (.tmp 28), none⟩,
    ⟨(some 13), .assign (.tmp 30), none⟩]) (.ops [⟨(some 31), .move (.tmp 12), none⟩,
    ⟨(some 32), .move (.tmp 13), none⟩,
    ⟨(some 33), .move (.tmp 0), none⟩,
    ⟨(some 34), .move (.tmp 13), none⟩,
    ⟨(some 35), .indexAddr 22 (.tmp 33) (.tmp 34), none⟩,
    ⟨(some 36), .load 5 (.tmp 35), none⟩,
    ⟨(some 37), .move (.tmp 1), none⟩,
    ⟨(some 38), .move (.tmp 13), none⟩,
    ⟨(some 39), .indexAddr 22 (.tmp 37) (.tmp 38), none⟩,
    ⟨(some 40), .load 5 (.tmp 39), none⟩,
    ⟨(some 41), .binOp .xor 5 (.tmp 36) (.tmp 40) 5, none⟩,
    ⟨(some 42), .move (.tmp 2), none⟩,
    ⟨(some 43), .move (.tmp 13), none⟩,
    ⟨(some 44), .indexAddr 22 (.tmp 42) (.tmp 43), none⟩,
    ⟨(some 45), .load 5 (.tmp 44), none⟩,
    ⟨(some 46), .binOp .xor 5 (.tmp 41) (.tmp 45) 5, none⟩,
    ⟨(some 47), .indexAddr 22 (.tmp 31) (.tmp 32), none⟩,
    ⟨none, .store 5 (.tmp 47) (.tmp 46), none⟩])) K t m := rfl

def c_sheaflaw3_BurstApart_2 : MC := (.block 1 c_sheaflaw3_BurstApart_1)
@[go_sem] theorem c_sheaflaw3_BurstApart_2_at (rd : Option Nat) (K : Post3) (t : Fr) (m : Mem) : wpM E 6 108 rd c_sheaflaw3_BurstApart_2 K t m = wpM E 6 108 rd (.block 1 c_sheaflaw3_BurstApart_1) K t m := rfl

def c_sheaflaw3_BurstApart_3 : MC := (.seq c_sheaflaw3_BurstApart_2 (.ops [⟨(some 48), .binOp .add 3 (.tmp 28) (.const (.int .i64 1)) 3, none⟩,
    ⟨(some 28), .move (.tmp 48), none⟩]))
@[go_sem] theorem c_sheaflaw3_BurstApart_3_at (rd : Option Nat) (K : Post3) (t : Fr) (m : Mem) : wpM E 6 108 rd c_sheaflaw3_BurstApart_3 K t m = wpM E 6 108 rd (.seq c_sheaflaw3_BurstApart_2 (.ops [⟨(some 48), .binOp .add 3 (.tmp 28) (.const (.int .i64 1)) 3, none⟩,
    ⟨(some 28), .move (.tmp 48), none⟩])) K t m := rfl

def c_sheaflaw3_BurstApart_4 : MC := (.seq c_sheaflaw3_BurstApart_0 c_sheaflaw3_BurstApart_3)
@[go_sem] theorem c_sheaflaw3_BurstApart_4_at (rd : Option Nat) (K : Post3) (t : Fr) (m : Mem) : wpM E 6 108 rd c_sheaflaw3_BurstApart_4 K t m = wpM E 6 108 rd (.seq c_sheaflaw3_BurstApart_0 c_sheaflaw3_BurstApart_3) K t m := rfl

def c_sheaflaw3_BurstApart_5 : MC := (.seq (.ops [⟨(some 29), .binOp .lss 3 (.tmp 28) (.tmp 27) 3, none⟩]) c_sheaflaw3_BurstApart_4)
@[go_sem] theorem c_sheaflaw3_BurstApart_5_at (rd : Option Nat) (K : Post3) (t : Fr) (m : Mem) : wpM E 6 108 rd c_sheaflaw3_BurstApart_5 K t m = wpM E 6 108 rd (.seq (.ops [⟨(some 29), .binOp .lss 3 (.tmp 28) (.tmp 27) 3, none⟩]) c_sheaflaw3_BurstApart_4) K t m := rfl

def c_sheaflaw3_BurstApart_6 : MC := (.loop c_sheaflaw3_BurstApart_5)
theorem c_sheaflaw3_BurstApart_6_at (rd : Option Nat) (K : Post3) (t : Fr) (m : Mem) : wpM E 6 108 rd c_sheaflaw3_BurstApart_6 K t m = wpM E 6 108 rd (.loop c_sheaflaw3_BurstApart_5) K t m := rfl

def c_sheaflaw3_BurstApart_7 : MC := (.block 0 c_sheaflaw3_BurstApart_6)
theorem c_sheaflaw3_BurstApart_7_at (rd : Option Nat) (K : Post3) (t : Fr) (m : Mem) : wpM E 6 108 rd c_sheaflaw3_BurstApart_7 K t m = wpM E 6 108 rd (.block 0 c_sheaflaw3_BurstApart_6) K t m := rfl

def c_sheaflaw3_BurstApart_8 : MC := (.seq (.ops [⟨(some 26), .move (.tmp 12), none⟩,
    ⟨(some 27), .call ⟨.builtin .len, #[(.tmp 26)], #[22]⟩, none⟩,
    ⟨(some 28), .move (.const (.int .i64 0)), none⟩]) c_sheaflaw3_BurstApart_7)
@[go_sem] theorem c_sheaflaw3_BurstApart_8_at (rd : Option Nat) (K : Post3) (t : Fr) (m : Mem) : wpM E 6 108 rd c_sheaflaw3_BurstApart_8 K t m = wpM E 6 108 rd (.seq (.ops [⟨(some 26), .move (.tmp 12), none⟩,
    ⟨(some 27), .call ⟨.builtin .len, #[(.tmp 26)], #[22]⟩, none⟩,
    ⟨(some 28), .move (.const (.int .i64 0)), none⟩]) c_sheaflaw3_BurstApart_7) K t m := rfl

def c_sheaflaw3_BurstApart_9 : MC := (.seq (.ops [⟨(some 10), .assign (.const (.bool false)), none⟩]) .ret)
@[go_sem] theorem c_sheaflaw3_BurstApart_9_at (rd : Option Nat) (K : Post3) (t : Fr) (m : Mem) : wpM E 6 108 rd c_sheaflaw3_BurstApart_9 K t m = wpM E 6 108 rd (.seq (.ops [⟨(some 10), .assign (.const (.bool false)), none⟩]) .ret) K t m := rfl

def c_sheaflaw3_BurstApart_10 : MC := (.cond (.tmp 65) c_sheaflaw3_BurstApart_9 .skip)
@[go_sem] theorem c_sheaflaw3_BurstApart_10_at (rd : Option Nat) (K : Post3) (t : Fr) (m : Mem) : wpM E 6 108 rd c_sheaflaw3_BurstApart_10 K t m = wpM E 6 108 rd (.cond (.tmp 65) c_sheaflaw3_BurstApart_9 .skip) K t m := rfl

def c_sheaflaw3_BurstApart_11 : MC := (.seq (.ops [⟨(some 49), .move (.tmp 12), none⟩,
    ⟨(some 50), .call ⟨.value (.func 9), #[(.tmp 49)], #[22]⟩, none⟩,
    ⟨(some 51), .move (.tmp 0), none⟩,
    ⟨(some 52), .move (.tmp 11), none⟩,
    ⟨(some 53), .slice 22 (.tmp 51) none (some (.tmp 52)) none, none⟩,
    ⟨(some 54), .call ⟨.value (.func 9), #[(.tmp 53)], #[22]⟩, none⟩,
    ⟨(some 55), .move (.tmp 1), none⟩,
    ⟨(some 56), .move (.tmp 11), none⟩,
    ⟨(some 57), .slice 22 (.tmp 55) none (some (.tmp 56)) none, none⟩,
    ⟨(some 58), .call ⟨.value (.func 9), #[(.tmp 57)], #[22]⟩, none⟩,
    ⟨(some 59), .binOp .xor 24 (.tmp 54) (.tmp 58) 24, none⟩,
    ⟨(some 60), .move (.tmp 2), none⟩,
    ⟨(some 61), .move (.tmp 11), none⟩,
    ⟨(some 62), .slice 22 (.tmp 60) none (some (.tmp 61)) none, none⟩,
    ⟨(some 63), .call ⟨.value (.func 9), #[(.tmp 62)], #[22]⟩, none⟩,
    ⟨(some 64), .binOp .xor 24 (.tmp 59) (.tmp 63) 24, none⟩,
    ⟨(some 65), .binOp .neq 24 (.tmp 50) (.tmp 64) 24, none⟩]) c_sheaflaw3_BurstApart_10)
@[go_sem] theorem c_sheaflaw3_BurstApart_11_at (rd : Option Nat) (K : Post3) (t : Fr) (m : Mem) : wpM E 6 108 rd c_sheaflaw3_BurstApart_11 K t m = wpM E 6 108 rd (.seq (.ops [⟨(some 49), .move (.tmp 12), none⟩,
    ⟨(some 50), .call ⟨.value (.func 9), #[(.tmp 49)], #[22]⟩, none⟩,
    ⟨(some 51), .move (.tmp 0), none⟩,
    ⟨(some 52), .move (.tmp 11), none⟩,
    ⟨(some 53), .slice 22 (.tmp 51) none (some (.tmp 52)) none, none⟩,
    ⟨(some 54), .call ⟨.value (.func 9), #[(.tmp 53)], #[22]⟩, none⟩,
    ⟨(some 55), .move (.tmp 1), none⟩,
    ⟨(some 56), .move (.tmp 11), none⟩,
    ⟨(some 57), .slice 22 (.tmp 55) none (some (.tmp 56)) none, none⟩,
    ⟨(some 58), .call ⟨.value (.func 9), #[(.tmp 57)], #[22]⟩, none⟩,
    ⟨(some 59), .binOp .xor 24 (.tmp 54) (.tmp 58) 24, none⟩,
    ⟨(some 60), .move (.tmp 2), none⟩,
    ⟨(some 61), .move (.tmp 11), none⟩,
    ⟨(some 62), .slice 22 (.tmp 60) none (some (.tmp 61)) none, none⟩,
    ⟨(some 63), .call ⟨.value (.func 9), #[(.tmp 62)], #[22]⟩, none⟩,
    ⟨(some 64), .binOp .xor 24 (.tmp 59) (.tmp 63) 24, none⟩,
    ⟨(some 65), .binOp .neq 24 (.tmp 50) (.tmp 64) 24, none⟩]) c_sheaflaw3_BurstApart_10) K t m := rfl

def c_sheaflaw3_BurstApart_12 : MC := (.seq (.ops [⟨(some 68), .call ⟨.value (.func 3), #[], #[]⟩, none⟩,
    ⟨(some 10), .assign (.tmp 68), none⟩]) .ret)
@[go_sem] theorem c_sheaflaw3_BurstApart_12_at (rd : Option Nat) (K : Post3) (t : Fr) (m : Mem) : wpM E 6 108 rd c_sheaflaw3_BurstApart_12 K t m = wpM E 6 108 rd (.seq (.ops [⟨(some 68), .call ⟨.value (.func 3), #[], #[]⟩, none⟩,
    ⟨(some 10), .assign (.tmp 68), none⟩]) .ret) K t m := rfl

def c_sheaflaw3_BurstApart_13 : MC := (.cond (.tmp 67) c_sheaflaw3_BurstApart_12 .skip)
@[go_sem] theorem c_sheaflaw3_BurstApart_13_at (rd : Option Nat) (K : Post3) (t : Fr) (m : Mem) : wpM E 6 108 rd c_sheaflaw3_BurstApart_13 K t m = wpM E 6 108 rd (.cond (.tmp 67) c_sheaflaw3_BurstApart_12 .skip) K t m := rfl

def c_sheaflaw3_BurstApart_14 : MC := (.seq (.ops [⟨(some 66), .move (.tmp 11), none⟩,
    ⟨(some 67), .binOp .lss 3 (.tmp 66) (.const (.int .i64 4)) 3, none⟩]) c_sheaflaw3_BurstApart_13)
@[go_sem] theorem c_sheaflaw3_BurstApart_14_at (rd : Option Nat) (K : Post3) (t : Fr) (m : Mem) : wpM E 6 108 rd c_sheaflaw3_BurstApart_14 K t m = wpM E 6 108 rd (.seq (.ops [⟨(some 66), .move (.tmp 11), none⟩,
    ⟨(some 67), .binOp .lss 3 (.tmp 66) (.const (.int .i64 4)) 3, none⟩]) c_sheaflaw3_BurstApart_13) K t m := rfl

def c_sheaflaw3_BurstApart_15 : MC := (.cond (.tmp 79) .skip (.exit 2))
@[go_sem] theorem c_sheaflaw3_BurstApart_15_at (rd : Option Nat) (K : Post3) (t : Fr) (m : Mem) : wpM E 6 108 rd c_sheaflaw3_BurstApart_15 K t m = wpM E 6 108 rd (.cond (.tmp 79) .skip (.exit 2)) K t m := rfl

def c_sheaflaw3_BurstApart_16 : MC := (.seq (.ops [⟨(some 78), .move (.tmp 16), none⟩,
    ⟨(some 79), .binOp .lss 3 (.tmp 78) (.const (.int .i64 4)) 3, none⟩]) c_sheaflaw3_BurstApart_15)
@[go_sem] theorem c_sheaflaw3_BurstApart_16_at (rd : Option Nat) (K : Post3) (t : Fr) (m : Mem) : wpM E 6 108 rd c_sheaflaw3_BurstApart_16 K t m = wpM E 6 108 rd (.seq (.ops [⟨(some 78), .move (.tmp 16), none⟩,
    ⟨(some 79), .binOp .lss 3 (.tmp 78) (.const (.int .i64 4)) 3, none⟩]) c_sheaflaw3_BurstApart_15) K t m := rfl

def c_sheaflaw3_BurstApart_17 : MC := (.block 3 (.ops [⟨(some 82), .move (.tmp 15), none⟩,
    ⟨(some 83), .move (.tmp 14), none⟩,
    ⟨(some 84), .move (.tmp 16), none⟩,
    ⟨(some 85), .binOp .add 3 (.tmp 83) (.tmp 84) 3, none⟩,
    ⟨(some 86), .indexAddr 22 (.tmp 82) (.tmp 85), none⟩,
    ⟨(some 87), .load 5 (.tmp 86), none⟩,
    ⟨(some 88), .move (.tmp 4), none⟩,
    ⟨(some 89), .move (.tmp 16), none⟩,
    ⟨(some 90), .binOp .mul 3 (.const (.int .i64 8)) (.tmp 89) 3, none⟩,
    ⟨(some 91), .binOp .shr 24 (.tmp 88) (.tmp 90) 3, none⟩,
    ⟨(some 92), .convert 24 5 (.tmp 91), none⟩,
    ⟨(some 93), .binOp .xor 5 (.tmp 87) (.tmp 92) 5, none⟩,
    ⟨(some 94), .indexAddr 22 (.tmp 82) (.tmp 85), none⟩,
    ⟨none, .store 5 (.tmp 94) (.tmp 93), none⟩]))
@[go_sem] theorem c_sheaflaw3_BurstApart_17_at (rd : Option Nat) (K : Post3) (t : Fr) (m : Mem) : wpM E 6 108 rd c_sheaflaw3_BurstApart_17 K t m = wpM E 6 108 rd (.block 3 (.ops [⟨(some 82), .move (.tmp 15), none⟩,
    ⟨(some 83), .move (.tmp 14), none⟩,
    ⟨(some 84), .move (.tmp 16), none⟩,
    ⟨(some 85), .binOp .add 3 (.tmp 83) (.tmp 84) 3, none⟩,
    ⟨(some 86), .indexAddr 22 (.tmp 82) (.tmp 85), none⟩,
    ⟨(some 87), .load 5 (.tmp 86), none⟩,
    ⟨(some 88), .move (.tmp 4), none⟩,
    ⟨(some 89), .move (.tmp 16), none⟩,
    ⟨(some 90), .binOp .mul 3 (.const (.int .i64 8)) (.tmp 89) 3, none⟩,
    ⟨(some 91), .binOp .shr 24 (.tmp 88) (.tmp 90) 3, none⟩,
    ⟨(some 92), .convert 24 5 (.tmp 91), none⟩,
    ⟨(some 93), .binOp .xor 5 (.tmp 87) (.tmp 92) 5, none⟩,
    ⟨(some 94), .indexAddr 22 (.tmp 82) (.tmp 85), none⟩,
    ⟨none, .store 5 (.tmp 94) (.tmp 93), none⟩])) K t m := rfl

def c_sheaflaw3_BurstApart_18 : MC := (.seq c_sheaflaw3_BurstApart_17 (.ops [⟨(some 80), .move (.tmp 16), none⟩,
    ⟨(some 81), .binOp .add 3 (.tmp 80) (.const (.int .i64 1)) 3, none⟩,
    ⟨(some 16), .assign (.tmp 81), none⟩]))
@[go_sem] theorem c_sheaflaw3_BurstApart_18_at (rd : Option Nat) (K : Post3) (t : Fr) (m : Mem) : wpM E 6 108 rd c_sheaflaw3_BurstApart_18 K t m = wpM E 6 108 rd (.seq c_sheaflaw3_BurstApart_17 (.ops [⟨(some 80), .move (.tmp 16), none⟩,
    ⟨(some 81), .binOp .add 3 (.tmp 80) (.const (.int .i64 1)) 3, none⟩,
    ⟨(some 16), .assign (.tmp 81), none⟩])) K t m := rfl

def c_sheaflaw3_BurstApart_19 : MC := (.seq c_sheaflaw3_BurstApart_16 c_sheaflaw3_BurstApart_18)
@[go_sem] theorem c_sheaflaw3_BurstApart_19_at (rd : Option Nat) (K : Post3) (t : Fr) (m : Mem) : wpM E 6 108 rd c_sheaflaw3_BurstApart_19 K t m = wpM E 6 108 rd (.seq c_sheaflaw3_BurstApart_16 c_sheaflaw3_BurstApart_18) K t m := rfl

def c_sheaflaw3_BurstApart_20 : MC := (.loop c_sheaflaw3_BurstApart_19)
theorem c_sheaflaw3_BurstApart_20_at (rd : Option Nat) (K : Post3) (t : Fr) (m : Mem) : wpM E 6 108 rd c_sheaflaw3_BurstApart_20 K t m = wpM E 6 108 rd (.loop c_sheaflaw3_BurstApart_19) K t m := rfl

def c_sheaflaw3_BurstApart_21 : MC := (.block 2 c_sheaflaw3_BurstApart_20)
theorem c_sheaflaw3_BurstApart_21_at (rd : Option Nat) (K : Post3) (t : Fr) (m : Mem) : wpM E 6 108 rd c_sheaflaw3_BurstApart_21 K t m = wpM E 6 108 rd (.block 2 c_sheaflaw3_BurstApart_20) K t m := rfl

def c_sheaflaw3_BurstApart_22 : MC := (.seq (.ops [⟨(some 16), .assign (.const (.int .i64 0)), none⟩]) c_sheaflaw3_BurstApart_21)
@[go_sem] theorem c_sheaflaw3_BurstApart_22_at (rd : Option Nat) (K : Post3) (t : Fr) (m : Mem) : wpM E 6 108 rd c_sheaflaw3_BurstApart_22 K t m = wpM E 6 108 rd (.seq (.ops [⟨(some 16), .assign (.const (.int .i64 0)), none⟩]) c_sheaflaw3_BurstApart_21) K t m := rfl

def c_sheaflaw3_BurstApart_23 : MC := (.seq (.ops [⟨(some 95), .move (.tmp 15), none⟩,
    ⟨(some 96), .call ⟨.value (.func 9), #[(.tmp 95)], #[22]⟩, none⟩,
    ⟨(some 97), .move (.tmp 0), none⟩,
    ⟨(some 98), .move (.tmp 11), none⟩,
    ⟨(some 99), .slice 22 (.tmp 97) none (some (.tmp 98)) none, none⟩,
    ⟨(some 100), .call ⟨.value (.func 9), #[(.tmp 99)], #[22]⟩, none⟩,
    ⟨(some 101), .binOp .eql 24 (.tmp 96) (.tmp 100) 24, none⟩,
    ⟨(some 102), .move (.tmp 4), none⟩,
    ⟨(some 103), .binOp .eql 24 (.tmp 102) (.const (.int .u32 0)) 24, none⟩,
    ⟨(some 104), .binOp .eql 4 (.tmp 101) (.tmp 103) 4, none⟩,
    ⟨(some 105), .move (.tmp 104), none⟩,
    ⟨(some 106), .call ⟨.value (.func 3), #[], #[]⟩, (some (some 105, true))⟩,
    ⟨(some 107), .pick (.tmp 105) (.tmp 106) (.const (.bool false)), none⟩,
    ⟨(some 10), .assign (.tmp 107), none⟩]) .ret)
@[go_sem] theorem c_sheaflaw3_BurstApart_23_at (rd : Option Nat) (K : Post3) (t : Fr) (m : Mem) : wpM E 6 108 rd c_sheaflaw3_BurstApart_23 K t m = wpM E 6 108 rd (.seq (.ops [⟨(some 95), .move (.tmp 15), none⟩,
    ⟨(some 96), .call ⟨.value (.func 9), #[(.tmp 95)], #[22]⟩, none⟩,
    ⟨(some 97), .move (.tmp 0), none⟩,
    ⟨(some 98), .move (.tmp 11), none⟩,
    ⟨(some 99), .slice 22 (.tmp 97) none (some (.tmp 98)) none, none⟩,
    ⟨(some 100), .call ⟨.value (.func 9), #[(.tmp 99)], #[22]⟩, none⟩,
    ⟨(some 101), .binOp .eql 24 (.tmp 96) (.tmp 100) 24, none⟩,
    ⟨(some 102), .move (.tmp 4), none⟩,
    ⟨(some 103), .binOp .eql 24 (.tmp 102) (.const (.int .u32 0)) 24, none⟩,
    ⟨(some 104), .binOp .eql 4 (.tmp 101) (.tmp 103) 4, none⟩,
    ⟨(some 105), .move (.tmp 104), none⟩,
    ⟨(some 106), .call ⟨.value (.func 3), #[], #[]⟩, (some (some 105, true))⟩,
    ⟨(some 107), .pick (.tmp 105) (.tmp 106) (.const (.bool false)), none⟩,
    ⟨(some 10), .assign (.tmp 107), none⟩]) .ret) K t m := rfl

def c_sheaflaw3_BurstApart_24 : MC := (.seq c_sheaflaw3_BurstApart_22 c_sheaflaw3_BurstApart_23)
@[go_sem] theorem c_sheaflaw3_BurstApart_24_at (rd : Option Nat) (K : Post3) (t : Fr) (m : Mem) : wpM E 6 108 rd c_sheaflaw3_BurstApart_24 K t m = wpM E 6 108 rd (.seq c_sheaflaw3_BurstApart_22 c_sheaflaw3_BurstApart_23) K t m := rfl

def c_sheaflaw3_BurstApart_25 : MC := (.seq (.ops [⟨(some 73), .buildSlice 22 0 #[], none⟩,
    ⟨(some 74), .move (.tmp 0), none⟩,
    ⟨(some 75), .move (.tmp 11), none⟩,
    ⟨(some 76), .slice 22 (.tmp 74) none (some (.tmp 75)) none, none⟩,
    ⟨(some 77), .call ⟨.builtin .append, #[(.tmp 73), (.tmp 76)], #[22, 22]⟩, none⟩,
    ⟨(some 15), .assign (.tmp 77), none⟩]) c_sheaflaw3_BurstApart_24)
@[go_sem] theorem c_sheaflaw3_BurstApart_25_at (rd : Option Nat) (K : Post3) (t : Fr) (m : Mem) : wpM E 6 108 rd c_sheaflaw3_BurstApart_25 K t m = wpM E 6 108 rd (.seq (.ops [⟨(some 73), .buildSlice 22 0 #[], none⟩,
    ⟨(some 74), .move (.tmp 0), none⟩,
    ⟨(some 75), .move (.tmp 11), none⟩,
    ⟨(some 76), .slice 22 (.tmp 74) none (some (.tmp 75)) none, none⟩,
    ⟨(some 77), .call ⟨.builtin .append, #[(.tmp 73), (.tmp 76)], #[22, 22]⟩, none⟩,
    ⟨(some 15), .assign (.tmp 77), none⟩]) c_sheaflaw3_BurstApart_24) K t m := rfl

def c_sheaflaw3_BurstApart_26 : MC := (.seq (.ops [⟨(some 69), .move (.tmp 3), none⟩,
    ⟨(some 70), .move (.tmp 11), none⟩,
    ⟨(some 71), .binOp .sub 3 (.tmp 70) (.const (.int .i64 4)) 3, none⟩,
    ⟨(some 72), .call ⟨.value (.func 15), #[(.tmp 69), (.const (.int .i64 0)), (.tmp 71)], #[3, 3, 3]⟩, none⟩,
    ⟨(some 14), .assign (.tmp 72), none⟩]) c_sheaflaw3_BurstApart_25)
@[go_sem] theorem c_sheaflaw3_BurstApart_26_at (rd : Option Nat) (K : Post3) (t : Fr) (m : Mem) : wpM E 6 108 rd c_sheaflaw3_BurstApart_26 K t m = wpM E 6 108 rd (.seq (.ops [⟨(some 69), .move (.tmp 3), none⟩,
    ⟨(some 70), .move (.tmp 11), none⟩,
    ⟨(some 71), .binOp .sub 3 (.tmp 70) (.const (.int .i64 4)) 3, none⟩,
    ⟨(some 72), .call ⟨.value (.func 15), #[(.tmp 69), (.const (.int .i64 0)), (.tmp 71)], #[3, 3, 3]⟩, none⟩,
    ⟨(some 14), .assign (.tmp 72), none⟩]) c_sheaflaw3_BurstApart_25) K t m := rfl

def c_sheaflaw3_BurstApart_27 : MC := (.seq c_sheaflaw3_BurstApart_14 c_sheaflaw3_BurstApart_26)
@[go_sem] theorem c_sheaflaw3_BurstApart_27_at (rd : Option Nat) (K : Post3) (t : Fr) (m : Mem) : wpM E 6 108 rd c_sheaflaw3_BurstApart_27 K t m = wpM E 6 108 rd (.seq c_sheaflaw3_BurstApart_14 c_sheaflaw3_BurstApart_26) K t m := rfl

def c_sheaflaw3_BurstApart_28 : MC := (.seq c_sheaflaw3_BurstApart_11 c_sheaflaw3_BurstApart_27)
@[go_sem] theorem c_sheaflaw3_BurstApart_28_at (rd : Option Nat) (K : Post3) (t : Fr) (m : Mem) : wpM E 6 108 rd c_sheaflaw3_BurstApart_28 K t m = wpM E 6 108 rd (.seq c_sheaflaw3_BurstApart_11 c_sheaflaw3_BurstApart_27) K t m := rfl

def c_sheaflaw3_BurstApart_29 : MC := (.seq c_sheaflaw3_BurstApart_8 c_sheaflaw3_BurstApart_28)
@[go_sem] theorem c_sheaflaw3_BurstApart_29_at (rd : Option Nat) (K : Post3) (t : Fr) (m : Mem) : wpM E 6 108 rd c_sheaflaw3_BurstApart_29 K t m = wpM E 6 108 rd (.seq c_sheaflaw3_BurstApart_8 c_sheaflaw3_BurstApart_28) K t m := rfl

def c_sheaflaw3_BurstApart_30 : MC := (.seq (.ops [⟨(some 24), .move (.tmp 11), none⟩,
    ⟨(some 25), .makeSlice 22 (.tmp 24) (.tmp 24), none⟩,
    ⟨(some 12), .assign (.tmp 25), none⟩]) c_sheaflaw3_BurstApart_29)
@[go_sem] theorem c_sheaflaw3_BurstApart_30_at (rd : Option Nat) (K : Post3) (t : Fr) (m : Mem) : wpM E 6 108 rd c_sheaflaw3_BurstApart_30 K t m = wpM E 6 108 rd (.seq (.ops [⟨(some 24), .move (.tmp 11), none⟩,
    ⟨(some 25), .makeSlice 22 (.tmp 24) (.tmp 24), none⟩,
    ⟨(some 12), .assign (.tmp 25), none⟩]) c_sheaflaw3_BurstApart_29) K t m := rfl

def c_sheaflaw3_BurstApart_31 : MC := (.seq (.ops [⟨(some 17), .move (.tmp 0), none⟩,
    ⟨(some 18), .call ⟨.builtin .len, #[(.tmp 17)], #[22]⟩, none⟩,
    ⟨(some 19), .move (.tmp 1), none⟩,
    ⟨(some 20), .call ⟨.builtin .len, #[(.tmp 19)], #[22]⟩, none⟩,
    ⟨(some 21), .move (.tmp 2), none⟩,
    ⟨(some 22), .call ⟨.builtin .len, #[(.tmp 21)], #[22]⟩, none⟩,
    ⟨(some 23), .call ⟨.builtin .min, #[(.tmp 18), (.tmp 20), (.tmp 22), (.const (.int .i64 60))], #[3, 3, 3, 3]⟩, none⟩,
    ⟨(some 11), .assign (.tmp 23), none⟩]) c_sheaflaw3_BurstApart_30)
@[go_sem] theorem c_sheaflaw3_BurstApart_31_at (rd : Option Nat) (K : Post3) (t : Fr) (m : Mem) : wpM E 6 108 rd c_sheaflaw3_BurstApart_31 K t m = wpM E 6 108 rd (.seq (.ops [⟨(some 17), .move (.tmp 0), none⟩,
    ⟨(some 18), .call ⟨.builtin .len, #[(.tmp 17)], #[22]⟩, none⟩,
    ⟨(some 19), .move (.tmp 1), none⟩,
    ⟨(some 20), .call ⟨.builtin .len, #[(.tmp 19)], #[22]⟩, none⟩,
    ⟨(some 21), .move (.tmp 2), none⟩,
    ⟨(some 22), .call ⟨.builtin .len, #[(.tmp 21)], #[22]⟩, none⟩,
    ⟨(some 23), .call ⟨.builtin .min, #[(.tmp 18), (.tmp 20), (.tmp 22), (.const (.int .i64 60))], #[3, 3, 3, 3]⟩, none⟩,
    ⟨(some 11), .assign (.tmp 23), none⟩]) c_sheaflaw3_BurstApart_30) K t m := rfl

def c_sheaflaw3_BurstApart_32 : MC := (.seq (.ops [⟨(some 10), .assign (.const (.bool false)), none⟩]) c_sheaflaw3_BurstApart_31)
@[go_sem] theorem c_sheaflaw3_BurstApart_32_at (rd : Option Nat) (K : Post3) (t : Fr) (m : Mem) : wpM E 6 108 rd c_sheaflaw3_BurstApart_32 K t m = wpM E 6 108 rd (.seq (.ops [⟨(some 10), .assign (.const (.bool false)), none⟩]) c_sheaflaw3_BurstApart_31) K t m := rfl

@[go_sem] theorem some6 : (E.fn 6).isSome = true := by kernel_rfl
set_option maxRecDepth 100000 in
theorem fn_sheaflaw3_BurstApart : FnIs E 6 108 [.tmp 10] c_sheaflaw3_BurstApart_32 := ⟨by kernel_rfl, by kernel_rfl⟩

/-! sheaf/sheaflaw3.BurstMoves -/
abbrev F_sheaflaw3_BurstMoves : FuncId := 7
def c_sheaflaw3_BurstMoves_0 : MC := (.seq (.ops [⟨(some 6), .assign (.const (.bool false)), none⟩]) .ret)
@[go_sem] theorem c_sheaflaw3_BurstMoves_0_at (rd : Option Nat) (K : Post3) (t : Fr) (m : Mem) : wpM E 7 108 rd c_sheaflaw3_BurstMoves_0 K t m = wpM E 7 108 rd (.seq (.ops [⟨(some 6), .assign (.const (.bool false)), none⟩]) .ret) K t m := rfl

def c_sheaflaw3_BurstMoves_1 : MC := (.cond (.tmp 40) c_sheaflaw3_BurstMoves_0 .skip)
@[go_sem] theorem c_sheaflaw3_BurstMoves_1_at (rd : Option Nat) (K : Post3) (t : Fr) (m : Mem) : wpM E 7 108 rd c_sheaflaw3_BurstMoves_1 K t m = wpM E 7 108 rd (.cond (.tmp 40) c_sheaflaw3_BurstMoves_0 .skip) K t m := rfl

def c_sheaflaw3_BurstMoves_2 : MC := (.seq (.ops [⟨(some 21), .move (.tmp 8), none⟩,
    ⟨(some 22), .call ⟨.builtin .len, #[(.tmp 21)], #[22]⟩, none⟩,
    ⟨(some 23), .move (.tmp 7), none⟩,
    ⟨(some 24), .call ⟨.builtin .len, #[(.tmp 23)], #[22]⟩, none⟩,
    ⟨(some 25), .binOp .add 3 (.tmp 24) (.const (.int .i64 4)) 3, none⟩,
    ⟨(some 26), .binOp .neq 3 (.tmp 22) (.tmp 25) 3, none⟩,
    ⟨(some 27), .move (.tmp 26), none⟩,
    ⟨(some 28), .move (.tmp 8), (some (some 27, false))⟩,
    ⟨(some 29), .move (.tmp 7), (some (some 27, false))⟩,
    ⟨(some 30), .call ⟨.builtin .len, #[(.tmp 29)], #[22]⟩, (some (some 27, false))⟩,
    ⟨(some 31), .slice 22 (.tmp 28) none (some (.tmp 30)) none, (some (some 27, false))⟩,
    ⟨(some 32), .move (.tmp 7), (some (some 27, false))⟩,
    ⟨(some 33), .call ⟨.value (.func 13), #[(.tmp 31), (.tmp 32)], #[22, 22]⟩, (some (some 27, false))⟩,
    ⟨(some 34), .unOp .not 4 (.tmp 33), (some (some 27, false))⟩,
    ⟨(some 35), .pick (.tmp 27) (.const (.bool true)) (.tmp 34), none⟩,
    ⟨(some 36), .move (.tmp 35), none⟩,
    ⟨(some 37), .move (.tmp 8), (some (some 36, false))⟩,
    ⟨(some 38), .call ⟨.value (.func 10), #[(.tmp 37)], #[22]⟩, (some (some 36, false))⟩,
    ⟨(some 39), .unOp .not 4 (.tmp 38), (some (some 36, false))⟩,
    ⟨(some 40), .pick (.tmp 36) (.const (.bool true)) (.tmp 39), none⟩]) c_sheaflaw3_BurstMoves_1)
@[go_sem] theorem c_sheaflaw3_BurstMoves_2_at (rd : Option Nat) (K : Post3) (t : Fr) (m : Mem) : wpM E 7 108 rd c_sheaflaw3_BurstMoves_2 K t m = wpM E 7 108 rd (.seq (.ops [⟨(some 21), .move (.tmp 8), none⟩,
    ⟨(some 22), .call ⟨.builtin .len, #[(.tmp 21)], #[22]⟩, none⟩,
    ⟨(some 23), .move (.tmp 7), none⟩,
    ⟨(some 24), .call ⟨.builtin .len, #[(.tmp 23)], #[22]⟩, none⟩,
    ⟨(some 25), .binOp .add 3 (.tmp 24) (.const (.int .i64 4)) 3, none⟩,
    ⟨(some 26), .binOp .neq 3 (.tmp 22) (.tmp 25) 3, none⟩,
    ⟨(some 27), .move (.tmp 26), none⟩,
    ⟨(some 28), .move (.tmp 8), (some (some 27, false))⟩,
    ⟨(some 29), .move (.tmp 7), (some (some 27, false))⟩,
    ⟨(some 30), .call ⟨.builtin .len, #[(.tmp 29)], #[22]⟩, (some (some 27, false))⟩,
    ⟨(some 31), .slice 22 (.tmp 28) none (some (.tmp 30)) none, (some (some 27, false))⟩,
    ⟨(some 32), .move (.tmp 7), (some (some 27, false))⟩,
    ⟨(some 33), .call ⟨.value (.func 13), #[(.tmp 31), (.tmp 32)], #[22, 22]⟩, (some (some 27, false))⟩,
    ⟨(some 34), .unOp .not 4 (.tmp 33), (some (some 27, false))⟩,
    ⟨(some 35), .pick (.tmp 27) (.const (.bool true)) (.tmp 34), none⟩,
    ⟨(some 36), .move (.tmp 35), none⟩,
    ⟨(some 37), .move (.tmp 8), (some (some 36, false))⟩,
    ⟨(some 38), .call ⟨.value (.func 10), #[(.tmp 37)], #[22]⟩, (some (some 36, false))⟩,
    ⟨(some 39), .unOp .not 4 (.tmp 38), (some (some 36, false))⟩,
    ⟨(some 40), .pick (.tmp 36) (.const (.bool true)) (.tmp 39), none⟩]) c_sheaflaw3_BurstMoves_1) K t m := rfl

def c_sheaflaw3_BurstMoves_3 : MC := (.seq (.ops [⟨(some 44), .call ⟨.value (.func 3), #[], #[]⟩, none⟩,
    ⟨(some 6), .assign (.tmp 44), none⟩]) .ret)
@[go_sem] theorem c_sheaflaw3_BurstMoves_3_at (rd : Option Nat) (K : Post3) (t : Fr) (m : Mem) : wpM E 7 108 rd c_sheaflaw3_BurstMoves_3 K t m = wpM E 7 108 rd (.seq (.ops [⟨(some 44), .call ⟨.value (.func 3), #[], #[]⟩, none⟩,
    ⟨(some 6), .assign (.tmp 44), none⟩]) .ret) K t m := rfl

def c_sheaflaw3_BurstMoves_4 : MC := (.cond (.tmp 43) c_sheaflaw3_BurstMoves_3 .skip)
@[go_sem] theorem c_sheaflaw3_BurstMoves_4_at (rd : Option Nat) (K : Post3) (t : Fr) (m : Mem) : wpM E 7 108 rd c_sheaflaw3_BurstMoves_4 K t m = wpM E 7 108 rd (.cond (.tmp 43) c_sheaflaw3_BurstMoves_3 .skip) K t m := rfl

def c_sheaflaw3_BurstMoves_5 : MC := (.seq (.ops [⟨(some 41), .move (.tmp 7), none⟩,
    ⟨(some 42), .call ⟨.builtin .len, #[(.tmp 41)], #[22]⟩, none⟩,
    ⟨(some 43), .binOp .lss 3 (.tmp 42) (.const (.int .i64 2)) 3, none⟩]) c_sheaflaw3_BurstMoves_4)
@[go_sem] theorem c_sheaflaw3_BurstMoves_5_at (rd : Option Nat) (K : Post3) (t : Fr) (m : Mem) : wpM E 7 108 rd c_sheaflaw3_BurstMoves_5 K t m = wpM E 7 108 rd (.seq (.ops [⟨(some 41), .move (.tmp 7), none⟩,
    ⟨(some 42), .call ⟨.builtin .len, #[(.tmp 41)], #[22]⟩, none⟩,
    ⟨(some 43), .binOp .lss 3 (.tmp 42) (.const (.int .i64 2)) 3, none⟩]) c_sheaflaw3_BurstMoves_4) K t m := rfl

def c_sheaflaw3_BurstMoves_6 : MC := (.seq (.draw [(0, [], ⟨(some 79), .move (.tmp 10), none⟩),
    (1, [], ⟨(some 80), .call ⟨.value (.func 9), #[(.tmp 79)], #[22]⟩, none⟩),
    (2, [], ⟨(some 81), .move (.tmp 7), none⟩),
    (3, [], ⟨(some 82), .call ⟨.value (.func 9), #[(.tmp 81)], #[22]⟩, none⟩),
    (4, [], ⟨(some 83), .binOp .eql 24 (.tmp 80) (.tmp 82) 24, none⟩),
    (5, [], ⟨(some 84), .move (.tmp 2), none⟩),
    (6, [], ⟨(some 85), .binOp .eql 5 (.tmp 84) (.const (.int .u8 0)) 5, none⟩),
    (7, [], ⟨(some 86), .binOp .eql 4 (.tmp 83) (.tmp 85) 4, none⟩),
    (8, [], ⟨(some 87), .move (.tmp 86), none⟩),
    (9, [], ⟨(some 88), .move (.tmp 11), (some (some 87, true))⟩),
    (11, [], ⟨(some 90), .move (.tmp 7), (some (some 87, true))⟩),
    (14, [], ⟨(some 93), .move (.tmp 7), (some (some 87, true))⟩),
    (15, [], ⟨(some 94), .move (.tmp 9), (some (some 87, true))⟩),
    (16, [], ⟨(some 95), .indexAddr 22 (.tmp 93) (.tmp 94), (some (some 87, true))⟩),
    (17, [], ⟨(some 96), .load 5 (.tmp 95), (some (some 87, true))⟩),
    (18, [], ⟨(some 97), .move (.tmp 7), (some (some 87, true))⟩),
    (19, [], ⟨(some 98), .move (.tmp 9), (some (some 87, true))⟩),
    (20, [], ⟨(some 99), .binOp .add 3 (.tmp 98) (.const (.int .i64 1)) 3, (some (some 87, true))⟩),
    (21, [], ⟨(some 100), .indexAddr 22 (.tmp 97) (.tmp 99), (some (some 87, true))⟩),
    (22, [], ⟨(some 101), .load 5 (.tmp 100), (some (some 87, true))⟩),
    (10, [17, 22], ⟨(some 89), .call ⟨.value (.func 9), #[(.tmp 88)], #[22]⟩, (some (some 87, true))⟩),
    (12, [17, 22], ⟨(some 91), .call ⟨.value (.func 9), #[(.tmp 90)], #[22]⟩, (some (some 87, true))⟩),
    (13, [], ⟨(some 92), .binOp .eql 24 (.tmp 89) (.tmp 91) 24, (some (some 87, true))⟩),
    (23, [], ⟨(some 102), .binOp .eql 5 (.tmp 96) (.tmp 101) 5, (some (some 87, true))⟩),
    (24, [], ⟨(some 103), .binOp .eql 4 (.tmp 92) (.tmp 102) 4, (some (some 87, true))⟩),
    (25, [], ⟨(some 104), .pick (.tmp 87) (.tmp 103) (.const (.bool false)), none⟩),
    (26, [], ⟨(some 105), .move (.tmp 104), none⟩),
    (27, [], ⟨(some 106), .call ⟨.value (.func 3), #[], #[]⟩, (some (some 105, true))⟩),
    (28, [], ⟨(some 107), .pick (.tmp 105) (.tmp 106) (.const (.bool false)), none⟩),
    (29, [], ⟨(some 6), .assign (.tmp 107), none⟩)]) .ret)
@[go_sem] theorem c_sheaflaw3_BurstMoves_6_at (rd : Option Nat) (K : Post3) (t : Fr) (m : Mem) : wpM E 7 108 rd c_sheaflaw3_BurstMoves_6 K t m = wpM E 7 108 rd (.seq (.draw [(0, [], ⟨(some 79), .move (.tmp 10), none⟩),
    (1, [], ⟨(some 80), .call ⟨.value (.func 9), #[(.tmp 79)], #[22]⟩, none⟩),
    (2, [], ⟨(some 81), .move (.tmp 7), none⟩),
    (3, [], ⟨(some 82), .call ⟨.value (.func 9), #[(.tmp 81)], #[22]⟩, none⟩),
    (4, [], ⟨(some 83), .binOp .eql 24 (.tmp 80) (.tmp 82) 24, none⟩),
    (5, [], ⟨(some 84), .move (.tmp 2), none⟩),
    (6, [], ⟨(some 85), .binOp .eql 5 (.tmp 84) (.const (.int .u8 0)) 5, none⟩),
    (7, [], ⟨(some 86), .binOp .eql 4 (.tmp 83) (.tmp 85) 4, none⟩),
    (8, [], ⟨(some 87), .move (.tmp 86), none⟩),
    (9, [], ⟨(some 88), .move (.tmp 11), (some (some 87, true))⟩),
    (11, [], ⟨(some 90), .move (.tmp 7), (some (some 87, true))⟩),
    (14, [], ⟨(some 93), .move (.tmp 7), (some (some 87, true))⟩),
    (15, [], ⟨(some 94), .move (.tmp 9), (some (some 87, true))⟩),
    (16, [], ⟨(some 95), .indexAddr 22 (.tmp 93) (.tmp 94), (some (some 87, true))⟩),
    (17, [], ⟨(some 96), .load 5 (.tmp 95), (some (some 87, true))⟩),
    (18, [], ⟨(some 97), .move (.tmp 7), (some (some 87, true))⟩),
    (19, [], ⟨(some 98), .move (.tmp 9), (some (some 87, true))⟩),
    (20, [], ⟨(some 99), .binOp .add 3 (.tmp 98) (.const (.int .i64 1)) 3, (some (some 87, true))⟩),
    (21, [], ⟨(some 100), .indexAddr 22 (.tmp 97) (.tmp 99), (some (some 87, true))⟩),
    (22, [], ⟨(some 101), .load 5 (.tmp 100), (some (some 87, true))⟩),
    (10, [17, 22], ⟨(some 89), .call ⟨.value (.func 9), #[(.tmp 88)], #[22]⟩, (some (some 87, true))⟩),
    (12, [17, 22], ⟨(some 91), .call ⟨.value (.func 9), #[(.tmp 90)], #[22]⟩, (some (some 87, true))⟩),
    (13, [], ⟨(some 92), .binOp .eql 24 (.tmp 89) (.tmp 91) 24, (some (some 87, true))⟩),
    (23, [], ⟨(some 102), .binOp .eql 5 (.tmp 96) (.tmp 101) 5, (some (some 87, true))⟩),
    (24, [], ⟨(some 103), .binOp .eql 4 (.tmp 92) (.tmp 102) 4, (some (some 87, true))⟩),
    (25, [], ⟨(some 104), .pick (.tmp 87) (.tmp 103) (.const (.bool false)), none⟩),
    (26, [], ⟨(some 105), .move (.tmp 104), none⟩),
    (27, [], ⟨(some 106), .call ⟨.value (.func 3), #[], #[]⟩, (some (some 105, true))⟩),
    (28, [], ⟨(some 107), .pick (.tmp 105) (.tmp 106) (.const (.bool false)), none⟩),
    (29, [], ⟨(some 6), .assign (.tmp 107), none⟩)]) .ret) K t m := rfl

def c_sheaflaw3_BurstMoves_7 : MC := (.seq (.ops [⟨(some 63), .move (.tmp 11), none⟩,
    ⟨(some 64), .move (.tmp 9), none⟩,
    ⟨(some 65), .move (.tmp 11), none⟩,
    ⟨(some 66), .move (.tmp 9), none⟩,
    ⟨(some 67), .binOp .add 3 (.tmp 66) (.const (.int .i64 1)) 3, none⟩,
    ⟨(some 68), .move (.tmp 11), none⟩,
    ⟨(some 69), .move (.tmp 9), none⟩,
    ⟨(some 70), .binOp .add 3 (.tmp 69) (.const (.int .i64 1)) 3, none⟩,
    ⟨(some 71), .indexAddr 22 (.tmp 68) (.tmp 70), none⟩,
    ⟨(some 72), .load 5 (.tmp 71), none⟩,
    ⟨(some 73), .move (.tmp 11), none⟩,
    ⟨(some 74), .move (.tmp 9), none⟩,
    ⟨(some 75), .indexAddr 22 (.tmp 73) (.tmp 74), none⟩,
    ⟨(some 76), .load 5 (.tmp 75), none⟩,
    ⟨(some 77), .indexAddr 22 (.tmp 63) (.tmp 64), none⟩,
    ⟨none, .store 5 (.tmp 77) (.tmp 72), none⟩,
    ⟨(some 78), .indexAddr 22 (.tmp 65) (.tmp 67), none⟩,
    ⟨none, .store 5 (.tmp 78) (.tmp 76), none⟩]) c_sheaflaw3_BurstMoves_6)
@[go_sem] theorem c_sheaflaw3_BurstMoves_7_at (rd : Option Nat) (K : Post3) (t : Fr) (m : Mem) : wpM E 7 108 rd c_sheaflaw3_BurstMoves_7 K t m = wpM E 7 108 rd (.seq (.ops [⟨(some 63), .move (.tmp 11), none⟩,
    ⟨(some 64), .move (.tmp 9), none⟩,
    ⟨(some 65), .move (.tmp 11), none⟩,
    ⟨(some 66), .move (.tmp 9), none⟩,
    ⟨(some 67), .binOp .add 3 (.tmp 66) (.const (.int .i64 1)) 3, none⟩,
    ⟨(some 68), .move (.tmp 11), none⟩,
    ⟨(some 69), .move (.tmp 9), none⟩,
    ⟨(some 70), .binOp .add 3 (.tmp 69) (.const (.int .i64 1)) 3, none⟩,
    ⟨(some 71), .indexAddr 22 (.tmp 68) (.tmp 70), none⟩,
    ⟨(some 72), .load 5 (.tmp 71), none⟩,
    ⟨(some 73), .move (.tmp 11), none⟩,
    ⟨(some 74), .move (.tmp 9), none⟩,
    ⟨(some 75), .indexAddr 22 (.tmp 73) (.tmp 74), none⟩,
    ⟨(some 76), .load 5 (.tmp 75), none⟩,
    ⟨(some 77), .indexAddr 22 (.tmp 63) (.tmp 64), none⟩,
    ⟨none, .store 5 (.tmp 77) (.tmp 72), none⟩,
    ⟨(some 78), .indexAddr 22 (.tmp 65) (.tmp 67), none⟩,
    ⟨none, .store 5 (.tmp 78) (.tmp 76), none⟩]) c_sheaflaw3_BurstMoves_6) K t m := rfl

def c_sheaflaw3_BurstMoves_8 : MC := (.seq (.ops [⟨(some 60), .buildSlice 22 0 #[], none⟩,
    ⟨(some 61), .move (.tmp 7), none⟩,
    ⟨(some 62), .call ⟨.builtin .append, #[(.tmp 60), (.tmp 61)], #[22, 22]⟩, none⟩,
    ⟨(some 11), .assign (.tmp 62), none⟩]) c_sheaflaw3_BurstMoves_7)
@[go_sem] theorem c_sheaflaw3_BurstMoves_8_at (rd : Option Nat) (K : Post3) (t : Fr) (m : Mem) : wpM E 7 108 rd c_sheaflaw3_BurstMoves_8 K t m = wpM E 7 108 rd (.seq (.ops [⟨(some 60), .buildSlice 22 0 #[], none⟩,
    ⟨(some 61), .move (.tmp 7), none⟩,
    ⟨(some 62), .call ⟨.builtin .append, #[(.tmp 60), (.tmp 61)], #[22, 22]⟩, none⟩,
    ⟨(some 11), .assign (.tmp 62), none⟩]) c_sheaflaw3_BurstMoves_7) K t m := rfl

def c_sheaflaw3_BurstMoves_9 : MC := (.seq (.ops [⟨(some 53), .move (.tmp 10), none⟩,
    ⟨(some 54), .move (.tmp 9), none⟩,
    ⟨(some 55), .indexAddr 22 (.tmp 53) (.tmp 54), none⟩,
    ⟨(some 56), .load 5 (.tmp 55), none⟩,
    ⟨(some 57), .move (.tmp 2), none⟩,
    ⟨(some 58), .binOp .xor 5 (.tmp 56) (.tmp 57) 5, none⟩,
    ⟨(some 59), .indexAddr 22 (.tmp 53) (.tmp 54), none⟩,
    ⟨none, .store 5 (.tmp 59) (.tmp 58), none⟩]) c_sheaflaw3_BurstMoves_8)
@[go_sem] theorem c_sheaflaw3_BurstMoves_9_at (rd : Option Nat) (K : Post3) (t : Fr) (m : Mem) : wpM E 7 108 rd c_sheaflaw3_BurstMoves_9 K t m = wpM E 7 108 rd (.seq (.ops [⟨(some 53), .move (.tmp 10), none⟩,
    ⟨(some 54), .move (.tmp 9), none⟩,
    ⟨(some 55), .indexAddr 22 (.tmp 53) (.tmp 54), none⟩,
    ⟨(some 56), .load 5 (.tmp 55), none⟩,
    ⟨(some 57), .move (.tmp 2), none⟩,
    ⟨(some 58), .binOp .xor 5 (.tmp 56) (.tmp 57) 5, none⟩,
    ⟨(some 59), .indexAddr 22 (.tmp 53) (.tmp 54), none⟩,
    ⟨none, .store 5 (.tmp 59) (.tmp 58), none⟩]) c_sheaflaw3_BurstMoves_8) K t m := rfl

def c_sheaflaw3_BurstMoves_10 : MC := (.seq (.ops [⟨(some 50), .buildSlice 22 0 #[], none⟩,
    ⟨(some 51), .move (.tmp 7), none⟩,
    ⟨(some 52), .call ⟨.builtin .append, #[(.tmp 50), (.tmp 51)], #[22, 22]⟩, none⟩,
    ⟨(some 10), .assign (.tmp 52), none⟩]) c_sheaflaw3_BurstMoves_9)
@[go_sem] theorem c_sheaflaw3_BurstMoves_10_at (rd : Option Nat) (K : Post3) (t : Fr) (m : Mem) : wpM E 7 108 rd c_sheaflaw3_BurstMoves_10 K t m = wpM E 7 108 rd (.seq (.ops [⟨(some 50), .buildSlice 22 0 #[], none⟩,
    ⟨(some 51), .move (.tmp 7), none⟩,
    ⟨(some 52), .call ⟨.builtin .append, #[(.tmp 50), (.tmp 51)], #[22, 22]⟩, none⟩,
    ⟨(some 10), .assign (.tmp 52), none⟩]) c_sheaflaw3_BurstMoves_9) K t m := rfl

def c_sheaflaw3_BurstMoves_11 : MC := (.seq (.ops [⟨(some 45), .move (.tmp 1), none⟩,
    ⟨(some 46), .move (.tmp 7), none⟩,
    ⟨(some 47), .call ⟨.builtin .len, #[(.tmp 46)], #[22]⟩, none⟩,
    ⟨(some 48), .binOp .sub 3 (.tmp 47) (.const (.int .i64 2)) 3, none⟩,
    ⟨(some 49), .call ⟨.value (.func 15), #[(.tmp 45), (.const (.int .i64 0)), (.tmp 48)], #[3, 3, 3]⟩, none⟩,
    ⟨(some 9), .assign (.tmp 49), none⟩]) c_sheaflaw3_BurstMoves_10)
@[go_sem] theorem c_sheaflaw3_BurstMoves_11_at (rd : Option Nat) (K : Post3) (t : Fr) (m : Mem) : wpM E 7 108 rd c_sheaflaw3_BurstMoves_11 K t m = wpM E 7 108 rd (.seq (.ops [⟨(some 45), .move (.tmp 1), none⟩,
    ⟨(some 46), .move (.tmp 7), none⟩,
    ⟨(some 47), .call ⟨.builtin .len, #[(.tmp 46)], #[22]⟩, none⟩,
    ⟨(some 48), .binOp .sub 3 (.tmp 47) (.const (.int .i64 2)) 3, none⟩,
    ⟨(some 49), .call ⟨.value (.func 15), #[(.tmp 45), (.const (.int .i64 0)), (.tmp 48)], #[3, 3, 3]⟩, none⟩,
    ⟨(some 9), .assign (.tmp 49), none⟩]) c_sheaflaw3_BurstMoves_10) K t m := rfl

def c_sheaflaw3_BurstMoves_12 : MC := (.seq c_sheaflaw3_BurstMoves_5 c_sheaflaw3_BurstMoves_11)
@[go_sem] theorem c_sheaflaw3_BurstMoves_12_at (rd : Option Nat) (K : Post3) (t : Fr) (m : Mem) : wpM E 7 108 rd c_sheaflaw3_BurstMoves_12 K t m = wpM E 7 108 rd (.seq c_sheaflaw3_BurstMoves_5 c_sheaflaw3_BurstMoves_11) K t m := rfl

def c_sheaflaw3_BurstMoves_13 : MC := (.seq c_sheaflaw3_BurstMoves_2 c_sheaflaw3_BurstMoves_12)
@[go_sem] theorem c_sheaflaw3_BurstMoves_13_at (rd : Option Nat) (K : Post3) (t : Fr) (m : Mem) : wpM E 7 108 rd c_sheaflaw3_BurstMoves_13 K t m = wpM E 7 108 rd (.seq c_sheaflaw3_BurstMoves_2 c_sheaflaw3_BurstMoves_12) K t m := rfl

def c_sheaflaw3_BurstMoves_14 : MC := (.seq (.ops [⟨(some 19), .move (.tmp 7), none⟩,
    ⟨(some 20), .call ⟨.value (.func 8), #[(.tmp 19)], #[22]⟩, none⟩,
    ⟨(some 8), .assign (.tmp 20), none⟩]) c_sheaflaw3_BurstMoves_13)
@[go_sem] theorem c_sheaflaw3_BurstMoves_14_at (rd : Option Nat) (K : Post3) (t : Fr) (m : Mem) : wpM E 7 108 rd c_sheaflaw3_BurstMoves_14 K t m = wpM E 7 108 rd (.seq (.ops [⟨(some 19), .move (.tmp 7), none⟩,
    ⟨(some 20), .call ⟨.value (.func 8), #[(.tmp 19)], #[22]⟩, none⟩,
    ⟨(some 8), .assign (.tmp 20), none⟩]) c_sheaflaw3_BurstMoves_13) K t m := rfl

def c_sheaflaw3_BurstMoves_15 : MC := (.seq (.ops [⟨(some 12), .buildSlice 22 0 #[], none⟩,
    ⟨(some 13), .move (.tmp 0), none⟩,
    ⟨(some 14), .move (.tmp 0), none⟩,
    ⟨(some 15), .call ⟨.builtin .len, #[(.tmp 14)], #[22]⟩, none⟩,
    ⟨(some 16), .call ⟨.builtin .min, #[(.tmp 15), (.const (.int .i64 80))], #[3, 3]⟩, none⟩,
    ⟨(some 17), .slice 22 (.tmp 13) none (some (.tmp 16)) none, none⟩,
    ⟨(some 18), .call ⟨.builtin .append, #[(.tmp 12), (.tmp 17)], #[22, 22]⟩, none⟩,
    ⟨(some 7), .assign (.tmp 18), none⟩]) c_sheaflaw3_BurstMoves_14)
@[go_sem] theorem c_sheaflaw3_BurstMoves_15_at (rd : Option Nat) (K : Post3) (t : Fr) (m : Mem) : wpM E 7 108 rd c_sheaflaw3_BurstMoves_15 K t m = wpM E 7 108 rd (.seq (.ops [⟨(some 12), .buildSlice 22 0 #[], none⟩,
    ⟨(some 13), .move (.tmp 0), none⟩,
    ⟨(some 14), .move (.tmp 0), none⟩,
    ⟨(some 15), .call ⟨.builtin .len, #[(.tmp 14)], #[22]⟩, none⟩,
    ⟨(some 16), .call ⟨.builtin .min, #[(.tmp 15), (.const (.int .i64 80))], #[3, 3]⟩, none⟩,
    ⟨(some 17), .slice 22 (.tmp 13) none (some (.tmp 16)) none, none⟩,
    ⟨(some 18), .call ⟨.builtin .append, #[(.tmp 12), (.tmp 17)], #[22, 22]⟩, none⟩,
    ⟨(some 7), .assign (.tmp 18), none⟩]) c_sheaflaw3_BurstMoves_14) K t m := rfl

def c_sheaflaw3_BurstMoves_16 : MC := (.seq (.ops [⟨(some 6), .assign (.const (.bool false)), none⟩]) c_sheaflaw3_BurstMoves_15)
@[go_sem] theorem c_sheaflaw3_BurstMoves_16_at (rd : Option Nat) (K : Post3) (t : Fr) (m : Mem) : wpM E 7 108 rd c_sheaflaw3_BurstMoves_16 K t m = wpM E 7 108 rd (.seq (.ops [⟨(some 6), .assign (.const (.bool false)), none⟩]) c_sheaflaw3_BurstMoves_15) K t m := rfl

@[go_sem] theorem some7 : (E.fn 7).isSome = true := by kernel_rfl
set_option maxRecDepth 100000 in
theorem fn_sheaflaw3_BurstMoves : FnIs E 7 108 [.tmp 6] c_sheaflaw3_BurstMoves_16 := ⟨by kernel_rfl, by kernel_rfl⟩

/-! sheaf/sheaflaw3.BurstFound$1 -/
abbrev F_sheaflaw3_BurstFound_1 : FuncId := 16
def c_sheaflaw3_BurstFound_1_0 : MC := (.cond (.tmp 5) .skip (.exit 0))
@[go_sem] theorem c_sheaflaw3_BurstFound_1_0_at (rd : Option Nat) (K : Post3) (t : Fr) (m : Mem) : wpM E 16 27 rd c_sheaflaw3_BurstFound_1_0 K t m = wpM E 16 27 rd (.cond (.tmp 5) .skip (.exit 0)) K t m := rfl

def c_sheaflaw3_BurstFound_1_1 : MC := (.seq (.ops [⟨(some 4), .move (.tmp 3), none⟩,
    ⟨(some 5), .binOp .lss 3 (.tmp 4) (.const (.int .i64 32)) 3, none⟩]) c_sheaflaw3_BurstFound_1_0)
@[go_sem] theorem c_sheaflaw3_BurstFound_1_1_at (rd : Option Nat) (K : Post3) (t : Fr) (m : Mem) : wpM E 16 27 rd c_sheaflaw3_BurstFound_1_1 K t m = wpM E 16 27 rd (.seq (.ops [⟨(some 4), .move (.tmp 3), none⟩,
    ⟨(some 5), .binOp .lss 3 (.tmp 4) (.const (.int .i64 32)) 3, none⟩]) c_sheaflaw3_BurstFound_1_0) K t m := rfl

def c_sheaflaw3_BurstFound_1_2 : MC := (.cond (.tmp 12) (.ops [⟨(some 13), .load 22 (.tmp 1), none⟩,
    ⟨(some 14), .load 3 (.tmp 2), none⟩,
    ⟨(some 15), .move (.tmp 3), none⟩,
    ⟨(some 16), .binOp .add 3 (.tmp 14) (.tmp 15) 3, none⟩,
    ⟨(some 17), .binOp .quo 3 (.tmp 16) (.const (.int .i64 8)) 3, none⟩,
    ⟨(some 18), .indexAddr 22 (.tmp 13) (.tmp 17), none⟩,
    ⟨(some 19), .load 5 (.tmp 18), none⟩,
    ⟨(some 20), .load 3 (.tmp 2), none⟩,
    ⟨(some 21), .move (.tmp 3), none⟩,
    ⟨(some 22), .binOp .add 3 (.tmp 20) (.tmp 21) 3, none⟩,
    ⟨(some 23), .binOp .rem 3 (.tmp 22) (.const (.int .i64 8)) 3, none⟩,
    ⟨(some 24), .binOp .shl 5 (.const (.int .u8 1)) (.tmp 23) 3, none⟩,
    ⟨(some 25), .binOp .xor 5 (.tmp 19) (.tmp 24) 5, none⟩,
    ⟨(some 26), .indexAddr 22 (.tmp 13) (.tmp 17), none⟩,
    ⟨none, .store 5 (.tmp 26) (.tmp 25), none⟩]) .skip)
@[go_sem] theorem c_sheaflaw3_BurstFound_1_2_at (rd : Option Nat) (K : Post3) (t : Fr) (m : Mem) : wpM E 16 27 rd c_sheaflaw3_BurstFound_1_2 K t m = wpM E 16 27 rd (.cond (.tmp 12) (.ops [⟨(some 13), .load 22 (.tmp 1), none⟩,
    ⟨(some 14), .load 3 (.tmp 2), none⟩,
    ⟨(some 15), .move (.tmp 3), none⟩,
    ⟨(some 16), .binOp .add 3 (.tmp 14) (.tmp 15) 3, none⟩,
    ⟨(some 17), .binOp .quo 3 (.tmp 16) (.const (.int .i64 8)) 3, none⟩,
    ⟨(some 18), .indexAddr 22 (.tmp 13) (.tmp 17), none⟩,
    ⟨(some 19), .load 5 (.tmp 18), none⟩,
    ⟨(some 20), .load 3 (.tmp 2), none⟩,
    ⟨(some 21), .move (.tmp 3), none⟩,
    ⟨(some 22), .binOp .add 3 (.tmp 20) (.tmp 21) 3, none⟩,
    ⟨(some 23), .binOp .rem 3 (.tmp 22) (.const (.int .i64 8)) 3, none⟩,
    ⟨(some 24), .binOp .shl 5 (.const (.int .u8 1)) (.tmp 23) 3, none⟩,
    ⟨(some 25), .binOp .xor 5 (.tmp 19) (.tmp 24) 5, none⟩,
    ⟨(some 26), .indexAddr 22 (.tmp 13) (.tmp 17), none⟩,
    ⟨none, .store 5 (.tmp 26) (.tmp 25), none⟩]) .skip) K t m := rfl

def c_sheaflaw3_BurstFound_1_3 : MC := (.seq (.ops [⟨(some 8), .load 24 (.tmp 0), none⟩,
    ⟨(some 9), .move (.tmp 3), none⟩,
    ⟨(some 10), .binOp .shr 24 (.tmp 8) (.tmp 9) 3, none⟩,
    ⟨(some 11), .binOp .and 24 (.tmp 10) (.const (.int .u32 1)) 24, none⟩,
    ⟨(some 12), .binOp .eql 24 (.tmp 11) (.const (.int .u32 1)) 24, none⟩]) c_sheaflaw3_BurstFound_1_2)
@[go_sem] theorem c_sheaflaw3_BurstFound_1_3_at (rd : Option Nat) (K : Post3) (t : Fr) (m : Mem) : wpM E 16 27 rd c_sheaflaw3_BurstFound_1_3 K t m = wpM E 16 27 rd (.seq (.ops [⟨(some 8), .load 24 (.tmp 0), none⟩,
    ⟨(some 9), .move (.tmp 3), none⟩,
    ⟨(some 10), .binOp .shr 24 (.tmp 8) (.tmp 9) 3, none⟩,
    ⟨(some 11), .binOp .and 24 (.tmp 10) (.const (.int .u32 1)) 24, none⟩,
    ⟨(some 12), .binOp .eql 24 (.tmp 11) (.const (.int .u32 1)) 24, none⟩]) c_sheaflaw3_BurstFound_1_2) K t m := rfl

def c_sheaflaw3_BurstFound_1_4 : MC := (.block 1 c_sheaflaw3_BurstFound_1_3)
@[go_sem] theorem c_sheaflaw3_BurstFound_1_4_at (rd : Option Nat) (K : Post3) (t : Fr) (m : Mem) : wpM E 16 27 rd c_sheaflaw3_BurstFound_1_4 K t m = wpM E 16 27 rd (.block 1 c_sheaflaw3_BurstFound_1_3) K t m := rfl

def c_sheaflaw3_BurstFound_1_5 : MC := (.seq c_sheaflaw3_BurstFound_1_4 (.ops [⟨(some 6), .move (.tmp 3), none⟩,
    ⟨(some 7), .binOp .add 3 (.tmp 6) (.const (.int .i64 1)) 3, none⟩,
    ⟨(some 3), .assign (.tmp 7), none⟩]))
@[go_sem] theorem c_sheaflaw3_BurstFound_1_5_at (rd : Option Nat) (K : Post3) (t : Fr) (m : Mem) : wpM E 16 27 rd c_sheaflaw3_BurstFound_1_5 K t m = wpM E 16 27 rd (.seq c_sheaflaw3_BurstFound_1_4 (.ops [⟨(some 6), .move (.tmp 3), none⟩,
    ⟨(some 7), .binOp .add 3 (.tmp 6) (.const (.int .i64 1)) 3, none⟩,
    ⟨(some 3), .assign (.tmp 7), none⟩])) K t m := rfl

def c_sheaflaw3_BurstFound_1_6 : MC := (.seq c_sheaflaw3_BurstFound_1_1 c_sheaflaw3_BurstFound_1_5)
@[go_sem] theorem c_sheaflaw3_BurstFound_1_6_at (rd : Option Nat) (K : Post3) (t : Fr) (m : Mem) : wpM E 16 27 rd c_sheaflaw3_BurstFound_1_6 K t m = wpM E 16 27 rd (.seq c_sheaflaw3_BurstFound_1_1 c_sheaflaw3_BurstFound_1_5) K t m := rfl

def c_sheaflaw3_BurstFound_1_7 : MC := (.loop c_sheaflaw3_BurstFound_1_6)
theorem c_sheaflaw3_BurstFound_1_7_at (rd : Option Nat) (K : Post3) (t : Fr) (m : Mem) : wpM E 16 27 rd c_sheaflaw3_BurstFound_1_7 K t m = wpM E 16 27 rd (.loop c_sheaflaw3_BurstFound_1_6) K t m := rfl

def c_sheaflaw3_BurstFound_1_8 : MC := (.block 0 c_sheaflaw3_BurstFound_1_7)
theorem c_sheaflaw3_BurstFound_1_8_at (rd : Option Nat) (K : Post3) (t : Fr) (m : Mem) : wpM E 16 27 rd c_sheaflaw3_BurstFound_1_8 K t m = wpM E 16 27 rd (.block 0 c_sheaflaw3_BurstFound_1_7) K t m := rfl

def c_sheaflaw3_BurstFound_1_9 : MC := (.seq (.ops [⟨(some 3), .assign (.const (.int .i64 0)), none⟩]) c_sheaflaw3_BurstFound_1_8)
@[go_sem] theorem c_sheaflaw3_BurstFound_1_9_at (rd : Option Nat) (K : Post3) (t : Fr) (m : Mem) : wpM E 16 27 rd c_sheaflaw3_BurstFound_1_9 K t m = wpM E 16 27 rd (.seq (.ops [⟨(some 3), .assign (.const (.int .i64 0)), none⟩]) c_sheaflaw3_BurstFound_1_8) K t m := rfl

@[go_sem] theorem some16 : (E.fn 16).isSome = true := by kernel_rfl
set_option maxRecDepth 100000 in
theorem fn_sheaflaw3_BurstFound_1 : FnIs E 16 27 [] c_sheaflaw3_BurstFound_1_9 := ⟨by kernel_rfl, by kernel_rfl⟩

end Go.Proofs.Ytokkjdlnbccojaa.W
