/-
  Compact code, printed by a program of mine (wip/dev/AbsPrint.lean).
-/
import Derived.Test.YtkbjkmhmkefckaaTypes
set_option linter.unusedVariables false
namespace Go.Proofs.Ytkbjkmhmkefckaa.W
open Go.Abs

/-! sheaf/sheafref12.Get -/
abbrev F_sheafref12_Get : FuncId := 16
def c_sheafref12_Get_0 : MC := (.seq (.ops [⟨(some 2), .assign (.const (.slice none 0 0)), none⟩,
    ⟨(some 3), .assign (.const (.int .i64 0)), none⟩]) .ret)
@[go_sem] theorem c_sheafref12_Get_0_at (rd : Option Nat) (K : Post3) (t : Fr) (m : Mem) : wpM E 16 78 rd c_sheafref12_Get_0 K t m = wpM E 16 78 rd (.seq (.ops [⟨(some 2), .assign (.const (.slice none 0 0)), none⟩,
    ⟨(some 3), .assign (.const (.int .i64 0)), none⟩]) .ret) K t m := rfl

def c_sheafref12_Get_1 : MC := (.cond (.tmp 22) c_sheafref12_Get_0 .skip)
@[go_sem] theorem c_sheafref12_Get_1_at (rd : Option Nat) (K : Post3) (t : Fr) (m : Mem) : wpM E 16 78 rd c_sheafref12_Get_1 K t m = wpM E 16 78 rd (.cond (.tmp 22) c_sheafref12_Get_0 .skip) K t m := rfl

def c_sheafref12_Get_2 : MC := (.seq (.ops [⟨(some 10), .move (.tmp 0), none⟩,
    ⟨(some 11), .call ⟨.builtin .len, #[(.tmp 10)], #[22]⟩, none⟩,
    ⟨(some 12), .binOp .eql 3 (.tmp 11) (.const (.int .i64 0)) 3, none⟩,
    ⟨(some 13), .move (.tmp 12), none⟩,
    ⟨(some 14), .move (.tmp 0), (some (some 13, false))⟩,
    ⟨(some 15), .call ⟨.builtin .len, #[(.tmp 14)], #[22]⟩, (some (some 13, false))⟩,
    ⟨(some 16), .move (.tmp 0), (some (some 13, false))⟩,
    ⟨(some 17), .indexAddr 22 (.tmp 16) (.const (.int .i64 0)), (some (some 13, false))⟩,
    ⟨(some 18), .load 5 (.tmp 17), (some (some 13, false))⟩,
    ⟨(some 19), .convert 5 3 (.tmp 18), (some (some 13, false))⟩,
    ⟨(some 20), .binOp .add 3 (.const (.int .i64 1)) (.tmp 19) 3, (some (some 13, false))⟩,
    ⟨(some 21), .binOp .lss 3 (.tmp 15) (.tmp 20) 3, (some (some 13, false))⟩,
    ⟨(some 22), .pick (.tmp 13) (.const (.bool true)) (.tmp 21), none⟩]) c_sheafref12_Get_1)
@[go_sem] theorem c_sheafref12_Get_2_at (rd : Option Nat) (K : Post3) (t : Fr) (m : Mem) : wpM E 16 78 rd c_sheafref12_Get_2 K t m = wpM E 16 78 rd (.seq (.ops [⟨(some 10), .move (.tmp 0), none⟩,
    ⟨(some 11), .call ⟨.builtin .len, #[(.tmp 10)], #[22]⟩, none⟩,
    ⟨(some 12), .binOp .eql 3 (.tmp 11) (.const (.int .i64 0)) 3, none⟩,
    ⟨(some 13), .move (.tmp 12), none⟩,
    ⟨(some 14), .move (.tmp 0), (some (some 13, false))⟩,
    ⟨(some 15), .call ⟨.builtin .len, #[(.tmp 14)], #[22]⟩, (some (some 13, false))⟩,
    ⟨(some 16), .move (.tmp 0), (some (some 13, false))⟩,
    ⟨(some 17), .indexAddr 22 (.tmp 16) (.const (.int .i64 0)), (some (some 13, false))⟩,
    ⟨(some 18), .load 5 (.tmp 17), (some (some 13, false))⟩,
    ⟨(some 19), .convert 5 3 (.tmp 18), (some (some 13, false))⟩,
    ⟨(some 20), .binOp .add 3 (.const (.int .i64 1)) (.tmp 19) 3, (some (some 13, false))⟩,
    ⟨(some 21), .binOp .lss 3 (.tmp 15) (.tmp 20) 3, (some (some 13, false))⟩,
    ⟨(some 22), .pick (.tmp 13) (.const (.bool true)) (.tmp 21), none⟩]) c_sheafref12_Get_1) K t m := rfl

def c_sheafref12_Get_3 : MC := (.cond (.tmp 31) .skip (.exit 0))
@[go_sem] theorem c_sheafref12_Get_3_at (rd : Option Nat) (K : Post3) (t : Fr) (m : Mem) : wpM E 16 78 rd c_sheafref12_Get_3 K t m = wpM E 16 78 rd (.cond (.tmp 31) .skip (.exit 0)) K t m := rfl

def c_sheafref12_Get_4 : MC := (.seq (.ops [⟨(some 29), .move (.tmp 6), none⟩,
    ⟨(some 30), .move (.tmp 4), none⟩,
    ⟨(some 31), .binOp .lss 3 (.tmp 29) (.tmp 30) 3, none⟩]) c_sheafref12_Get_3)
@[go_sem] theorem c_sheafref12_Get_4_at (rd : Option Nat) (K : Post3) (t : Fr) (m : Mem) : wpM E 16 78 rd c_sheafref12_Get_4 K t m = wpM E 16 78 rd (.seq (.ops [⟨(some 29), .move (.tmp 6), none⟩,
    ⟨(some 30), .move (.tmp 4), none⟩,
    ⟨(some 31), .binOp .lss 3 (.tmp 29) (.tmp 30) 3, none⟩]) c_sheafref12_Get_3) K t m := rfl

def c_sheafref12_Get_5 : MC := (.seq (.ops [⟨(some 2), .assign (.const (.slice none 0 0)), none⟩,
    ⟨(some 3), .assign (.const (.int .i64 (-1))), none⟩]) .ret)
@[go_sem] theorem c_sheafref12_Get_5_at (rd : Option Nat) (K : Post3) (t : Fr) (m : Mem) : wpM E 16 78 rd c_sheafref12_Get_5 K t m = wpM E 16 78 rd (.seq (.ops [⟨(some 2), .assign (.const (.slice none 0 0)), none⟩,
    ⟨(some 3), .assign (.const (.int .i64 (-1))), none⟩]) .ret) K t m := rfl

def c_sheafref12_Get_6 : MC := (.cond (.tmp 38) c_sheafref12_Get_5 .skip)
@[go_sem] theorem c_sheafref12_Get_6_at (rd : Option Nat) (K : Post3) (t : Fr) (m : Mem) : wpM E 16 78 rd c_sheafref12_Get_6 K t m = wpM E 16 78 rd (.cond (.tmp 38) c_sheafref12_Get_5 .skip) K t m := rfl

def c_sheafref12_Get_7 : MC := (.seq (.ops [⟨(some 32), .move (.tmp 6), none⟩,
    ⟨(some 33), .move (.tmp 4), none⟩,
    ⟨(some 34), .binOp .geq 3 (.tmp 32) (.tmp 33) 3, none⟩,
    ⟨(some 35), .move (.tmp 34), none⟩,
    ⟨(some 36), .move (.tmp 8), (some (some 35, false))⟩,
    ⟨(some 37), .binOp .gtr 3 (.tmp 36) (.const (.int .i64 63)) 3, (some (some 35, false))⟩,
    ⟨(some 38), .pick (.tmp 35) (.const (.bool true)) (.tmp 37), none⟩]) c_sheafref12_Get_6)
@[go_sem] theorem c_sheafref12_Get_7_at (rd : Option Nat) (K : Post3) (t : Fr) (m : Mem) : wpM E 16 78 rd c_sheafref12_Get_7 K t m = wpM E 16 78 rd (.seq (.ops [⟨(some 32), .move (.tmp 6), none⟩,
    ⟨(some 33), .move (.tmp 4), none⟩,
    ⟨(some 34), .binOp .geq 3 (.tmp 32) (.tmp 33) 3, none⟩,
    ⟨(some 35), .move (.tmp 34), none⟩,
    ⟨(some 36), .move (.tmp 8), (some (some 35, false))⟩,
    ⟨(some 37), .binOp .gtr 3 (.tmp 36) (.const (.int .i64 63)) 3, (some (some 35, false))⟩,
    ⟨(some 38), .pick (.tmp 35) (.const (.bool true)) (.tmp 37), none⟩]) c_sheafref12_Get_6) K t m := rfl

def c_sheafref12_Get_8 : MC := (.seq (.ops [⟨(some 2), .assign (.const (.slice none 0 0)), none⟩,
    ⟨(some 3), .assign (.const (.int .i64 (-1))), none⟩]) .ret)
@[go_sem] theorem c_sheafref12_Get_8_at (rd : Option Nat) (K : Post3) (t : Fr) (m : Mem) : wpM E 16 78 rd c_sheafref12_Get_8 K t m = wpM E 16 78 rd (.seq (.ops [⟨(some 2), .assign (.const (.slice none 0 0)), none⟩,
    ⟨(some 3), .assign (.const (.int .i64 (-1))), none⟩]) .ret) K t m := rfl

def c_sheafref12_Get_9 : MC := (.cond (.tmp 50) c_sheafref12_Get_8 .skip)
@[go_sem] theorem c_sheafref12_Get_9_at (rd : Option Nat) (K : Post3) (t : Fr) (m : Mem) : wpM E 16 78 rd c_sheafref12_Get_9 K t m = wpM E 16 78 rd (.cond (.tmp 50) c_sheafref12_Get_8 .skip) K t m := rfl

def c_sheafref12_Get_10 : MC := (.seq (.ops [⟨(some 45), .move (.tmp 8), none⟩,
    ⟨(some 46), .binOp .eql 3 (.tmp 45) (.const (.int .i64 63)) 3, none⟩,
    ⟨(some 47), .move (.tmp 46), none⟩,
    ⟨(some 48), .move (.tmp 9), (some (some 47, true))⟩,
    ⟨(some 49), .binOp .gtr 5 (.tmp 48) (.const (.int .u8 1)) 5, (some (some 47, true))⟩,
    ⟨(some 50), .pick (.tmp 47) (.tmp 49) (.const (.bool false)), none⟩]) c_sheafref12_Get_9)
@[go_sem] theorem c_sheafref12_Get_10_at (rd : Option Nat) (K : Post3) (t : Fr) (m : Mem) : wpM E 16 78 rd c_sheafref12_Get_10 K t m = wpM E 16 78 rd (.seq (.ops [⟨(some 45), .move (.tmp 8), none⟩,
    ⟨(some 46), .binOp .eql 3 (.tmp 45) (.const (.int .i64 63)) 3, none⟩,
    ⟨(some 47), .move (.tmp 46), none⟩,
    ⟨(some 48), .move (.tmp 9), (some (some 47, true))⟩,
    ⟨(some 49), .binOp .gtr 5 (.tmp 48) (.const (.int .u8 1)) 5, (some (some 47, true))⟩,
    ⟨(some 50), .pick (.tmp 47) (.tmp 49) (.const (.bool false)), none⟩]) c_sheafref12_Get_9) K t m := rfl

def c_sheafref12_Get_11 : MC := (.seq (.ops [⟨(some 2), .assign (.const (.slice none 0 0)), none⟩,
    ⟨(some 3), .assign (.const (.int .i64 (-1))), none⟩]) .ret)
@[go_sem] theorem c_sheafref12_Get_11_at (rd : Option Nat) (K : Post3) (t : Fr) (m : Mem) : wpM E 16 78 rd c_sheafref12_Get_11 K t m = wpM E 16 78 rd (.seq (.ops [⟨(some 2), .assign (.const (.slice none 0 0)), none⟩,
    ⟨(some 3), .assign (.const (.int .i64 (-1))), none⟩]) .ret) K t m := rfl

def c_sheafref12_Get_12 : MC := (.cond (.tmp 65) c_sheafref12_Get_11 .skip)
@[go_sem] theorem c_sheafref12_Get_12_at (rd : Option Nat) (K : Post3) (t : Fr) (m : Mem) : wpM E 16 78 rd c_sheafref12_Get_12 K t m = wpM E 16 78 rd (.cond (.tmp 65) c_sheafref12_Get_11 .skip) K t m := rfl

def c_sheafref12_Get_13 : MC := (.seq (.ops [⟨(some 60), .move (.tmp 9), none⟩,
    ⟨(some 61), .binOp .eql 5 (.tmp 60) (.const (.int .u8 0)) 5, none⟩,
    ⟨(some 62), .move (.tmp 61), none⟩,
    ⟨(some 63), .move (.tmp 8), (some (some 62, true))⟩,
    ⟨(some 64), .binOp .gtr 3 (.tmp 63) (.const (.int .i64 0)) 3, (some (some 62, true))⟩,
    ⟨(some 65), .pick (.tmp 62) (.tmp 64) (.const (.bool false)), none⟩]) c_sheafref12_Get_12)
@[go_sem] theorem c_sheafref12_Get_13_at (rd : Option Nat) (K : Post3) (t : Fr) (m : Mem) : wpM E 16 78 rd c_sheafref12_Get_13 K t m = wpM E 16 78 rd (.seq (.ops [⟨(some 60), .move (.tmp 9), none⟩,
    ⟨(some 61), .binOp .eql 5 (.tmp 60) (.const (.int .u8 0)) 5, none⟩,
    ⟨(some 62), .move (.tmp 61), none⟩,
    ⟨(some 63), .move (.tmp 8), (some (some 62, true))⟩,
    ⟨(some 64), .binOp .gtr 3 (.tmp 63) (.const (.int .i64 0)) 3, (some (some 62, true))⟩,
    ⟨(some 65), .pick (.tmp 62) (.tmp 64) (.const (.bool false)), none⟩]) c_sheafref12_Get_12) K t m := rfl

def c_sheafref12_Get_14 : MC := (.seq c_sheafref12_Get_13 (.exit 2))
@[go_sem] theorem c_sheafref12_Get_14_at (rd : Option Nat) (K : Post3) (t : Fr) (m : Mem) : wpM E 16 78 rd c_sheafref12_Get_14 K t m = wpM E 16 78 rd (.seq c_sheafref12_Get_13 (.exit 2)) K t m := rfl

def c_sheafref12_Get_15 : MC := (.cond (.tmp 59) c_sheafref12_Get_14 .skip)
@[go_sem] theorem c_sheafref12_Get_15_at (rd : Option Nat) (K : Post3) (t : Fr) (m : Mem) : wpM E 16 78 rd c_sheafref12_Get_15 K t m = wpM E 16 78 rd (.cond (.tmp 59) c_sheafref12_Get_14 .skip) K t m := rfl

def c_sheafref12_Get_16 : MC := (.seq (.ops [⟨(some 58), .move (.tmp 9), none⟩,
    ⟨(some 59), .binOp .lss 5 (.tmp 58) (.const (.int .u8 128)) 5, none⟩]) c_sheafref12_Get_15)
@[go_sem] theorem c_sheafref12_Get_16_at (rd : Option Nat) (K : Post3) (t : Fr) (m : Mem) : wpM E 16 78 rd c_sheafref12_Get_16 K t m = wpM E 16 78 rd (.seq (.ops [⟨(some 58), .move (.tmp 9), none⟩,
    ⟨(some 59), .binOp .lss 5 (.tmp 58) (.const (.int .u8 128)) 5, none⟩]) c_sheafref12_Get_15) K t m := rfl

def c_sheafref12_Get_17 : MC := (.seq c_sheafref12_Get_16 (.ops [⟨(some 66), .move (.tmp 8), none⟩,
    ⟨(some 67), .binOp .add 3 (.tmp 66) (.const (.int .i64 7)) 3, none⟩,
    ⟨(some 8), .assign (.tmp 67), none⟩]))
@[go_sem] theorem c_sheafref12_Get_17_at (rd : Option Nat) (K : Post3) (t : Fr) (m : Mem) : wpM E 16 78 rd c_sheafref12_Get_17 K t m = wpM E 16 78 rd (.seq c_sheafref12_Get_16 (.ops [⟨(some 66), .move (.tmp 8), none⟩,
    ⟨(some 67), .binOp .add 3 (.tmp 66) (.const (.int .i64 7)) 3, none⟩,
    ⟨(some 8), .assign (.tmp 67), none⟩])) K t m := rfl

def c_sheafref12_Get_18 : MC := (.seq (.ops [⟨(some 51), .move (.tmp 7), none⟩,
    ⟨(some 52), .move (.tmp 9), none⟩,
    ⟨(some 53), .binOp .and 5 (.tmp 52) (.const (.int .u8 127)) 5, none⟩,
    ⟨(some 54), .convert 5 40 (.tmp 53), none⟩,
    ⟨(some 55), .move (.tmp 8), none⟩,
    ⟨(some 56), .binOp .shl 40 (.tmp 54) (.tmp 55) 3, none⟩,
    ⟨(some 57), .binOp .or 40 (.tmp 51) (.tmp 56) 40, none⟩,
    ⟨(some 7), .assign (.tmp 57), none⟩]) c_sheafref12_Get_17)
@[go_sem] theorem c_sheafref12_Get_18_at (rd : Option Nat) (K : Post3) (t : Fr) (m : Mem) : wpM E 16 78 rd c_sheafref12_Get_18 K t m = wpM E 16 78 rd (.seq (.ops [⟨(some 51), .move (.tmp 7), none⟩,
    ⟨(some 52), .move (.tmp 9), none⟩,
    ⟨(some 53), .binOp .and 5 (.tmp 52) (.const (.int .u8 127)) 5, none⟩,
    ⟨(some 54), .convert 5 40 (.tmp 53), none⟩,
    ⟨(some 55), .move (.tmp 8), none⟩,
    ⟨(some 56), .binOp .shl 40 (.tmp 54) (.tmp 55) 3, none⟩,
    ⟨(some 57), .binOp .or 40 (.tmp 51) (.tmp 56) 40, none⟩,
    ⟨(some 7), .assign (.tmp 57), none⟩]) c_sheafref12_Get_17) K t m := rfl

def c_sheafref12_Get_19 : MC := (.seq c_sheafref12_Get_10 c_sheafref12_Get_18)
@[go_sem] theorem c_sheafref12_Get_19_at (rd : Option Nat) (K : Post3) (t : Fr) (m : Mem) : wpM E 16 78 rd c_sheafref12_Get_19 K t m = wpM E 16 78 rd (.seq c_sheafref12_Get_10 c_sheafref12_Get_18) K t m := rfl

def c_sheafref12_Get_20 : MC := (.seq (.ops [⟨(some 43), .move (.tmp 6), none⟩,
    ⟨(some 44), .binOp .add 3 (.tmp 43) (.const (.int .i64 1)) 3, none⟩,
    ⟨(some 6), .assign (.tmp 44), none⟩]) c_sheafref12_Get_19)
@[go_sem] theorem c_sheafref12_Get_20_at (rd : Option Nat) (K : Post3) (t : Fr) (m : Mem) : wpM E 16 78 rd c_sheafref12_Get_20 K t m = wpM E 16 78 rd (.seq (.ops [⟨(some 43), .move (.tmp 6), none⟩,
    ⟨(some 44), .binOp .add 3 (.tmp 43) (.const (.int .i64 1)) 3, none⟩,
    ⟨(some 6), .assign (.tmp 44), none⟩]) c_sheafref12_Get_19) K t m := rfl

def c_sheafref12_Get_21 : MC := (.seq (.ops [⟨(some 39), .move (.tmp 0), none⟩,
    ⟨(some 40), .move (.tmp 6), none⟩,
    ⟨(some 41), .indexAddr 22 (.tmp 39) (.tmp 40), none⟩,
    ⟨(some 42), .load 5 (.tmp 41), none⟩,
    ⟨(some 9), .assign (.tmp 42), none⟩]) c_sheafref12_Get_20)
@[go_sem] theorem c_sheafref12_Get_21_at (rd : Option Nat) (K : Post3) (t : Fr) (m : Mem) : wpM E 16 78 rd c_sheafref12_Get_21 K t m = wpM E 16 78 rd (.seq (.ops [⟨(some 39), .move (.tmp 0), none⟩,
    ⟨(some 40), .move (.tmp 6), none⟩,
    ⟨(some 41), .indexAddr 22 (.tmp 39) (.tmp 40), none⟩,
    ⟨(some 42), .load 5 (.tmp 41), none⟩,
    ⟨(some 9), .assign (.tmp 42), none⟩]) c_sheafref12_Get_20) K t m := rfl

def c_sheafref12_Get_22 : MC := (.seq c_sheafref12_Get_7 c_sheafref12_Get_21)
@[go_sem] theorem c_sheafref12_Get_22_at (rd : Option Nat) (K : Post3) (t : Fr) (m : Mem) : wpM E 16 78 rd c_sheafref12_Get_22 K t m = wpM E 16 78 rd (.seq c_sheafref12_Get_7 c_sheafref12_Get_21) K t m := rfl

def c_sheafref12_Get_23 : MC := (.block 3 c_sheafref12_Get_22)
@[go_sem] theorem c_sheafref12_Get_23_at (rd : Option Nat) (K : Post3) (t : Fr) (m : Mem) : wpM E 16 78 rd c_sheafref12_Get_23 K t m = wpM E 16 78 rd (.block 3 c_sheafref12_Get_22) K t m := rfl

def c_sheafref12_Get_24 : MC := (.loop c_sheafref12_Get_23)
theorem c_sheafref12_Get_24_at (rd : Option Nat) (K : Post3) (t : Fr) (m : Mem) : wpM E 16 78 rd c_sheafref12_Get_24 K t m = wpM E 16 78 rd (.loop c_sheafref12_Get_23) K t m := rfl

def c_sheafref12_Get_25 : MC := (.block 2 c_sheafref12_Get_24)
theorem c_sheafref12_Get_25_at (rd : Option Nat) (K : Post3) (t : Fr) (m : Mem) : wpM E 16 78 rd c_sheafref12_Get_25 K t m = wpM E 16 78 rd (.block 2 c_sheafref12_Get_24) K t m := rfl

def c_sheafref12_Get_26 : MC := (.seq c_sheafref12_Get_25 (.ops [⟨(some 68), .move (.tmp 5), none⟩,
    ⟨(some 69), .move (.tmp 7), none⟩,
    ⟨(some 70), .call ⟨.value (.func 23), #[(.tmp 69)], #[40]⟩, none⟩,
    ⟨(some 71), .buildSlice 24 1 #[(0, (.tmp 70))], none⟩,
    ⟨(some 72), .call ⟨.builtin .append, #[(.tmp 68), (.tmp 71)], #[24, 24]⟩, none⟩,
    ⟨(some 5), .assign (.tmp 72), none⟩]))
@[go_sem] theorem c_sheafref12_Get_26_at (rd : Option Nat) (K : Post3) (t : Fr) (m : Mem) : wpM E 16 78 rd c_sheafref12_Get_26 K t m = wpM E 16 78 rd (.seq c_sheafref12_Get_25 (.ops [⟨(some 68), .move (.tmp 5), none⟩,
    ⟨(some 69), .move (.tmp 7), none⟩,
    ⟨(some 70), .call ⟨.value (.func 23), #[(.tmp 69)], #[40]⟩, none⟩,
    ⟨(some 71), .buildSlice 24 1 #[(0, (.tmp 70))], none⟩,
    ⟨(some 72), .call ⟨.builtin .append, #[(.tmp 68), (.tmp 71)], #[24, 24]⟩, none⟩,
    ⟨(some 5), .assign (.tmp 72), none⟩])) K t m := rfl

def c_sheafref12_Get_27 : MC := (.seq (.ops [⟨(some 7), .assign (.const (.int .u64 0)), none⟩,
    ⟨(some 8), .assign (.const (.int .i64 0)), none⟩]) c_sheafref12_Get_26)
@[go_sem] theorem c_sheafref12_Get_27_at (rd : Option Nat) (K : Post3) (t : Fr) (m : Mem) : wpM E 16 78 rd c_sheafref12_Get_27 K t m = wpM E 16 78 rd (.seq (.ops [⟨(some 7), .assign (.const (.int .u64 0)), none⟩,
    ⟨(some 8), .assign (.const (.int .i64 0)), none⟩]) c_sheafref12_Get_26) K t m := rfl

def c_sheafref12_Get_28 : MC := (.block 1 c_sheafref12_Get_27)
@[go_sem] theorem c_sheafref12_Get_28_at (rd : Option Nat) (K : Post3) (t : Fr) (m : Mem) : wpM E 16 78 rd c_sheafref12_Get_28 K t m = wpM E 16 78 rd (.block 1 c_sheafref12_Get_27) K t m := rfl

def c_sheafref12_Get_29 : MC := (.seq c_sheafref12_Get_4 c_sheafref12_Get_28)
@[go_sem] theorem c_sheafref12_Get_29_at (rd : Option Nat) (K : Post3) (t : Fr) (m : Mem) : wpM E 16 78 rd c_sheafref12_Get_29 K t m = wpM E 16 78 rd (.seq c_sheafref12_Get_4 c_sheafref12_Get_28) K t m := rfl

def c_sheafref12_Get_30 : MC := (.loop c_sheafref12_Get_29)
theorem c_sheafref12_Get_30_at (rd : Option Nat) (K : Post3) (t : Fr) (m : Mem) : wpM E 16 78 rd c_sheafref12_Get_30 K t m = wpM E 16 78 rd (.loop c_sheafref12_Get_29) K t m := rfl

def c_sheafref12_Get_31 : MC := (.block 0 c_sheafref12_Get_30)
theorem c_sheafref12_Get_31_at (rd : Option Nat) (K : Post3) (t : Fr) (m : Mem) : wpM E 16 78 rd c_sheafref12_Get_31 K t m = wpM E 16 78 rd (.block 0 c_sheafref12_Get_30) K t m := rfl

def c_sheafref12_Get_32 : MC := (.seq (.ops [⟨(some 6), .assign (.const (.int .i64 1)), none⟩]) c_sheafref12_Get_31)
@[go_sem] theorem c_sheafref12_Get_32_at (rd : Option Nat) (K : Post3) (t : Fr) (m : Mem) : wpM E 16 78 rd c_sheafref12_Get_32 K t m = wpM E 16 78 rd (.seq (.ops [⟨(some 6), .assign (.const (.int .i64 1)), none⟩]) c_sheafref12_Get_31) K t m := rfl

def c_sheafref12_Get_33 : MC := (.seq (.ops [⟨(some 2), .assign (.const (.slice none 0 0)), none⟩,
    ⟨(some 3), .assign (.const (.int .i64 (-1))), none⟩]) .ret)
@[go_sem] theorem c_sheafref12_Get_33_at (rd : Option Nat) (K : Post3) (t : Fr) (m : Mem) : wpM E 16 78 rd c_sheafref12_Get_33 K t m = wpM E 16 78 rd (.seq (.ops [⟨(some 2), .assign (.const (.slice none 0 0)), none⟩,
    ⟨(some 3), .assign (.const (.int .i64 (-1))), none⟩]) .ret) K t m := rfl

def c_sheafref12_Get_34 : MC := (.cond (.tmp 75) c_sheafref12_Get_33 .skip)
@[go_sem] theorem c_sheafref12_Get_34_at (rd : Option Nat) (K : Post3) (t : Fr) (m : Mem) : wpM E 16 78 rd c_sheafref12_Get_34 K t m = wpM E 16 78 rd (.cond (.tmp 75) c_sheafref12_Get_33 .skip) K t m := rfl

def c_sheafref12_Get_35 : MC := (.seq (.ops [⟨(some 73), .move (.tmp 5), none⟩,
    ⟨(some 74), .call ⟨.builtin .len, #[(.tmp 73)], #[24]⟩, none⟩,
    ⟨(some 75), .binOp .gtr 3 (.tmp 74) (.const (.int .i64 10)) 3, none⟩]) c_sheafref12_Get_34)
@[go_sem] theorem c_sheafref12_Get_35_at (rd : Option Nat) (K : Post3) (t : Fr) (m : Mem) : wpM E 16 78 rd c_sheafref12_Get_35 K t m = wpM E 16 78 rd (.seq (.ops [⟨(some 73), .move (.tmp 5), none⟩,
    ⟨(some 74), .call ⟨.builtin .len, #[(.tmp 73)], #[24]⟩, none⟩,
    ⟨(some 75), .binOp .gtr 3 (.tmp 74) (.const (.int .i64 10)) 3, none⟩]) c_sheafref12_Get_34) K t m := rfl

def c_sheafref12_Get_36 : MC := (.seq (.ops [⟨(some 76), .move (.tmp 5), none⟩,
    ⟨(some 77), .move (.tmp 4), none⟩,
    ⟨(some 2), .assign (.tmp 76), none⟩,
    ⟨(some 3), .assign (.tmp 77), none⟩]) .ret)
@[go_sem] theorem c_sheafref12_Get_36_at (rd : Option Nat) (K : Post3) (t : Fr) (m : Mem) : wpM E 16 78 rd c_sheafref12_Get_36 K t m = wpM E 16 78 rd (.seq (.ops [⟨(some 76), .move (.tmp 5), none⟩,
    ⟨(some 77), .move (.tmp 4), none⟩,
    ⟨(some 2), .assign (.tmp 76), none⟩,
    ⟨(some 3), .assign (.tmp 77), none⟩]) .ret) K t m := rfl

def c_sheafref12_Get_37 : MC := (.seq c_sheafref12_Get_35 c_sheafref12_Get_36)
@[go_sem] theorem c_sheafref12_Get_37_at (rd : Option Nat) (K : Post3) (t : Fr) (m : Mem) : wpM E 16 78 rd c_sheafref12_Get_37 K t m = wpM E 16 78 rd (.seq c_sheafref12_Get_35 c_sheafref12_Get_36) K t m := rfl

def c_sheafref12_Get_38 : MC := (.seq c_sheafref12_Get_32 c_sheafref12_Get_37)
@[go_sem] theorem c_sheafref12_Get_38_at (rd : Option Nat) (K : Post3) (t : Fr) (m : Mem) : wpM E 16 78 rd c_sheafref12_Get_38 K t m = wpM E 16 78 rd (.seq c_sheafref12_Get_32 c_sheafref12_Get_37) K t m := rfl

def c_sheafref12_Get_39 : MC := (.seq (.ops [⟨(some 28), .buildSlice 24 0 #[], none⟩,
    ⟨(some 5), .assign (.tmp 28), none⟩]) c_sheafref12_Get_38)
@[go_sem] theorem c_sheafref12_Get_39_at (rd : Option Nat) (K : Post3) (t : Fr) (m : Mem) : wpM E 16 78 rd c_sheafref12_Get_39 K t m = wpM E 16 78 rd (.seq (.ops [⟨(some 28), .buildSlice 24 0 #[], none⟩,
    ⟨(some 5), .assign (.tmp 28), none⟩]) c_sheafref12_Get_38) K t m := rfl

def c_sheafref12_Get_40 : MC := (.seq (.ops [⟨(some 23), .move (.tmp 0), none⟩,
    ⟨(some 24), .indexAddr 22 (.tmp 23) (.const (.int .i64 0)), none⟩,
    ⟨(some 25), .load 5 (.tmp 24), none⟩,
    ⟨(some 26), .convert 5 3 (.tmp 25), none⟩,
    ⟨(some 27), .binOp .add 3 (.const (.int .i64 1)) (.tmp 26) 3, none⟩,
    ⟨(some 4), .assign (.tmp 27), none⟩]) c_sheafref12_Get_39)
@[go_sem] theorem c_sheafref12_Get_40_at (rd : Option Nat) (K : Post3) (t : Fr) (m : Mem) : wpM E 16 78 rd c_sheafref12_Get_40 K t m = wpM E 16 78 rd (.seq (.ops [⟨(some 23), .move (.tmp 0), none⟩,
    ⟨(some 24), .indexAddr 22 (.tmp 23) (.const (.int .i64 0)), none⟩,
    ⟨(some 25), .load 5 (.tmp 24), none⟩,
    ⟨(some 26), .convert 5 3 (.tmp 25), none⟩,
    ⟨(some 27), .binOp .add 3 (.const (.int .i64 1)) (.tmp 26) 3, none⟩,
    ⟨(some 4), .assign (.tmp 27), none⟩]) c_sheafref12_Get_39) K t m := rfl

def c_sheafref12_Get_41 : MC := (.seq c_sheafref12_Get_2 c_sheafref12_Get_40)
@[go_sem] theorem c_sheafref12_Get_41_at (rd : Option Nat) (K : Post3) (t : Fr) (m : Mem) : wpM E 16 78 rd c_sheafref12_Get_41 K t m = wpM E 16 78 rd (.seq c_sheafref12_Get_2 c_sheafref12_Get_40) K t m := rfl

def c_sheafref12_Get_42 : MC := (.seq (.ops [⟨(some 2), .assign (.const (.slice none 0 0)), none⟩,
    ⟨(some 3), .assign (.const (.int .i64 0)), none⟩]) c_sheafref12_Get_41)
@[go_sem] theorem c_sheafref12_Get_42_at (rd : Option Nat) (K : Post3) (t : Fr) (m : Mem) : wpM E 16 78 rd c_sheafref12_Get_42 K t m = wpM E 16 78 rd (.seq (.ops [⟨(some 2), .assign (.const (.slice none 0 0)), none⟩,
    ⟨(some 3), .assign (.const (.int .i64 0)), none⟩]) c_sheafref12_Get_41) K t m := rfl

@[go_sem] theorem some16 : (E.fn 16).isSome = true := by kernel_rfl
set_option maxRecDepth 100000 in
theorem fn_sheafref12_Get : FnIs E 16 78 [.tmp 2, .tmp 3] c_sheafref12_Get_42 := ⟨by kernel_rfl, by kernel_rfl⟩

/-! sheaf/sheafref12.Put -/
abbrev F_sheafref12_Put : FuncId := 17
def c_sheafref12_Put_0 : MC := (.seq (.ops [⟨(some 2), .assign (.const (.slice none 0 0)), none⟩]) .ret)
@[go_sem] theorem c_sheafref12_Put_0_at (rd : Option Nat) (K : Post3) (t : Fr) (m : Mem) : wpM E 17 42 rd c_sheafref12_Put_0 K t m = wpM E 17 42 rd (.seq (.ops [⟨(some 2), .assign (.const (.slice none 0 0)), none⟩]) .ret) K t m := rfl

def c_sheafref12_Put_1 : MC := (.cond (.tmp 9) c_sheafref12_Put_0 .skip)
@[go_sem] theorem c_sheafref12_Put_1_at (rd : Option Nat) (K : Post3) (t : Fr) (m : Mem) : wpM E 17 42 rd c_sheafref12_Put_1 K t m = wpM E 17 42 rd (.cond (.tmp 9) c_sheafref12_Put_0 .skip) K t m := rfl

def c_sheafref12_Put_2 : MC := (.seq (.ops [⟨(some 7), .move (.tmp 0), none⟩,
    ⟨(some 8), .call ⟨.builtin .len, #[(.tmp 7)], #[24]⟩, none⟩,
    ⟨(some 9), .binOp .gtr 3 (.tmp 8) (.const (.int .i64 10)) 3, none⟩]) c_sheafref12_Put_1)
@[go_sem] theorem c_sheafref12_Put_2_at (rd : Option Nat) (K : Post3) (t : Fr) (m : Mem) : wpM E 17 42 rd c_sheafref12_Put_2 K t m = wpM E 17 42 rd (.seq (.ops [⟨(some 7), .move (.tmp 0), none⟩,
    ⟨(some 8), .call ⟨.builtin .len, #[(.tmp 7)], #[24]⟩, none⟩,
    ⟨(some 9), .binOp .gtr 3 (.tmp 8) (.const (.int .i64 10)) 3, none⟩]) c_sheafref12_Put_1) K t m := rfl

def c_sheafref12_Put_3 : MC := (.cond (.tmp 14) .skip (.exit 0))
@[go_sem] theorem c_sheafref12_Put_3_at (rd : Option Nat) (K : Post3) (t : Fr) (m : Mem) : wpM E 17 42 rd c_sheafref12_Put_3 K t m = wpM E 17 42 rd (.cond (.tmp 14) .skip (.exit 0)) K t m := rfl

def c_sheafref12_Put_4 : MC := (.cond (.tmp 20) .skip (.exit 2))
@[go_sem] theorem c_sheafref12_Put_4_at (rd : Option Nat) (K : Post3) (t : Fr) (m : Mem) : wpM E 17 42 rd c_sheafref12_Put_4 K t m = wpM E 17 42 rd (.cond (.tmp 20) .skip (.exit 2)) K t m := rfl

def c_sheafref12_Put_5 : MC := (.seq (.ops [⟨(some 19), .move (.tmp 6), none⟩,
    ⟨(some 20), .binOp .geq 40 (.tmp 19) (.const (.int .u64 128)) 40, none⟩]) c_sheafref12_Put_4)
@[go_sem] theorem c_sheafref12_Put_5_at (rd : Option Nat) (K : Post3) (t : Fr) (m : Mem) : wpM E 17 42 rd c_sheafref12_Put_5 K t m = wpM E 17 42 rd (.seq (.ops [⟨(some 19), .move (.tmp 6), none⟩,
    ⟨(some 20), .binOp .geq 40 (.tmp 19) (.const (.int .u64 128)) 40, none⟩]) c_sheafref12_Put_4) K t m := rfl

def c_sheafref12_Put_6 : MC := (.seq (.ops [⟨(some 21), .move (.tmp 3), none⟩,
    ⟨(some 22), .move (.tmp 6), none⟩,
    ⟨(some 23), .convert 40 5 (.tmp 22), none⟩,
    ⟨(some 24), .binOp .or 5 (.tmp 23) (.const (.int .u8 128)) 5, none⟩,
    ⟨(some 25), .buildSlice 22 1 #[(0, (.tmp 24))], none⟩,
    ⟨(some 26), .call ⟨.builtin .append, #[(.tmp 21), (.tmp 25)], #[22, 22]⟩, none⟩,
    ⟨(some 3), .assign (.tmp 26), none⟩]) (.ops [⟨(some 27), .move (.tmp 6), none⟩,
    ⟨(some 28), .binOp .shr 40 (.tmp 27) (.const (.int .u64 7)) 41, none⟩,
    ⟨(some 6), .assign (.tmp 28), none⟩]))
@[go_sem] theorem c_sheafref12_Put_6_at (rd : Option Nat) (K : Post3) (t : Fr) (m : Mem) : wpM E 17 42 rd c_sheafref12_Put_6 K t m = wpM E 17 42 rd (.seq (.ops [⟨(some 21), .move (.tmp 3), none⟩,
    ⟨(some 22), .move (.tmp 6), none⟩,
    ⟨(some 23), .convert 40 5 (.tmp 22), none⟩,
    ⟨(some 24), .binOp .or 5 (.tmp 23) (.const (.int .u8 128)) 5, none⟩,
    ⟨(some 25), .buildSlice 22 1 #[(0, (.tmp 24))], none⟩,
    ⟨(some 26), .call ⟨.builtin .append, #[(.tmp 21), (.tmp 25)], #[22, 22]⟩, none⟩,
    ⟨(some 3), .assign (.tmp 26), none⟩]) (.ops [⟨(some 27), .move (.tmp 6), none⟩,
    ⟨(some 28), .binOp .shr 40 (.tmp 27) (.const (.int .u64 7)) 41, none⟩,
    ⟨(some 6), .assign (.tmp 28), none⟩])) K t m := rfl

def c_sheafref12_Put_7 : MC := (.block 3 c_sheafref12_Put_6)
@[go_sem] theorem c_sheafref12_Put_7_at (rd : Option Nat) (K : Post3) (t : Fr) (m : Mem) : wpM E 17 42 rd c_sheafref12_Put_7 K t m = wpM E 17 42 rd (.block 3 c_sheafref12_Put_6) K t m := rfl

def c_sheafref12_Put_8 : MC := (.seq c_sheafref12_Put_5 c_sheafref12_Put_7)
@[go_sem] theorem c_sheafref12_Put_8_at (rd : Option Nat) (K : Post3) (t : Fr) (m : Mem) : wpM E 17 42 rd c_sheafref12_Put_8 K t m = wpM E 17 42 rd (.seq c_sheafref12_Put_5 c_sheafref12_Put_7) K t m := rfl

def c_sheafref12_Put_9 : MC := (.loop c_sheafref12_Put_8)
theorem c_sheafref12_Put_9_at (rd : Option Nat) (K : Post3) (t : Fr) (m : Mem) : wpM E 17 42 rd c_sheafref12_Put_9 K t m = wpM E 17 42 rd (.loop c_sheafref12_Put_8) K t m := rfl

def c_sheafref12_Put_10 : MC := (.block 2 c_sheafref12_Put_9)
theorem c_sheafref12_Put_10_at (rd : Option Nat) (K : Post3) (t : Fr) (m : Mem) : wpM E 17 42 rd c_sheafref12_Put_10 K t m = wpM E 17 42 rd (.block 2 c_sheafref12_Put_9) K t m := rfl

def c_sheafref12_Put_11 : MC := (.seq c_sheafref12_Put_10 (.ops [⟨(some 29), .move (.tmp 3), none⟩,
    ⟨(some 30), .move (.tmp 6), none⟩,
    ⟨(some 31), .convert 40 5 (.tmp 30), none⟩,
    ⟨(some 32), .buildSlice 22 1 #[(0, (.tmp 31))], none⟩,
    ⟨(some 33), .call ⟨.builtin .append, #[(.tmp 29), (.tmp 32)], #[22, 22]⟩, none⟩,
    ⟨(some 3), .assign (.tmp 33), none⟩]))
@[go_sem] theorem c_sheafref12_Put_11_at (rd : Option Nat) (K : Post3) (t : Fr) (m : Mem) : wpM E 17 42 rd c_sheafref12_Put_11 K t m = wpM E 17 42 rd (.seq c_sheafref12_Put_10 (.ops [⟨(some 29), .move (.tmp 3), none⟩,
    ⟨(some 30), .move (.tmp 6), none⟩,
    ⟨(some 31), .convert 40 5 (.tmp 30), none⟩,
    ⟨(some 32), .buildSlice 22 1 #[(0, (.tmp 31))], none⟩,
    ⟨(some 33), .call ⟨.builtin .append, #[(.tmp 29), (.tmp 32)], #[22, 22]⟩, none⟩,
    ⟨(some 3), .assign (.tmp 33), none⟩])) K t m := rfl

def c_sheafref12_Put_12 : MC := (.seq (.ops [⟨(some 17), .move (.tmp 5), none⟩,
    ⟨(some 18), .call ⟨.value (.func 24), #[(.tmp 17)], #[3]⟩, none⟩,
    ⟨(some 6), .assign (.tmp 18), none⟩]) c_sheafref12_Put_11)
@[go_sem] theorem c_sheafref12_Put_12_at (rd : Option Nat) (K : Post3) (t : Fr) (m : Mem) : wpM E 17 42 rd c_sheafref12_Put_12 K t m = wpM E 17 42 rd (.seq (.ops [⟨(some 17), .move (.tmp 5), none⟩,
    ⟨(some 18), .call ⟨.value (.func 24), #[(.tmp 17)], #[3]⟩, none⟩,
    ⟨(some 6), .assign (.tmp 18), none⟩]) c_sheafref12_Put_11) K t m := rfl

def c_sheafref12_Put_13 : MC := (.seq (.ops [⟨(some 15), .indexAddr 24 (.tmp 11) (.tmp 13), none⟩,
    ⟨(some 16), .load 3 (.tmp 15), none⟩,
    ⟨(some 5), .assign (.tmp 16), none⟩]) c_sheafref12_Put_12)
@[go_sem] theorem c_sheafref12_Put_13_at (rd : Option Nat) (K : Post3) (t : Fr) (m : Mem) : wpM E 17 42 rd c_sheafref12_Put_13 K t m = wpM E 17 42 rd (.seq (.ops [⟨(some 15), .indexAddr 24 (.tmp 11) (.tmp 13), none⟩,
    ⟨(some 16), .load 3 (.tmp 15), none⟩,
    ⟨(some 5), .assign (.tmp 16), none⟩]) c_sheafref12_Put_12) K t m := rfl

def c_sheafref12_Put_14 : MC := (.block 1 c_sheafref12_Put_13)
@[go_sem] theorem c_sheafref12_Put_14_at (rd : Option Nat) (K : Post3) (t : Fr) (m : Mem) : wpM E 17 42 rd c_sheafref12_Put_14 K t m = wpM E 17 42 rd (.block 1 c_sheafref12_Put_13) K t m := rfl

def c_sheafref12_Put_15 : MC := (.seq c_sheafref12_Put_14 (.ops [⟨(some 34), .binOp .add 3 (.tmp 13) (.const (.int .i64 1)) 3, none⟩,
    ⟨(some 13), .move (.tmp 34), none⟩]))
@[go_sem] theorem c_sheafref12_Put_15_at (rd : Option Nat) (K : Post3) (t : Fr) (m : Mem) : wpM E 17 42 rd c_sheafref12_Put_15 K t m = wpM E 17 42 rd (.seq c_sheafref12_Put_14 (.ops [⟨(some 34), .binOp .add 3 (.tmp 13) (.const (.int .i64 1)) 3, none⟩,
    ⟨(some 13), .move (.tmp 34), none⟩])) K t m := rfl

def c_sheafref12_Put_16 : MC := (.seq c_sheafref12_Put_3 c_sheafref12_Put_15)
@[go_sem] theorem c_sheafref12_Put_16_at (rd : Option Nat) (K : Post3) (t : Fr) (m : Mem) : wpM E 17 42 rd c_sheafref12_Put_16 K t m = wpM E 17 42 rd (.seq c_sheafref12_Put_3 c_sheafref12_Put_15) K t m := rfl

def c_sheafref12_Put_17 : MC := (.seq (.ops [⟨(some 14), .binOp .lss 3 (.tmp 13) (.tmp 12) 3, none⟩]) c_sheafref12_Put_16)
@[go_sem] theorem c_sheafref12_Put_17_at (rd : Option Nat) (K : Post3) (t : Fr) (m : Mem) : wpM E 17 42 rd c_sheafref12_Put_17 K t m = wpM E 17 42 rd (.seq (.ops [⟨(some 14), .binOp .lss 3 (.tmp 13) (.tmp 12) 3, none⟩]) c_sheafref12_Put_16) K t m := rfl

def c_sheafref12_Put_18 : MC := (.loop c_sheafref12_Put_17)
theorem c_sheafref12_Put_18_at (rd : Option Nat) (K : Post3) (t : Fr) (m : Mem) : wpM E 17 42 rd c_sheafref12_Put_18 K t m = wpM E 17 42 rd (.loop c_sheafref12_Put_17) K t m := rfl

def c_sheafref12_Put_19 : MC := (.block 0 c_sheafref12_Put_18)
theorem c_sheafref12_Put_19_at (rd : Option Nat) (K : Post3) (t : Fr) (m : Mem) : wpM E 17 42 rd c_sheafref12_Put_19 K t m = wpM E 17 42 rd (.block 0 c_sheafref12_Put_18) K t m := rfl

def c_sheafref12_Put_20 : MC := (.seq (.ops [⟨(some 11), .move (.tmp 0), none⟩,
    ⟨(some 12), .call ⟨.builtin .len, #[(.tmp 11)], #[24]⟩, none⟩,
    ⟨(some 13), .move (.const (.int .i64 0)), none⟩]) c_sheafref12_Put_19)
@[go_sem] theorem c_sheafref12_Put_20_at (rd : Option Nat) (K : Post3) (t : Fr) (m : Mem) : wpM E 17 42 rd c_sheafref12_Put_20 K t m = wpM E 17 42 rd (.seq (.ops [⟨(some 11), .move (.tmp 0), none⟩,
    ⟨(some 12), .call ⟨.builtin .len, #[(.tmp 11)], #[24]⟩, none⟩,
    ⟨(some 13), .move (.const (.int .i64 0)), none⟩]) c_sheafref12_Put_19) K t m := rfl

def c_sheafref12_Put_21 : MC := (.seq (.ops [⟨(some 41), .move (.tmp 3), none⟩,
    ⟨(some 2), .assign (.tmp 41), none⟩]) .ret)
@[go_sem] theorem c_sheafref12_Put_21_at (rd : Option Nat) (K : Post3) (t : Fr) (m : Mem) : wpM E 17 42 rd c_sheafref12_Put_21 K t m = wpM E 17 42 rd (.seq (.ops [⟨(some 41), .move (.tmp 3), none⟩,
    ⟨(some 2), .assign (.tmp 41), none⟩]) .ret) K t m := rfl

def c_sheafref12_Put_22 : MC := (.seq (.ops [⟨(some 35), .move (.tmp 3), none⟩,
    ⟨(some 36), .move (.tmp 3), none⟩,
    ⟨(some 37), .call ⟨.builtin .len, #[(.tmp 36)], #[22]⟩, none⟩,
    ⟨(some 38), .binOp .sub 3 (.tmp 37) (.const (.int .i64 1)) 3, none⟩,
    ⟨(some 39), .convert 3 5 (.tmp 38), none⟩,
    ⟨(some 40), .indexAddr 22 (.tmp 35) (.const (.int .i64 0)), none⟩,
    ⟨none, .store 5 (.tmp 40) (.tmp 39), none⟩]) c_sheafref12_Put_21)
@[go_sem] theorem c_sheafref12_Put_22_at (rd : Option Nat) (K : Post3) (t : Fr) (m : Mem) : wpM E 17 42 rd c_sheafref12_Put_22 K t m = wpM E 17 42 rd (.seq (.ops [⟨(some 35), .move (.tmp 3), none⟩,
    ⟨(some 36), .move (.tmp 3), none⟩,
    ⟨(some 37), .call ⟨.builtin .len, #[(.tmp 36)], #[22]⟩, none⟩,
    ⟨(some 38), .binOp .sub 3 (.tmp 37) (.const (.int .i64 1)) 3, none⟩,
    ⟨(some 39), .convert 3 5 (.tmp 38), none⟩,
    ⟨(some 40), .indexAddr 22 (.tmp 35) (.const (.int .i64 0)), none⟩,
    ⟨none, .store 5 (.tmp 40) (.tmp 39), none⟩]) c_sheafref12_Put_21) K t m := rfl

def c_sheafref12_Put_23 : MC := (.seq c_sheafref12_Put_20 c_sheafref12_Put_22)
@[go_sem] theorem c_sheafref12_Put_23_at (rd : Option Nat) (K : Post3) (t : Fr) (m : Mem) : wpM E 17 42 rd c_sheafref12_Put_23 K t m = wpM E 17 42 rd (.seq c_sheafref12_Put_20 c_sheafref12_Put_22) K t m := rfl

def c_sheafref12_Put_24 : MC := (.seq (.ops [⟨(some 10), .buildSlice 22 1 #[(0, (.const (.int .u8 0)))], none⟩,
    ⟨(some 3), .assign (.tmp 10), none⟩]) c_sheafref12_Put_23)
@[go_sem] theorem c_sheafref12_Put_24_at (rd : Option Nat) (K : Post3) (t : Fr) (m : Mem) : wpM E 17 42 rd c_sheafref12_Put_24 K t m = wpM E 17 42 rd (.seq (.ops [⟨(some 10), .buildSlice 22 1 #[(0, (.const (.int .u8 0)))], none⟩,
    ⟨(some 3), .assign (.tmp 10), none⟩]) c_sheafref12_Put_23) K t m := rfl

def c_sheafref12_Put_25 : MC := (.seq c_sheafref12_Put_2 c_sheafref12_Put_24)
@[go_sem] theorem c_sheafref12_Put_25_at (rd : Option Nat) (K : Post3) (t : Fr) (m : Mem) : wpM E 17 42 rd c_sheafref12_Put_25 K t m = wpM E 17 42 rd (.seq c_sheafref12_Put_2 c_sheafref12_Put_24) K t m := rfl

def c_sheafref12_Put_26 : MC := (.seq (.ops [⟨(some 2), .assign (.const (.slice none 0 0)), none⟩]) c_sheafref12_Put_25)
@[go_sem] theorem c_sheafref12_Put_26_at (rd : Option Nat) (K : Post3) (t : Fr) (m : Mem) : wpM E 17 42 rd c_sheafref12_Put_26 K t m = wpM E 17 42 rd (.seq (.ops [⟨(some 2), .assign (.const (.slice none 0 0)), none⟩]) c_sheafref12_Put_25) K t m := rfl

@[go_sem] theorem some17 : (E.fn 17).isSome = true := by kernel_rfl
set_option maxRecDepth 100000 in
theorem fn_sheafref12_Put : FnIs E 17 42 [.tmp 2] c_sheafref12_Put_26 := ⟨by kernel_rfl, by kernel_rfl⟩

/-! sheaf/sheafref12.Compare -/
abbrev F_sheafref12_Compare : FuncId := 18
def c_sheafref12_Compare_0 : MC := (.cond (.tmp 15) .skip (.exit 0))
@[go_sem] theorem c_sheafref12_Compare_0_at (rd : Option Nat) (K : Post3) (t : Fr) (m : Mem) : wpM E 18 45 rd c_sheafref12_Compare_0 K t m = wpM E 18 45 rd (.cond (.tmp 15) .skip (.exit 0)) K t m := rfl

def c_sheafref12_Compare_1 : MC := (.seq (.ops [⟨(some 24), .move (.tmp 9), none⟩,
    ⟨(some 6), .assign (.tmp 24), none⟩]) .ret)
@[go_sem] theorem c_sheafref12_Compare_1_at (rd : Option Nat) (K : Post3) (t : Fr) (m : Mem) : wpM E 18 45 rd c_sheafref12_Compare_1 K t m = wpM E 18 45 rd (.seq (.ops [⟨(some 24), .move (.tmp 9), none⟩,
    ⟨(some 6), .assign (.tmp 24), none⟩]) .ret) K t m := rfl

def c_sheafref12_Compare_2 : MC := (.cond (.tmp 23) c_sheafref12_Compare_1 .skip)
@[go_sem] theorem c_sheafref12_Compare_2_at (rd : Option Nat) (K : Post3) (t : Fr) (m : Mem) : wpM E 18 45 rd c_sheafref12_Compare_2 K t m = wpM E 18 45 rd (.cond (.tmp 23) c_sheafref12_Compare_1 .skip) K t m := rfl

def c_sheafref12_Compare_3 : MC := (.seq (.ops [⟨(some 22), .move (.tmp 9), none⟩,
    ⟨(some 23), .binOp .neq 3 (.tmp 22) (.const (.int .i64 0)) 3, none⟩]) c_sheafref12_Compare_2)
@[go_sem] theorem c_sheafref12_Compare_3_at (rd : Option Nat) (K : Post3) (t : Fr) (m : Mem) : wpM E 18 45 rd c_sheafref12_Compare_3 K t m = wpM E 18 45 rd (.seq (.ops [⟨(some 22), .move (.tmp 9), none⟩,
    ⟨(some 23), .binOp .neq 3 (.tmp 22) (.const (.int .i64 0)) 3, none⟩]) c_sheafref12_Compare_2) K t m := rfl

def c_sheafref12_Compare_4 : MC := (.seq (.ops [⟨(some 18), .move (.tmp 0), none⟩,
    ⟨(some 19), .move (.tmp 1), none⟩,
    ⟨(some 20), .move (.tmp 8), none⟩,
    ⟨(some 21), .call ⟨.value (.func 25), #[(.tmp 18), (.tmp 19), (.tmp 20)], #[24, 24, 3]⟩, none⟩,
    ⟨(some 9), .assign (.tmp 21), none⟩]) c_sheafref12_Compare_3)
@[go_sem] theorem c_sheafref12_Compare_4_at (rd : Option Nat) (K : Post3) (t : Fr) (m : Mem) : wpM E 18 45 rd c_sheafref12_Compare_4 K t m = wpM E 18 45 rd (.seq (.ops [⟨(some 18), .move (.tmp 0), none⟩,
    ⟨(some 19), .move (.tmp 1), none⟩,
    ⟨(some 20), .move (.tmp 8), none⟩,
    ⟨(some 21), .call ⟨.value (.func 25), #[(.tmp 18), (.tmp 19), (.tmp 20)], #[24, 24, 3]⟩, none⟩,
    ⟨(some 9), .assign (.tmp 21), none⟩]) c_sheafref12_Compare_3) K t m := rfl

def c_sheafref12_Compare_5 : MC := (.seq (.ops [⟨(some 16), .indexAddr 24 (.tmp 12) (.tmp 14), none⟩,
    ⟨(some 17), .load 3 (.tmp 16), none⟩,
    ⟨(some 8), .assign (.tmp 17), none⟩]) c_sheafref12_Compare_4)
@[go_sem] theorem c_sheafref12_Compare_5_at (rd : Option Nat) (K : Post3) (t : Fr) (m : Mem) : wpM E 18 45 rd c_sheafref12_Compare_5 K t m = wpM E 18 45 rd (.seq (.ops [⟨(some 16), .indexAddr 24 (.tmp 12) (.tmp 14), none⟩,
    ⟨(some 17), .load 3 (.tmp 16), none⟩,
    ⟨(some 8), .assign (.tmp 17), none⟩]) c_sheafref12_Compare_4) K t m := rfl

def c_sheafref12_Compare_6 : MC := (.block 1 c_sheafref12_Compare_5)
@[go_sem] theorem c_sheafref12_Compare_6_at (rd : Option Nat) (K : Post3) (t : Fr) (m : Mem) : wpM E 18 45 rd c_sheafref12_Compare_6 K t m = wpM E 18 45 rd (.block 1 c_sheafref12_Compare_5) K t m := rfl

def c_sheafref12_Compare_7 : MC := (.seq c_sheafref12_Compare_6 (.ops [⟨(some 25), .binOp .add 3 (.tmp 14) (.const (.int .i64 1)) 3, none⟩,
    ⟨(some 14), .move (.tmp 25), none⟩]))
@[go_sem] theorem c_sheafref12_Compare_7_at (rd : Option Nat) (K : Post3) (t : Fr) (m : Mem) : wpM E 18 45 rd c_sheafref12_Compare_7 K t m = wpM E 18 45 rd (.seq c_sheafref12_Compare_6 (.ops [⟨(some 25), .binOp .add 3 (.tmp 14) (.const (.int .i64 1)) 3, none⟩,
    ⟨(some 14), .move (.tmp 25), none⟩])) K t m := rfl

def c_sheafref12_Compare_8 : MC := (.seq c_sheafref12_Compare_0 c_sheafref12_Compare_7)
@[go_sem] theorem c_sheafref12_Compare_8_at (rd : Option Nat) (K : Post3) (t : Fr) (m : Mem) : wpM E 18 45 rd c_sheafref12_Compare_8 K t m = wpM E 18 45 rd (.seq c_sheafref12_Compare_0 c_sheafref12_Compare_7) K t m := rfl

def c_sheafref12_Compare_9 : MC := (.seq (.ops [⟨(some 15), .binOp .lss 3 (.tmp 14) (.tmp 13) 3, none⟩]) c_sheafref12_Compare_8)
@[go_sem] theorem c_sheafref12_Compare_9_at (rd : Option Nat) (K : Post3) (t : Fr) (m : Mem) : wpM E 18 45 rd c_sheafref12_Compare_9 K t m = wpM E 18 45 rd (.seq (.ops [⟨(some 15), .binOp .lss 3 (.tmp 14) (.tmp 13) 3, none⟩]) c_sheafref12_Compare_8) K t m := rfl

def c_sheafref12_Compare_10 : MC := (.loop c_sheafref12_Compare_9)
theorem c_sheafref12_Compare_10_at (rd : Option Nat) (K : Post3) (t : Fr) (m : Mem) : wpM E 18 45 rd c_sheafref12_Compare_10 K t m = wpM E 18 45 rd (.loop c_sheafref12_Compare_9) K t m := rfl

def c_sheafref12_Compare_11 : MC := (.block 0 c_sheafref12_Compare_10)
theorem c_sheafref12_Compare_11_at (rd : Option Nat) (K : Post3) (t : Fr) (m : Mem) : wpM E 18 45 rd c_sheafref12_Compare_11 K t m = wpM E 18 45 rd (.block 0 c_sheafref12_Compare_10) K t m := rfl

def c_sheafref12_Compare_12 : MC := (.seq (.ops [⟨(some 12), .move (.tmp 2), none⟩,
    ⟨(some 13), .call ⟨.builtin .len, #[(.tmp 12)], #[24]⟩, none⟩,
    ⟨(some 14), .move (.const (.int .i64 0)), none⟩]) c_sheafref12_Compare_11)
@[go_sem] theorem c_sheafref12_Compare_12_at (rd : Option Nat) (K : Post3) (t : Fr) (m : Mem) : wpM E 18 45 rd c_sheafref12_Compare_12 K t m = wpM E 18 45 rd (.seq (.ops [⟨(some 12), .move (.tmp 2), none⟩,
    ⟨(some 13), .call ⟨.builtin .len, #[(.tmp 12)], #[24]⟩, none⟩,
    ⟨(some 14), .move (.const (.int .i64 0)), none⟩]) c_sheafref12_Compare_11) K t m := rfl

def c_sheafref12_Compare_13 : MC := (.cond (.tmp 35) .skip (.exit 2))
@[go_sem] theorem c_sheafref12_Compare_13_at (rd : Option Nat) (K : Post3) (t : Fr) (m : Mem) : wpM E 18 45 rd c_sheafref12_Compare_13 K t m = wpM E 18 45 rd (.cond (.tmp 35) .skip (.exit 2)) K t m := rfl

def c_sheafref12_Compare_14 : MC := (.seq (.ops [⟨(some 26), .move (.tmp 10), none⟩,
    ⟨(some 27), .move (.tmp 0), none⟩,
    ⟨(some 28), .call ⟨.builtin .len, #[(.tmp 27)], #[24]⟩, none⟩,
    ⟨(some 29), .binOp .lss 3 (.tmp 26) (.tmp 28) 3, none⟩,
    ⟨(some 30), .move (.tmp 29), none⟩,
    ⟨(some 31), .move (.tmp 10), (some (some 30, false))⟩,
    ⟨(some 32), .move (.tmp 1), (some (some 30, false))⟩,
    ⟨(some 33), .call ⟨.builtin .len, #[(.tmp 32)], #[24]⟩, (some (some 30, false))⟩,
    ⟨(some 34), .binOp .lss 3 (.tmp 31) (.tmp 33) 3, (some (some 30, false))⟩,
    ⟨(some 35), .pick (.tmp 30) (.const (.bool true)) (.tmp 34), none⟩]) c_sheafref12_Compare_13)
@[go_sem] theorem c_sheafref12_Compare_14_at (rd : Option Nat) (K : Post3) (t : Fr) (m : Mem) : wpM E 18 45 rd c_sheafref12_Compare_14 K t m = wpM E 18 45 rd (.seq (.ops [⟨(some 26), .move (.tmp 10), none⟩,
    ⟨(some 27), .move (.tmp 0), none⟩,
    ⟨(some 28), .call ⟨.builtin .len, #[(.tmp 27)], #[24]⟩, none⟩,
    ⟨(some 29), .binOp .lss 3 (.tmp 26) (.tmp 28) 3, none⟩,
    ⟨(some 30), .move (.tmp 29), none⟩,
    ⟨(some 31), .move (.tmp 10), (some (some 30, false))⟩,
    ⟨(some 32), .move (.tmp 1), (some (some 30, false))⟩,
    ⟨(some 33), .call ⟨.builtin .len, #[(.tmp 32)], #[24]⟩, (some (some 30, false))⟩,
    ⟨(some 34), .binOp .lss 3 (.tmp 31) (.tmp 33) 3, (some (some 30, false))⟩,
    ⟨(some 35), .pick (.tmp 30) (.const (.bool true)) (.tmp 34), none⟩]) c_sheafref12_Compare_13) K t m := rfl

def c_sheafref12_Compare_15 : MC := (.seq (.ops [⟨(some 44), .move (.tmp 11), none⟩,
    ⟨(some 6), .assign (.tmp 44), none⟩]) .ret)
@[go_sem] theorem c_sheafref12_Compare_15_at (rd : Option Nat) (K : Post3) (t : Fr) (m : Mem) : wpM E 18 45 rd c_sheafref12_Compare_15 K t m = wpM E 18 45 rd (.seq (.ops [⟨(some 44), .move (.tmp 11), none⟩,
    ⟨(some 6), .assign (.tmp 44), none⟩]) .ret) K t m := rfl

def c_sheafref12_Compare_16 : MC := (.cond (.tmp 43) c_sheafref12_Compare_15 .skip)
@[go_sem] theorem c_sheafref12_Compare_16_at (rd : Option Nat) (K : Post3) (t : Fr) (m : Mem) : wpM E 18 45 rd c_sheafref12_Compare_16 K t m = wpM E 18 45 rd (.cond (.tmp 43) c_sheafref12_Compare_15 .skip) K t m := rfl

def c_sheafref12_Compare_17 : MC := (.seq (.ops [⟨(some 42), .move (.tmp 11), none⟩,
    ⟨(some 43), .binOp .neq 3 (.tmp 42) (.const (.int .i64 0)) 3, none⟩]) c_sheafref12_Compare_16)
@[go_sem] theorem c_sheafref12_Compare_17_at (rd : Option Nat) (K : Post3) (t : Fr) (m : Mem) : wpM E 18 45 rd c_sheafref12_Compare_17 K t m = wpM E 18 45 rd (.seq (.ops [⟨(some 42), .move (.tmp 11), none⟩,
    ⟨(some 43), .binOp .neq 3 (.tmp 42) (.const (.int .i64 0)) 3, none⟩]) c_sheafref12_Compare_16) K t m := rfl

def c_sheafref12_Compare_18 : MC := (.seq (.ops [⟨(some 38), .move (.tmp 0), none⟩,
    ⟨(some 39), .move (.tmp 1), none⟩,
    ⟨(some 40), .move (.tmp 10), none⟩,
    ⟨(some 41), .call ⟨.value (.func 25), #[(.tmp 38), (.tmp 39), (.tmp 40)], #[24, 24, 3]⟩, none⟩,
    ⟨(some 11), .assign (.tmp 41), none⟩]) c_sheafref12_Compare_17)
@[go_sem] theorem c_sheafref12_Compare_18_at (rd : Option Nat) (K : Post3) (t : Fr) (m : Mem) : wpM E 18 45 rd c_sheafref12_Compare_18 K t m = wpM E 18 45 rd (.seq (.ops [⟨(some 38), .move (.tmp 0), none⟩,
    ⟨(some 39), .move (.tmp 1), none⟩,
    ⟨(some 40), .move (.tmp 10), none⟩,
    ⟨(some 41), .call ⟨.value (.func 25), #[(.tmp 38), (.tmp 39), (.tmp 40)], #[24, 24, 3]⟩, none⟩,
    ⟨(some 11), .assign (.tmp 41), none⟩]) c_sheafref12_Compare_17) K t m := rfl

def c_sheafref12_Compare_19 : MC := (.block 3 c_sheafref12_Compare_18)
@[go_sem] theorem c_sheafref12_Compare_19_at (rd : Option Nat) (K : Post3) (t : Fr) (m : Mem) : wpM E 18 45 rd c_sheafref12_Compare_19 K t m = wpM E 18 45 rd (.block 3 c_sheafref12_Compare_18) K t m := rfl

def c_sheafref12_Compare_20 : MC := (.seq c_sheafref12_Compare_19 (.ops [⟨(some 36), .move (.tmp 10), none⟩,
    ⟨(some 37), .binOp .add 3 (.tmp 36) (.const (.int .i64 1)) 3, none⟩,
    ⟨(some 10), .assign (.tmp 37), none⟩]))
@[go_sem] theorem c_sheafref12_Compare_20_at (rd : Option Nat) (K : Post3) (t : Fr) (m : Mem) : wpM E 18 45 rd c_sheafref12_Compare_20 K t m = wpM E 18 45 rd (.seq c_sheafref12_Compare_19 (.ops [⟨(some 36), .move (.tmp 10), none⟩,
    ⟨(some 37), .binOp .add 3 (.tmp 36) (.const (.int .i64 1)) 3, none⟩,
    ⟨(some 10), .assign (.tmp 37), none⟩])) K t m := rfl

def c_sheafref12_Compare_21 : MC := (.seq c_sheafref12_Compare_14 c_sheafref12_Compare_20)
@[go_sem] theorem c_sheafref12_Compare_21_at (rd : Option Nat) (K : Post3) (t : Fr) (m : Mem) : wpM E 18 45 rd c_sheafref12_Compare_21 K t m = wpM E 18 45 rd (.seq c_sheafref12_Compare_14 c_sheafref12_Compare_20) K t m := rfl

def c_sheafref12_Compare_22 : MC := (.loop c_sheafref12_Compare_21)
theorem c_sheafref12_Compare_22_at (rd : Option Nat) (K : Post3) (t : Fr) (m : Mem) : wpM E 18 45 rd c_sheafref12_Compare_22 K t m = wpM E 18 45 rd (.loop c_sheafref12_Compare_21) K t m := rfl

def c_sheafref12_Compare_23 : MC := (.block 2 c_sheafref12_Compare_22)
theorem c_sheafref12_Compare_23_at (rd : Option Nat) (K : Post3) (t : Fr) (m : Mem) : wpM E 18 45 rd c_sheafref12_Compare_23 K t m = wpM E 18 45 rd (.block 2 c_sheafref12_Compare_22) K t m := rfl

def c_sheafref12_Compare_24 : MC := (.seq (.ops [⟨(some 10), .assign (.const (.int .i64 0)), none⟩]) c_sheafref12_Compare_23)
@[go_sem] theorem c_sheafref12_Compare_24_at (rd : Option Nat) (K : Post3) (t : Fr) (m : Mem) : wpM E 18 45 rd c_sheafref12_Compare_24 K t m = wpM E 18 45 rd (.seq (.ops [⟨(some 10), .assign (.const (.int .i64 0)), none⟩]) c_sheafref12_Compare_23) K t m := rfl

def c_sheafref12_Compare_25 : MC := (.seq (.ops [⟨(some 6), .assign (.const (.int .i64 0)), none⟩]) .ret)
@[go_sem] theorem c_sheafref12_Compare_25_at (rd : Option Nat) (K : Post3) (t : Fr) (m : Mem) : wpM E 18 45 rd c_sheafref12_Compare_25 K t m = wpM E 18 45 rd (.seq (.ops [⟨(some 6), .assign (.const (.int .i64 0)), none⟩]) .ret) K t m := rfl

def c_sheafref12_Compare_26 : MC := (.seq c_sheafref12_Compare_24 c_sheafref12_Compare_25)
@[go_sem] theorem c_sheafref12_Compare_26_at (rd : Option Nat) (K : Post3) (t : Fr) (m : Mem) : wpM E 18 45 rd c_sheafref12_Compare_26 K t m = wpM E 18 45 rd (.seq c_sheafref12_Compare_24 c_sheafref12_Compare_25) K t m := rfl

def c_sheafref12_Compare_27 : MC := (.seq c_sheafref12_Compare_12 c_sheafref12_Compare_26)
@[go_sem] theorem c_sheafref12_Compare_27_at (rd : Option Nat) (K : Post3) (t : Fr) (m : Mem) : wpM E 18 45 rd c_sheafref12_Compare_27 K t m = wpM E 18 45 rd (.seq c_sheafref12_Compare_12 c_sheafref12_Compare_26) K t m := rfl

def c_sheafref12_Compare_28 : MC := (.seq (.ops [⟨(some 6), .assign (.const (.int .i64 0)), none⟩]) c_sheafref12_Compare_27)
@[go_sem] theorem c_sheafref12_Compare_28_at (rd : Option Nat) (K : Post3) (t : Fr) (m : Mem) : wpM E 18 45 rd c_sheafref12_Compare_28 K t m = wpM E 18 45 rd (.seq (.ops [⟨(some 6), .assign (.const (.int .i64 0)), none⟩]) c_sheafref12_Compare_27) K t m := rfl

@[go_sem] theorem some18 : (E.fn 18).isSome = true := by kernel_rfl
set_option maxRecDepth 100000 in
theorem fn_sheafref12_Compare : FnIs E 18 45 [.tmp 6] c_sheafref12_Compare_28 := ⟨by kernel_rfl, by kernel_rfl⟩

/-! sheaf/sheafref12.zag -/
abbrev F_sheafref12_zag : FuncId := 23
def c_sheafref12_zag_0 : MC := (.seq (.ops [⟨(some 3), .move (.tmp 0), none⟩,
    ⟨(some 4), .binOp .shr 40 (.tmp 3) (.const (.int .u64 1)) 41, none⟩,
    ⟨(some 5), .convert 40 3 (.tmp 4), none⟩,
    ⟨(some 6), .move (.tmp 0), none⟩,
    ⟨(some 7), .binOp .and 40 (.tmp 6) (.const (.int .u64 1)) 40, none⟩,
    ⟨(some 8), .convert 40 3 (.tmp 7), none⟩,
    ⟨(some 9), .unOp .neg 3 (.tmp 8), none⟩,
    ⟨(some 10), .binOp .xor 3 (.tmp 5) (.tmp 9) 3, none⟩,
    ⟨(some 2), .assign (.tmp 10), none⟩]) .ret)
@[go_sem] theorem c_sheafref12_zag_0_at (rd : Option Nat) (K : Post3) (t : Fr) (m : Mem) : wpM E 23 11 rd c_sheafref12_zag_0 K t m = wpM E 23 11 rd (.seq (.ops [⟨(some 3), .move (.tmp 0), none⟩,
    ⟨(some 4), .binOp .shr 40 (.tmp 3) (.const (.int .u64 1)) 41, none⟩,
    ⟨(some 5), .convert 40 3 (.tmp 4), none⟩,
    ⟨(some 6), .move (.tmp 0), none⟩,
    ⟨(some 7), .binOp .and 40 (.tmp 6) (.const (.int .u64 1)) 40, none⟩,
    ⟨(some 8), .convert 40 3 (.tmp 7), none⟩,
    ⟨(some 9), .unOp .neg 3 (.tmp 8), none⟩,
    ⟨(some 10), .binOp .xor 3 (.tmp 5) (.tmp 9) 3, none⟩,
    ⟨(some 2), .assign (.tmp 10), none⟩]) .ret) K t m := rfl

def c_sheafref12_zag_1 : MC := (.seq (.ops [⟨(some 2), .assign (.const (.int .i64 0)), none⟩]) c_sheafref12_zag_0)
@[go_sem] theorem c_sheafref12_zag_1_at (rd : Option Nat) (K : Post3) (t : Fr) (m : Mem) : wpM E 23 11 rd c_sheafref12_zag_1 K t m = wpM E 23 11 rd (.seq (.ops [⟨(some 2), .assign (.const (.int .i64 0)), none⟩]) c_sheafref12_zag_0) K t m := rfl

@[go_sem] theorem some23 : (E.fn 23).isSome = true := by kernel_rfl
set_option maxRecDepth 100000 in
theorem fn_sheafref12_zag : FnIs E 23 11 [.tmp 2] c_sheafref12_zag_1 := ⟨by kernel_rfl, by kernel_rfl⟩

/-! sheaf/sheafref12.zig -/
abbrev F_sheafref12_zig : FuncId := 24
def c_sheafref12_zig_0 : MC := (.seq (.ops [⟨(some 3), .move (.tmp 0), none⟩,
    ⟨(some 4), .convert 3 40 (.tmp 3), none⟩,
    ⟨(some 5), .binOp .shl 40 (.tmp 4) (.const (.int .u64 1)) 41, none⟩,
    ⟨(some 6), .move (.tmp 0), none⟩,
    ⟨(some 7), .binOp .shr 3 (.tmp 6) (.const (.int .u64 63)) 41, none⟩,
    ⟨(some 8), .convert 3 40 (.tmp 7), none⟩,
    ⟨(some 9), .binOp .xor 40 (.tmp 5) (.tmp 8) 40, none⟩,
    ⟨(some 2), .assign (.tmp 9), none⟩]) .ret)
@[go_sem] theorem c_sheafref12_zig_0_at (rd : Option Nat) (K : Post3) (t : Fr) (m : Mem) : wpM E 24 10 rd c_sheafref12_zig_0 K t m = wpM E 24 10 rd (.seq (.ops [⟨(some 3), .move (.tmp 0), none⟩,
    ⟨(some 4), .convert 3 40 (.tmp 3), none⟩,
    ⟨(some 5), .binOp .shl 40 (.tmp 4) (.const (.int .u64 1)) 41, none⟩,
    ⟨(some 6), .move (.tmp 0), none⟩,
    ⟨(some 7), .binOp .shr 3 (.tmp 6) (.const (.int .u64 63)) 41, none⟩,
    ⟨(some 8), .convert 3 40 (.tmp 7), none⟩,
    ⟨(some 9), .binOp .xor 40 (.tmp 5) (.tmp 8) 40, none⟩,
    ⟨(some 2), .assign (.tmp 9), none⟩]) .ret) K t m := rfl

def c_sheafref12_zig_1 : MC := (.seq (.ops [⟨(some 2), .assign (.const (.int .u64 0)), none⟩]) c_sheafref12_zig_0)
@[go_sem] theorem c_sheafref12_zig_1_at (rd : Option Nat) (K : Post3) (t : Fr) (m : Mem) : wpM E 24 10 rd c_sheafref12_zig_1 K t m = wpM E 24 10 rd (.seq (.ops [⟨(some 2), .assign (.const (.int .u64 0)), none⟩]) c_sheafref12_zig_0) K t m := rfl

@[go_sem] theorem some24 : (E.fn 24).isSome = true := by kernel_rfl
set_option maxRecDepth 100000 in
theorem fn_sheafref12_zig : FnIs E 24 10 [.tmp 2] c_sheafref12_zig_1 := ⟨by kernel_rfl, by kernel_rfl⟩

/-! sheaf/sheafref12.column -/
abbrev F_sheafref12_column : FuncId := 25
def c_sheafref12_column_0 : MC := (.seq (.ops [⟨(some 6), .assign (.const (.int .i64 0)), none⟩]) .ret)
@[go_sem] theorem c_sheafref12_column_0_at (rd : Option Nat) (K : Post3) (t : Fr) (m : Mem) : wpM E 25 63 rd c_sheafref12_column_0 K t m = wpM E 25 63 rd (.seq (.ops [⟨(some 6), .assign (.const (.int .i64 0)), none⟩]) .ret) K t m := rfl

def c_sheafref12_column_1 : MC := (.seq (.ops [⟨(some 6), .assign (.const (.int .i64 (-1))), none⟩]) .ret)
@[go_sem] theorem c_sheafref12_column_1_at (rd : Option Nat) (K : Post3) (t : Fr) (m : Mem) : wpM E 25 63 rd c_sheafref12_column_1 K t m = wpM E 25 63 rd (.seq (.ops [⟨(some 6), .assign (.const (.int .i64 (-1))), none⟩]) .ret) K t m := rfl

def c_sheafref12_column_2 : MC := (.seq (.ops [⟨(some 6), .assign (.const (.int .i64 1)), none⟩]) .ret)
@[go_sem] theorem c_sheafref12_column_2_at (rd : Option Nat) (K : Post3) (t : Fr) (m : Mem) : wpM E 25 63 rd c_sheafref12_column_2 K t m = wpM E 25 63 rd (.seq (.ops [⟨(some 6), .assign (.const (.int .i64 1)), none⟩]) .ret) K t m := rfl

def c_sheafref12_column_3 : MC := (.cond (.tmp 49) c_sheafref12_column_2 .skip)
@[go_sem] theorem c_sheafref12_column_3_at (rd : Option Nat) (K : Post3) (t : Fr) (m : Mem) : wpM E 25 63 rd c_sheafref12_column_3 K t m = wpM E 25 63 rd (.cond (.tmp 49) c_sheafref12_column_2 .skip) K t m := rfl

def c_sheafref12_column_4 : MC := (.seq (.ops [⟨(some 50), .move (.tmp 8), none⟩,
    ⟨(some 51), .unOp .not 4 (.tmp 50), none⟩,
    ⟨(some 52), .move (.tmp 51), none⟩,
    ⟨(some 53), .move (.tmp 0), (some (some 52, false))⟩,
    ⟨(some 54), .move (.tmp 2), (some (some 52, false))⟩,
    ⟨(some 55), .indexAddr 24 (.tmp 53) (.tmp 54), (some (some 52, false))⟩,
    ⟨(some 56), .load 3 (.tmp 55), (some (some 52, false))⟩,
    ⟨(some 57), .move (.tmp 1), (some (some 52, false))⟩,
    ⟨(some 58), .move (.tmp 2), (some (some 52, false))⟩,
    ⟨(some 59), .indexAddr 24 (.tmp 57) (.tmp 58), (some (some 52, false))⟩,
    ⟨(some 60), .load 3 (.tmp 59), (some (some 52, false))⟩,
    ⟨(some 61), .binOp .gtr 3 (.tmp 56) (.tmp 60) 3, (some (some 52, false))⟩,
    ⟨(some 62), .pick (.tmp 52) (.const (.bool true)) (.tmp 61), none⟩,
    ⟨(some 49), .assign (.tmp 62), none⟩]) c_sheafref12_column_3)
@[go_sem] theorem c_sheafref12_column_4_at (rd : Option Nat) (K : Post3) (t : Fr) (m : Mem) : wpM E 25 63 rd c_sheafref12_column_4 K t m = wpM E 25 63 rd (.seq (.ops [⟨(some 50), .move (.tmp 8), none⟩,
    ⟨(some 51), .unOp .not 4 (.tmp 50), none⟩,
    ⟨(some 52), .move (.tmp 51), none⟩,
    ⟨(some 53), .move (.tmp 0), (some (some 52, false))⟩,
    ⟨(some 54), .move (.tmp 2), (some (some 52, false))⟩,
    ⟨(some 55), .indexAddr 24 (.tmp 53) (.tmp 54), (some (some 52, false))⟩,
    ⟨(some 56), .load 3 (.tmp 55), (some (some 52, false))⟩,
    ⟨(some 57), .move (.tmp 1), (some (some 52, false))⟩,
    ⟨(some 58), .move (.tmp 2), (some (some 52, false))⟩,
    ⟨(some 59), .indexAddr 24 (.tmp 57) (.tmp 58), (some (some 52, false))⟩,
    ⟨(some 60), .load 3 (.tmp 59), (some (some 52, false))⟩,
    ⟨(some 61), .binOp .gtr 3 (.tmp 56) (.tmp 60) 3, (some (some 52, false))⟩,
    ⟨(some 62), .pick (.tmp 52) (.const (.bool true)) (.tmp 61), none⟩,
    ⟨(some 49), .assign (.tmp 62), none⟩]) c_sheafref12_column_3) K t m := rfl

def c_sheafref12_column_5 : MC := (.cond (.tmp 32) c_sheafref12_column_1 c_sheafref12_column_4)
@[go_sem] theorem c_sheafref12_column_5_at (rd : Option Nat) (K : Post3) (t : Fr) (m : Mem) : wpM E 25 63 rd c_sheafref12_column_5 K t m = wpM E 25 63 rd (.cond (.tmp 32) c_sheafref12_column_1 c_sheafref12_column_4) K t m := rfl

def c_sheafref12_column_6 : MC := (.seq (.ops [⟨(some 33), .move (.tmp 7), none⟩,
    ⟨(some 34), .unOp .not 4 (.tmp 33), none⟩,
    ⟨(some 35), .move (.tmp 34), none⟩,
    ⟨(some 36), .move (.tmp 8), (some (some 35, false))⟩,
    ⟨(some 37), .move (.tmp 36), (some (some 35, false))⟩,
    ⟨(some 38), .move (.tmp 0), (some (some 37, true))⟩,
    ⟨(some 39), .move (.tmp 2), (some (some 37, true))⟩,
    ⟨(some 40), .indexAddr 24 (.tmp 38) (.tmp 39), (some (some 37, true))⟩,
    ⟨(some 41), .load 3 (.tmp 40), (some (some 37, true))⟩,
    ⟨(some 42), .move (.tmp 1), (some (some 37, true))⟩,
    ⟨(some 43), .move (.tmp 2), (some (some 37, true))⟩,
    ⟨(some 44), .indexAddr 24 (.tmp 42) (.tmp 43), (some (some 37, true))⟩,
    ⟨(some 45), .load 3 (.tmp 44), (some (some 37, true))⟩,
    ⟨(some 46), .binOp .lss 3 (.tmp 41) (.tmp 45) 3, (some (some 37, true))⟩,
    ⟨(some 47), .pick (.tmp 37) (.tmp 46) (.const (.bool false)), (some (some 35, false))⟩,
    ⟨(some 48), .pick (.tmp 35) (.const (.bool true)) (.tmp 47), none⟩,
    ⟨(some 32), .assign (.tmp 48), none⟩]) c_sheafref12_column_5)
@[go_sem] theorem c_sheafref12_column_6_at (rd : Option Nat) (K : Post3) (t : Fr) (m : Mem) : wpM E 25 63 rd c_sheafref12_column_6 K t m = wpM E 25 63 rd (.seq (.ops [⟨(some 33), .move (.tmp 7), none⟩,
    ⟨(some 34), .unOp .not 4 (.tmp 33), none⟩,
    ⟨(some 35), .move (.tmp 34), none⟩,
    ⟨(some 36), .move (.tmp 8), (some (some 35, false))⟩,
    ⟨(some 37), .move (.tmp 36), (some (some 35, false))⟩,
    ⟨(some 38), .move (.tmp 0), (some (some 37, true))⟩,
    ⟨(some 39), .move (.tmp 2), (some (some 37, true))⟩,
    ⟨(some 40), .indexAddr 24 (.tmp 38) (.tmp 39), (some (some 37, true))⟩,
    ⟨(some 41), .load 3 (.tmp 40), (some (some 37, true))⟩,
    ⟨(some 42), .move (.tmp 1), (some (some 37, true))⟩,
    ⟨(some 43), .move (.tmp 2), (some (some 37, true))⟩,
    ⟨(some 44), .indexAddr 24 (.tmp 42) (.tmp 43), (some (some 37, true))⟩,
    ⟨(some 45), .load 3 (.tmp 44), (some (some 37, true))⟩,
    ⟨(some 46), .binOp .lss 3 (.tmp 41) (.tmp 45) 3, (some (some 37, true))⟩,
    ⟨(some 47), .pick (.tmp 37) (.tmp 46) (.const (.bool false)), (some (some 35, false))⟩,
    ⟨(some 48), .pick (.tmp 35) (.const (.bool true)) (.tmp 47), none⟩,
    ⟨(some 32), .assign (.tmp 48), none⟩]) c_sheafref12_column_5) K t m := rfl

def c_sheafref12_column_7 : MC := (.cond (.tmp 25) c_sheafref12_column_0 c_sheafref12_column_6)
@[go_sem] theorem c_sheafref12_column_7_at (rd : Option Nat) (K : Post3) (t : Fr) (m : Mem) : wpM E 25 63 rd c_sheafref12_column_7 K t m = wpM E 25 63 rd (.cond (.tmp 25) c_sheafref12_column_0 c_sheafref12_column_6) K t m := rfl

def c_sheafref12_column_8 : MC := (.seq (.ops [⟨(some 26), .move (.tmp 7), none⟩,
    ⟨(some 27), .unOp .not 4 (.tmp 26), none⟩,
    ⟨(some 28), .move (.tmp 27), none⟩,
    ⟨(some 29), .move (.tmp 8), (some (some 28, true))⟩,
    ⟨(some 30), .unOp .not 4 (.tmp 29), (some (some 28, true))⟩,
    ⟨(some 31), .pick (.tmp 28) (.tmp 30) (.const (.bool false)), none⟩,
    ⟨(some 25), .assign (.tmp 31), none⟩]) c_sheafref12_column_7)
@[go_sem] theorem c_sheafref12_column_8_at (rd : Option Nat) (K : Post3) (t : Fr) (m : Mem) : wpM E 25 63 rd c_sheafref12_column_8 K t m = wpM E 25 63 rd (.seq (.ops [⟨(some 26), .move (.tmp 7), none⟩,
    ⟨(some 27), .unOp .not 4 (.tmp 26), none⟩,
    ⟨(some 28), .move (.tmp 27), none⟩,
    ⟨(some 29), .move (.tmp 8), (some (some 28, true))⟩,
    ⟨(some 30), .unOp .not 4 (.tmp 29), (some (some 28, true))⟩,
    ⟨(some 31), .pick (.tmp 28) (.tmp 30) (.const (.bool false)), none⟩,
    ⟨(some 25), .assign (.tmp 31), none⟩]) c_sheafref12_column_7) K t m := rfl

def c_sheafref12_column_9 : MC := (.block 0 c_sheafref12_column_8)
@[go_sem] theorem c_sheafref12_column_9_at (rd : Option Nat) (K : Post3) (t : Fr) (m : Mem) : wpM E 25 63 rd c_sheafref12_column_9 K t m = wpM E 25 63 rd (.block 0 c_sheafref12_column_8) K t m := rfl

def c_sheafref12_column_10 : MC := (.seq (.ops [⟨(some 6), .assign (.const (.int .i64 0)), none⟩]) .ret)
@[go_sem] theorem c_sheafref12_column_10_at (rd : Option Nat) (K : Post3) (t : Fr) (m : Mem) : wpM E 25 63 rd c_sheafref12_column_10 K t m = wpM E 25 63 rd (.seq (.ops [⟨(some 6), .assign (.const (.int .i64 0)), none⟩]) .ret) K t m := rfl

def c_sheafref12_column_11 : MC := (.seq c_sheafref12_column_9 c_sheafref12_column_10)
@[go_sem] theorem c_sheafref12_column_11_at (rd : Option Nat) (K : Post3) (t : Fr) (m : Mem) : wpM E 25 63 rd c_sheafref12_column_11 K t m = wpM E 25 63 rd (.seq c_sheafref12_column_9 c_sheafref12_column_10) K t m := rfl

def c_sheafref12_column_12 : MC := (.seq (.ops [⟨(some 9), .move (.tmp 2), none⟩,
    ⟨(some 10), .binOp .geq 3 (.tmp 9) (.const (.int .i64 0)) 3, none⟩,
    ⟨(some 11), .move (.tmp 10), none⟩,
    ⟨(some 12), .move (.tmp 2), (some (some 11, true))⟩,
    ⟨(some 13), .move (.tmp 0), (some (some 11, true))⟩,
    ⟨(some 14), .call ⟨.builtin .len, #[(.tmp 13)], #[24]⟩, (some (some 11, true))⟩,
    ⟨(some 15), .binOp .lss 3 (.tmp 12) (.tmp 14) 3, (some (some 11, true))⟩,
    ⟨(some 16), .pick (.tmp 11) (.tmp 15) (.const (.bool false)), none⟩,
    ⟨(some 17), .move (.tmp 2), none⟩,
    ⟨(some 18), .binOp .geq 3 (.tmp 17) (.const (.int .i64 0)) 3, none⟩,
    ⟨(some 19), .move (.tmp 18), none⟩,
    ⟨(some 20), .move (.tmp 2), (some (some 19, true))⟩,
    ⟨(some 21), .move (.tmp 1), (some (some 19, true))⟩,
    ⟨(some 22), .call ⟨.builtin .len, #[(.tmp 21)], #[24]⟩, (some (some 19, true))⟩,
    ⟨(some 23), .binOp .lss 3 (.tmp 20) (.tmp 22) 3, (some (some 19, true))⟩,
    ⟨(some 24), .pick (.tmp 19) (.tmp 23) (.const (.bool false)), none⟩,
    ⟨(some 7), .assign (.tmp 16), none⟩,
    ⟨(some 8), .assign (.tmp 24), none⟩]) c_sheafref12_column_11)
@[go_sem] theorem c_sheafref12_column_12_at (rd : Option Nat) (K : Post3) (t : Fr) (m : Mem) : wpM E 25 63 rd c_sheafref12_column_12 K t m = wpM E 25 63 rd (.seq (.ops [⟨(some 9), .move (.tmp 2), none⟩,
    ⟨(some 10), .binOp .geq 3 (.tmp 9) (.const (.int .i64 0)) 3, none⟩,
    ⟨(some 11), .move (.tmp 10), none⟩,
    ⟨(some 12), .move (.tmp 2), (some (some 11, true))⟩,
    ⟨(some 13), .move (.tmp 0), (some (some 11, true))⟩,
    ⟨(some 14), .call ⟨.builtin .len, #[(.tmp 13)], #[24]⟩, (some (some 11, true))⟩,
    ⟨(some 15), .binOp .lss 3 (.tmp 12) (.tmp 14) 3, (some (some 11, true))⟩,
    ⟨(some 16), .pick (.tmp 11) (.tmp 15) (.const (.bool false)), none⟩,
    ⟨(some 17), .move (.tmp 2), none⟩,
    ⟨(some 18), .binOp .geq 3 (.tmp 17) (.const (.int .i64 0)) 3, none⟩,
    ⟨(some 19), .move (.tmp 18), none⟩,
    ⟨(some 20), .move (.tmp 2), (some (some 19, true))⟩,
    ⟨(some 21), .move (.tmp 1), (some (some 19, true))⟩,
    ⟨(some 22), .call ⟨.builtin .len, #[(.tmp 21)], #[24]⟩, (some (some 19, true))⟩,
    ⟨(some 23), .binOp .lss 3 (.tmp 20) (.tmp 22) 3, (some (some 19, true))⟩,
    ⟨(some 24), .pick (.tmp 19) (.tmp 23) (.const (.bool false)), none⟩,
    ⟨(some 7), .assign (.tmp 16), none⟩,
    ⟨(some 8), .assign (.tmp 24), none⟩]) c_sheafref12_column_11) K t m := rfl

def c_sheafref12_column_13 : MC := (.seq (.ops [⟨(some 6), .assign (.const (.int .i64 0)), none⟩]) c_sheafref12_column_12)
@[go_sem] theorem c_sheafref12_column_13_at (rd : Option Nat) (K : Post3) (t : Fr) (m : Mem) : wpM E 25 63 rd c_sheafref12_column_13 K t m = wpM E 25 63 rd (.seq (.ops [⟨(some 6), .assign (.const (.int .i64 0)), none⟩]) c_sheafref12_column_12) K t m := rfl

@[go_sem] theorem some25 : (E.fn 25).isSome = true := by kernel_rfl
set_option maxRecDepth 100000 in
theorem fn_sheafref12_column : FnIs E 25 63 [.tmp 6] c_sheafref12_column_13 := ⟨by kernel_rfl, by kernel_rfl⟩

end Go.Proofs.Ytkbjkmhmkefckaa.W
