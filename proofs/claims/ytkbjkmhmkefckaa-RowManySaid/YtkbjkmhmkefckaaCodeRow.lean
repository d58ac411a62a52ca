/-
  Compact code, printed by a program of mine (wip/dev/AbsPrint.lean).
-/
import Derived.Test.YtkbjkmhmkefckaaTypes
set_option linter.unusedVariables false
namespace Go.Proofs.Ytkbjkmhmkefckaa.W
open Go.Abs

/-! sheaf/row.Put -/
abbrev F_row_Put : FuncId := 9
def c_row_Put_0 : MC := (.seq (.ops [⟨(some 2), .assign (.const (.slice none 0 0)), none⟩]) .ret)
@[go_sem] theorem c_row_Put_0_at (rd : Option Nat) (K : Post3) (t : Fr) (m : Mem) : wpM E 9 48 rd c_row_Put_0 K t m = wpM E 9 48 rd (.seq (.ops [⟨(some 2), .assign (.const (.slice none 0 0)), none⟩]) .ret) K t m := rfl

def c_row_Put_1 : MC := (.cond (.tmp 9) c_row_Put_0 .skip)
@[go_sem] theorem c_row_Put_1_at (rd : Option Nat) (K : Post3) (t : Fr) (m : Mem) : wpM E 9 48 rd c_row_Put_1 K t m = wpM E 9 48 rd (.cond (.tmp 9) c_row_Put_0 .skip) K t m := rfl

def c_row_Put_2 : MC := (.seq (.ops [⟨(some 7), .move (.tmp 0), none⟩,
    ⟨(some 8), .call ⟨.builtin .len, #[(.tmp 7)], #[24]⟩, none⟩,
    ⟨(some 9), .binOp .gtr 3 (.tmp 8) (.const (.int .i64 10)) 3, none⟩]) c_row_Put_1)
@[go_sem] theorem c_row_Put_2_at (rd : Option Nat) (K : Post3) (t : Fr) (m : Mem) : wpM E 9 48 rd c_row_Put_2 K t m = wpM E 9 48 rd (.seq (.ops [⟨(some 7), .move (.tmp 0), none⟩,
    ⟨(some 8), .call ⟨.builtin .len, #[(.tmp 7)], #[24]⟩, none⟩,
    ⟨(some 9), .binOp .gtr 3 (.tmp 8) (.const (.int .i64 10)) 3, none⟩]) c_row_Put_1) K t m := rfl

def c_row_Put_3 : MC := (.cond (.tmp 14) .skip (.exit 0))
@[go_sem] theorem c_row_Put_3_at (rd : Option Nat) (K : Post3) (t : Fr) (m : Mem) : wpM E 9 48 rd c_row_Put_3 K t m = wpM E 9 48 rd (.cond (.tmp 14) .skip (.exit 0)) K t m := rfl

def c_row_Put_4 : MC := (.cond (.tmp 21) (.ops [⟨(some 22), .move (.tmp 6), none⟩,
    ⟨(some 23), .unOp .xor 40 (.tmp 22), none⟩,
    ⟨(some 6), .assign (.tmp 23), none⟩]) .skip)
@[go_sem] theorem c_row_Put_4_at (rd : Option Nat) (K : Post3) (t : Fr) (m : Mem) : wpM E 9 48 rd c_row_Put_4 K t m = wpM E 9 48 rd (.cond (.tmp 21) (.ops [⟨(some 22), .move (.tmp 6), none⟩,
    ⟨(some 23), .unOp .xor 40 (.tmp 22), none⟩,
    ⟨(some 6), .assign (.tmp 23), none⟩]) .skip) K t m := rfl

def c_row_Put_5 : MC := (.seq (.ops [⟨(some 20), .move (.tmp 5), none⟩,
    ⟨(some 21), .binOp .lss 3 (.tmp 20) (.const (.int .i64 0)) 3, none⟩]) c_row_Put_4)
@[go_sem] theorem c_row_Put_5_at (rd : Option Nat) (K : Post3) (t : Fr) (m : Mem) : wpM E 9 48 rd c_row_Put_5 K t m = wpM E 9 48 rd (.seq (.ops [⟨(some 20), .move (.tmp 5), none⟩,
    ⟨(some 21), .binOp .lss 3 (.tmp 20) (.const (.int .i64 0)) 3, none⟩]) c_row_Put_4) K t m := rfl

def c_row_Put_6 : MC := (.cond (.tmp 25) .skip (.exit 2))
@[go_sem] theorem c_row_Put_6_at (rd : Option Nat) (K : Post3) (t : Fr) (m : Mem) : wpM E 9 48 rd c_row_Put_6 K t m = wpM E 9 48 rd (.cond (.tmp 25) .skip (.exit 2)) K t m := rfl

def c_row_Put_7 : MC := (.seq (.ops [⟨(some 24), .move (.tmp 6), none⟩,
    ⟨(some 25), .binOp .geq 40 (.tmp 24) (.const (.int .u64 128)) 40, none⟩]) c_row_Put_6)
@[go_sem] theorem c_row_Put_7_at (rd : Option Nat) (K : Post3) (t : Fr) (m : Mem) : wpM E 9 48 rd c_row_Put_7 K t m = wpM E 9 48 rd (.seq (.ops [⟨(some 24), .move (.tmp 6), none⟩,
    ⟨(some 25), .binOp .geq 40 (.tmp 24) (.const (.int .u64 128)) 40, none⟩]) c_row_Put_6) K t m := rfl

def c_row_Put_8 : MC := (.block 3 (.ops [⟨(some 28), .move (.tmp 3), none⟩,
    ⟨(some 29), .move (.tmp 6), none⟩,
    ⟨(some 30), .binOp .rem 40 (.tmp 29) (.const (.int .u64 128)) 40, none⟩,
    ⟨(some 31), .binOp .add 40 (.tmp 30) (.const (.int .u64 128)) 40, none⟩,
    ⟨(some 32), .convert 40 5 (.tmp 31), none⟩,
    ⟨(some 33), .buildSlice 22 1 #[(0, (.tmp 32))], none⟩,
    ⟨(some 34), .call ⟨.builtin .append, #[(.tmp 28), (.tmp 33)], #[22, 22]⟩, none⟩,
    ⟨(some 3), .assign (.tmp 34), none⟩]))
@[go_sem] theorem c_row_Put_8_at (rd : Option Nat) (K : Post3) (t : Fr) (m : Mem) : wpM E 9 48 rd c_row_Put_8 K t m = wpM E 9 48 rd (.block 3 (.ops [⟨(some 28), .move (.tmp 3), none⟩,
    ⟨(some 29), .move (.tmp 6), none⟩,
    ⟨(some 30), .binOp .rem 40 (.tmp 29) (.const (.int .u64 128)) 40, none⟩,
    ⟨(some 31), .binOp .add 40 (.tmp 30) (.const (.int .u64 128)) 40, none⟩,
    ⟨(some 32), .convert 40 5 (.tmp 31), none⟩,
    ⟨(some 33), .buildSlice 22 1 #[(0, (.tmp 32))], none⟩,
    ⟨(some 34), .call ⟨.builtin .append, #[(.tmp 28), (.tmp 33)], #[22, 22]⟩, none⟩,
    ⟨(some 3), .assign (.tmp 34), none⟩])) K t m := rfl

def c_row_Put_9 : MC := (.seq c_row_Put_8 (.ops [⟨(some 26), .move (.tmp 6), none⟩,
    ⟨(some 27), .binOp .shr 40 (.tmp 26) (.const (.int .u64 7)) 41, none⟩,
    ⟨(some 6), .assign (.tmp 27), none⟩]))
@[go_sem] theorem c_row_Put_9_at (rd : Option Nat) (K : Post3) (t : Fr) (m : Mem) : wpM E 9 48 rd c_row_Put_9 K t m = wpM E 9 48 rd (.seq c_row_Put_8 (.ops [⟨(some 26), .move (.tmp 6), none⟩,
    ⟨(some 27), .binOp .shr 40 (.tmp 26) (.const (.int .u64 7)) 41, none⟩,
    ⟨(some 6), .assign (.tmp 27), none⟩])) K t m := rfl

def c_row_Put_10 : MC := (.seq c_row_Put_7 c_row_Put_9)
@[go_sem] theorem c_row_Put_10_at (rd : Option Nat) (K : Post3) (t : Fr) (m : Mem) : wpM E 9 48 rd c_row_Put_10 K t m = wpM E 9 48 rd (.seq c_row_Put_7 c_row_Put_9) K t m := rfl

def c_row_Put_11 : MC := (.loop c_row_Put_10)
theorem c_row_Put_11_at (rd : Option Nat) (K : Post3) (t : Fr) (m : Mem) : wpM E 9 48 rd c_row_Put_11 K t m = wpM E 9 48 rd (.loop c_row_Put_10) K t m := rfl

def c_row_Put_12 : MC := (.block 2 c_row_Put_11)
theorem c_row_Put_12_at (rd : Option Nat) (K : Post3) (t : Fr) (m : Mem) : wpM E 9 48 rd c_row_Put_12 K t m = wpM E 9 48 rd (.block 2 c_row_Put_11) K t m := rfl

def c_row_Put_13 : MC := (.seq c_row_Put_12 (.ops [⟨(some 35), .move (.tmp 3), none⟩,
    ⟨(some 36), .move (.tmp 6), none⟩,
    ⟨(some 37), .convert 40 5 (.tmp 36), none⟩,
    ⟨(some 38), .buildSlice 22 1 #[(0, (.tmp 37))], none⟩,
    ⟨(some 39), .call ⟨.builtin .append, #[(.tmp 35), (.tmp 38)], #[22, 22]⟩, none⟩,
    ⟨(some 3), .assign (.tmp 39), none⟩]))
@[go_sem] theorem c_row_Put_13_at (rd : Option Nat) (K : Post3) (t : Fr) (m : Mem) : wpM E 9 48 rd c_row_Put_13 K t m = wpM E 9 48 rd (.seq c_row_Put_12 (.ops [⟨(some 35), .move (.tmp 3), none⟩,
    ⟨(some 36), .move (.tmp 6), none⟩,
    ⟨(some 37), .convert 40 5 (.tmp 36), none⟩,
    ⟨(some 38), .buildSlice 22 1 #[(0, (.tmp 37))], none⟩,
    ⟨(some 39), .call ⟨.builtin .append, #[(.tmp 35), (.tmp 38)], #[22, 22]⟩, none⟩,
    ⟨(some 3), .assign (.tmp 39), none⟩])) K t m := rfl

def c_row_Put_14 : MC := (.seq c_row_Put_5 c_row_Put_13)
@[go_sem] theorem c_row_Put_14_at (rd : Option Nat) (K : Post3) (t : Fr) (m : Mem) : wpM E 9 48 rd c_row_Put_14 K t m = wpM E 9 48 rd (.seq c_row_Put_5 c_row_Put_13) K t m := rfl

def c_row_Put_15 : MC := (.seq (.ops [⟨(some 17), .move (.tmp 5), none⟩,
    ⟨(some 18), .convert 3 40 (.tmp 17), none⟩,
    ⟨(some 19), .binOp .shl 40 (.tmp 18) (.const (.int .u64 1)) 41, none⟩,
    ⟨(some 6), .assign (.tmp 19), none⟩]) c_row_Put_14)
@[go_sem] theorem c_row_Put_15_at (rd : Option Nat) (K : Post3) (t : Fr) (m : Mem) : wpM E 9 48 rd c_row_Put_15 K t m = wpM E 9 48 rd (.seq (.ops [⟨(some 17), .move (.tmp 5), none⟩,
    ⟨(some 18), .convert 3 40 (.tmp 17), none⟩,
    ⟨(some 19), .binOp .shl 40 (.tmp 18) (.const (.int .u64 1)) 41, none⟩,
    ⟨(some 6), .assign (.tmp 19), none⟩]) c_row_Put_14) K t m := rfl

def c_row_Put_16 : MC := (.seq (.ops [⟨(some 15), .indexAddr 24 (.tmp 11) (.tmp 13), none⟩,
    ⟨(some 16), .load 3 (.tmp 15), none⟩,
    ⟨(some 5), .assign (.tmp 16), none⟩]) c_row_Put_15)
@[go_sem] theorem c_row_Put_16_at (rd : Option Nat) (K : Post3) (t : Fr) (m : Mem) : wpM E 9 48 rd c_row_Put_16 K t m = wpM E 9 48 rd (.seq (.ops [⟨(some 15), .indexAddr 24 (.tmp 11) (.tmp 13), none⟩,
    ⟨(some 16), .load 3 (.tmp 15), none⟩,
    ⟨(some 5), .assign (.tmp 16), none⟩]) c_row_Put_15) K t m := rfl

def c_row_Put_17 : MC := (.block 1 c_row_Put_16)
@[go_sem] theorem c_row_Put_17_at (rd : Option Nat) (K : Post3) (t : Fr) (m : Mem) : wpM E 9 48 rd c_row_Put_17 K t m = wpM E 9 48 rd (.block 1 c_row_Put_16) K t m := rfl

def c_row_Put_18 : MC := (.seq c_row_Put_17 (.ops [⟨(some 40), .binOp .add 3 (.tmp 13) (.const (.int .i64 1)) 3, none⟩,
    ⟨(some 13), .move (.tmp 40), none⟩]))
@[go_sem] theorem c_row_Put_18_at (rd : Option Nat) (K : Post3) (t : Fr) (m : Mem) : wpM E 9 48 rd c_row_Put_18 K t m = wpM E 9 48 rd (.seq c_row_Put_17 (.ops [⟨(some 40), .binOp .add 3 (.tmp 13) (.const (.int .i64 1)) 3, none⟩,
    ⟨(some 13), .move (.tmp 40), none⟩])) K t m := rfl

def c_row_Put_19 : MC := (.seq c_row_Put_3 c_row_Put_18)
@[go_sem] theorem c_row_Put_19_at (rd : Option Nat) (K : Post3) (t : Fr) (m : Mem) : wpM E 9 48 rd c_row_Put_19 K t m = wpM E 9 48 rd (.seq c_row_Put_3 c_row_Put_18) K t m := rfl

def c_row_Put_20 : MC := (.seq (.ops [⟨(some 14), .binOp .lss 3 (.tmp 13) (.tmp 12) 3, none⟩]) c_row_Put_19)
@[go_sem] theorem c_row_Put_20_at (rd : Option Nat) (K : Post3) (t : Fr) (m : Mem) : wpM E 9 48 rd c_row_Put_20 K t m = wpM E 9 48 rd (.seq (.ops [⟨(some 14), .binOp .lss 3 (.tmp 13) (.tmp 12) 3, none⟩]) c_row_Put_19) K t m := rfl

def c_row_Put_21 : MC := (.loop c_row_Put_20)
theorem c_row_Put_21_at (rd : Option Nat) (K : Post3) (t : Fr) (m : Mem) : wpM E 9 48 rd c_row_Put_21 K t m = wpM E 9 48 rd (.loop c_row_Put_20) K t m := rfl

def c_row_Put_22 : MC := (.block 0 c_row_Put_21)
theorem c_row_Put_22_at (rd : Option Nat) (K : Post3) (t : Fr) (m : Mem) : wpM E 9 48 rd c_row_Put_22 K t m = wpM E 9 48 rd (.block 0 c_row_Put_21) K t m := rfl

def c_row_Put_23 : MC := (.seq (.ops [⟨(some 11), .move (.tmp 0), none⟩,
    ⟨(some 12), .call ⟨.builtin .len, #[(.tmp 11)], #[24]⟩, none⟩,
    ⟨(some 13), .move (.const (.int .i64 0)), none⟩]) c_row_Put_22)
@[go_sem] theorem c_row_Put_23_at (rd : Option Nat) (K : Post3) (t : Fr) (m : Mem) : wpM E 9 48 rd c_row_Put_23 K t m = wpM E 9 48 rd (.seq (.ops [⟨(some 11), .move (.tmp 0), none⟩,
    ⟨(some 12), .call ⟨.builtin .len, #[(.tmp 11)], #[24]⟩, none⟩,
    ⟨(some 13), .move (.const (.int .i64 0)), none⟩]) c_row_Put_22) K t m := rfl

def c_row_Put_24 : MC := (.seq (.ops [⟨(some 47), .move (.tmp 3), none⟩,
    ⟨(some 2), .assign (.tmp 47), none⟩]) .ret)
@[go_sem] theorem c_row_Put_24_at (rd : Option Nat) (K : Post3) (t : Fr) (m : Mem) : wpM E 9 48 rd c_row_Put_24 K t m = wpM E 9 48 rd (.seq (.ops [⟨(some 47), .move (.tmp 3), none⟩,
    ⟨(some 2), .assign (.tmp 47), none⟩]) .ret) K t m := rfl

def c_row_Put_25 : MC := (.seq (.ops [⟨(some 41), .move (.tmp 3), none⟩,
    ⟨(some 42), .move (.tmp 3), none⟩,
    ⟨(some 43), .call ⟨.builtin .len, #[(.tmp 42)], #[22]⟩, none⟩,
    ⟨(some 44), .binOp .sub 3 (.tmp 43) (.const (.int .i64 1)) 3, none⟩,
    ⟨(some 45), .convert 3 5 (.tmp 44), none⟩,
    ⟨(some 46), .indexAddr 22 (.tmp 41) (.const (.int .i64 0)), none⟩,
    ⟨none, .store 5 (.tmp 46) (.tmp 45), none⟩]) c_row_Put_24)
@[go_sem] theorem c_row_Put_25_at (rd : Option Nat) (K : Post3) (t : Fr) (m : Mem) : wpM E 9 48 rd c_row_Put_25 K t m = wpM E 9 48 rd (.seq (.ops [⟨(some 41), .move (.tmp 3), none⟩,
    ⟨(some 42), .move (.tmp 3), none⟩,
    ⟨(some 43), .call ⟨.builtin .len, #[(.tmp 42)], #[22]⟩, none⟩,
    ⟨(some 44), .binOp .sub 3 (.tmp 43) (.const (.int .i64 1)) 3, none⟩,
    ⟨(some 45), .convert 3 5 (.tmp 44), none⟩,
    ⟨(some 46), .indexAddr 22 (.tmp 41) (.const (.int .i64 0)), none⟩,
    ⟨none, .store 5 (.tmp 46) (.tmp 45), none⟩]) c_row_Put_24) K t m := rfl

def c_row_Put_26 : MC := (.seq c_row_Put_23 c_row_Put_25)
@[go_sem] theorem c_row_Put_26_at (rd : Option Nat) (K : Post3) (t : Fr) (m : Mem) : wpM E 9 48 rd c_row_Put_26 K t m = wpM E 9 48 rd (.seq c_row_Put_23 c_row_Put_25) K t m := rfl

def c_row_Put_27 : MC := (.seq (.ops [⟨(some 10), .buildSlice 22 1 #[(0, (.const (.int .u8 0)))], none⟩,
    ⟨(some 3), .assign (.tmp 10), none⟩]) c_row_Put_26)
@[go_sem] theorem c_row_Put_27_at (rd : Option Nat) (K : Post3) (t : Fr) (m : Mem) : wpM E 9 48 rd c_row_Put_27 K t m = wpM E 9 48 rd (.seq (.ops [⟨(some 10), .buildSlice 22 1 #[(0, (.const (.int .u8 0)))], none⟩,
    ⟨(some 3), .assign (.tmp 10), none⟩]) c_row_Put_26) K t m := rfl

def c_row_Put_28 : MC := (.seq c_row_Put_2 c_row_Put_27)
@[go_sem] theorem c_row_Put_28_at (rd : Option Nat) (K : Post3) (t : Fr) (m : Mem) : wpM E 9 48 rd c_row_Put_28 K t m = wpM E 9 48 rd (.seq c_row_Put_2 c_row_Put_27) K t m := rfl

def c_row_Put_29 : MC := (.seq (.ops [⟨(some 2), .assign (.const (.slice none 0 0)), none⟩]) c_row_Put_28)
@[go_sem] theorem c_row_Put_29_at (rd : Option Nat) (K : Post3) (t : Fr) (m : Mem) : wpM E 9 48 rd c_row_Put_29 K t m = wpM E 9 48 rd (.seq (.ops [⟨(some 2), .assign (.const (.slice none 0 0)), none⟩]) c_row_Put_28) K t m := rfl

@[go_sem] theorem some9 : (E.fn 9).isSome = true := by kernel_rfl
set_option maxRecDepth 100000 in
theorem fn_row_Put : FnIs E 9 48 [.tmp 2] c_row_Put_29 := ⟨by kernel_rfl, by kernel_rfl⟩

/-! sheaf/row.Get -/
abbrev F_row_Get : FuncId := 10
def c_row_Get_0 : MC := (.seq (.ops [⟨(some 2), .assign (.const (.slice none 0 0)), none⟩,
    ⟨(some 3), .assign (.const (.int .i64 0)), none⟩]) .ret)
@[go_sem] theorem c_row_Get_0_at (rd : Option Nat) (K : Post3) (t : Fr) (m : Mem) : wpM E 10 55 rd c_row_Get_0 K t m = wpM E 10 55 rd (.seq (.ops [⟨(some 2), .assign (.const (.slice none 0 0)), none⟩,
    ⟨(some 3), .assign (.const (.int .i64 0)), none⟩]) .ret) K t m := rfl

def c_row_Get_1 : MC := (.cond (.tmp 21) c_row_Get_0 .skip)
@[go_sem] theorem c_row_Get_1_at (rd : Option Nat) (K : Post3) (t : Fr) (m : Mem) : wpM E 10 55 rd c_row_Get_1 K t m = wpM E 10 55 rd (.cond (.tmp 21) c_row_Get_0 .skip) K t m := rfl

def c_row_Get_2 : MC := (.seq (.ops [⟨(some 10), .move (.tmp 0), none⟩,
    ⟨(some 11), .call ⟨.builtin .len, #[(.tmp 10)], #[22]⟩, none⟩,
    ⟨(some 12), .binOp .eql 3 (.tmp 11) (.const (.int .i64 0)) 3, none⟩,
    ⟨(some 13), .move (.tmp 12), none⟩,
    ⟨(some 14), .move (.tmp 0), (some (some 13, false))⟩,
    ⟨(some 15), .call ⟨.builtin .len, #[(.tmp 14)], #[22]⟩, (some (some 13, false))⟩,
    ⟨(some 16), .move (.tmp 0), (some (some 13, false))⟩,
    ⟨(some 17), .indexAddr 22 (.tmp 16) (.const (.int .i64 0)), (some (some 13, false))⟩,
    ⟨(some 18), .load 5 (.tmp 17), (some (some 13, false))⟩,
    ⟨(some 19), .convert 5 3 (.tmp 18), (some (some 13, false))⟩,
    ⟨(some 20), .binOp .leq 3 (.tmp 15) (.tmp 19) 3, (some (some 13, false))⟩,
    ⟨(some 21), .pick (.tmp 13) (.const (.bool true)) (.tmp 20), none⟩]) c_row_Get_1)
@[go_sem] theorem c_row_Get_2_at (rd : Option Nat) (K : Post3) (t : Fr) (m : Mem) : wpM E 10 55 rd c_row_Get_2 K t m = wpM E 10 55 rd (.seq (.ops [⟨(some 10), .move (.tmp 0), none⟩,
    ⟨(some 11), .call ⟨.builtin .len, #[(.tmp 10)], #[22]⟩, none⟩,
    ⟨(some 12), .binOp .eql 3 (.tmp 11) (.const (.int .i64 0)) 3, none⟩,
    ⟨(some 13), .move (.tmp 12), none⟩,
    ⟨(some 14), .move (.tmp 0), (some (some 13, false))⟩,
    ⟨(some 15), .call ⟨.builtin .len, #[(.tmp 14)], #[22]⟩, (some (some 13, false))⟩,
    ⟨(some 16), .move (.tmp 0), (some (some 13, false))⟩,
    ⟨(some 17), .indexAddr 22 (.tmp 16) (.const (.int .i64 0)), (some (some 13, false))⟩,
    ⟨(some 18), .load 5 (.tmp 17), (some (some 13, false))⟩,
    ⟨(some 19), .convert 5 3 (.tmp 18), (some (some 13, false))⟩,
    ⟨(some 20), .binOp .leq 3 (.tmp 15) (.tmp 19) 3, (some (some 13, false))⟩,
    ⟨(some 21), .pick (.tmp 13) (.const (.bool true)) (.tmp 20), none⟩]) c_row_Get_1) K t m := rfl

def c_row_Get_3 : MC := (.cond (.tmp 33) .skip (.exit 0))
@[go_sem] theorem c_row_Get_3_at (rd : Option Nat) (K : Post3) (t : Fr) (m : Mem) : wpM E 10 55 rd c_row_Get_3 K t m = wpM E 10 55 rd (.cond (.tmp 33) .skip (.exit 0)) K t m := rfl

def c_row_Get_4 : MC := (.seq (.ops [⟨(some 31), .move (.tmp 6), none⟩,
    ⟨(some 32), .call ⟨.builtin .len, #[(.tmp 31)], #[22]⟩, none⟩,
    ⟨(some 33), .binOp .gtr 3 (.tmp 32) (.const (.int .i64 0)) 3, none⟩]) c_row_Get_3)
@[go_sem] theorem c_row_Get_4_at (rd : Option Nat) (K : Post3) (t : Fr) (m : Mem) : wpM E 10 55 rd c_row_Get_4 K t m = wpM E 10 55 rd (.seq (.ops [⟨(some 31), .move (.tmp 6), none⟩,
    ⟨(some 32), .call ⟨.builtin .len, #[(.tmp 31)], #[22]⟩, none⟩,
    ⟨(some 33), .binOp .gtr 3 (.tmp 32) (.const (.int .i64 0)) 3, none⟩]) c_row_Get_3) K t m := rfl

def c_row_Get_5 : MC := (.seq (.ops [⟨(some 2), .assign (.const (.slice none 0 0)), none⟩,
    ⟨(some 3), .assign (.const (.int .i64 (-1))), none⟩]) .ret)
@[go_sem] theorem c_row_Get_5_at (rd : Option Nat) (K : Post3) (t : Fr) (m : Mem) : wpM E 10 55 rd c_row_Get_5 K t m = wpM E 10 55 rd (.seq (.ops [⟨(some 2), .assign (.const (.slice none 0 0)), none⟩,
    ⟨(some 3), .assign (.const (.int .i64 (-1))), none⟩]) .ret) K t m := rfl

def c_row_Get_6 : MC := (.cond (.tmp 41) c_row_Get_5 .skip)
@[go_sem] theorem c_row_Get_6_at (rd : Option Nat) (K : Post3) (t : Fr) (m : Mem) : wpM E 10 55 rd c_row_Get_6 K t m = wpM E 10 55 rd (.cond (.tmp 41) c_row_Get_5 .skip) K t m := rfl

def c_row_Get_7 : MC := (.seq (.ops [⟨(some 40), .move (.tmp 9), none⟩,
    ⟨(some 41), .unOp .not 4 (.tmp 40), none⟩]) c_row_Get_6)
@[go_sem] theorem c_row_Get_7_at (rd : Option Nat) (K : Post3) (t : Fr) (m : Mem) : wpM E 10 55 rd c_row_Get_7 K t m = wpM E 10 55 rd (.seq (.ops [⟨(some 40), .move (.tmp 9), none⟩,
    ⟨(some 41), .unOp .not 4 (.tmp 40), none⟩]) c_row_Get_6) K t m := rfl

def c_row_Get_8 : MC := (.seq c_row_Get_7 (.ops [⟨(some 42), .move (.tmp 5), none⟩,
    ⟨(some 43), .move (.tmp 7), none⟩,
    ⟨(some 44), .buildSlice 24 1 #[(0, (.tmp 43))], none⟩,
    ⟨(some 45), .call ⟨.builtin .append, #[(.tmp 42), (.tmp 44)], #[24, 24]⟩, none⟩,
    ⟨(some 46), .move (.tmp 8), none⟩,
    ⟨(some 5), .assign (.tmp 45), none⟩,
    ⟨(some 6), .assign (.tmp 46), none⟩]))
@[go_sem] theorem c_row_Get_8_at (rd : Option Nat) (K : Post3) (t : Fr) (m : Mem) : wpM E 10 55 rd c_row_Get_8 K t m = wpM E 10 55 rd (.seq c_row_Get_7 (.ops [⟨(some 42), .move (.tmp 5), none⟩,
    ⟨(some 43), .move (.tmp 7), none⟩,
    ⟨(some 44), .buildSlice 24 1 #[(0, (.tmp 43))], none⟩,
    ⟨(some 45), .call ⟨.builtin .append, #[(.tmp 42), (.tmp 44)], #[24, 24]⟩, none⟩,
    ⟨(some 46), .move (.tmp 8), none⟩,
    ⟨(some 5), .assign (.tmp 45), none⟩,
    ⟨(some 6), .assign (.tmp 46), none⟩])) K t m := rfl

def c_row_Get_9 : MC := (.seq (.ops [⟨(some 35), .move (.tmp 6), none⟩,
    ⟨(some 36), .call ⟨.value (.func 20), #[(.tmp 35)], #[22]⟩, none⟩,
    ⟨(some 34), .move (.tmp 36), none⟩,
    ⟨(some 37), .extract (.tmp 34) 0, none⟩,
    ⟨(some 38), .extract (.tmp 34) 1, none⟩,
    ⟨(some 39), .extract (.tmp 34) 2, none⟩,
    ⟨(some 7), .assign (.tmp 37), none⟩,
    ⟨(some 8), .assign (.tmp 38), none⟩,
    ⟨(some 9), .assign (.tmp 39), none⟩]) c_row_Get_8)
@[go_sem] theorem c_row_Get_9_at (rd : Option Nat) (K : Post3) (t : Fr) (m : Mem) : wpM E 10 55 rd c_row_Get_9 K t m = wpM E 10 55 rd (.seq (.ops [⟨(some 35), .move (.tmp 6), none⟩,
    ⟨(some 36), .call ⟨.value (.func 20), #[(.tmp 35)], #[22]⟩, none⟩,
    ⟨(some 34), .move (.tmp 36), none⟩,
    ⟨(some 37), .extract (.tmp 34) 0, none⟩,
    ⟨(some 38), .extract (.tmp 34) 1, none⟩,
    ⟨(some 39), .extract (.tmp 34) 2, none⟩,
    ⟨(some 7), .assign (.tmp 37), none⟩,
    ⟨(some 8), .assign (.tmp 38), none⟩,
    ⟨(some 9), .assign (.tmp 39), none⟩]) c_row_Get_8) K t m := rfl

def c_row_Get_10 : MC := (.block 1 c_row_Get_9)
@[go_sem] theorem c_row_Get_10_at (rd : Option Nat) (K : Post3) (t : Fr) (m : Mem) : wpM E 10 55 rd c_row_Get_10 K t m = wpM E 10 55 rd (.block 1 c_row_Get_9) K t m := rfl

def c_row_Get_11 : MC := (.seq c_row_Get_4 c_row_Get_10)
@[go_sem] theorem c_row_Get_11_at (rd : Option Nat) (K : Post3) (t : Fr) (m : Mem) : wpM E 10 55 rd c_row_Get_11 K t m = wpM E 10 55 rd (.seq c_row_Get_4 c_row_Get_10) K t m := rfl

def c_row_Get_12 : MC := (.loop c_row_Get_11)
theorem c_row_Get_12_at (rd : Option Nat) (K : Post3) (t : Fr) (m : Mem) : wpM E 10 55 rd c_row_Get_12 K t m = wpM E 10 55 rd (.loop c_row_Get_11) K t m := rfl

def c_row_Get_13 : MC := (.block 0 c_row_Get_12)
theorem c_row_Get_13_at (rd : Option Nat) (K : Post3) (t : Fr) (m : Mem) : wpM E 10 55 rd c_row_Get_13 K t m = wpM E 10 55 rd (.block 0 c_row_Get_12) K t m := rfl

def c_row_Get_14 : MC := (.seq (.ops [⟨(some 29), .move (.tmp 4), none⟩,
    ⟨(some 30), .slice 22 (.tmp 29) (some (.const (.int .i64 1))) none none, none⟩,
    ⟨(some 6), .assign (.tmp 30), none⟩]) c_row_Get_13)
@[go_sem] theorem c_row_Get_14_at (rd : Option Nat) (K : Post3) (t : Fr) (m : Mem) : wpM E 10 55 rd c_row_Get_14 K t m = wpM E 10 55 rd (.seq (.ops [⟨(some 29), .move (.tmp 4), none⟩,
    ⟨(some 30), .slice 22 (.tmp 29) (some (.const (.int .i64 1))) none none, none⟩,
    ⟨(some 6), .assign (.tmp 30), none⟩]) c_row_Get_13) K t m := rfl

def c_row_Get_15 : MC := (.seq (.ops [⟨(some 2), .assign (.const (.slice none 0 0)), none⟩,
    ⟨(some 3), .assign (.const (.int .i64 (-1))), none⟩]) .ret)
@[go_sem] theorem c_row_Get_15_at (rd : Option Nat) (K : Post3) (t : Fr) (m : Mem) : wpM E 10 55 rd c_row_Get_15 K t m = wpM E 10 55 rd (.seq (.ops [⟨(some 2), .assign (.const (.slice none 0 0)), none⟩,
    ⟨(some 3), .assign (.const (.int .i64 (-1))), none⟩]) .ret) K t m := rfl

def c_row_Get_16 : MC := (.cond (.tmp 51) c_row_Get_15 .skip)
@[go_sem] theorem c_row_Get_16_at (rd : Option Nat) (K : Post3) (t : Fr) (m : Mem) : wpM E 10 55 rd c_row_Get_16 K t m = wpM E 10 55 rd (.cond (.tmp 51) c_row_Get_15 .skip) K t m := rfl

def c_row_Get_17 : MC := (.seq (.ops [⟨(some 47), .move (.tmp 5), none⟩,
    ⟨(some 48), .call ⟨.value (.func 9), #[(.tmp 47)], #[24]⟩, none⟩,
    ⟨(some 49), .move (.tmp 4), none⟩,
    ⟨(some 50), .call ⟨.value (.func 21), #[(.tmp 48), (.tmp 49)], #[22, 22]⟩, none⟩,
    ⟨(some 51), .unOp .not 4 (.tmp 50), none⟩]) c_row_Get_16)
@[go_sem] theorem c_row_Get_17_at (rd : Option Nat) (K : Post3) (t : Fr) (m : Mem) : wpM E 10 55 rd c_row_Get_17 K t m = wpM E 10 55 rd (.seq (.ops [⟨(some 47), .move (.tmp 5), none⟩,
    ⟨(some 48), .call ⟨.value (.func 9), #[(.tmp 47)], #[24]⟩, none⟩,
    ⟨(some 49), .move (.tmp 4), none⟩,
    ⟨(some 50), .call ⟨.value (.func 21), #[(.tmp 48), (.tmp 49)], #[22, 22]⟩, none⟩,
    ⟨(some 51), .unOp .not 4 (.tmp 50), none⟩]) c_row_Get_16) K t m := rfl

def c_row_Get_18 : MC := (.seq (.ops [⟨(some 52), .move (.tmp 5), none⟩,
    ⟨(some 53), .move (.tmp 4), none⟩,
    ⟨(some 54), .call ⟨.builtin .len, #[(.tmp 53)], #[22]⟩, none⟩,
    ⟨(some 2), .assign (.tmp 52), none⟩,
    ⟨(some 3), .assign (.tmp 54), none⟩]) .ret)
@[go_sem] theorem c_row_Get_18_at (rd : Option Nat) (K : Post3) (t : Fr) (m : Mem) : wpM E 10 55 rd c_row_Get_18 K t m = wpM E 10 55 rd (.seq (.ops [⟨(some 52), .move (.tmp 5), none⟩,
    ⟨(some 53), .move (.tmp 4), none⟩,
    ⟨(some 54), .call ⟨.builtin .len, #[(.tmp 53)], #[22]⟩, none⟩,
    ⟨(some 2), .assign (.tmp 52), none⟩,
    ⟨(some 3), .assign (.tmp 54), none⟩]) .ret) K t m := rfl

def c_row_Get_19 : MC := (.seq c_row_Get_17 c_row_Get_18)
@[go_sem] theorem c_row_Get_19_at (rd : Option Nat) (K : Post3) (t : Fr) (m : Mem) : wpM E 10 55 rd c_row_Get_19 K t m = wpM E 10 55 rd (.seq c_row_Get_17 c_row_Get_18) K t m := rfl

def c_row_Get_20 : MC := (.seq c_row_Get_14 c_row_Get_19)
@[go_sem] theorem c_row_Get_20_at (rd : Option Nat) (K : Post3) (t : Fr) (m : Mem) : wpM E 10 55 rd c_row_Get_20 K t m = wpM E 10 55 rd (.seq c_row_Get_14 c_row_Get_19) K t m := rfl

def c_row_Get_21 : MC := (.seq (.ops [⟨(some 5), .assign (.const (.slice none 0 0)), none⟩]) c_row_Get_20)
@[go_sem] theorem c_row_Get_21_at (rd : Option Nat) (K : Post3) (t : Fr) (m : Mem) : wpM E 10 55 rd c_row_Get_21 K t m = wpM E 10 55 rd (.seq (.ops [⟨(some 5), .assign (.const (.slice none 0 0)), none⟩]) c_row_Get_20) K t m := rfl

def c_row_Get_22 : MC := (.seq (.ops [⟨(some 22), .move (.tmp 0), none⟩,
    ⟨(some 23), .move (.tmp 0), none⟩,
    ⟨(some 24), .indexAddr 22 (.tmp 23) (.const (.int .i64 0)), none⟩,
    ⟨(some 25), .load 5 (.tmp 24), none⟩,
    ⟨(some 26), .convert 5 3 (.tmp 25), none⟩,
    ⟨(some 27), .binOp .add 3 (.const (.int .i64 1)) (.tmp 26) 3, none⟩,
    ⟨(some 28), .slice 22 (.tmp 22) none (some (.tmp 27)) none, none⟩,
    ⟨(some 4), .assign (.tmp 28), none⟩]) c_row_Get_21)
@[go_sem] theorem c_row_Get_22_at (rd : Option Nat) (K : Post3) (t : Fr) (m : Mem) : wpM E 10 55 rd c_row_Get_22 K t m = wpM E 10 55 rd (.seq (.ops [⟨(some 22), .move (.tmp 0), none⟩,
    ⟨(some 23), .move (.tmp 0), none⟩,
    ⟨(some 24), .indexAddr 22 (.tmp 23) (.const (.int .i64 0)), none⟩,
    ⟨(some 25), .load 5 (.tmp 24), none⟩,
    ⟨(some 26), .convert 5 3 (.tmp 25), none⟩,
    ⟨(some 27), .binOp .add 3 (.const (.int .i64 1)) (.tmp 26) 3, none⟩,
    ⟨(some 28), .slice 22 (.tmp 22) none (some (.tmp 27)) none, none⟩,
    ⟨(some 4), .assign (.tmp 28), none⟩]) c_row_Get_21) K t m := rfl

def c_row_Get_23 : MC := (.seq c_row_Get_2 c_row_Get_22)
@[go_sem] theorem c_row_Get_23_at (rd : Option Nat) (K : Post3) (t : Fr) (m : Mem) : wpM E 10 55 rd c_row_Get_23 K t m = wpM E 10 55 rd (.seq c_row_Get_2 c_row_Get_22) K t m := rfl

def c_row_Get_24 : MC := (.seq (.ops [⟨(some 2), .assign (.const (.slice none 0 0)), none⟩,
    ⟨(some 3), .assign (.const (.int .i64 0)), none⟩]) c_row_Get_23)
@[go_sem] theorem c_row_Get_24_at (rd : Option Nat) (K : Post3) (t : Fr) (m : Mem) : wpM E 10 55 rd c_row_Get_24 K t m = wpM E 10 55 rd (.seq (.ops [⟨(some 2), .assign (.const (.slice none 0 0)), none⟩,
    ⟨(some 3), .assign (.const (.int .i64 0)), none⟩]) c_row_Get_23) K t m := rfl

@[go_sem] theorem some10 : (E.fn 10).isSome = true := by kernel_rfl
set_option maxRecDepth 100000 in
theorem fn_row_Get : FnIs E 10 55 [.tmp 2, .tmp 3] c_row_Get_24 := ⟨by kernel_rfl, by kernel_rfl⟩

/-! sheaf/row.Compare -/
abbrev F_row_Compare : FuncId := 13
def c_row_Compare_0 : MC := (.cond (.tmp 15) .skip (.exit 0))
@[go_sem] theorem c_row_Compare_0_at (rd : Option Nat) (K : Post3) (t : Fr) (m : Mem) : wpM E 13 42 rd c_row_Compare_0 K t m = wpM E 13 42 rd (.cond (.tmp 15) .skip (.exit 0)) K t m := rfl

def c_row_Compare_1 : MC := (.seq (.ops [⟨(some 24), .move (.tmp 9), none⟩,
    ⟨(some 6), .assign (.tmp 24), none⟩]) .ret)
@[go_sem] theorem c_row_Compare_1_at (rd : Option Nat) (K : Post3) (t : Fr) (m : Mem) : wpM E 13 42 rd c_row_Compare_1 K t m = wpM E 13 42 rd (.seq (.ops [⟨(some 24), .move (.tmp 9), none⟩,
    ⟨(some 6), .assign (.tmp 24), none⟩]) .ret) K t m := rfl

def c_row_Compare_2 : MC := (.cond (.tmp 23) c_row_Compare_1 .skip)
@[go_sem] theorem c_row_Compare_2_at (rd : Option Nat) (K : Post3) (t : Fr) (m : Mem) : wpM E 13 42 rd c_row_Compare_2 K t m = wpM E 13 42 rd (.cond (.tmp 23) c_row_Compare_1 .skip) K t m := rfl

def c_row_Compare_3 : MC := (.seq (.ops [⟨(some 22), .move (.tmp 9), none⟩,
    ⟨(some 23), .binOp .neq 3 (.tmp 22) (.const (.int .i64 0)) 3, none⟩]) c_row_Compare_2)
@[go_sem] theorem c_row_Compare_3_at (rd : Option Nat) (K : Post3) (t : Fr) (m : Mem) : wpM E 13 42 rd c_row_Compare_3 K t m = wpM E 13 42 rd (.seq (.ops [⟨(some 22), .move (.tmp 9), none⟩,
    ⟨(some 23), .binOp .neq 3 (.tmp 22) (.const (.int .i64 0)) 3, none⟩]) c_row_Compare_2) K t m := rfl

def c_row_Compare_4 : MC := (.seq (.ops [⟨(some 18), .move (.tmp 0), none⟩,
    ⟨(some 19), .move (.tmp 1), none⟩,
    ⟨(some 20), .move (.tmp 8), none⟩,
    ⟨(some 21), .call ⟨.value (.func 22), #[(.tmp 18), (.tmp 19), (.tmp 20)], #[24, 24, 3]⟩, none⟩,
    ⟨(some 9), .assign (.tmp 21), none⟩]) c_row_Compare_3)
@[go_sem] theorem c_row_Compare_4_at (rd : Option Nat) (K : Post3) (t : Fr) (m : Mem) : wpM E 13 42 rd c_row_Compare_4 K t m = wpM E 13 42 rd (.seq (.ops [⟨(some 18), .move (.tmp 0), none⟩,
    ⟨(some 19), .move (.tmp 1), none⟩,
    ⟨(some 20), .move (.tmp 8), none⟩,
    ⟨(some 21), .call ⟨.value (.func 22), #[(.tmp 18), (.tmp 19), (.tmp 20)], #[24, 24, 3]⟩, none⟩,
    ⟨(some 9), .assign (.tmp 21), none⟩]) c_row_Compare_3) K t m := rfl

def c_row_Compare_5 : MC := (.seq (.ops [⟨(some 16), .indexAddr 24 (.tmp 12) (.tmp 14), none⟩,
    ⟨(some 17), .load 3 (.tmp 16), none⟩,
    ⟨(some 8), .assign (.tmp 17), none⟩]) c_row_Compare_4)
@[go_sem] theorem c_row_Compare_5_at (rd : Option Nat) (K : Post3) (t : Fr) (m : Mem) : wpM E 13 42 rd c_row_Compare_5 K t m = wpM E 13 42 rd (.seq (.ops [⟨(some 16), .indexAddr 24 (.tmp 12) (.tmp 14), none⟩,
    ⟨(some 17), .load 3 (.tmp 16), none⟩,
    ⟨(some 8), .assign (.tmp 17), none⟩]) c_row_Compare_4) K t m := rfl

def c_row_Compare_6 : MC := (.block 1 c_row_Compare_5)
@[go_sem] theorem c_row_Compare_6_at (rd : Option Nat) (K : Post3) (t : Fr) (m : Mem) : wpM E 13 42 rd c_row_Compare_6 K t m = wpM E 13 42 rd (.block 1 c_row_Compare_5) K t m := rfl

def c_row_Compare_7 : MC := (.seq c_row_Compare_6 (.ops [⟨(some 25), .binOp .add 3 (.tmp 14) (.const (.int .i64 1)) 3, none⟩,
    ⟨(some 14), .move (.tmp 25), none⟩]))
@[go_sem] theorem c_row_Compare_7_at (rd : Option Nat) (K : Post3) (t : Fr) (m : Mem) : wpM E 13 42 rd c_row_Compare_7 K t m = wpM E 13 42 rd (.seq c_row_Compare_6 (.ops [⟨(some 25), .binOp .add 3 (.tmp 14) (.const (.int .i64 1)) 3, none⟩,
    ⟨(some 14), .move (.tmp 25), none⟩])) K t m := rfl

def c_row_Compare_8 : MC := (.seq c_row_Compare_0 c_row_Compare_7)
@[go_sem] theorem c_row_Compare_8_at (rd : Option Nat) (K : Post3) (t : Fr) (m : Mem) : wpM E 13 42 rd c_row_Compare_8 K t m = wpM E 13 42 rd (.seq c_row_Compare_0 c_row_Compare_7) K t m := rfl

def c_row_Compare_9 : MC := (.seq (.ops [⟨(some 15), .binOp .lss 3 (.tmp 14) (.tmp 13) 3, none⟩]) c_row_Compare_8)
@[go_sem] theorem c_row_Compare_9_at (rd : Option Nat) (K : Post3) (t : Fr) (m : Mem) : wpM E 13 42 rd c_row_Compare_9 K t m = wpM E 13 42 rd (.seq (.ops [⟨(some 15), .binOp .lss 3 (.tmp 14) (.tmp 13) 3, none⟩]) c_row_Compare_8) K t m := rfl

def c_row_Compare_10 : MC := (.loop c_row_Compare_9)
theorem c_row_Compare_10_at (rd : Option Nat) (K : Post3) (t : Fr) (m : Mem) : wpM E 13 42 rd c_row_Compare_10 K t m = wpM E 13 42 rd (.loop c_row_Compare_9) K t m := rfl

def c_row_Compare_11 : MC := (.block 0 c_row_Compare_10)
theorem c_row_Compare_11_at (rd : Option Nat) (K : Post3) (t : Fr) (m : Mem) : wpM E 13 42 rd c_row_Compare_11 K t m = wpM E 13 42 rd (.block 0 c_row_Compare_10) K t m := rfl

def c_row_Compare_12 : MC := (.seq (.ops [⟨(some 12), .move (.tmp 2), none⟩,
    ⟨(some 13), .call ⟨.builtin .len, #[(.tmp 12)], #[24]⟩, none⟩,
    ⟨(some 14), .move (.const (.int .i64 0)), none⟩]) c_row_Compare_11)
@[go_sem] theorem c_row_Compare_12_at (rd : Option Nat) (K : Post3) (t : Fr) (m : Mem) : wpM E 13 42 rd c_row_Compare_12 K t m = wpM E 13 42 rd (.seq (.ops [⟨(some 12), .move (.tmp 2), none⟩,
    ⟨(some 13), .call ⟨.builtin .len, #[(.tmp 12)], #[24]⟩, none⟩,
    ⟨(some 14), .move (.const (.int .i64 0)), none⟩]) c_row_Compare_11) K t m := rfl

def c_row_Compare_13 : MC := (.cond (.tmp 32) .skip (.exit 2))
@[go_sem] theorem c_row_Compare_13_at (rd : Option Nat) (K : Post3) (t : Fr) (m : Mem) : wpM E 13 42 rd c_row_Compare_13 K t m = wpM E 13 42 rd (.cond (.tmp 32) .skip (.exit 2)) K t m := rfl

def c_row_Compare_14 : MC := (.seq (.ops [⟨(some 40), .move (.tmp 11), none⟩,
    ⟨(some 6), .assign (.tmp 40), none⟩]) .ret)
@[go_sem] theorem c_row_Compare_14_at (rd : Option Nat) (K : Post3) (t : Fr) (m : Mem) : wpM E 13 42 rd c_row_Compare_14 K t m = wpM E 13 42 rd (.seq (.ops [⟨(some 40), .move (.tmp 11), none⟩,
    ⟨(some 6), .assign (.tmp 40), none⟩]) .ret) K t m := rfl

def c_row_Compare_15 : MC := (.cond (.tmp 39) c_row_Compare_14 .skip)
@[go_sem] theorem c_row_Compare_15_at (rd : Option Nat) (K : Post3) (t : Fr) (m : Mem) : wpM E 13 42 rd c_row_Compare_15 K t m = wpM E 13 42 rd (.cond (.tmp 39) c_row_Compare_14 .skip) K t m := rfl

def c_row_Compare_16 : MC := (.seq (.ops [⟨(some 38), .move (.tmp 11), none⟩,
    ⟨(some 39), .binOp .neq 3 (.tmp 38) (.const (.int .i64 0)) 3, none⟩]) c_row_Compare_15)
@[go_sem] theorem c_row_Compare_16_at (rd : Option Nat) (K : Post3) (t : Fr) (m : Mem) : wpM E 13 42 rd c_row_Compare_16 K t m = wpM E 13 42 rd (.seq (.ops [⟨(some 38), .move (.tmp 11), none⟩,
    ⟨(some 39), .binOp .neq 3 (.tmp 38) (.const (.int .i64 0)) 3, none⟩]) c_row_Compare_15) K t m := rfl

def c_row_Compare_17 : MC := (.seq (.ops [⟨(some 34), .move (.tmp 0), none⟩,
    ⟨(some 35), .move (.tmp 1), none⟩,
    ⟨(some 36), .move (.tmp 10), none⟩,
    ⟨(some 37), .call ⟨.value (.func 22), #[(.tmp 34), (.tmp 35), (.tmp 36)], #[24, 24, 3]⟩, none⟩,
    ⟨(some 11), .assign (.tmp 37), none⟩]) c_row_Compare_16)
@[go_sem] theorem c_row_Compare_17_at (rd : Option Nat) (K : Post3) (t : Fr) (m : Mem) : wpM E 13 42 rd c_row_Compare_17 K t m = wpM E 13 42 rd (.seq (.ops [⟨(some 34), .move (.tmp 0), none⟩,
    ⟨(some 35), .move (.tmp 1), none⟩,
    ⟨(some 36), .move (.tmp 10), none⟩,
    ⟨(some 37), .call ⟨.value (.func 22), #[(.tmp 34), (.tmp 35), (.tmp 36)], #[24, 24, 3]⟩, none⟩,
    ⟨(some 11), .assign (.tmp 37), none⟩]) c_row_Compare_16) K t m := rfl

def c_row_Compare_18 : MC := (.seq (.ops [⟨(some 33), .move (.tmp 31), none⟩,
    ⟨(some 10), .assign (.tmp 33), none⟩]) c_row_Compare_17)
@[go_sem] theorem c_row_Compare_18_at (rd : Option Nat) (K : Post3) (t : Fr) (m : Mem) : wpM E 13 42 rd c_row_Compare_18 K t m = wpM E 13 42 rd (.seq (.ops [⟨(some 33), .move (.tmp 31), none⟩,
    ⟨(some 10), .assign (.tmp 33), none⟩]) c_row_Compare_17) K t m := rfl

def c_row_Compare_19 : MC := (.block 3 c_row_Compare_18)
@[go_sem] theorem c_row_Compare_19_at (rd : Option Nat) (K : Post3) (t : Fr) (m : Mem) : wpM E 13 42 rd c_row_Compare_19 K t m = wpM E 13 42 rd (.block 3 c_row_Compare_18) K t m := rfl

def c_row_Compare_20 : MC := (.seq c_row_Compare_19 (.ops [⟨(some 41), .binOp .add 3 (.tmp 31) (.const (.int .i64 1)) 3, none⟩,
    ⟨(some 31), .move (.tmp 41), none⟩]))
@[go_sem] theorem c_row_Compare_20_at (rd : Option Nat) (K : Post3) (t : Fr) (m : Mem) : wpM E 13 42 rd c_row_Compare_20 K t m = wpM E 13 42 rd (.seq c_row_Compare_19 (.ops [⟨(some 41), .binOp .add 3 (.tmp 31) (.const (.int .i64 1)) 3, none⟩,
    ⟨(some 31), .move (.tmp 41), none⟩])) K t m := rfl

def c_row_Compare_21 : MC := (.seq c_row_Compare_13 c_row_Compare_20)
@[go_sem] theorem c_row_Compare_21_at (rd : Option Nat) (K : Post3) (t : Fr) (m : Mem) : wpM E 13 42 rd c_row_Compare_21 K t m = wpM E 13 42 rd (.seq c_row_Compare_13 c_row_Compare_20) K t m := rfl

def c_row_Compare_22 : MC := (.seq (.ops [⟨(some 32), .binOp .lss 3 (.tmp 31) (.tmp 30) 3, none⟩]) c_row_Compare_21)
@[go_sem] theorem c_row_Compare_22_at (rd : Option Nat) (K : Post3) (t : Fr) (m : Mem) : wpM E 13 42 rd c_row_Compare_22 K t m = wpM E 13 42 rd (.seq (.ops [⟨(some 32), .binOp .lss 3 (.tmp 31) (.tmp 30) 3, none⟩]) c_row_Compare_21) K t m := rfl

def c_row_Compare_23 : MC := (.loop c_row_Compare_22)
theorem c_row_Compare_23_at (rd : Option Nat) (K : Post3) (t : Fr) (m : Mem) : wpM E 13 42 rd c_row_Compare_23 K t m = wpM E 13 42 rd (.loop c_row_Compare_22) K t m := rfl

def c_row_Compare_24 : MC := (.block 2 c_row_Compare_23)
theorem c_row_Compare_24_at (rd : Option Nat) (K : Post3) (t : Fr) (m : Mem) : wpM E 13 42 rd c_row_Compare_24 K t m = wpM E 13 42 rd (.block 2 c_row_Compare_23) K t m := rfl

def c_row_Compare_25 : MC := (.seq (.ops [⟨(some 26), .move (.tmp 0), none⟩,
    ⟨(some 27), .call ⟨.builtin .len, #[(.tmp 26)], #[24]⟩, none⟩,
    ⟨(some 28), .move (.tmp 1), none⟩,
    ⟨(some 29), .call ⟨.builtin .len, #[(.tmp 28)], #[24]⟩, none⟩,
    ⟨(some 30), .call ⟨.builtin .max, #[(.tmp 27), (.tmp 29)], #[3, 3]⟩, none⟩,
    ⟨(some 31), .move (.const (.int .i64 0)), none⟩]) c_row_Compare_24)
@[go_sem] theorem c_row_Compare_25_at (rd : Option Nat) (K : Post3) (t : Fr) (m : Mem) : wpM E 13 42 rd c_row_Compare_25 K t m = wpM E 13 42 rd (.seq (.ops [⟨(some 26), .move (.tmp 0), none⟩,
    ⟨(some 27), .call ⟨.builtin .len, #[(.tmp 26)], #[24]⟩, none⟩,
    ⟨(some 28), .move (.tmp 1), none⟩,
    ⟨(some 29), .call ⟨.builtin .len, #[(.tmp 28)], #[24]⟩, none⟩,
    ⟨(some 30), .call ⟨.builtin .max, #[(.tmp 27), (.tmp 29)], #[3, 3]⟩, none⟩,
    ⟨(some 31), .move (.const (.int .i64 0)), none⟩]) c_row_Compare_24) K t m := rfl

def c_row_Compare_26 : MC := (.seq (.ops [⟨(some 6), .assign (.const (.int .i64 0)), none⟩]) .ret)
@[go_sem] theorem c_row_Compare_26_at (rd : Option Nat) (K : Post3) (t : Fr) (m : Mem) : wpM E 13 42 rd c_row_Compare_26 K t m = wpM E 13 42 rd (.seq (.ops [⟨(some 6), .assign (.const (.int .i64 0)), none⟩]) .ret) K t m := rfl

def c_row_Compare_27 : MC := (.seq c_row_Compare_25 c_row_Compare_26)
@[go_sem] theorem c_row_Compare_27_at (rd : Option Nat) (K : Post3) (t : Fr) (m : Mem) : wpM E 13 42 rd c_row_Compare_27 K t m = wpM E 13 42 rd (.seq c_row_Compare_25 c_row_Compare_26) K t m := rfl

def c_row_Compare_28 : MC := (.seq c_row_Compare_12 c_row_Compare_27)
@[go_sem] theorem c_row_Compare_28_at (rd : Option Nat) (K : Post3) (t : Fr) (m : Mem) : wpM E 13 42 rd c_row_Compare_28 K t m = wpM E 13 42 rd (.seq c_row_Compare_12 c_row_Compare_27) K t m := rfl

def c_row_Compare_29 : MC := (.seq (.ops [⟨(some 6), .assign (.const (.int .i64 0)), none⟩]) c_row_Compare_28)
@[go_sem] theorem c_row_Compare_29_at (rd : Option Nat) (K : Post3) (t : Fr) (m : Mem) : wpM E 13 42 rd c_row_Compare_29 K t m = wpM E 13 42 rd (.seq (.ops [⟨(some 6), .assign (.const (.int .i64 0)), none⟩]) c_row_Compare_28) K t m := rfl

@[go_sem] theorem some13 : (E.fn 13).isSome = true := by kernel_rfl
set_option maxRecDepth 100000 in
theorem fn_row_Compare : FnIs E 13 42 [.tmp 6] c_row_Compare_29 := ⟨by kernel_rfl, by kernel_rfl⟩

/-! sheaf/row.number -/
abbrev F_row_number : FuncId := 20
def c_row_number_0 : MC := (.cond (.tmp 12) .skip (.exit 0))
@[go_sem] theorem c_row_number_0_at (rd : Option Nat) (K : Post3) (t : Fr) (m : Mem) : wpM E 20 41 rd c_row_number_0 K t m = wpM E 20 41 rd (.cond (.tmp 12) .skip (.exit 0)) K t m := rfl

def c_row_number_1 : MC := (.cond (.tmp 32) (.ops [⟨(some 33), .move (.tmp 8), none⟩,
    ⟨(some 34), .unOp .xor 3 (.tmp 33), none⟩,
    ⟨(some 8), .assign (.tmp 34), none⟩]) .skip)
@[go_sem] theorem c_row_number_1_at (rd : Option Nat) (K : Post3) (t : Fr) (m : Mem) : wpM E 20 41 rd c_row_number_1 K t m = wpM E 20 41 rd (.cond (.tmp 32) (.ops [⟨(some 33), .move (.tmp 8), none⟩,
    ⟨(some 34), .unOp .xor 3 (.tmp 33), none⟩,
    ⟨(some 8), .assign (.tmp 34), none⟩]) .skip) K t m := rfl

def c_row_number_2 : MC := (.seq (.ops [⟨(some 30), .move (.tmp 5), none⟩,
    ⟨(some 31), .binOp .rem 40 (.tmp 30) (.const (.int .u64 2)) 40, none⟩,
    ⟨(some 32), .binOp .eql 40 (.tmp 31) (.const (.int .u64 1)) 40, none⟩]) c_row_number_1)
@[go_sem] theorem c_row_number_2_at (rd : Option Nat) (K : Post3) (t : Fr) (m : Mem) : wpM E 20 41 rd c_row_number_2 K t m = wpM E 20 41 rd (.seq (.ops [⟨(some 30), .move (.tmp 5), none⟩,
    ⟨(some 31), .binOp .rem 40 (.tmp 30) (.const (.int .u64 2)) 40, none⟩,
    ⟨(some 32), .binOp .eql 40 (.tmp 31) (.const (.int .u64 1)) 40, none⟩]) c_row_number_1) K t m := rfl

def c_row_number_3 : MC := (.seq (.ops [⟨(some 35), .move (.tmp 8), none⟩,
    ⟨(some 36), .move (.tmp 0), none⟩,
    ⟨(some 37), .move (.tmp 6), none⟩,
    ⟨(some 38), .binOp .add 3 (.tmp 37) (.const (.int .i64 1)) 3, none⟩,
    ⟨(some 39), .slice 22 (.tmp 36) (some (.tmp 38)) none none, none⟩,
    ⟨(some 2), .assign (.tmp 35), none⟩,
    ⟨(some 3), .assign (.tmp 39), none⟩,
    ⟨(some 4), .assign (.const (.bool true)), none⟩]) .ret)
@[go_sem] theorem c_row_number_3_at (rd : Option Nat) (K : Post3) (t : Fr) (m : Mem) : wpM E 20 41 rd c_row_number_3 K t m = wpM E 20 41 rd (.seq (.ops [⟨(some 35), .move (.tmp 8), none⟩,
    ⟨(some 36), .move (.tmp 0), none⟩,
    ⟨(some 37), .move (.tmp 6), none⟩,
    ⟨(some 38), .binOp .add 3 (.tmp 37) (.const (.int .i64 1)) 3, none⟩,
    ⟨(some 39), .slice 22 (.tmp 36) (some (.tmp 38)) none none, none⟩,
    ⟨(some 2), .assign (.tmp 35), none⟩,
    ⟨(some 3), .assign (.tmp 39), none⟩,
    ⟨(some 4), .assign (.const (.bool true)), none⟩]) .ret) K t m := rfl

def c_row_number_4 : MC := (.seq c_row_number_2 c_row_number_3)
@[go_sem] theorem c_row_number_4_at (rd : Option Nat) (K : Post3) (t : Fr) (m : Mem) : wpM E 20 41 rd c_row_number_4 K t m = wpM E 20 41 rd (.seq c_row_number_2 c_row_number_3) K t m := rfl

def c_row_number_5 : MC := (.seq (.ops [⟨(some 27), .move (.tmp 5), none⟩,
    ⟨(some 28), .binOp .shr 40 (.tmp 27) (.const (.int .u64 1)) 41, none⟩,
    ⟨(some 29), .convert 40 3 (.tmp 28), none⟩,
    ⟨(some 8), .assign (.tmp 29), none⟩]) c_row_number_4)
@[go_sem] theorem c_row_number_5_at (rd : Option Nat) (K : Post3) (t : Fr) (m : Mem) : wpM E 20 41 rd c_row_number_5 K t m = wpM E 20 41 rd (.seq (.ops [⟨(some 27), .move (.tmp 5), none⟩,
    ⟨(some 28), .binOp .shr 40 (.tmp 27) (.const (.int .u64 1)) 41, none⟩,
    ⟨(some 29), .convert 40 3 (.tmp 28), none⟩,
    ⟨(some 8), .assign (.tmp 29), none⟩]) c_row_number_4) K t m := rfl

def c_row_number_6 : MC := (.cond (.tmp 26) c_row_number_5 .skip)
@[go_sem] theorem c_row_number_6_at (rd : Option Nat) (K : Post3) (t : Fr) (m : Mem) : wpM E 20 41 rd c_row_number_6 K t m = wpM E 20 41 rd (.cond (.tmp 26) c_row_number_5 .skip) K t m := rfl

def c_row_number_7 : MC := (.seq (.ops [⟨(some 25), .move (.tmp 7), none⟩,
    ⟨(some 26), .binOp .lss 5 (.tmp 25) (.const (.int .u8 128)) 5, none⟩]) c_row_number_6)
@[go_sem] theorem c_row_number_7_at (rd : Option Nat) (K : Post3) (t : Fr) (m : Mem) : wpM E 20 41 rd c_row_number_7 K t m = wpM E 20 41 rd (.seq (.ops [⟨(some 25), .move (.tmp 7), none⟩,
    ⟨(some 26), .binOp .lss 5 (.tmp 25) (.const (.int .u8 128)) 5, none⟩]) c_row_number_6) K t m := rfl

def c_row_number_8 : MC := (.seq (.ops [⟨(some 16), .move (.tmp 5), none⟩,
    ⟨(some 17), .move (.tmp 7), none⟩,
    ⟨(some 18), .binOp .rem 5 (.tmp 17) (.const (.int .u8 128)) 5, none⟩,
    ⟨(some 19), .convert 5 40 (.tmp 18), none⟩,
    ⟨(some 20), .move (.tmp 6), none⟩,
    ⟨(some 21), .binOp .mul 3 (.const (.int .i64 7)) (.tmp 20) 3, none⟩,
    ⟨(some 22), .convert 3 41 (.tmp 21), none⟩,
    ⟨(some 23), .binOp .shl 40 (.tmp 19) (.tmp 22) 41, none⟩,
    ⟨(some 24), .binOp .or 40 (.tmp 16) (.tmp 23) 40, none⟩,
    ⟨(some 5), .assign (.tmp 24), none⟩]) c_row_number_7)
@[go_sem] theorem c_row_number_8_at (rd : Option Nat) (K : Post3) (t : Fr) (m : Mem) : wpM E 20 41 rd c_row_number_8 K t m = wpM E 20 41 rd (.seq (.ops [⟨(some 16), .move (.tmp 5), none⟩,
    ⟨(some 17), .move (.tmp 7), none⟩,
    ⟨(some 18), .binOp .rem 5 (.tmp 17) (.const (.int .u8 128)) 5, none⟩,
    ⟨(some 19), .convert 5 40 (.tmp 18), none⟩,
    ⟨(some 20), .move (.tmp 6), none⟩,
    ⟨(some 21), .binOp .mul 3 (.const (.int .i64 7)) (.tmp 20) 3, none⟩,
    ⟨(some 22), .convert 3 41 (.tmp 21), none⟩,
    ⟨(some 23), .binOp .shl 40 (.tmp 19) (.tmp 22) 41, none⟩,
    ⟨(some 24), .binOp .or 40 (.tmp 16) (.tmp 23) 40, none⟩,
    ⟨(some 5), .assign (.tmp 24), none⟩]) c_row_number_7) K t m := rfl

def c_row_number_9 : MC := (.seq (.ops [⟨(some 13), .move (.tmp 11), none⟩,
    ⟨(some 14), .indexAddr 22 (.tmp 9) (.tmp 11), none⟩,
    ⟨(some 15), .load 5 (.tmp 14), none⟩,
    ⟨(some 6), .assign (.tmp 13), none⟩,
    ⟨(some 7), .assign (.tmp 15), none⟩]) c_row_number_8)
@[go_sem] theorem c_row_number_9_at (rd : Option Nat) (K : Post3) (t : Fr) (m : Mem) : wpM E 20 41 rd c_row_number_9 K t m = wpM E 20 41 rd (.seq (.ops [⟨(some 13), .move (.tmp 11), none⟩,
    ⟨(some 14), .indexAddr 22 (.tmp 9) (.tmp 11), none⟩,
    ⟨(some 15), .load 5 (.tmp 14), none⟩,
    ⟨(some 6), .assign (.tmp 13), none⟩,
    ⟨(some 7), .assign (.tmp 15), none⟩]) c_row_number_8) K t m := rfl

def c_row_number_10 : MC := (.block 1 c_row_number_9)
@[go_sem] theorem c_row_number_10_at (rd : Option Nat) (K : Post3) (t : Fr) (m : Mem) : wpM E 20 41 rd c_row_number_10 K t m = wpM E 20 41 rd (.block 1 c_row_number_9) K t m := rfl

def c_row_number_11 : MC := (.seq c_row_number_10 (.ops [⟨(some 40), .binOp .add 3 (.tmp 11) (.const (.int .i64 1)) 3, none⟩,
    ⟨(some 11), .move (.tmp 40), none⟩]))
@[go_sem] theorem c_row_number_11_at (rd : Option Nat) (K : Post3) (t : Fr) (m : Mem) : wpM E 20 41 rd c_row_number_11 K t m = wpM E 20 41 rd (.seq c_row_number_10 (.ops [⟨(some 40), .binOp .add 3 (.tmp 11) (.const (.int .i64 1)) 3, none⟩,
    ⟨(some 11), .move (.tmp 40), none⟩])) K t m := rfl

def c_row_number_12 : MC := (.seq c_row_number_0 c_row_number_11)
@[go_sem] theorem c_row_number_12_at (rd : Option Nat) (K : Post3) (t : Fr) (m : Mem) : wpM E 20 41 rd c_row_number_12 K t m = wpM E 20 41 rd (.seq c_row_number_0 c_row_number_11) K t m := rfl

def c_row_number_13 : MC := (.seq (.ops [⟨(some 12), .binOp .lss 3 (.tmp 11) (.tmp 10) 3, none⟩]) c_row_number_12)
@[go_sem] theorem c_row_number_13_at (rd : Option Nat) (K : Post3) (t : Fr) (m : Mem) : wpM E 20 41 rd c_row_number_13 K t m = wpM E 20 41 rd (.seq (.ops [⟨(some 12), .binOp .lss 3 (.tmp 11) (.tmp 10) 3, none⟩]) c_row_number_12) K t m := rfl

def c_row_number_14 : MC := (.loop c_row_number_13)
theorem c_row_number_14_at (rd : Option Nat) (K : Post3) (t : Fr) (m : Mem) : wpM E 20 41 rd c_row_number_14 K t m = wpM E 20 41 rd (.loop c_row_number_13) K t m := rfl

def c_row_number_15 : MC := (.block 0 c_row_number_14)
theorem c_row_number_15_at (rd : Option Nat) (K : Post3) (t : Fr) (m : Mem) : wpM E 20 41 rd c_row_number_15 K t m = wpM E 20 41 rd (.block 0 c_row_number_14) K t m := rfl

def c_row_number_16 : MC := (.seq (.ops [⟨(some 9), .move (.tmp 0), none⟩,
    ⟨(some 10), .call ⟨.builtin .len, #[(.tmp 9)], #[22]⟩, none⟩,
    ⟨(some 11), .move (.const (.int .i64 0)), none⟩]) c_row_number_15)
@[go_sem] theorem c_row_number_16_at (rd : Option Nat) (K : Post3) (t : Fr) (m : Mem) : wpM E 20 41 rd c_row_number_16 K t m = wpM E 20 41 rd (.seq (.ops [⟨(some 9), .move (.tmp 0), none⟩,
    ⟨(some 10), .call ⟨.builtin .len, #[(.tmp 9)], #[22]⟩, none⟩,
    ⟨(some 11), .move (.const (.int .i64 0)), none⟩]) c_row_number_15) K t m := rfl

def c_row_number_17 : MC := (.seq (.ops [⟨(some 2), .assign (.const (.int .i64 0)), none⟩,
    ⟨(some 3), .assign (.const (.slice none 0 0)), none⟩,
    ⟨(some 4), .assign (.const (.bool false)), none⟩]) .ret)
@[go_sem] theorem c_row_number_17_at (rd : Option Nat) (K : Post3) (t : Fr) (m : Mem) : wpM E 20 41 rd c_row_number_17 K t m = wpM E 20 41 rd (.seq (.ops [⟨(some 2), .assign (.const (.int .i64 0)), none⟩,
    ⟨(some 3), .assign (.const (.slice none 0 0)), none⟩,
    ⟨(some 4), .assign (.const (.bool false)), none⟩]) .ret) K t m := rfl

def c_row_number_18 : MC := (.seq c_row_number_16 c_row_number_17)
@[go_sem] theorem c_row_number_18_at (rd : Option Nat) (K : Post3) (t : Fr) (m : Mem) : wpM E 20 41 rd c_row_number_18 K t m = wpM E 20 41 rd (.seq c_row_number_16 c_row_number_17) K t m := rfl

def c_row_number_19 : MC := (.seq (.ops [⟨(some 5), .assign (.const (.int .u64 0)), none⟩]) c_row_number_18)
@[go_sem] theorem c_row_number_19_at (rd : Option Nat) (K : Post3) (t : Fr) (m : Mem) : wpM E 20 41 rd c_row_number_19 K t m = wpM E 20 41 rd (.seq (.ops [⟨(some 5), .assign (.const (.int .u64 0)), none⟩]) c_row_number_18) K t m := rfl

def c_row_number_20 : MC := (.seq (.ops [⟨(some 2), .assign (.const (.int .i64 0)), none⟩,
    ⟨(some 3), .assign (.const (.slice none 0 0)), none⟩,
    ⟨(some 4), .assign (.const (.bool false)), none⟩]) c_row_number_19)
@[go_sem] theorem c_row_number_20_at (rd : Option Nat) (K : Post3) (t : Fr) (m : Mem) : wpM E 20 41 rd c_row_number_20 K t m = wpM E 20 41 rd (.seq (.ops [⟨(some 2), .assign (.const (.int .i64 0)), none⟩,
    ⟨(some 3), .assign (.const (.slice none 0 0)), none⟩,
    ⟨(some 4), .assign (.const (.bool false)), none⟩]) c_row_number_19) K t m := rfl

@[go_sem] theorem some20 : (E.fn 20).isSome = true := by kernel_rfl
set_option maxRecDepth 100000 in
theorem fn_row_number : FnIs E 20 41 [.tmp 2, .tmp 3, .tmp 4] c_row_number_20 := ⟨by kernel_rfl, by kernel_rfl⟩

/-! sheaf/row.column -/
abbrev F_row_column : FuncId := 22
def c_row_column_0 : MC := (.seq (.ops [⟨(some 30), .move (.tmp 0), none⟩,
    ⟨(some 31), .move (.tmp 2), none⟩,
    ⟨(some 32), .indexAddr 24 (.tmp 30) (.tmp 31), none⟩,
    ⟨(some 33), .load 3 (.tmp 32), none⟩,
    ⟨(some 34), .move (.tmp 1), none⟩,
    ⟨(some 35), .move (.tmp 2), none⟩,
    ⟨(some 36), .indexAddr 24 (.tmp 34) (.tmp 35), none⟩,
    ⟨(some 37), .load 3 (.tmp 36), none⟩,
    ⟨(some 38), .call ⟨.value (.func 26), #[(.tmp 33), (.tmp 37)], #[3, 3]⟩, none⟩,
    ⟨(some 6), .assign (.tmp 38), none⟩]) .ret)
@[go_sem] theorem c_row_column_0_at (rd : Option Nat) (K : Post3) (t : Fr) (m : Mem) : wpM E 22 43 rd c_row_column_0 K t m = wpM E 22 43 rd (.seq (.ops [⟨(some 30), .move (.tmp 0), none⟩,
    ⟨(some 31), .move (.tmp 2), none⟩,
    ⟨(some 32), .indexAddr 24 (.tmp 30) (.tmp 31), none⟩,
    ⟨(some 33), .load 3 (.tmp 32), none⟩,
    ⟨(some 34), .move (.tmp 1), none⟩,
    ⟨(some 35), .move (.tmp 2), none⟩,
    ⟨(some 36), .indexAddr 24 (.tmp 34) (.tmp 35), none⟩,
    ⟨(some 37), .load 3 (.tmp 36), none⟩,
    ⟨(some 38), .call ⟨.value (.func 26), #[(.tmp 33), (.tmp 37)], #[3, 3]⟩, none⟩,
    ⟨(some 6), .assign (.tmp 38), none⟩]) .ret) K t m := rfl

def c_row_column_1 : MC := (.seq (.ops [⟨(some 6), .assign (.const (.int .i64 (-1))), none⟩]) .ret)
@[go_sem] theorem c_row_column_1_at (rd : Option Nat) (K : Post3) (t : Fr) (m : Mem) : wpM E 22 43 rd c_row_column_1 K t m = wpM E 22 43 rd (.seq (.ops [⟨(some 6), .assign (.const (.int .i64 (-1))), none⟩]) .ret) K t m := rfl

def c_row_column_2 : MC := (.seq (.ops [⟨(some 6), .assign (.const (.int .i64 1)), none⟩]) .ret)
@[go_sem] theorem c_row_column_2_at (rd : Option Nat) (K : Post3) (t : Fr) (m : Mem) : wpM E 22 43 rd c_row_column_2 K t m = wpM E 22 43 rd (.seq (.ops [⟨(some 6), .assign (.const (.int .i64 1)), none⟩]) .ret) K t m := rfl

def c_row_column_3 : MC := (.cond (.tmp 41) c_row_column_2 .skip)
@[go_sem] theorem c_row_column_3_at (rd : Option Nat) (K : Post3) (t : Fr) (m : Mem) : wpM E 22 43 rd c_row_column_3 K t m = wpM E 22 43 rd (.cond (.tmp 41) c_row_column_2 .skip) K t m := rfl

def c_row_column_4 : MC := (.seq (.ops [⟨(some 42), .move (.tmp 7), none⟩,
    ⟨(some 41), .assign (.tmp 42), none⟩]) c_row_column_3)
@[go_sem] theorem c_row_column_4_at (rd : Option Nat) (K : Post3) (t : Fr) (m : Mem) : wpM E 22 43 rd c_row_column_4 K t m = wpM E 22 43 rd (.seq (.ops [⟨(some 42), .move (.tmp 7), none⟩,
    ⟨(some 41), .assign (.tmp 42), none⟩]) c_row_column_3) K t m := rfl

def c_row_column_5 : MC := (.cond (.tmp 39) c_row_column_1 c_row_column_4)
@[go_sem] theorem c_row_column_5_at (rd : Option Nat) (K : Post3) (t : Fr) (m : Mem) : wpM E 22 43 rd c_row_column_5 K t m = wpM E 22 43 rd (.cond (.tmp 39) c_row_column_1 c_row_column_4) K t m := rfl

def c_row_column_6 : MC := (.seq (.ops [⟨(some 40), .move (.tmp 8), none⟩,
    ⟨(some 39), .assign (.tmp 40), none⟩]) c_row_column_5)
@[go_sem] theorem c_row_column_6_at (rd : Option Nat) (K : Post3) (t : Fr) (m : Mem) : wpM E 22 43 rd c_row_column_6 K t m = wpM E 22 43 rd (.seq (.ops [⟨(some 40), .move (.tmp 8), none⟩,
    ⟨(some 39), .assign (.tmp 40), none⟩]) c_row_column_5) K t m := rfl

def c_row_column_7 : MC := (.cond (.tmp 25) c_row_column_0 c_row_column_6)
@[go_sem] theorem c_row_column_7_at (rd : Option Nat) (K : Post3) (t : Fr) (m : Mem) : wpM E 22 43 rd c_row_column_7 K t m = wpM E 22 43 rd (.cond (.tmp 25) c_row_column_0 c_row_column_6) K t m := rfl

def c_row_column_8 : MC := (.seq (.ops [⟨(some 26), .move (.tmp 7), none⟩,
    ⟨(some 27), .move (.tmp 26), none⟩,
    ⟨(some 28), .move (.tmp 8), (some (some 27, true))⟩,
    ⟨(some 29), .pick (.tmp 27) (.tmp 28) (.const (.bool false)), none⟩,
    ⟨(some 25), .assign (.tmp 29), none⟩]) c_row_column_7)
@[go_sem] theorem c_row_column_8_at (rd : Option Nat) (K : Post3) (t : Fr) (m : Mem) : wpM E 22 43 rd c_row_column_8 K t m = wpM E 22 43 rd (.seq (.ops [⟨(some 26), .move (.tmp 7), none⟩,
    ⟨(some 27), .move (.tmp 26), none⟩,
    ⟨(some 28), .move (.tmp 8), (some (some 27, true))⟩,
    ⟨(some 29), .pick (.tmp 27) (.tmp 28) (.const (.bool false)), none⟩,
    ⟨(some 25), .assign (.tmp 29), none⟩]) c_row_column_7) K t m := rfl

def c_row_column_9 : MC := (.block 0 c_row_column_8)
@[go_sem] theorem c_row_column_9_at (rd : Option Nat) (K : Post3) (t : Fr) (m : Mem) : wpM E 22 43 rd c_row_column_9 K t m = wpM E 22 43 rd (.block 0 c_row_column_8) K t m := rfl

def c_row_column_10 : MC := (.seq (.ops [⟨(some 6), .assign (.const (.int .i64 0)), none⟩]) .ret)
@[go_sem] theorem c_row_column_10_at (rd : Option Nat) (K : Post3) (t : Fr) (m : Mem) : wpM E 22 43 rd c_row_column_10 K t m = wpM E 22 43 rd (.seq (.ops [⟨(some 6), .assign (.const (.int .i64 0)), none⟩]) .ret) K t m := rfl

def c_row_column_11 : MC := (.seq c_row_column_9 c_row_column_10)
@[go_sem] theorem c_row_column_11_at (rd : Option Nat) (K : Post3) (t : Fr) (m : Mem) : wpM E 22 43 rd c_row_column_11 K t m = wpM E 22 43 rd (.seq c_row_column_9 c_row_column_10) K t m := rfl

def c_row_column_12 : MC := (.seq (.ops [⟨(some 9), .move (.tmp 2), none⟩,
    ⟨(some 10), .binOp .geq 3 (.tmp 9) (.const (.int .i64 0)) 3, none⟩,
    ⟨(some 11), .move (.tmp 10), none⟩,
    ⟨(some 12), .move (.tmp 2), (some (some 11, true))⟩,
    ⟨(some 13), .move (.tmp 0), (some (some 11, true))⟩,
    ⟨(some 14), .call ⟨.builtin .len, #[(.tmp 13)], #[24]⟩, (some (some 11, true))⟩,
    ⟨(some 15), .binOp .lss 3 (.tmp 12) (.tmp 14) 3, (some (some 11, true))⟩,
    ⟨(some 16), .pick (.tmp 11) (.tmp 15) (.const (.bool false)), none⟩,
    ⟨(some 17), .move (.tmp 2), none⟩,
    ⟨(some 18), .binOp .geq 3 (.tmp 17) (.const (.int .i64 0)) 3, none⟩,
    ⟨(some 19), .move (.tmp 18), none⟩,
    ⟨(some 20), .move (.tmp 2), (some (some 19, true))⟩,
    ⟨(some 21), .move (.tmp 1), (some (some 19, true))⟩,
    ⟨(some 22), .call ⟨.builtin .len, #[(.tmp 21)], #[24]⟩, (some (some 19, true))⟩,
    ⟨(some 23), .binOp .lss 3 (.tmp 20) (.tmp 22) 3, (some (some 19, true))⟩,
    ⟨(some 24), .pick (.tmp 19) (.tmp 23) (.const (.bool false)), none⟩,
    ⟨(some 7), .assign (.tmp 16), none⟩,
    ⟨(some 8), .assign (.tmp 24), none⟩]) c_row_column_11)
@[go_sem] theorem c_row_column_12_at (rd : Option Nat) (K : Post3) (t : Fr) (m : Mem) : wpM E 22 43 rd c_row_column_12 K t m = wpM E 22 43 rd (.seq (.ops [⟨(some 9), .move (.tmp 2), none⟩,
    ⟨(some 10), .binOp .geq 3 (.tmp 9) (.const (.int .i64 0)) 3, none⟩,
    ⟨(some 11), .move (.tmp 10), none⟩,
    ⟨(some 12), .move (.tmp 2), (some (some 11, true))⟩,
    ⟨(some 13), .move (.tmp 0), (some (some 11, true))⟩,
    ⟨(some 14), .call ⟨.builtin .len, #[(.tmp 13)], #[24]⟩, (some (some 11, true))⟩,
    ⟨(some 15), .binOp .lss 3 (.tmp 12) (.tmp 14) 3, (some (some 11, true))⟩,
    ⟨(some 16), .pick (.tmp 11) (.tmp 15) (.const (.bool false)), none⟩,
    ⟨(some 17), .move (.tmp 2), none⟩,
    ⟨(some 18), .binOp .geq 3 (.tmp 17) (.const (.int .i64 0)) 3, none⟩,
    ⟨(some 19), .move (.tmp 18), none⟩,
    ⟨(some 20), .move (.tmp 2), (some (some 19, true))⟩,
    ⟨(some 21), .move (.tmp 1), (some (some 19, true))⟩,
    ⟨(some 22), .call ⟨.builtin .len, #[(.tmp 21)], #[24]⟩, (some (some 19, true))⟩,
    ⟨(some 23), .binOp .lss 3 (.tmp 20) (.tmp 22) 3, (some (some 19, true))⟩,
    ⟨(some 24), .pick (.tmp 19) (.tmp 23) (.const (.bool false)), none⟩,
    ⟨(some 7), .assign (.tmp 16), none⟩,
    ⟨(some 8), .assign (.tmp 24), none⟩]) c_row_column_11) K t m := rfl

def c_row_column_13 : MC := (.seq (.ops [⟨(some 6), .assign (.const (.int .i64 0)), none⟩]) c_row_column_12)
@[go_sem] theorem c_row_column_13_at (rd : Option Nat) (K : Post3) (t : Fr) (m : Mem) : wpM E 22 43 rd c_row_column_13 K t m = wpM E 22 43 rd (.seq (.ops [⟨(some 6), .assign (.const (.int .i64 0)), none⟩]) c_row_column_12) K t m := rfl

@[go_sem] theorem some22 : (E.fn 22).isSome = true := by kernel_rfl
set_option maxRecDepth 100000 in
theorem fn_row_column : FnIs E 22 43 [.tmp 6] c_row_column_13 := ⟨by kernel_rfl, by kernel_rfl⟩

/-! cmp.Compare[int] -/
abbrev F_cmp_Compare_int : FuncId := 26
def c_cmp_Compare_int_0 : MC := (.seq (.ops [⟨(some 4), .assign (.const (.int .i64 0)), none⟩]) .ret)
@[go_sem] theorem c_cmp_Compare_int_0_at (rd : Option Nat) (K : Post3) (t : Fr) (m : Mem) : wpM E 26 20 rd c_cmp_Compare_int_0 K t m = wpM E 26 20 rd (.seq (.ops [⟨(some 4), .assign (.const (.int .i64 0)), none⟩]) .ret) K t m := rfl

def c_cmp_Compare_int_1 : MC := (.cond (.tmp 12) c_cmp_Compare_int_0 .skip)
@[go_sem] theorem c_cmp_Compare_int_1_at (rd : Option Nat) (K : Post3) (t : Fr) (m : Mem) : wpM E 26 20 rd c_cmp_Compare_int_1 K t m = wpM E 26 20 rd (.cond (.tmp 12) c_cmp_Compare_int_0 .skip) K t m := rfl

def c_cmp_Compare_int_2 : MC := (.seq (.ops [⟨(some 12), .move (.tmp 6), none⟩]) c_cmp_Compare_int_1)
@[go_sem] theorem c_cmp_Compare_int_2_at (rd : Option Nat) (K : Post3) (t : Fr) (m : Mem) : wpM E 26 20 rd c_cmp_Compare_int_2 K t m = wpM E 26 20 rd (.seq (.ops [⟨(some 12), .move (.tmp 6), none⟩]) c_cmp_Compare_int_1) K t m := rfl

def c_cmp_Compare_int_3 : MC := (.seq (.ops [⟨(some 4), .assign (.const (.int .i64 (-1))), none⟩]) .ret)
@[go_sem] theorem c_cmp_Compare_int_3_at (rd : Option Nat) (K : Post3) (t : Fr) (m : Mem) : wpM E 26 20 rd c_cmp_Compare_int_3 K t m = wpM E 26 20 rd (.seq (.ops [⟨(some 4), .assign (.const (.int .i64 (-1))), none⟩]) .ret) K t m := rfl

def c_cmp_Compare_int_4 : MC := (.seq c_cmp_Compare_int_2 c_cmp_Compare_int_3)
@[go_sem] theorem c_cmp_Compare_int_4_at (rd : Option Nat) (K : Post3) (t : Fr) (m : Mem) : wpM E 26 20 rd c_cmp_Compare_int_4 K t m = wpM E 26 20 rd (.seq c_cmp_Compare_int_2 c_cmp_Compare_int_3) K t m := rfl

def c_cmp_Compare_int_5 : MC := (.cond (.tmp 11) c_cmp_Compare_int_4 .skip)
@[go_sem] theorem c_cmp_Compare_int_5_at (rd : Option Nat) (K : Post3) (t : Fr) (m : Mem) : wpM E 26 20 rd c_cmp_Compare_int_5 K t m = wpM E 26 20 rd (.cond (.tmp 11) c_cmp_Compare_int_4 .skip) K t m := rfl

def c_cmp_Compare_int_6 : MC := (.seq (.ops [⟨(some 11), .move (.tmp 5), none⟩]) c_cmp_Compare_int_5)
@[go_sem] theorem c_cmp_Compare_int_6_at (rd : Option Nat) (K : Post3) (t : Fr) (m : Mem) : wpM E 26 20 rd c_cmp_Compare_int_6 K t m = wpM E 26 20 rd (.seq (.ops [⟨(some 11), .move (.tmp 5), none⟩]) c_cmp_Compare_int_5) K t m := rfl

def c_cmp_Compare_int_7 : MC := (.seq (.ops [⟨(some 4), .assign (.const (.int .i64 1)), none⟩]) .ret)
@[go_sem] theorem c_cmp_Compare_int_7_at (rd : Option Nat) (K : Post3) (t : Fr) (m : Mem) : wpM E 26 20 rd c_cmp_Compare_int_7 K t m = wpM E 26 20 rd (.seq (.ops [⟨(some 4), .assign (.const (.int .i64 1)), none⟩]) .ret) K t m := rfl

def c_cmp_Compare_int_8 : MC := (.cond (.tmp 13) c_cmp_Compare_int_7 .skip)
@[go_sem] theorem c_cmp_Compare_int_8_at (rd : Option Nat) (K : Post3) (t : Fr) (m : Mem) : wpM E 26 20 rd c_cmp_Compare_int_8 K t m = wpM E 26 20 rd (.cond (.tmp 13) c_cmp_Compare_int_7 .skip) K t m := rfl

def c_cmp_Compare_int_9 : MC := (.seq (.ops [⟨(some 13), .move (.tmp 6), none⟩]) c_cmp_Compare_int_8)
@[go_sem] theorem c_cmp_Compare_int_9_at (rd : Option Nat) (K : Post3) (t : Fr) (m : Mem) : wpM E 26 20 rd c_cmp_Compare_int_9 K t m = wpM E 26 20 rd (.seq (.ops [⟨(some 13), .move (.tmp 6), none⟩]) c_cmp_Compare_int_8) K t m := rfl

def c_cmp_Compare_int_10 : MC := (.seq (.ops [⟨(some 4), .assign (.const (.int .i64 (-1))), none⟩]) .ret)
@[go_sem] theorem c_cmp_Compare_int_10_at (rd : Option Nat) (K : Post3) (t : Fr) (m : Mem) : wpM E 26 20 rd c_cmp_Compare_int_10 K t m = wpM E 26 20 rd (.seq (.ops [⟨(some 4), .assign (.const (.int .i64 (-1))), none⟩]) .ret) K t m := rfl

def c_cmp_Compare_int_11 : MC := (.cond (.tmp 16) c_cmp_Compare_int_10 .skip)
@[go_sem] theorem c_cmp_Compare_int_11_at (rd : Option Nat) (K : Post3) (t : Fr) (m : Mem) : wpM E 26 20 rd c_cmp_Compare_int_11 K t m = wpM E 26 20 rd (.cond (.tmp 16) c_cmp_Compare_int_10 .skip) K t m := rfl

def c_cmp_Compare_int_12 : MC := (.seq (.ops [⟨(some 14), .move (.tmp 0), none⟩,
    ⟨(some 15), .move (.tmp 1), none⟩,
    ⟨(some 16), .binOp .lss 3 (.tmp 14) (.tmp 15) 3, none⟩]) c_cmp_Compare_int_11)
@[go_sem] theorem c_cmp_Compare_int_12_at (rd : Option Nat) (K : Post3) (t : Fr) (m : Mem) : wpM E 26 20 rd c_cmp_Compare_int_12 K t m = wpM E 26 20 rd (.seq (.ops [⟨(some 14), .move (.tmp 0), none⟩,
    ⟨(some 15), .move (.tmp 1), none⟩,
    ⟨(some 16), .binOp .lss 3 (.tmp 14) (.tmp 15) 3, none⟩]) c_cmp_Compare_int_11) K t m := rfl

def c_cmp_Compare_int_13 : MC := (.seq (.ops [⟨(some 4), .assign (.const (.int .i64 1)), none⟩]) .ret)
@[go_sem] theorem c_cmp_Compare_int_13_at (rd : Option Nat) (K : Post3) (t : Fr) (m : Mem) : wpM E 26 20 rd c_cmp_Compare_int_13 K t m = wpM E 26 20 rd (.seq (.ops [⟨(some 4), .assign (.const (.int .i64 1)), none⟩]) .ret) K t m := rfl

def c_cmp_Compare_int_14 : MC := (.cond (.tmp 19) c_cmp_Compare_int_13 .skip)
@[go_sem] theorem c_cmp_Compare_int_14_at (rd : Option Nat) (K : Post3) (t : Fr) (m : Mem) : wpM E 26 20 rd c_cmp_Compare_int_14 K t m = wpM E 26 20 rd (.cond (.tmp 19) c_cmp_Compare_int_13 .skip) K t m := rfl

def c_cmp_Compare_int_15 : MC := (.seq (.ops [⟨(some 17), .move (.tmp 0), none⟩,
    ⟨(some 18), .move (.tmp 1), none⟩,
    ⟨(some 19), .binOp .gtr 3 (.tmp 17) (.tmp 18) 3, none⟩]) c_cmp_Compare_int_14)
@[go_sem] theorem c_cmp_Compare_int_15_at (rd : Option Nat) (K : Post3) (t : Fr) (m : Mem) : wpM E 26 20 rd c_cmp_Compare_int_15 K t m = wpM E 26 20 rd (.seq (.ops [⟨(some 17), .move (.tmp 0), none⟩,
    ⟨(some 18), .move (.tmp 1), none⟩,
    ⟨(some 19), .binOp .gtr 3 (.tmp 17) (.tmp 18) 3, none⟩]) c_cmp_Compare_int_14) K t m := rfl

def c_cmp_Compare_int_16 : MC := (.seq (.ops [⟨(some 4), .assign (.const (.int .i64 0)), none⟩]) .ret)
@[go_sem] theorem c_cmp_Compare_int_16_at (rd : Option Nat) (K : Post3) (t : Fr) (m : Mem) : wpM E 26 20 rd c_cmp_Compare_int_16 K t m = wpM E 26 20 rd (.seq (.ops [⟨(some 4), .assign (.const (.int .i64 0)), none⟩]) .ret) K t m := rfl

def c_cmp_Compare_int_17 : MC := (.seq c_cmp_Compare_int_15 c_cmp_Compare_int_16)
@[go_sem] theorem c_cmp_Compare_int_17_at (rd : Option Nat) (K : Post3) (t : Fr) (m : Mem) : wpM E 26 20 rd c_cmp_Compare_int_17 K t m = wpM E 26 20 rd (.seq c_cmp_Compare_int_15 c_cmp_Compare_int_16) K t m := rfl

def c_cmp_Compare_int_18 : MC := (.seq c_cmp_Compare_int_12 c_cmp_Compare_int_17)
@[go_sem] theorem c_cmp_Compare_int_18_at (rd : Option Nat) (K : Post3) (t : Fr) (m : Mem) : wpM E 26 20 rd c_cmp_Compare_int_18 K t m = wpM E 26 20 rd (.seq c_cmp_Compare_int_12 c_cmp_Compare_int_17) K t m := rfl

def c_cmp_Compare_int_19 : MC := (.seq c_cmp_Compare_int_9 c_cmp_Compare_int_18)
@[go_sem] theorem c_cmp_Compare_int_19_at (rd : Option Nat) (K : Post3) (t : Fr) (m : Mem) : wpM E 26 20 rd c_cmp_Compare_int_19 K t m = wpM E 26 20 rd (.seq c_cmp_Compare_int_9 c_cmp_Compare_int_18) K t m := rfl

def c_cmp_Compare_int_20 : MC := (.seq c_cmp_Compare_int_6 c_cmp_Compare_int_19)
@[go_sem] theorem c_cmp_Compare_int_20_at (rd : Option Nat) (K : Post3) (t : Fr) (m : Mem) : wpM E 26 20 rd c_cmp_Compare_int_20 K t m = wpM E 26 20 rd (.seq c_cmp_Compare_int_6 c_cmp_Compare_int_19) K t m := rfl

def c_cmp_Compare_int_21 : MC := (.seq (.ops [⟨(some 9), .move (.tmp 1), none⟩,
    ⟨(some 10), .call ⟨.value (.func 27), #[(.tmp 9)], #[3]⟩, none⟩,
    ⟨(some 6), .assign (.tmp 10), none⟩]) c_cmp_Compare_int_20)
@[go_sem] theorem c_cmp_Compare_int_21_at (rd : Option Nat) (K : Post3) (t : Fr) (m : Mem) : wpM E 26 20 rd c_cmp_Compare_int_21 K t m = wpM E 26 20 rd (.seq (.ops [⟨(some 9), .move (.tmp 1), none⟩,
    ⟨(some 10), .call ⟨.value (.func 27), #[(.tmp 9)], #[3]⟩, none⟩,
    ⟨(some 6), .assign (.tmp 10), none⟩]) c_cmp_Compare_int_20) K t m := rfl

def c_cmp_Compare_int_22 : MC := (.seq (.ops [⟨(some 7), .move (.tmp 0), none⟩,
    ⟨(some 8), .call ⟨.value (.func 27), #[(.tmp 7)], #[3]⟩, none⟩,
    ⟨(some 5), .assign (.tmp 8), none⟩]) c_cmp_Compare_int_21)
@[go_sem] theorem c_cmp_Compare_int_22_at (rd : Option Nat) (K : Post3) (t : Fr) (m : Mem) : wpM E 26 20 rd c_cmp_Compare_int_22 K t m = wpM E 26 20 rd (.seq (.ops [⟨(some 7), .move (.tmp 0), none⟩,
    ⟨(some 8), .call ⟨.value (.func 27), #[(.tmp 7)], #[3]⟩, none⟩,
    ⟨(some 5), .assign (.tmp 8), none⟩]) c_cmp_Compare_int_21) K t m := rfl

def c_cmp_Compare_int_23 : MC := (.seq (.ops [⟨(some 4), .assign (.const (.int .i64 0)), none⟩]) c_cmp_Compare_int_22)
@[go_sem] theorem c_cmp_Compare_int_23_at (rd : Option Nat) (K : Post3) (t : Fr) (m : Mem) : wpM E 26 20 rd c_cmp_Compare_int_23 K t m = wpM E 26 20 rd (.seq (.ops [⟨(some 4), .assign (.const (.int .i64 0)), none⟩]) c_cmp_Compare_int_22) K t m := rfl

@[go_sem] theorem some26 : (E.fn 26).isSome = true := by kernel_rfl
set_option maxRecDepth 100000 in
theorem fn_cmp_Compare_int : FnIs E 26 20 [.tmp 4] c_cmp_Compare_int_23 := ⟨by kernel_rfl, by kernel_rfl⟩

/-! cmp.isNaN[int] -/
abbrev F_cmp_isNaN_int : FuncId := 27
def c_cmp_isNaN_int_0 : MC := (.seq (.ops [⟨(some 3), .move (.tmp 0), none⟩,
    ⟨(some 4), .move (.tmp 0), none⟩,
    ⟨(some 5), .binOp .neq 3 (.tmp 3) (.tmp 4) 3, none⟩,
    ⟨(some 2), .assign (.tmp 5), none⟩]) .ret)
@[go_sem] theorem c_cmp_isNaN_int_0_at (rd : Option Nat) (K : Post3) (t : Fr) (m : Mem) : wpM E 27 6 rd c_cmp_isNaN_int_0 K t m = wpM E 27 6 rd (.seq (.ops [⟨(some 3), .move (.tmp 0), none⟩,
    ⟨(some 4), .move (.tmp 0), none⟩,
    ⟨(some 5), .binOp .neq 3 (.tmp 3) (.tmp 4) 3, none⟩,
    ⟨(some 2), .assign (.tmp 5), none⟩]) .ret) K t m := rfl

def c_cmp_isNaN_int_1 : MC := (.seq (.ops [⟨(some 2), .assign (.const (.bool false)), none⟩]) c_cmp_isNaN_int_0)
@[go_sem] theorem c_cmp_isNaN_int_1_at (rd : Option Nat) (K : Post3) (t : Fr) (m : Mem) : wpM E 27 6 rd c_cmp_isNaN_int_1 K t m = wpM E 27 6 rd (.seq (.ops [⟨(some 2), .assign (.const (.bool false)), none⟩]) c_cmp_isNaN_int_0) K t m := rfl

@[go_sem] theorem some27 : (E.fn 27).isSome = true := by kernel_rfl
set_option maxRecDepth 100000 in
theorem fn_cmp_isNaN_int : FnIs E 27 6 [.tmp 2] c_cmp_isNaN_int_1 := ⟨by kernel_rfl, by kernel_rfl⟩

end Go.Proofs.Ytkbjkmhmkefckaa.W
