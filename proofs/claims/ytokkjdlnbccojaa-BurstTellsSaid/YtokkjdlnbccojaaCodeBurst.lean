/-
  Compact code, printed by a program of mine (wip/dev/AbsPrint.lean).
-/
import Derived.Test.YtokkjdlnbccojaaTypes
set_option linter.unusedVariables false
namespace Go.Proofs.Ytokkjdlnbccojaa.W
open Go.Abs

/-! sheaf/burst.Close -/
abbrev F_burst_Close : FuncId := 8
def c_burst_Close_0 : MC := (.seq (.ops [⟨(some 11), .move (.tmp 4), none⟩,
    ⟨(some 12), .move (.tmp 0), none⟩,
    ⟨(some 13), .call ⟨.builtin .append, #[(.tmp 11), (.tmp 12)], #[22, 22]⟩, none⟩,
    ⟨(some 14), .move (.tmp 3), none⟩,
    ⟨(some 15), .convert 24 5 (.tmp 14), none⟩,
    ⟨(some 16), .move (.tmp 3), none⟩,
    ⟨(some 17), .binOp .shr 24 (.tmp 16) (.const (.int .u64 8)) 29, none⟩,
    ⟨(some 18), .convert 24 5 (.tmp 17), none⟩,
    ⟨(some 19), .move (.tmp 3), none⟩,
    ⟨(some 20), .binOp .shr 24 (.tmp 19) (.const (.int .u64 16)) 29, none⟩,
    ⟨(some 21), .convert 24 5 (.tmp 20), none⟩,
    ⟨(some 22), .move (.tmp 3), none⟩,
    ⟨(some 23), .binOp .shr 24 (.tmp 22) (.const (.int .u64 24)) 29, none⟩,
    ⟨(some 24), .convert 24 5 (.tmp 23), none⟩,
    ⟨(some 25), .buildSlice 22 4 #[(0, (.tmp 15)), (1, (.tmp 18)), (2, (.tmp 21)), (3, (.tmp 24))], none⟩,
    ⟨(some 26), .call ⟨.builtin .append, #[(.tmp 13), (.tmp 25)], #[22, 22]⟩, none⟩,
    ⟨(some 2), .assign (.tmp 26), none⟩]) .ret)
@[go_sem] theorem c_burst_Close_0_at (rd : Option Nat) (K : Post3) (t : Fr) (m : Mem) : wpM E 8 27 rd c_burst_Close_0 K t m = wpM E 8 27 rd (.seq (.ops [⟨(some 11), .move (.tmp 4), none⟩,
    ⟨(some 12), .move (.tmp 0), none⟩,
    ⟨(some 13), .call ⟨.builtin .append, #[(.tmp 11), (.tmp 12)], #[22, 22]⟩, none⟩,
    ⟨(some 14), .move (.tmp 3), none⟩,
    ⟨(some 15), .convert 24 5 (.tmp 14), none⟩,
    ⟨(some 16), .move (.tmp 3), none⟩,
    ⟨(some 17), .binOp .shr 24 (.tmp 16) (.const (.int .u64 8)) 29, none⟩,
    ⟨(some 18), .convert 24 5 (.tmp 17), none⟩,
    ⟨(some 19), .move (.tmp 3), none⟩,
    ⟨(some 20), .binOp .shr 24 (.tmp 19) (.const (.int .u64 16)) 29, none⟩,
    ⟨(some 21), .convert 24 5 (.tmp 20), none⟩,
    ⟨(some 22), .move (.tmp 3), none⟩,
    ⟨(some 23), .binOp .shr 24 (.tmp 22) (.const (.int .u64 24)) 29, none⟩,
    ⟨(some 24), .convert 24 5 (.tmp 23), none⟩,
    ⟨(some 25), .buildSlice 22 4 #[(0, (.tmp 15)), (1, (.tmp 18)), (2, (.tmp 21)), (3, (.tmp 24))], none⟩,
    ⟨(some 26), .call ⟨.builtin .append, #[(.tmp 13), (.tmp 25)], #[22, 22]⟩, none⟩,
    ⟨(some 2), .assign (.tmp 26), none⟩]) .ret) K t m := rfl

def c_burst_Close_1 : MC := (.seq (.ops [⟨(some 7), .move (.tmp 0), none⟩,
    ⟨(some 8), .call ⟨.builtin .len, #[(.tmp 7)], #[22]⟩, none⟩,
    ⟨(some 9), .binOp .add 3 (.tmp 8) (.const (.int .i64 4)) 3, none⟩,
    ⟨(some 10), .makeSlice 22 (.const (.int .i64 0)) (.tmp 9), none⟩,
    ⟨(some 4), .assign (.tmp 10), none⟩]) c_burst_Close_0)
@[go_sem] theorem c_burst_Close_1_at (rd : Option Nat) (K : Post3) (t : Fr) (m : Mem) : wpM E 8 27 rd c_burst_Close_1 K t m = wpM E 8 27 rd (.seq (.ops [⟨(some 7), .move (.tmp 0), none⟩,
    ⟨(some 8), .call ⟨.builtin .len, #[(.tmp 7)], #[22]⟩, none⟩,
    ⟨(some 9), .binOp .add 3 (.tmp 8) (.const (.int .i64 4)) 3, none⟩,
    ⟨(some 10), .makeSlice 22 (.const (.int .i64 0)) (.tmp 9), none⟩,
    ⟨(some 4), .assign (.tmp 10), none⟩]) c_burst_Close_0) K t m := rfl

def c_burst_Close_2 : MC := (.seq (.ops [⟨(some 5), .move (.tmp 0), none⟩,
    ⟨(some 6), .call ⟨.value (.func 9), #[(.tmp 5)], #[22]⟩, none⟩,
    ⟨(some 3), .assign (.tmp 6), none⟩]) c_burst_Close_1)
@[go_sem] theorem c_burst_Close_2_at (rd : Option Nat) (K : Post3) (t : Fr) (m : Mem) : wpM E 8 27 rd c_burst_Close_2 K t m = wpM E 8 27 rd (.seq (.ops [⟨(some 5), .move (.tmp 0), none⟩,
    ⟨(some 6), .call ⟨.value (.func 9), #[(.tmp 5)], #[22]⟩, none⟩,
    ⟨(some 3), .assign (.tmp 6), none⟩]) c_burst_Close_1) K t m := rfl

def c_burst_Close_3 : MC := (.seq (.ops [⟨(some 2), .assign (.const (.slice none 0 0)), none⟩]) c_burst_Close_2)
@[go_sem] theorem c_burst_Close_3_at (rd : Option Nat) (K : Post3) (t : Fr) (m : Mem) : wpM E 8 27 rd c_burst_Close_3 K t m = wpM E 8 27 rd (.seq (.ops [⟨(some 2), .assign (.const (.slice none 0 0)), none⟩]) c_burst_Close_2) K t m := rfl

@[go_sem] theorem some8 : (E.fn 8).isSome = true := by kernel_rfl
set_option maxRecDepth 100000 in
theorem fn_burst_Close : FnIs E 8 27 [.tmp 2] c_burst_Close_3 := ⟨by kernel_rfl, by kernel_rfl⟩

/-! sheaf/burst.Sum -/
abbrev F_burst_Sum : FuncId := 9
def c_burst_Sum_0 : MC := (.cond (.tmp 10) .skip (.exit 0))
@[go_sem] theorem c_burst_Sum_0_at (rd : Option Nat) (K : Post3) (t : Fr) (m : Mem) : wpM E 9 30 rd c_burst_Sum_0 K t m = wpM E 9 30 rd (.cond (.tmp 10) .skip (.exit 0)) K t m := rfl

def c_burst_Sum_1 : MC := (.cond (.tmp 18) .skip (.exit 2))
@[go_sem] theorem c_burst_Sum_1_at (rd : Option Nat) (K : Post3) (t : Fr) (m : Mem) : wpM E 9 30 rd c_burst_Sum_1 K t m = wpM E 9 30 rd (.cond (.tmp 18) .skip (.exit 2)) K t m := rfl

def c_burst_Sum_2 : MC := (.seq (.ops [⟨(some 19), .move (.tmp 3), none⟩,
    ⟨(some 20), .binOp .and 24 (.tmp 19) (.const (.int .u32 1)) 24, none⟩,
    ⟨(some 6), .assign (.tmp 20), none⟩]) (.ops [⟨(some 21), .move (.tmp 3), none⟩,
    ⟨(some 22), .binOp .shr 24 (.tmp 21) (.const (.int .u64 1)) 29, none⟩,
    ⟨(some 23), .move (.tmp 6), none⟩,
    ⟨(some 24), .binOp .mul 24 (.const (.int .u32 3988292384)) (.tmp 23) 24, none⟩,
    ⟨(some 25), .binOp .xor 24 (.tmp 22) (.tmp 24) 24, none⟩,
    ⟨(some 3), .assign (.tmp 25), none⟩]))
@[go_sem] theorem c_burst_Sum_2_at (rd : Option Nat) (K : Post3) (t : Fr) (m : Mem) : wpM E 9 30 rd c_burst_Sum_2 K t m = wpM E 9 30 rd (.seq (.ops [⟨(some 19), .move (.tmp 3), none⟩,
    ⟨(some 20), .binOp .and 24 (.tmp 19) (.const (.int .u32 1)) 24, none⟩,
    ⟨(some 6), .assign (.tmp 20), none⟩]) (.ops [⟨(some 21), .move (.tmp 3), none⟩,
    ⟨(some 22), .binOp .shr 24 (.tmp 21) (.const (.int .u64 1)) 29, none⟩,
    ⟨(some 23), .move (.tmp 6), none⟩,
    ⟨(some 24), .binOp .mul 24 (.const (.int .u32 3988292384)) (.tmp 23) 24, none⟩,
    ⟨(some 25), .binOp .xor 24 (.tmp 22) (.tmp 24) 24, none⟩,
    ⟨(some 3), .assign (.tmp 25), none⟩])) K t m := rfl

def c_burst_Sum_3 : MC := (.block 3 c_burst_Sum_2)
@[go_sem] theorem c_burst_Sum_3_at (rd : Option Nat) (K : Post3) (t : Fr) (m : Mem) : wpM E 9 30 rd c_burst_Sum_3 K t m = wpM E 9 30 rd (.block 3 c_burst_Sum_2) K t m := rfl

def c_burst_Sum_4 : MC := (.seq c_burst_Sum_3 (.ops [⟨(some 26), .binOp .add 3 (.tmp 17) (.const (.int .i64 1)) 3, none⟩,
    ⟨(some 17), .move (.tmp 26), none⟩]))
@[go_sem] theorem c_burst_Sum_4_at (rd : Option Nat) (K : Post3) (t : Fr) (m : Mem) : wpM E 9 30 rd c_burst_Sum_4 K t m = wpM E 9 30 rd (.seq c_burst_Sum_3 (.ops [⟨(some 26), .binOp .add 3 (.tmp 17) (.const (.int .i64 1)) 3, none⟩,
    ⟨(some 17), .move (.tmp 26), none⟩])) K t m := rfl

def c_burst_Sum_5 : MC := (.seq c_burst_Sum_1 c_burst_Sum_4)
@[go_sem] theorem c_burst_Sum_5_at (rd : Option Nat) (K : Post3) (t : Fr) (m : Mem) : wpM E 9 30 rd c_burst_Sum_5 K t m = wpM E 9 30 rd (.seq c_burst_Sum_1 c_burst_Sum_4) K t m := rfl

def c_burst_Sum_6 : MC := (.seq (.ops [⟨(some 18), .binOp .lss 3 (.tmp 17) (.const (.int .i64 8)) 3, none⟩]) c_burst_Sum_5)
@[go_sem] theorem c_burst_Sum_6_at (rd : Option Nat) (K : Post3) (t : Fr) (m : Mem) : wpM E 9 30 rd c_burst_Sum_6 K t m = wpM E 9 30 rd (.seq (.ops [⟨(some 18), .binOp .lss 3 (.tmp 17) (.const (.int .i64 8)) 3, none⟩]) c_burst_Sum_5) K t m := rfl

def c_burst_Sum_7 : MC := (.loop c_burst_Sum_6)
theorem c_burst_Sum_7_at (rd : Option Nat) (K : Post3) (t : Fr) (m : Mem) : wpM E 9 30 rd c_burst_Sum_7 K t m = wpM E 9 30 rd (.loop c_burst_Sum_6) K t m := rfl

def c_burst_Sum_8 : MC := (.block 2 c_burst_Sum_7)
theorem c_burst_Sum_8_at (rd : Option Nat) (K : Post3) (t : Fr) (m : Mem) : wpM E 9 30 rd c_burst_Sum_8 K t m = wpM E 9 30 rd (.block 2 c_burst_Sum_7) K t m := rfl

def c_burst_Sum_9 : MC := (.seq (.ops [⟨(some 17), .move (.const (.int .i64 0)), none⟩]) c_burst_Sum_8)
@[go_sem] theorem c_burst_Sum_9_at (rd : Option Nat) (K : Post3) (t : Fr) (m : Mem) : wpM E 9 30 rd c_burst_Sum_9 K t m = wpM E 9 30 rd (.seq (.ops [⟨(some 17), .move (.const (.int .i64 0)), none⟩]) c_burst_Sum_8) K t m := rfl

def c_burst_Sum_10 : MC := (.seq (.ops [⟨(some 13), .move (.tmp 3), none⟩,
    ⟨(some 14), .move (.tmp 5), none⟩,
    ⟨(some 15), .convert 5 24 (.tmp 14), none⟩,
    ⟨(some 16), .binOp .xor 24 (.tmp 13) (.tmp 15) 24, none⟩,
    ⟨(some 3), .assign (.tmp 16), none⟩]) c_burst_Sum_9)
@[go_sem] theorem c_burst_Sum_10_at (rd : Option Nat) (K : Post3) (t : Fr) (m : Mem) : wpM E 9 30 rd c_burst_Sum_10 K t m = wpM E 9 30 rd (.seq (.ops [⟨(some 13), .move (.tmp 3), none⟩,
    ⟨(some 14), .move (.tmp 5), none⟩,
    ⟨(some 15), .convert 5 24 (.tmp 14), none⟩,
    ⟨(some 16), .binOp .xor 24 (.tmp 13) (.tmp 15) 24, none⟩,
    ⟨(some 3), .assign (.tmp 16), none⟩]) c_burst_Sum_9) K t m := rfl

def c_burst_Sum_11 : MC := (.seq (.ops [⟨(some 11), .indexAddr 22 (.tmp 7) (.tmp 9), none⟩,
    ⟨(some 12), .load 5 (.tmp 11), none⟩,
    ⟨(some 5), .assign (.tmp 12), none⟩]) c_burst_Sum_10)
@[go_sem] theorem c_burst_Sum_11_at (rd : Option Nat) (K : Post3) (t : Fr) (m : Mem) : wpM E 9 30 rd c_burst_Sum_11 K t m = wpM E 9 30 rd (.seq (.ops [⟨(some 11), .indexAddr 22 (.tmp 7) (.tmp 9), none⟩,
    ⟨(some 12), .load 5 (.tmp 11), none⟩,
    ⟨(some 5), .assign (.tmp 12), none⟩]) c_burst_Sum_10) K t m := rfl

def c_burst_Sum_12 : MC := (.block 1 c_burst_Sum_11)
@[go_sem] theorem c_burst_Sum_12_at (rd : Option Nat) (K : Post3) (t : Fr) (m : Mem) : wpM E 9 30 rd c_burst_Sum_12 K t m = wpM E 9 30 rd (.block 1 c_burst_Sum_11) K t m := rfl

def c_burst_Sum_13 : MC := (.seq c_burst_Sum_12 (.ops [⟨(some 27), .binOp .add 3 (.tmp 9) (.const (.int .i64 1)) 3, none⟩,
    ⟨(some 9), .move (.tmp 27), none⟩]))
@[go_sem] theorem c_burst_Sum_13_at (rd : Option Nat) (K : Post3) (t : Fr) (m : Mem) : wpM E 9 30 rd c_burst_Sum_13 K t m = wpM E 9 30 rd (.seq c_burst_Sum_12 (.ops [⟨(some 27), .binOp .add 3 (.tmp 9) (.const (.int .i64 1)) 3, none⟩,
    ⟨(some 9), .move (.tmp 27), none⟩])) K t m := rfl

def c_burst_Sum_14 : MC := (.seq c_burst_Sum_0 c_burst_Sum_13)
@[go_sem] theorem c_burst_Sum_14_at (rd : Option Nat) (K : Post3) (t : Fr) (m : Mem) : wpM E 9 30 rd c_burst_Sum_14 K t m = wpM E 9 30 rd (.seq c_burst_Sum_0 c_burst_Sum_13) K t m := rfl

def c_burst_Sum_15 : MC := (.seq (.ops [⟨(some 10), .binOp .lss 3 (.tmp 9) (.tmp 8) 3, none⟩]) c_burst_Sum_14)
@[go_sem] theorem c_burst_Sum_15_at (rd : Option Nat) (K : Post3) (t : Fr) (m : Mem) : wpM E 9 30 rd c_burst_Sum_15 K t m = wpM E 9 30 rd (.seq (.ops [⟨(some 10), .binOp .lss 3 (.tmp 9) (.tmp 8) 3, none⟩]) c_burst_Sum_14) K t m := rfl

def c_burst_Sum_16 : MC := (.loop c_burst_Sum_15)
theorem c_burst_Sum_16_at (rd : Option Nat) (K : Post3) (t : Fr) (m : Mem) : wpM E 9 30 rd c_burst_Sum_16 K t m = wpM E 9 30 rd (.loop c_burst_Sum_15) K t m := rfl

def c_burst_Sum_17 : MC := (.block 0 c_burst_Sum_16)
theorem c_burst_Sum_17_at (rd : Option Nat) (K : Post3) (t : Fr) (m : Mem) : wpM E 9 30 rd c_burst_Sum_17 K t m = wpM E 9 30 rd (.block 0 c_burst_Sum_16) K t m := rfl

def c_burst_Sum_18 : MC := (.seq (.ops [⟨(some 7), .move (.tmp 0), none⟩,
    ⟨(some 8), .call ⟨.builtin .len, #[(.tmp 7)], #[22]⟩, none⟩,
    ⟨(some 9), .move (.const (.int .i64 0)), none⟩]) c_burst_Sum_17)
@[go_sem] theorem c_burst_Sum_18_at (rd : Option Nat) (K : Post3) (t : Fr) (m : Mem) : wpM E 9 30 rd c_burst_Sum_18 K t m = wpM E 9 30 rd (.seq (.ops [⟨(some 7), .move (.tmp 0), none⟩,
    ⟨(some 8), .call ⟨.builtin .len, #[(.tmp 7)], #[22]⟩, none⟩,
    ⟨(some 9), .move (.const (.int .i64 0)), none⟩]) c_burst_Sum_17) K t m := rfl

def c_burst_Sum_19 : MC := (.seq (.ops [⟨(some 28), .move (.tmp 3), none⟩,
    ⟨(some 29), .unOp .xor 24 (.tmp 28), none⟩,
    ⟨(some 2), .assign (.tmp 29), none⟩]) .ret)
@[go_sem] theorem c_burst_Sum_19_at (rd : Option Nat) (K : Post3) (t : Fr) (m : Mem) : wpM E 9 30 rd c_burst_Sum_19 K t m = wpM E 9 30 rd (.seq (.ops [⟨(some 28), .move (.tmp 3), none⟩,
    ⟨(some 29), .unOp .xor 24 (.tmp 28), none⟩,
    ⟨(some 2), .assign (.tmp 29), none⟩]) .ret) K t m := rfl

def c_burst_Sum_20 : MC := (.seq c_burst_Sum_18 c_burst_Sum_19)
@[go_sem] theorem c_burst_Sum_20_at (rd : Option Nat) (K : Post3) (t : Fr) (m : Mem) : wpM E 9 30 rd c_burst_Sum_20 K t m = wpM E 9 30 rd (.seq c_burst_Sum_18 c_burst_Sum_19) K t m := rfl

def c_burst_Sum_21 : MC := (.seq (.ops [⟨(some 3), .assign (.const (.int .u32 4294967295)), none⟩]) c_burst_Sum_20)
@[go_sem] theorem c_burst_Sum_21_at (rd : Option Nat) (K : Post3) (t : Fr) (m : Mem) : wpM E 9 30 rd c_burst_Sum_21 K t m = wpM E 9 30 rd (.seq (.ops [⟨(some 3), .assign (.const (.int .u32 4294967295)), none⟩]) c_burst_Sum_20) K t m := rfl

def c_burst_Sum_22 : MC := (.seq (.ops [⟨(some 2), .assign (.const (.int .u32 0)), none⟩]) c_burst_Sum_21)
@[go_sem] theorem c_burst_Sum_22_at (rd : Option Nat) (K : Post3) (t : Fr) (m : Mem) : wpM E 9 30 rd c_burst_Sum_22 K t m = wpM E 9 30 rd (.seq (.ops [⟨(some 2), .assign (.const (.int .u32 0)), none⟩]) c_burst_Sum_21) K t m := rfl

@[go_sem] theorem some9 : (E.fn 9).isSome = true := by kernel_rfl
set_option maxRecDepth 100000 in
theorem fn_burst_Sum : FnIs E 9 30 [.tmp 2] c_burst_Sum_22 := ⟨by kernel_rfl, by kernel_rfl⟩

/-! sheaf/burst.Good -/
abbrev F_burst_Good : FuncId := 10
def c_burst_Good_0 : MC := (.seq (.ops [⟨(some 7), .move (.tmp 3), none⟩,
    ⟨(some 8), .binOp .geq 3 (.tmp 7) (.const (.int .i64 0)) 3, none⟩,
    ⟨(some 9), .move (.tmp 8), none⟩,
    ⟨(some 10), .move (.tmp 0), (some (some 9, true))⟩,
    ⟨(some 11), .move (.tmp 3), (some (some 9, true))⟩,
    ⟨(some 12), .slice 22 (.tmp 10) none (some (.tmp 11)) none, (some (some 9, true))⟩,
    ⟨(some 13), .call ⟨.value (.func 8), #[(.tmp 12)], #[22]⟩, (some (some 9, true))⟩,
    ⟨(some 14), .move (.tmp 0), (some (some 9, true))⟩,
    ⟨(some 15), .call ⟨.value (.func 17), #[(.tmp 13), (.tmp 14)], #[22, 22]⟩, (some (some 9, true))⟩,
    ⟨(some 16), .pick (.tmp 9) (.tmp 15) (.const (.bool false)), none⟩,
    ⟨(some 2), .assign (.tmp 16), none⟩]) .ret)
@[go_sem] theorem c_burst_Good_0_at (rd : Option Nat) (K : Post3) (t : Fr) (m : Mem) : wpM E 10 17 rd c_burst_Good_0 K t m = wpM E 10 17 rd (.seq (.ops [⟨(some 7), .move (.tmp 3), none⟩,
    ⟨(some 8), .binOp .geq 3 (.tmp 7) (.const (.int .i64 0)) 3, none⟩,
    ⟨(some 9), .move (.tmp 8), none⟩,
    ⟨(some 10), .move (.tmp 0), (some (some 9, true))⟩,
    ⟨(some 11), .move (.tmp 3), (some (some 9, true))⟩,
    ⟨(some 12), .slice 22 (.tmp 10) none (some (.tmp 11)) none, (some (some 9, true))⟩,
    ⟨(some 13), .call ⟨.value (.func 8), #[(.tmp 12)], #[22]⟩, (some (some 9, true))⟩,
    ⟨(some 14), .move (.tmp 0), (some (some 9, true))⟩,
    ⟨(some 15), .call ⟨.value (.func 17), #[(.tmp 13), (.tmp 14)], #[22, 22]⟩, (some (some 9, true))⟩,
    ⟨(some 16), .pick (.tmp 9) (.tmp 15) (.const (.bool false)), none⟩,
    ⟨(some 2), .assign (.tmp 16), none⟩]) .ret) K t m := rfl

def c_burst_Good_1 : MC := (.seq (.ops [⟨(some 4), .move (.tmp 0), none⟩,
    ⟨(some 5), .call ⟨.builtin .len, #[(.tmp 4)], #[22]⟩, none⟩,
    ⟨(some 6), .binOp .sub 3 (.tmp 5) (.const (.int .i64 4)) 3, none⟩,
    ⟨(some 3), .assign (.tmp 6), none⟩]) c_burst_Good_0)
@[go_sem] theorem c_burst_Good_1_at (rd : Option Nat) (K : Post3) (t : Fr) (m : Mem) : wpM E 10 17 rd c_burst_Good_1 K t m = wpM E 10 17 rd (.seq (.ops [⟨(some 4), .move (.tmp 0), none⟩,
    ⟨(some 5), .call ⟨.builtin .len, #[(.tmp 4)], #[22]⟩, none⟩,
    ⟨(some 6), .binOp .sub 3 (.tmp 5) (.const (.int .i64 4)) 3, none⟩,
    ⟨(some 3), .assign (.tmp 6), none⟩]) c_burst_Good_0) K t m := rfl

def c_burst_Good_2 : MC := (.seq (.ops [⟨(some 2), .assign (.const (.bool false)), none⟩]) c_burst_Good_1)
@[go_sem] theorem c_burst_Good_2_at (rd : Option Nat) (K : Post3) (t : Fr) (m : Mem) : wpM E 10 17 rd c_burst_Good_2 K t m = wpM E 10 17 rd (.seq (.ops [⟨(some 2), .assign (.const (.bool false)), none⟩]) c_burst_Good_1) K t m := rfl

@[go_sem] theorem some10 : (E.fn 10).isSome = true := by kernel_rfl
set_option maxRecDepth 100000 in
theorem fn_burst_Good : FnIs E 10 17 [.tmp 2] c_burst_Good_2 := ⟨by kernel_rfl, by kernel_rfl⟩

/-! sheaf/sheafref1.Crc -/
abbrev F_sheafref1_Crc : FuncId := 12
def c_sheafref1_Crc_0 : MC := (.cond (.tmp 9) .skip (.exit 0))
@[go_sem] theorem c_sheafref1_Crc_0_at (rd : Option Nat) (K : Post3) (t : Fr) (m : Mem) : wpM E 12 30 rd c_sheafref1_Crc_0 K t m = wpM E 12 30 rd (.cond (.tmp 9) .skip (.exit 0)) K t m := rfl

def c_sheafref1_Crc_1 : MC := (.cond (.tmp 17) .skip (.exit 2))
@[go_sem] theorem c_sheafref1_Crc_1_at (rd : Option Nat) (K : Post3) (t : Fr) (m : Mem) : wpM E 12 30 rd c_sheafref1_Crc_1 K t m = wpM E 12 30 rd (.cond (.tmp 17) .skip (.exit 2)) K t m := rfl

def c_sheafref1_Crc_2 : MC := (.cond (.tmp 20) (.ops [⟨(some 21), .move (.tmp 3), none⟩,
    ⟨(some 22), .binOp .shr 24 (.tmp 21) (.const (.int .u64 1)) 29, none⟩,
    ⟨(some 23), .binOp .xor 24 (.tmp 22) (.const (.int .u32 3988292384)) 24, none⟩,
    ⟨(some 3), .assign (.tmp 23), none⟩]) (.ops [⟨(some 24), .move (.tmp 3), none⟩,
    ⟨(some 25), .binOp .shr 24 (.tmp 24) (.const (.int .u64 1)) 29, none⟩,
    ⟨(some 3), .assign (.tmp 25), none⟩]))
@[go_sem] theorem c_sheafref1_Crc_2_at (rd : Option Nat) (K : Post3) (t : Fr) (m : Mem) : wpM E 12 30 rd c_sheafref1_Crc_2 K t m = wpM E 12 30 rd (.cond (.tmp 20) (.ops [⟨(some 21), .move (.tmp 3), none⟩,
    ⟨(some 22), .binOp .shr 24 (.tmp 21) (.const (.int .u64 1)) 29, none⟩,
    ⟨(some 23), .binOp .xor 24 (.tmp 22) (.const (.int .u32 3988292384)) 24, none⟩,
    ⟨(some 3), .assign (.tmp 23), none⟩]) (.ops [⟨(some 24), .move (.tmp 3), none⟩,
    ⟨(some 25), .binOp .shr 24 (.tmp 24) (.const (.int .u64 1)) 29, none⟩,
    ⟨(some 3), .assign (.tmp 25), none⟩])) K t m := rfl

def c_sheafref1_Crc_3 : MC := (.seq (.ops [⟨(some 18), .move (.tmp 3), none⟩,
    ⟨(some 19), .binOp .and 24 (.tmp 18) (.const (.int .u32 1)) 24, none⟩,
    ⟨(some 20), .binOp .eql 24 (.tmp 19) (.const (.int .u32 1)) 24, none⟩]) c_sheafref1_Crc_2)
@[go_sem] theorem c_sheafref1_Crc_3_at (rd : Option Nat) (K : Post3) (t : Fr) (m : Mem) : wpM E 12 30 rd c_sheafref1_Crc_3 K t m = wpM E 12 30 rd (.seq (.ops [⟨(some 18), .move (.tmp 3), none⟩,
    ⟨(some 19), .binOp .and 24 (.tmp 18) (.const (.int .u32 1)) 24, none⟩,
    ⟨(some 20), .binOp .eql 24 (.tmp 19) (.const (.int .u32 1)) 24, none⟩]) c_sheafref1_Crc_2) K t m := rfl

def c_sheafref1_Crc_4 : MC := (.block 3 c_sheafref1_Crc_3)
@[go_sem] theorem c_sheafref1_Crc_4_at (rd : Option Nat) (K : Post3) (t : Fr) (m : Mem) : wpM E 12 30 rd c_sheafref1_Crc_4 K t m = wpM E 12 30 rd (.block 3 c_sheafref1_Crc_3) K t m := rfl

def c_sheafref1_Crc_5 : MC := (.seq c_sheafref1_Crc_4 (.ops [⟨(some 26), .binOp .add 3 (.tmp 16) (.const (.int .i64 1)) 3, none⟩,
    ⟨(some 16), .move (.tmp 26), none⟩]))
@[go_sem] theorem c_sheafref1_Crc_5_at (rd : Option Nat) (K : Post3) (t : Fr) (m : Mem) : wpM E 12 30 rd c_sheafref1_Crc_5 K t m = wpM E 12 30 rd (.seq c_sheafref1_Crc_4 (.ops [⟨(some 26), .binOp .add 3 (.tmp 16) (.const (.int .i64 1)) 3, none⟩,
    ⟨(some 16), .move (.tmp 26), none⟩])) K t m := rfl

def c_sheafref1_Crc_6 : MC := (.seq c_sheafref1_Crc_1 c_sheafref1_Crc_5)
@[go_sem] theorem c_sheafref1_Crc_6_at (rd : Option Nat) (K : Post3) (t : Fr) (m : Mem) : wpM E 12 30 rd c_sheafref1_Crc_6 K t m = wpM E 12 30 rd (.seq c_sheafref1_Crc_1 c_sheafref1_Crc_5) K t m := rfl

def c_sheafref1_Crc_7 : MC := (.seq (.ops [⟨(some 17), .binOp .lss 3 (.tmp 16) (.const (.int .i64 8)) 3, none⟩]) c_sheafref1_Crc_6)
@[go_sem] theorem c_sheafref1_Crc_7_at (rd : Option Nat) (K : Post3) (t : Fr) (m : Mem) : wpM E 12 30 rd c_sheafref1_Crc_7 K t m = wpM E 12 30 rd (.seq (.ops [⟨(some 17), .binOp .lss 3 (.tmp 16) (.const (.int .i64 8)) 3, none⟩]) c_sheafref1_Crc_6) K t m := rfl

def c_sheafref1_Crc_8 : MC := (.loop c_sheafref1_Crc_7)
theorem c_sheafref1_Crc_8_at (rd : Option Nat) (K : Post3) (t : Fr) (m : Mem) : wpM E 12 30 rd c_sheafref1_Crc_8 K t m = wpM E 12 30 rd (.loop c_sheafref1_Crc_7) K t m := rfl

def c_sheafref1_Crc_9 : MC := (.block 2 c_sheafref1_Crc_8)
theorem c_sheafref1_Crc_9_at (rd : Option Nat) (K : Post3) (t : Fr) (m : Mem) : wpM E 12 30 rd c_sheafref1_Crc_9 K t m = wpM E 12 30 rd (.block 2 c_sheafref1_Crc_8) K t m := rfl

def c_sheafref1_Crc_10 : MC := (.seq (.ops [⟨(some 16), .move (.const (.int .i64 0)), none⟩]) c_sheafref1_Crc_9)
@[go_sem] theorem c_sheafref1_Crc_10_at (rd : Option Nat) (K : Post3) (t : Fr) (m : Mem) : wpM E 12 30 rd c_sheafref1_Crc_10 K t m = wpM E 12 30 rd (.seq (.ops [⟨(some 16), .move (.const (.int .i64 0)), none⟩]) c_sheafref1_Crc_9) K t m := rfl

def c_sheafref1_Crc_11 : MC := (.seq (.ops [⟨(some 12), .move (.tmp 3), none⟩,
    ⟨(some 13), .move (.tmp 5), none⟩,
    ⟨(some 14), .convert 5 24 (.tmp 13), none⟩,
    ⟨(some 15), .binOp .xor 24 (.tmp 12) (.tmp 14) 24, none⟩,
    ⟨(some 3), .assign (.tmp 15), none⟩]) c_sheafref1_Crc_10)
@[go_sem] theorem c_sheafref1_Crc_11_at (rd : Option Nat) (K : Post3) (t : Fr) (m : Mem) : wpM E 12 30 rd c_sheafref1_Crc_11 K t m = wpM E 12 30 rd (.seq (.ops [⟨(some 12), .move (.tmp 3), none⟩,
    ⟨(some 13), .move (.tmp 5), none⟩,
    ⟨(some 14), .convert 5 24 (.tmp 13), none⟩,
    ⟨(some 15), .binOp .xor 24 (.tmp 12) (.tmp 14) 24, none⟩,
    ⟨(some 3), .assign (.tmp 15), none⟩]) c_sheafref1_Crc_10) K t m := rfl

def c_sheafref1_Crc_12 : MC := (.seq (.ops [⟨(some 10), .indexAddr 22 (.tmp 6) (.tmp 8), none⟩,
    ⟨(some 11), .load 5 (.tmp 10), none⟩,
    ⟨(some 5), .assign (.tmp 11), none⟩]) c_sheafref1_Crc_11)
@[go_sem] theorem c_sheafref1_Crc_12_at (rd : Option Nat) (K : Post3) (t : Fr) (m : Mem) : wpM E 12 30 rd c_sheafref1_Crc_12 K t m = wpM E 12 30 rd (.seq (.ops [⟨(some 10), .indexAddr 22 (.tmp 6) (.tmp 8), none⟩,
    ⟨(some 11), .load 5 (.tmp 10), none⟩,
    ⟨(some 5), .assign (.tmp 11), none⟩]) c_sheafref1_Crc_11) K t m := rfl

def c_sheafref1_Crc_13 : MC := (.block 1 c_sheafref1_Crc_12)
@[go_sem] theorem c_sheafref1_Crc_13_at (rd : Option Nat) (K : Post3) (t : Fr) (m : Mem) : wpM E 12 30 rd c_sheafref1_Crc_13 K t m = wpM E 12 30 rd (.block 1 c_sheafref1_Crc_12) K t m := rfl

def c_sheafref1_Crc_14 : MC := (.seq c_sheafref1_Crc_13 (.ops [⟨(some 27), .binOp .add 3 (.tmp 8) (.const (.int .i64 1)) 3, none⟩,
    ⟨(some 8), .move (.tmp 27), none⟩]))
@[go_sem] theorem c_sheafref1_Crc_14_at (rd : Option Nat) (K : Post3) (t : Fr) (m : Mem) : wpM E 12 30 rd c_sheafref1_Crc_14 K t m = wpM E 12 30 rd (.seq c_sheafref1_Crc_13 (.ops [⟨(some 27), .binOp .add 3 (.tmp 8) (.const (.int .i64 1)) 3, none⟩,
    ⟨(some 8), .move (.tmp 27), none⟩])) K t m := rfl

def c_sheafref1_Crc_15 : MC := (.seq c_sheafref1_Crc_0 c_sheafref1_Crc_14)
@[go_sem] theorem c_sheafref1_Crc_15_at (rd : Option Nat) (K : Post3) (t : Fr) (m : Mem) : wpM E 12 30 rd c_sheafref1_Crc_15 K t m = wpM E 12 30 rd (.seq c_sheafref1_Crc_0 c_sheafref1_Crc_14) K t m := rfl

def c_sheafref1_Crc_16 : MC := (.seq (.ops [⟨(some 9), .binOp .lss 3 (.tmp 8) (.tmp 7) 3, none⟩]) c_sheafref1_Crc_15)
@[go_sem] theorem c_sheafref1_Crc_16_at (rd : Option Nat) (K : Post3) (t : Fr) (m : Mem) : wpM E 12 30 rd c_sheafref1_Crc_16 K t m = wpM E 12 30 rd (.seq (.ops [⟨(some 9), .binOp .lss 3 (.tmp 8) (.tmp 7) 3, none⟩]) c_sheafref1_Crc_15) K t m := rfl

def c_sheafref1_Crc_17 : MC := (.loop c_sheafref1_Crc_16)
theorem c_sheafref1_Crc_17_at (rd : Option Nat) (K : Post3) (t : Fr) (m : Mem) : wpM E 12 30 rd c_sheafref1_Crc_17 K t m = wpM E 12 30 rd (.loop c_sheafref1_Crc_16) K t m := rfl

def c_sheafref1_Crc_18 : MC := (.block 0 c_sheafref1_Crc_17)
theorem c_sheafref1_Crc_18_at (rd : Option Nat) (K : Post3) (t : Fr) (m : Mem) : wpM E 12 30 rd c_sheafref1_Crc_18 K t m = wpM E 12 30 rd (.block 0 c_sheafref1_Crc_17) K t m := rfl

def c_sheafref1_Crc_19 : MC := (.seq (.ops [⟨(some 6), .move (.tmp 0), none⟩,
    ⟨(some 7), .call ⟨.builtin .len, #[(.tmp 6)], #[22]⟩, none⟩,
    ⟨(some 8), .move (.const (.int .i64 0)), none⟩]) c_sheafref1_Crc_18)
@[go_sem] theorem c_sheafref1_Crc_19_at (rd : Option Nat) (K : Post3) (t : Fr) (m : Mem) : wpM E 12 30 rd c_sheafref1_Crc_19 K t m = wpM E 12 30 rd (.seq (.ops [⟨(some 6), .move (.tmp 0), none⟩,
    ⟨(some 7), .call ⟨.builtin .len, #[(.tmp 6)], #[22]⟩, none⟩,
    ⟨(some 8), .move (.const (.int .i64 0)), none⟩]) c_sheafref1_Crc_18) K t m := rfl

def c_sheafref1_Crc_20 : MC := (.seq (.ops [⟨(some 28), .move (.tmp 3), none⟩,
    ⟨(some 29), .unOp .xor 24 (.tmp 28), none⟩,
    ⟨(some 2), .assign (.tmp 29), none⟩]) .ret)
@[go_sem] theorem c_sheafref1_Crc_20_at (rd : Option Nat) (K : Post3) (t : Fr) (m : Mem) : wpM E 12 30 rd c_sheafref1_Crc_20 K t m = wpM E 12 30 rd (.seq (.ops [⟨(some 28), .move (.tmp 3), none⟩,
    ⟨(some 29), .unOp .xor 24 (.tmp 28), none⟩,
    ⟨(some 2), .assign (.tmp 29), none⟩]) .ret) K t m := rfl

def c_sheafref1_Crc_21 : MC := (.seq c_sheafref1_Crc_19 c_sheafref1_Crc_20)
@[go_sem] theorem c_sheafref1_Crc_21_at (rd : Option Nat) (K : Post3) (t : Fr) (m : Mem) : wpM E 12 30 rd c_sheafref1_Crc_21 K t m = wpM E 12 30 rd (.seq c_sheafref1_Crc_19 c_sheafref1_Crc_20) K t m := rfl

def c_sheafref1_Crc_22 : MC := (.seq (.ops [⟨(some 3), .assign (.const (.int .u32 4294967295)), none⟩]) c_sheafref1_Crc_21)
@[go_sem] theorem c_sheafref1_Crc_22_at (rd : Option Nat) (K : Post3) (t : Fr) (m : Mem) : wpM E 12 30 rd c_sheafref1_Crc_22 K t m = wpM E 12 30 rd (.seq (.ops [⟨(some 3), .assign (.const (.int .u32 4294967295)), none⟩]) c_sheafref1_Crc_21) K t m := rfl

def c_sheafref1_Crc_23 : MC := (.seq (.ops [⟨(some 2), .assign (.const (.int .u32 0)), none⟩]) c_sheafref1_Crc_22)
@[go_sem] theorem c_sheafref1_Crc_23_at (rd : Option Nat) (K : Post3) (t : Fr) (m : Mem) : wpM E 12 30 rd c_sheafref1_Crc_23 K t m = wpM E 12 30 rd (.seq (.ops [⟨(some 2), .assign (.const (.int .u32 0)), none⟩]) c_sheafref1_Crc_22) K t m := rfl

@[go_sem] theorem some12 : (E.fn 12).isSome = true := by kernel_rfl
set_option maxRecDepth 100000 in
theorem fn_sheafref1_Crc : FnIs E 12 30 [.tmp 2] c_sheafref1_Crc_23 := ⟨by kernel_rfl, by kernel_rfl⟩

end Go.Proofs.Ytokkjdlnbccojaa.W
