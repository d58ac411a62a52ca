/-
  Compact code, printed by a program of mine (wip/dev/AbsPrint.lean).
-/
import Derived.Test.YtpabllcacdopdaaTypes
set_option linter.unusedVariables false
namespace Go.Proofs.Ytpabllcacdopdaa.W
open Go.Abs
noncomputable section

/-! cmp.Or[int] -/
abbrev F_cmp_Or_int : FuncId := 54
def c_cmp_Or_int_0 : MC := (.cond (.tmp 9) .skip (.exit 0))
@[go_sem] theorem c_cmp_Or_int_0_at (rd : Option Nat) (K : Post3) (t : Fr) (m : Mem) : wpM E 54 18 rd c_cmp_Or_int_0 K t m = wpM E 54 18 rd (.cond (.tmp 9) .skip (.exit 0)) K t m := rfl

def c_cmp_Or_int_1 : MC := (.seq (.ops [⟨(some 15), .move (.tmp 5), none⟩,
    ⟨(some 2), .assign (.tmp 15), none⟩]) .ret)
@[go_sem] theorem c_cmp_Or_int_1_at (rd : Option Nat) (K : Post3) (t : Fr) (m : Mem) : wpM E 54 18 rd c_cmp_Or_int_1 K t m = wpM E 54 18 rd (.seq (.ops [⟨(some 15), .move (.tmp 5), none⟩,
    ⟨(some 2), .assign (.tmp 15), none⟩]) .ret) K t m := rfl

def c_cmp_Or_int_2 : MC := (.cond (.tmp 14) c_cmp_Or_int_1 .skip)
@[go_sem] theorem c_cmp_Or_int_2_at (rd : Option Nat) (K : Post3) (t : Fr) (m : Mem) : wpM E 54 18 rd c_cmp_Or_int_2 K t m = wpM E 54 18 rd (.cond (.tmp 14) c_cmp_Or_int_1 .skip) K t m := rfl

def c_cmp_Or_int_3 : MC := (.seq (.ops [⟨(some 12), .move (.tmp 5), none⟩,
    ⟨(some 13), .move (.tmp 3), none⟩,
    ⟨(some 14), .binOp .neq 3 (.tmp 12) (.tmp 13) 3, none⟩]) c_cmp_Or_int_2)
@[go_sem] theorem c_cmp_Or_int_3_at (rd : Option Nat) (K : Post3) (t : Fr) (m : Mem) : wpM E 54 18 rd c_cmp_Or_int_3 K t m = wpM E 54 18 rd (.seq (.ops [⟨(some 12), .move (.tmp 5), none⟩,
    ⟨(some 13), .move (.tmp 3), none⟩,
    ⟨(some 14), .binOp .neq 3 (.tmp 12) (.tmp 13) 3, none⟩]) c_cmp_Or_int_2) K t m := rfl

def c_cmp_Or_int_4 : MC := (.seq (.ops [⟨(some 10), .indexAddr 22 (.tmp 6) (.tmp 8), none⟩,
    ⟨(some 11), .load 3 (.tmp 10), none⟩,
    ⟨(some 5), .assign (.tmp 11), none⟩]) c_cmp_Or_int_3)
@[go_sem] theorem c_cmp_Or_int_4_at (rd : Option Nat) (K : Post3) (t : Fr) (m : Mem) : wpM E 54 18 rd c_cmp_Or_int_4 K t m = wpM E 54 18 rd (.seq (.ops [⟨(some 10), .indexAddr 22 (.tmp 6) (.tmp 8), none⟩,
    ⟨(some 11), .load 3 (.tmp 10), none⟩,
    ⟨(some 5), .assign (.tmp 11), none⟩]) c_cmp_Or_int_3) K t m := rfl

def c_cmp_Or_int_5 : MC := (.block 1 c_cmp_Or_int_4)
@[go_sem] theorem c_cmp_Or_int_5_at (rd : Option Nat) (K : Post3) (t : Fr) (m : Mem) : wpM E 54 18 rd c_cmp_Or_int_5 K t m = wpM E 54 18 rd (.block 1 c_cmp_Or_int_4) K t m := rfl

def c_cmp_Or_int_6 : MC := (.seq c_cmp_Or_int_5 (.ops [⟨(some 16), .binOp .add 3 (.tmp 8) (.const (.int .i64 1)) 3, none⟩,
    ⟨(some 8), .move (.tmp 16), none⟩]))
@[go_sem] theorem c_cmp_Or_int_6_at (rd : Option Nat) (K : Post3) (t : Fr) (m : Mem) : wpM E 54 18 rd c_cmp_Or_int_6 K t m = wpM E 54 18 rd (.seq c_cmp_Or_int_5 (.ops [⟨(some 16), .binOp .add 3 (.tmp 8) (.const (.int .i64 1)) 3, none⟩,
    ⟨(some 8), .move (.tmp 16), none⟩])) K t m := rfl

def c_cmp_Or_int_7 : MC := (.seq c_cmp_Or_int_0 c_cmp_Or_int_6)
@[go_sem] theorem c_cmp_Or_int_7_at (rd : Option Nat) (K : Post3) (t : Fr) (m : Mem) : wpM E 54 18 rd c_cmp_Or_int_7 K t m = wpM E 54 18 rd (.seq c_cmp_Or_int_0 c_cmp_Or_int_6) K t m := rfl

def c_cmp_Or_int_8 : MC := (.seq (.ops [⟨(some 9), .binOp .lss 3 (.tmp 8) (.tmp 7) 3, none⟩]) c_cmp_Or_int_7)
@[go_sem] theorem c_cmp_Or_int_8_at (rd : Option Nat) (K : Post3) (t : Fr) (m : Mem) : wpM E 54 18 rd c_cmp_Or_int_8 K t m = wpM E 54 18 rd (.seq (.ops [⟨(some 9), .binOp .lss 3 (.tmp 8) (.tmp 7) 3, none⟩]) c_cmp_Or_int_7) K t m := rfl

def c_cmp_Or_int_9 : MC := (.loop c_cmp_Or_int_8)
theorem c_cmp_Or_int_9_at (rd : Option Nat) (K : Post3) (t : Fr) (m : Mem) : wpM E 54 18 rd c_cmp_Or_int_9 K t m = wpM E 54 18 rd (.loop c_cmp_Or_int_8) K t m := rfl

def c_cmp_Or_int_10 : MC := (.block 0 c_cmp_Or_int_9)
theorem c_cmp_Or_int_10_at (rd : Option Nat) (K : Post3) (t : Fr) (m : Mem) : wpM E 54 18 rd c_cmp_Or_int_10 K t m = wpM E 54 18 rd (.block 0 c_cmp_Or_int_9) K t m := rfl

def c_cmp_Or_int_11 : MC := (.seq (.ops [⟨(some 6), .move (.tmp 0), none⟩,
    ⟨(some 7), .call ⟨.builtin .len, #[(.tmp 6)], #[22]⟩, none⟩,
    ⟨(some 8), .move (.const (.int .i64 0)), none⟩]) c_cmp_Or_int_10)
@[go_sem] theorem c_cmp_Or_int_11_at (rd : Option Nat) (K : Post3) (t : Fr) (m : Mem) : wpM E 54 18 rd c_cmp_Or_int_11 K t m = wpM E 54 18 rd (.seq (.ops [⟨(some 6), .move (.tmp 0), none⟩,
    ⟨(some 7), .call ⟨.builtin .len, #[(.tmp 6)], #[22]⟩, none⟩,
    ⟨(some 8), .move (.const (.int .i64 0)), none⟩]) c_cmp_Or_int_10) K t m := rfl

def c_cmp_Or_int_12 : MC := (.seq (.ops [⟨(some 17), .move (.tmp 3), none⟩,
    ⟨(some 2), .assign (.tmp 17), none⟩]) .ret)
@[go_sem] theorem c_cmp_Or_int_12_at (rd : Option Nat) (K : Post3) (t : Fr) (m : Mem) : wpM E 54 18 rd c_cmp_Or_int_12 K t m = wpM E 54 18 rd (.seq (.ops [⟨(some 17), .move (.tmp 3), none⟩,
    ⟨(some 2), .assign (.tmp 17), none⟩]) .ret) K t m := rfl

def c_cmp_Or_int_13 : MC := (.seq c_cmp_Or_int_11 c_cmp_Or_int_12)
@[go_sem] theorem c_cmp_Or_int_13_at (rd : Option Nat) (K : Post3) (t : Fr) (m : Mem) : wpM E 54 18 rd c_cmp_Or_int_13 K t m = wpM E 54 18 rd (.seq c_cmp_Or_int_11 c_cmp_Or_int_12) K t m := rfl

def c_cmp_Or_int_14 : MC := (.seq (.ops [⟨(some 3), .assign (.const (.int .i64 0)), none⟩]) c_cmp_Or_int_13)
@[go_sem] theorem c_cmp_Or_int_14_at (rd : Option Nat) (K : Post3) (t : Fr) (m : Mem) : wpM E 54 18 rd c_cmp_Or_int_14 K t m = wpM E 54 18 rd (.seq (.ops [⟨(some 3), .assign (.const (.int .i64 0)), none⟩]) c_cmp_Or_int_13) K t m := rfl

def c_cmp_Or_int_15 : MC := (.seq (.ops [⟨(some 2), .assign (.const (.int .i64 0)), none⟩]) c_cmp_Or_int_14)
@[go_sem] theorem c_cmp_Or_int_15_at (rd : Option Nat) (K : Post3) (t : Fr) (m : Mem) : wpM E 54 18 rd c_cmp_Or_int_15 K t m = wpM E 54 18 rd (.seq (.ops [⟨(some 2), .assign (.const (.int .i64 0)), none⟩]) c_cmp_Or_int_14) K t m := rfl

@[go_sem] theorem some54 : (E.fn 54).isSome = true := by kernel_rfl
set_option maxRecDepth 100000 in
theorem fn_cmp_Or_int : FnIs E 54 18 [.tmp 2] c_cmp_Or_int_15 := ⟨by kernel_rfl, by kernel_rfl⟩

/-! cmp.Compare[int] -/
abbrev F_cmp_Compare_int : FuncId := 55
def c_cmp_Compare_int_0 : MC := (.seq (.ops [⟨(some 4), .assign (.const (.int .i64 0)), none⟩]) .ret)
@[go_sem] theorem c_cmp_Compare_int_0_at (rd : Option Nat) (K : Post3) (t : Fr) (m : Mem) : wpM E 55 20 rd c_cmp_Compare_int_0 K t m = wpM E 55 20 rd (.seq (.ops [⟨(some 4), .assign (.const (.int .i64 0)), none⟩]) .ret) K t m := rfl

def c_cmp_Compare_int_1 : MC := (.cond (.tmp 12) c_cmp_Compare_int_0 .skip)
@[go_sem] theorem c_cmp_Compare_int_1_at (rd : Option Nat) (K : Post3) (t : Fr) (m : Mem) : wpM E 55 20 rd c_cmp_Compare_int_1 K t m = wpM E 55 20 rd (.cond (.tmp 12) c_cmp_Compare_int_0 .skip) K t m := rfl

def c_cmp_Compare_int_2 : MC := (.seq (.ops [⟨(some 12), .move (.tmp 6), none⟩]) c_cmp_Compare_int_1)
@[go_sem] theorem c_cmp_Compare_int_2_at (rd : Option Nat) (K : Post3) (t : Fr) (m : Mem) : wpM E 55 20 rd c_cmp_Compare_int_2 K t m = wpM E 55 20 rd (.seq (.ops [⟨(some 12), .move (.tmp 6), none⟩]) c_cmp_Compare_int_1) K t m := rfl

def c_cmp_Compare_int_3 : MC := (.seq (.ops [⟨(some 4), .assign (.const (.int .i64 (-1))), none⟩]) .ret)
@[go_sem] theorem c_cmp_Compare_int_3_at (rd : Option Nat) (K : Post3) (t : Fr) (m : Mem) : wpM E 55 20 rd c_cmp_Compare_int_3 K t m = wpM E 55 20 rd (.seq (.ops [⟨(some 4), .assign (.const (.int .i64 (-1))), none⟩]) .ret) K t m := rfl

def c_cmp_Compare_int_4 : MC := (.seq c_cmp_Compare_int_2 c_cmp_Compare_int_3)
@[go_sem] theorem c_cmp_Compare_int_4_at (rd : Option Nat) (K : Post3) (t : Fr) (m : Mem) : wpM E 55 20 rd c_cmp_Compare_int_4 K t m = wpM E 55 20 rd (.seq c_cmp_Compare_int_2 c_cmp_Compare_int_3) K t m := rfl

def c_cmp_Compare_int_5 : MC := (.cond (.tmp 11) c_cmp_Compare_int_4 .skip)
@[go_sem] theorem c_cmp_Compare_int_5_at (rd : Option Nat) (K : Post3) (t : Fr) (m : Mem) : wpM E 55 20 rd c_cmp_Compare_int_5 K t m = wpM E 55 20 rd (.cond (.tmp 11) c_cmp_Compare_int_4 .skip) K t m := rfl

def c_cmp_Compare_int_6 : MC := (.seq (.ops [⟨(some 11), .move (.tmp 5), none⟩]) c_cmp_Compare_int_5)
@[go_sem] theorem c_cmp_Compare_int_6_at (rd : Option Nat) (K : Post3) (t : Fr) (m : Mem) : wpM E 55 20 rd c_cmp_Compare_int_6 K t m = wpM E 55 20 rd (.seq (.ops [⟨(some 11), .move (.tmp 5), none⟩]) c_cmp_Compare_int_5) K t m := rfl

def c_cmp_Compare_int_7 : MC := (.seq (.ops [⟨(some 4), .assign (.const (.int .i64 1)), none⟩]) .ret)
@[go_sem] theorem c_cmp_Compare_int_7_at (rd : Option Nat) (K : Post3) (t : Fr) (m : Mem) : wpM E 55 20 rd c_cmp_Compare_int_7 K t m = wpM E 55 20 rd (.seq (.ops [⟨(some 4), .assign (.const (.int .i64 1)), none⟩]) .ret) K t m := rfl

def c_cmp_Compare_int_8 : MC := (.cond (.tmp 13) c_cmp_Compare_int_7 .skip)
@[go_sem] theorem c_cmp_Compare_int_8_at (rd : Option Nat) (K : Post3) (t : Fr) (m : Mem) : wpM E 55 20 rd c_cmp_Compare_int_8 K t m = wpM E 55 20 rd (.cond (.tmp 13) c_cmp_Compare_int_7 .skip) K t m := rfl

def c_cmp_Compare_int_9 : MC := (.seq (.ops [⟨(some 13), .move (.tmp 6), none⟩]) c_cmp_Compare_int_8)
@[go_sem] theorem c_cmp_Compare_int_9_at (rd : Option Nat) (K : Post3) (t : Fr) (m : Mem) : wpM E 55 20 rd c_cmp_Compare_int_9 K t m = wpM E 55 20 rd (.seq (.ops [⟨(some 13), .move (.tmp 6), none⟩]) c_cmp_Compare_int_8) K t m := rfl

def c_cmp_Compare_int_10 : MC := (.seq (.ops [⟨(some 4), .assign (.const (.int .i64 (-1))), none⟩]) .ret)
@[go_sem] theorem c_cmp_Compare_int_10_at (rd : Option Nat) (K : Post3) (t : Fr) (m : Mem) : wpM E 55 20 rd c_cmp_Compare_int_10 K t m = wpM E 55 20 rd (.seq (.ops [⟨(some 4), .assign (.const (.int .i64 (-1))), none⟩]) .ret) K t m := rfl

def c_cmp_Compare_int_11 : MC := (.cond (.tmp 16) c_cmp_Compare_int_10 .skip)
@[go_sem] theorem c_cmp_Compare_int_11_at (rd : Option Nat) (K : Post3) (t : Fr) (m : Mem) : wpM E 55 20 rd c_cmp_Compare_int_11 K t m = wpM E 55 20 rd (.cond (.tmp 16) c_cmp_Compare_int_10 .skip) K t m := rfl

def c_cmp_Compare_int_12 : MC := (.seq (.ops [⟨(some 14), .move (.tmp 0), none⟩,
    ⟨(some 15), .move (.tmp 1), none⟩,
    ⟨(some 16), .binOp .lss 3 (.tmp 14) (.tmp 15) 3, none⟩]) c_cmp_Compare_int_11)
@[go_sem] theorem c_cmp_Compare_int_12_at (rd : Option Nat) (K : Post3) (t : Fr) (m : Mem) : wpM E 55 20 rd c_cmp_Compare_int_12 K t m = wpM E 55 20 rd (.seq (.ops [⟨(some 14), .move (.tmp 0), none⟩,
    ⟨(some 15), .move (.tmp 1), none⟩,
    ⟨(some 16), .binOp .lss 3 (.tmp 14) (.tmp 15) 3, none⟩]) c_cmp_Compare_int_11) K t m := rfl

def c_cmp_Compare_int_13 : MC := (.seq (.ops [⟨(some 4), .assign (.const (.int .i64 1)), none⟩]) .ret)
@[go_sem] theorem c_cmp_Compare_int_13_at (rd : Option Nat) (K : Post3) (t : Fr) (m : Mem) : wpM E 55 20 rd c_cmp_Compare_int_13 K t m = wpM E 55 20 rd (.seq (.ops [⟨(some 4), .assign (.const (.int .i64 1)), none⟩]) .ret) K t m := rfl

def c_cmp_Compare_int_14 : MC := (.cond (.tmp 19) c_cmp_Compare_int_13 .skip)
@[go_sem] theorem c_cmp_Compare_int_14_at (rd : Option Nat) (K : Post3) (t : Fr) (m : Mem) : wpM E 55 20 rd c_cmp_Compare_int_14 K t m = wpM E 55 20 rd (.cond (.tmp 19) c_cmp_Compare_int_13 .skip) K t m := rfl

def c_cmp_Compare_int_15 : MC := (.seq (.ops [⟨(some 17), .move (.tmp 0), none⟩,
    ⟨(some 18), .move (.tmp 1), none⟩,
    ⟨(some 19), .binOp .gtr 3 (.tmp 17) (.tmp 18) 3, none⟩]) c_cmp_Compare_int_14)
@[go_sem] theorem c_cmp_Compare_int_15_at (rd : Option Nat) (K : Post3) (t : Fr) (m : Mem) : wpM E 55 20 rd c_cmp_Compare_int_15 K t m = wpM E 55 20 rd (.seq (.ops [⟨(some 17), .move (.tmp 0), none⟩,
    ⟨(some 18), .move (.tmp 1), none⟩,
    ⟨(some 19), .binOp .gtr 3 (.tmp 17) (.tmp 18) 3, none⟩]) c_cmp_Compare_int_14) K t m := rfl

def c_cmp_Compare_int_16 : MC := (.seq (.ops [⟨(some 4), .assign (.const (.int .i64 0)), none⟩]) .ret)
@[go_sem] theorem c_cmp_Compare_int_16_at (rd : Option Nat) (K : Post3) (t : Fr) (m : Mem) : wpM E 55 20 rd c_cmp_Compare_int_16 K t m = wpM E 55 20 rd (.seq (.ops [⟨(some 4), .assign (.const (.int .i64 0)), none⟩]) .ret) K t m := rfl

def c_cmp_Compare_int_17 : MC := (.seq c_cmp_Compare_int_15 c_cmp_Compare_int_16)
@[go_sem] theorem c_cmp_Compare_int_17_at (rd : Option Nat) (K : Post3) (t : Fr) (m : Mem) : wpM E 55 20 rd c_cmp_Compare_int_17 K t m = wpM E 55 20 rd (.seq c_cmp_Compare_int_15 c_cmp_Compare_int_16) K t m := rfl

def c_cmp_Compare_int_18 : MC := (.seq c_cmp_Compare_int_12 c_cmp_Compare_int_17)
@[go_sem] theorem c_cmp_Compare_int_18_at (rd : Option Nat) (K : Post3) (t : Fr) (m : Mem) : wpM E 55 20 rd c_cmp_Compare_int_18 K t m = wpM E 55 20 rd (.seq c_cmp_Compare_int_12 c_cmp_Compare_int_17) K t m := rfl

def c_cmp_Compare_int_19 : MC := (.seq c_cmp_Compare_int_9 c_cmp_Compare_int_18)
@[go_sem] theorem c_cmp_Compare_int_19_at (rd : Option Nat) (K : Post3) (t : Fr) (m : Mem) : wpM E 55 20 rd c_cmp_Compare_int_19 K t m = wpM E 55 20 rd (.seq c_cmp_Compare_int_9 c_cmp_Compare_int_18) K t m := rfl

def c_cmp_Compare_int_20 : MC := (.seq c_cmp_Compare_int_6 c_cmp_Compare_int_19)
@[go_sem] theorem c_cmp_Compare_int_20_at (rd : Option Nat) (K : Post3) (t : Fr) (m : Mem) : wpM E 55 20 rd c_cmp_Compare_int_20 K t m = wpM E 55 20 rd (.seq c_cmp_Compare_int_6 c_cmp_Compare_int_19) K t m := rfl

def c_cmp_Compare_int_21 : MC := (.seq (.ops [⟨(some 9), .move (.tmp 1), none⟩,
    ⟨(some 10), .call ⟨.value (.func 65), #[(.tmp 9)], #[3]⟩, none⟩,
    ⟨(some 6), .assign (.tmp 10), none⟩]) c_cmp_Compare_int_20)
@[go_sem] theorem c_cmp_Compare_int_21_at (rd : Option Nat) (K : Post3) (t : Fr) (m : Mem) : wpM E 55 20 rd c_cmp_Compare_int_21 K t m = wpM E 55 20 rd (.seq (.ops [⟨(some 9), .move (.tmp 1), none⟩,
    ⟨(some 10), .call ⟨.value (.func 65), #[(.tmp 9)], #[3]⟩, none⟩,
    ⟨(some 6), .assign (.tmp 10), none⟩]) c_cmp_Compare_int_20) K t m := rfl

def c_cmp_Compare_int_22 : MC := (.seq (.ops [⟨(some 7), .move (.tmp 0), none⟩,
    ⟨(some 8), .call ⟨.value (.func 65), #[(.tmp 7)], #[3]⟩, none⟩,
    ⟨(some 5), .assign (.tmp 8), none⟩]) c_cmp_Compare_int_21)
@[go_sem] theorem c_cmp_Compare_int_22_at (rd : Option Nat) (K : Post3) (t : Fr) (m : Mem) : wpM E 55 20 rd c_cmp_Compare_int_22 K t m = wpM E 55 20 rd (.seq (.ops [⟨(some 7), .move (.tmp 0), none⟩,
    ⟨(some 8), .call ⟨.value (.func 65), #[(.tmp 7)], #[3]⟩, none⟩,
    ⟨(some 5), .assign (.tmp 8), none⟩]) c_cmp_Compare_int_21) K t m := rfl

def c_cmp_Compare_int_23 : MC := (.seq (.ops [⟨(some 4), .assign (.const (.int .i64 0)), none⟩]) c_cmp_Compare_int_22)
@[go_sem] theorem c_cmp_Compare_int_23_at (rd : Option Nat) (K : Post3) (t : Fr) (m : Mem) : wpM E 55 20 rd c_cmp_Compare_int_23 K t m = wpM E 55 20 rd (.seq (.ops [⟨(some 4), .assign (.const (.int .i64 0)), none⟩]) c_cmp_Compare_int_22) K t m := rfl

@[go_sem] theorem some55 : (E.fn 55).isSome = true := by kernel_rfl
set_option maxRecDepth 100000 in
theorem fn_cmp_Compare_int : FnIs E 55 20 [.tmp 4] c_cmp_Compare_int_23 := ⟨by kernel_rfl, by kernel_rfl⟩

/-! sheaf/wide.Quo -/
abbrev F_wide_Quo : FuncId := 56
def c_wide_Quo_0 : MC := (.seq (.ops [⟨(some 4), .assign (.const (.int .i64 0)), none⟩,
    ⟨(some 5), .assign (.const (.bool false)), none⟩]) .ret)
@[go_sem] theorem c_wide_Quo_0_at (rd : Option Nat) (K : Post3) (t : Fr) (m : Mem) : wpM E 56 73 rd c_wide_Quo_0 K t m = wpM E 56 73 rd (.seq (.ops [⟨(some 4), .assign (.const (.int .i64 0)), none⟩,
    ⟨(some 5), .assign (.const (.bool false)), none⟩]) .ret) K t m := rfl

def c_wide_Quo_1 : MC := (.cond (.tmp 13) c_wide_Quo_0 .skip)
@[go_sem] theorem c_wide_Quo_1_at (rd : Option Nat) (K : Post3) (t : Fr) (m : Mem) : wpM E 56 73 rd c_wide_Quo_1 K t m = wpM E 56 73 rd (.cond (.tmp 13) c_wide_Quo_0 .skip) K t m := rfl

def c_wide_Quo_2 : MC := (.seq (.ops [⟨(some 12), .move (.tmp 1), none⟩,
    ⟨(some 13), .binOp .leq 3 (.tmp 12) (.const (.int .i64 0)) 3, none⟩]) c_wide_Quo_1)
@[go_sem] theorem c_wide_Quo_2_at (rd : Option Nat) (K : Post3) (t : Fr) (m : Mem) : wpM E 56 73 rd c_wide_Quo_2 K t m = wpM E 56 73 rd (.seq (.ops [⟨(some 12), .move (.tmp 1), none⟩,
    ⟨(some 13), .binOp .leq 3 (.tmp 12) (.const (.int .i64 0)) 3, none⟩]) c_wide_Quo_1) K t m := rfl

def c_wide_Quo_3 : MC := (.seq (.ops [⟨(some 4), .assign (.const (.int .i64 0)), none⟩,
    ⟨(some 5), .assign (.const (.bool false)), none⟩]) .ret)
@[go_sem] theorem c_wide_Quo_3_at (rd : Option Nat) (K : Post3) (t : Fr) (m : Mem) : wpM E 56 73 rd c_wide_Quo_3 K t m = wpM E 56 73 rd (.seq (.ops [⟨(some 4), .assign (.const (.int .i64 0)), none⟩,
    ⟨(some 5), .assign (.const (.bool false)), none⟩]) .ret) K t m := rfl

def c_wide_Quo_4 : MC := (.cond (.tmp 23) c_wide_Quo_3 .skip)
@[go_sem] theorem c_wide_Quo_4_at (rd : Option Nat) (K : Post3) (t : Fr) (m : Mem) : wpM E 56 73 rd c_wide_Quo_4 K t m = wpM E 56 73 rd (.cond (.tmp 23) c_wide_Quo_3 .skip) K t m := rfl

def c_wide_Quo_5 : MC := (.seq (.ops [⟨(some 20), .move (.tmp 6), none⟩,
    ⟨(some 21), .move (.tmp 1), none⟩,
    ⟨(some 22), .convert 3 81 (.tmp 21), none⟩,
    ⟨(some 23), .binOp .geq 81 (.tmp 20) (.tmp 22) 81, none⟩]) c_wide_Quo_4)
@[go_sem] theorem c_wide_Quo_5_at (rd : Option Nat) (K : Post3) (t : Fr) (m : Mem) : wpM E 56 73 rd c_wide_Quo_5 K t m = wpM E 56 73 rd (.seq (.ops [⟨(some 20), .move (.tmp 6), none⟩,
    ⟨(some 21), .move (.tmp 1), none⟩,
    ⟨(some 22), .convert 3 81 (.tmp 21), none⟩,
    ⟨(some 23), .binOp .geq 81 (.tmp 20) (.tmp 22) 81, none⟩]) c_wide_Quo_4) K t m := rfl

def c_wide_Quo_6 : MC := (.cond (.tmp 52) (.ops [⟨(some 53), .move (.tmp 9), none⟩,
    ⟨(some 54), .binOp .add 81 (.tmp 53) (.const (.int .u64 1)) 81, none⟩,
    ⟨(some 9), .assign (.tmp 54), none⟩]) .skip)
@[go_sem] theorem c_wide_Quo_6_at (rd : Option Nat) (K : Post3) (t : Fr) (m : Mem) : wpM E 56 73 rd c_wide_Quo_6 K t m = wpM E 56 73 rd (.cond (.tmp 52) (.ops [⟨(some 53), .move (.tmp 9), none⟩,
    ⟨(some 54), .binOp .add 81 (.tmp 53) (.const (.int .u64 1)) 81, none⟩,
    ⟨(some 9), .assign (.tmp 54), none⟩]) .skip) K t m := rfl

def c_wide_Quo_7 : MC := (.seq (.ops [⟨(some 36), .move (.tmp 9), none⟩,
    ⟨(some 37), .binOp .leq 81 (.tmp 36) (.const (.int .u64 9223372036854775808)) 81, none⟩,
    ⟨(some 38), .move (.tmp 37), none⟩,
    ⟨(some 39), .move (.tmp 10), (some (some 38, true))⟩,
    ⟨(some 40), .move (.tmp 11), (some (some 38, true))⟩,
    ⟨(some 41), .binOp .gtr 81 (.tmp 39) (.tmp 40) 81, (some (some 38, true))⟩,
    ⟨(some 42), .move (.tmp 41), (some (some 38, true))⟩,
    ⟨(some 43), .move (.tmp 10), (some (some 42, false))⟩,
    ⟨(some 44), .move (.tmp 11), (some (some 42, false))⟩,
    ⟨(some 45), .binOp .eql 81 (.tmp 43) (.tmp 44) 81, (some (some 42, false))⟩,
    ⟨(some 46), .move (.tmp 45), (some (some 42, false))⟩,
    ⟨(some 47), .move (.tmp 9), (some (some 46, true))⟩,
    ⟨(some 48), .binOp .and 81 (.tmp 47) (.const (.int .u64 1)) 81, (some (some 46, true))⟩,
    ⟨(some 49), .binOp .eql 81 (.tmp 48) (.const (.int .u64 1)) 81, (some (some 46, true))⟩,
    ⟨(some 50), .pick (.tmp 46) (.tmp 49) (.const (.bool false)), (some (some 42, false))⟩,
    ⟨(some 51), .pick (.tmp 42) (.const (.bool true)) (.tmp 50), (some (some 38, true))⟩,
    ⟨(some 52), .pick (.tmp 38) (.tmp 51) (.const (.bool false)), none⟩]) c_wide_Quo_6)
@[go_sem] theorem c_wide_Quo_7_at (rd : Option Nat) (K : Post3) (t : Fr) (m : Mem) : wpM E 56 73 rd c_wide_Quo_7 K t m = wpM E 56 73 rd (.seq (.ops [⟨(some 36), .move (.tmp 9), none⟩,
    ⟨(some 37), .binOp .leq 81 (.tmp 36) (.const (.int .u64 9223372036854775808)) 81, none⟩,
    ⟨(some 38), .move (.tmp 37), none⟩,
    ⟨(some 39), .move (.tmp 10), (some (some 38, true))⟩,
    ⟨(some 40), .move (.tmp 11), (some (some 38, true))⟩,
    ⟨(some 41), .binOp .gtr 81 (.tmp 39) (.tmp 40) 81, (some (some 38, true))⟩,
    ⟨(some 42), .move (.tmp 41), (some (some 38, true))⟩,
    ⟨(some 43), .move (.tmp 10), (some (some 42, false))⟩,
    ⟨(some 44), .move (.tmp 11), (some (some 42, false))⟩,
    ⟨(some 45), .binOp .eql 81 (.tmp 43) (.tmp 44) 81, (some (some 42, false))⟩,
    ⟨(some 46), .move (.tmp 45), (some (some 42, false))⟩,
    ⟨(some 47), .move (.tmp 9), (some (some 46, true))⟩,
    ⟨(some 48), .binOp .and 81 (.tmp 47) (.const (.int .u64 1)) 81, (some (some 46, true))⟩,
    ⟨(some 49), .binOp .eql 81 (.tmp 48) (.const (.int .u64 1)) 81, (some (some 46, true))⟩,
    ⟨(some 50), .pick (.tmp 46) (.tmp 49) (.const (.bool false)), (some (some 42, false))⟩,
    ⟨(some 51), .pick (.tmp 42) (.const (.bool true)) (.tmp 50), (some (some 38, true))⟩,
    ⟨(some 52), .pick (.tmp 38) (.tmp 51) (.const (.bool false)), none⟩]) c_wide_Quo_6) K t m := rfl

def c_wide_Quo_8 : MC := (.seq (.ops [⟨(some 32), .move (.tmp 1), none⟩,
    ⟨(some 33), .convert 3 81 (.tmp 32), none⟩,
    ⟨(some 34), .move (.tmp 10), none⟩,
    ⟨(some 35), .binOp .sub 81 (.tmp 33) (.tmp 34) 81, none⟩,
    ⟨(some 11), .assign (.tmp 35), none⟩]) c_wide_Quo_7)
@[go_sem] theorem c_wide_Quo_8_at (rd : Option Nat) (K : Post3) (t : Fr) (m : Mem) : wpM E 56 73 rd c_wide_Quo_8 K t m = wpM E 56 73 rd (.seq (.ops [⟨(some 32), .move (.tmp 1), none⟩,
    ⟨(some 33), .convert 3 81 (.tmp 32), none⟩,
    ⟨(some 34), .move (.tmp 10), none⟩,
    ⟨(some 35), .binOp .sub 81 (.tmp 33) (.tmp 34) 81, none⟩,
    ⟨(some 11), .assign (.tmp 35), none⟩]) c_wide_Quo_7) K t m := rfl

def c_wide_Quo_9 : MC := (.seq (.ops [⟨(some 61), .move (.tmp 9), none⟩,
    ⟨(some 62), .unOp .neg 81 (.tmp 61), none⟩,
    ⟨(some 63), .convert 81 3 (.tmp 62), none⟩,
    ⟨(some 4), .assign (.tmp 63), none⟩,
    ⟨(some 5), .assign (.const (.bool true)), none⟩]) .ret)
@[go_sem] theorem c_wide_Quo_9_at (rd : Option Nat) (K : Post3) (t : Fr) (m : Mem) : wpM E 56 73 rd c_wide_Quo_9 K t m = wpM E 56 73 rd (.seq (.ops [⟨(some 61), .move (.tmp 9), none⟩,
    ⟨(some 62), .unOp .neg 81 (.tmp 61), none⟩,
    ⟨(some 63), .convert 81 3 (.tmp 62), none⟩,
    ⟨(some 4), .assign (.tmp 63), none⟩,
    ⟨(some 5), .assign (.const (.bool true)), none⟩]) .ret) K t m := rfl

def c_wide_Quo_10 : MC := (.seq (.ops [⟨(some 71), .move (.tmp 9), none⟩,
    ⟨(some 72), .convert 81 3 (.tmp 71), none⟩,
    ⟨(some 4), .assign (.tmp 72), none⟩,
    ⟨(some 5), .assign (.const (.bool true)), none⟩]) .ret)
@[go_sem] theorem c_wide_Quo_10_at (rd : Option Nat) (K : Post3) (t : Fr) (m : Mem) : wpM E 56 73 rd c_wide_Quo_10 K t m = wpM E 56 73 rd (.seq (.ops [⟨(some 71), .move (.tmp 9), none⟩,
    ⟨(some 72), .convert 81 3 (.tmp 71), none⟩,
    ⟨(some 4), .assign (.tmp 72), none⟩,
    ⟨(some 5), .assign (.const (.bool true)), none⟩]) .ret) K t m := rfl

def c_wide_Quo_11 : MC := (.cond (.tmp 64) c_wide_Quo_10 .skip)
@[go_sem] theorem c_wide_Quo_11_at (rd : Option Nat) (K : Post3) (t : Fr) (m : Mem) : wpM E 56 73 rd c_wide_Quo_11 K t m = wpM E 56 73 rd (.cond (.tmp 64) c_wide_Quo_10 .skip) K t m := rfl

def c_wide_Quo_12 : MC := (.seq (.ops [⟨(some 65), .move (.tmp 8), none⟩,
    ⟨(some 66), .unOp .not 4 (.tmp 65), none⟩,
    ⟨(some 67), .move (.tmp 66), none⟩,
    ⟨(some 68), .move (.tmp 9), (some (some 67, true))⟩,
    ⟨(some 69), .binOp .leq 81 (.tmp 68) (.const (.int .u64 9223372036854775807)) 81, (some (some 67, true))⟩,
    ⟨(some 70), .pick (.tmp 67) (.tmp 69) (.const (.bool false)), none⟩,
    ⟨(some 64), .assign (.tmp 70), none⟩]) c_wide_Quo_11)
@[go_sem] theorem c_wide_Quo_12_at (rd : Option Nat) (K : Post3) (t : Fr) (m : Mem) : wpM E 56 73 rd c_wide_Quo_12 K t m = wpM E 56 73 rd (.seq (.ops [⟨(some 65), .move (.tmp 8), none⟩,
    ⟨(some 66), .unOp .not 4 (.tmp 65), none⟩,
    ⟨(some 67), .move (.tmp 66), none⟩,
    ⟨(some 68), .move (.tmp 9), (some (some 67, true))⟩,
    ⟨(some 69), .binOp .leq 81 (.tmp 68) (.const (.int .u64 9223372036854775807)) 81, (some (some 67, true))⟩,
    ⟨(some 70), .pick (.tmp 67) (.tmp 69) (.const (.bool false)), none⟩,
    ⟨(some 64), .assign (.tmp 70), none⟩]) c_wide_Quo_11) K t m := rfl

def c_wide_Quo_13 : MC := (.cond (.tmp 55) c_wide_Quo_9 c_wide_Quo_12)
@[go_sem] theorem c_wide_Quo_13_at (rd : Option Nat) (K : Post3) (t : Fr) (m : Mem) : wpM E 56 73 rd c_wide_Quo_13 K t m = wpM E 56 73 rd (.cond (.tmp 55) c_wide_Quo_9 c_wide_Quo_12) K t m := rfl

def c_wide_Quo_14 : MC := (.seq (.ops [⟨(some 56), .move (.tmp 8), none⟩,
    ⟨(some 57), .move (.tmp 56), none⟩,
    ⟨(some 58), .move (.tmp 9), (some (some 57, true))⟩,
    ⟨(some 59), .binOp .leq 81 (.tmp 58) (.const (.int .u64 9223372036854775808)) 81, (some (some 57, true))⟩,
    ⟨(some 60), .pick (.tmp 57) (.tmp 59) (.const (.bool false)), none⟩,
    ⟨(some 55), .assign (.tmp 60), none⟩]) c_wide_Quo_13)
@[go_sem] theorem c_wide_Quo_14_at (rd : Option Nat) (K : Post3) (t : Fr) (m : Mem) : wpM E 56 73 rd c_wide_Quo_14 K t m = wpM E 56 73 rd (.seq (.ops [⟨(some 56), .move (.tmp 8), none⟩,
    ⟨(some 57), .move (.tmp 56), none⟩,
    ⟨(some 58), .move (.tmp 9), (some (some 57, true))⟩,
    ⟨(some 59), .binOp .leq 81 (.tmp 58) (.const (.int .u64 9223372036854775808)) 81, (some (some 57, true))⟩,
    ⟨(some 60), .pick (.tmp 57) (.tmp 59) (.const (.bool false)), none⟩,
    ⟨(some 55), .assign (.tmp 60), none⟩]) c_wide_Quo_13) K t m := rfl

def c_wide_Quo_15 : MC := (.block 0 c_wide_Quo_14)
@[go_sem] theorem c_wide_Quo_15_at (rd : Option Nat) (K : Post3) (t : Fr) (m : Mem) : wpM E 56 73 rd c_wide_Quo_15 K t m = wpM E 56 73 rd (.block 0 c_wide_Quo_14) K t m := rfl

def c_wide_Quo_16 : MC := (.seq (.ops [⟨(some 4), .assign (.const (.int .i64 0)), none⟩,
    ⟨(some 5), .assign (.const (.bool false)), none⟩]) .ret)
@[go_sem] theorem c_wide_Quo_16_at (rd : Option Nat) (K : Post3) (t : Fr) (m : Mem) : wpM E 56 73 rd c_wide_Quo_16 K t m = wpM E 56 73 rd (.seq (.ops [⟨(some 4), .assign (.const (.int .i64 0)), none⟩,
    ⟨(some 5), .assign (.const (.bool false)), none⟩]) .ret) K t m := rfl

def c_wide_Quo_17 : MC := (.seq c_wide_Quo_15 c_wide_Quo_16)
@[go_sem] theorem c_wide_Quo_17_at (rd : Option Nat) (K : Post3) (t : Fr) (m : Mem) : wpM E 56 73 rd c_wide_Quo_17 K t m = wpM E 56 73 rd (.seq c_wide_Quo_15 c_wide_Quo_16) K t m := rfl

def c_wide_Quo_18 : MC := (.seq c_wide_Quo_8 c_wide_Quo_17)
@[go_sem] theorem c_wide_Quo_18_at (rd : Option Nat) (K : Post3) (t : Fr) (m : Mem) : wpM E 56 73 rd c_wide_Quo_18 K t m = wpM E 56 73 rd (.seq c_wide_Quo_8 c_wide_Quo_17) K t m := rfl

def c_wide_Quo_19 : MC := (.seq (.ops [⟨(some 25), .move (.tmp 6), none⟩,
    ⟨(some 26), .move (.tmp 7), none⟩,
    ⟨(some 27), .move (.tmp 1), none⟩,
    ⟨(some 28), .convert 3 81 (.tmp 27), none⟩,
    ⟨(some 29), .call ⟨.value (.func 67), #[(.tmp 25), (.tmp 26), (.tmp 28)], #[81, 81, 81]⟩, none⟩,
    ⟨(some 24), .move (.tmp 29), none⟩,
    ⟨(some 30), .extract (.tmp 24) 0, none⟩,
    ⟨(some 31), .extract (.tmp 24) 1, none⟩,
    ⟨(some 9), .assign (.tmp 30), none⟩,
    ⟨(some 10), .assign (.tmp 31), none⟩]) c_wide_Quo_18)
@[go_sem] theorem c_wide_Quo_19_at (rd : Option Nat) (K : Post3) (t : Fr) (m : Mem) : wpM E 56 73 rd c_wide_Quo_19 K t m = wpM E 56 73 rd (.seq (.ops [⟨(some 25), .move (.tmp 6), none⟩,
    ⟨(some 26), .move (.tmp 7), none⟩,
    ⟨(some 27), .move (.tmp 1), none⟩,
    ⟨(some 28), .convert 3 81 (.tmp 27), none⟩,
    ⟨(some 29), .call ⟨.value (.func 67), #[(.tmp 25), (.tmp 26), (.tmp 28)], #[81, 81, 81]⟩, none⟩,
    ⟨(some 24), .move (.tmp 29), none⟩,
    ⟨(some 30), .extract (.tmp 24) 0, none⟩,
    ⟨(some 31), .extract (.tmp 24) 1, none⟩,
    ⟨(some 9), .assign (.tmp 30), none⟩,
    ⟨(some 10), .assign (.tmp 31), none⟩]) c_wide_Quo_18) K t m := rfl

def c_wide_Quo_20 : MC := (.seq c_wide_Quo_5 c_wide_Quo_19)
@[go_sem] theorem c_wide_Quo_20_at (rd : Option Nat) (K : Post3) (t : Fr) (m : Mem) : wpM E 56 73 rd c_wide_Quo_20 K t m = wpM E 56 73 rd (.seq c_wide_Quo_5 c_wide_Quo_19) K t m := rfl

def c_wide_Quo_21 : MC := (.seq (.ops [⟨(some 15), .load 83 (.tmp 2), none⟩,
    ⟨(some 16), .call ⟨.value (.func 66), #[(.tmp 15)], #[83]⟩, none⟩,
    ⟨(some 14), .move (.tmp 16), none⟩,
    ⟨(some 17), .extract (.tmp 14) 0, none⟩,
    ⟨(some 18), .extract (.tmp 14) 1, none⟩,
    ⟨(some 19), .extract (.tmp 14) 2, none⟩,
    ⟨(some 6), .assign (.tmp 17), none⟩,
    ⟨(some 7), .assign (.tmp 18), none⟩,
    ⟨(some 8), .assign (.tmp 19), none⟩]) c_wide_Quo_20)
@[go_sem] theorem c_wide_Quo_21_at (rd : Option Nat) (K : Post3) (t : Fr) (m : Mem) : wpM E 56 73 rd c_wide_Quo_21 K t m = wpM E 56 73 rd (.seq (.ops [⟨(some 15), .load 83 (.tmp 2), none⟩,
    ⟨(some 16), .call ⟨.value (.func 66), #[(.tmp 15)], #[83]⟩, none⟩,
    ⟨(some 14), .move (.tmp 16), none⟩,
    ⟨(some 17), .extract (.tmp 14) 0, none⟩,
    ⟨(some 18), .extract (.tmp 14) 1, none⟩,
    ⟨(some 19), .extract (.tmp 14) 2, none⟩,
    ⟨(some 6), .assign (.tmp 17), none⟩,
    ⟨(some 7), .assign (.tmp 18), none⟩,
    ⟨(some 8), .assign (.tmp 19), none⟩]) c_wide_Quo_20) K t m := rfl

def c_wide_Quo_22 : MC := (.seq c_wide_Quo_2 c_wide_Quo_21)
@[go_sem] theorem c_wide_Quo_22_at (rd : Option Nat) (K : Post3) (t : Fr) (m : Mem) : wpM E 56 73 rd c_wide_Quo_22 K t m = wpM E 56 73 rd (.seq c_wide_Quo_2 c_wide_Quo_21) K t m := rfl

def c_wide_Quo_23 : MC := (.seq (.ops [⟨(some 2), .box 83 (.tmp 0), none⟩,
    ⟨(some 4), .assign (.const (.int .i64 0)), none⟩,
    ⟨(some 5), .assign (.const (.bool false)), none⟩]) c_wide_Quo_22)
@[go_sem] theorem c_wide_Quo_23_at (rd : Option Nat) (K : Post3) (t : Fr) (m : Mem) : wpM E 56 73 rd c_wide_Quo_23 K t m = wpM E 56 73 rd (.seq (.ops [⟨(some 2), .box 83 (.tmp 0), none⟩,
    ⟨(some 4), .assign (.const (.int .i64 0)), none⟩,
    ⟨(some 5), .assign (.const (.bool false)), none⟩]) c_wide_Quo_22) K t m := rfl

@[go_sem] theorem some56 : (E.fn 56).isSome = true := by kernel_rfl
set_option maxRecDepth 100000 in
theorem fn_wide_Quo : FnIs E 56 73 [.tmp 4, .tmp 5] c_wide_Quo_23 := ⟨by kernel_rfl, by kernel_rfl⟩

/-! sheaf/wide.Mul -/
abbrev F_wide_Mul : FuncId := 57
def c_wide_Mul_0 : MC := (.cond (.tmp 19) (.ops [⟨(some 20), .move (.tmp 7), none⟩,
    ⟨(some 21), .move (.tmp 1), none⟩,
    ⟨(some 22), .binOp .sub 2 (.tmp 20) (.tmp 21) 2, none⟩,
    ⟨(some 7), .assign (.tmp 22), none⟩]) .skip)
@[go_sem] theorem c_wide_Mul_0_at (rd : Option Nat) (K : Post3) (t : Fr) (m : Mem) : wpM E 57 31 rd c_wide_Mul_0 K t m = wpM E 57 31 rd (.cond (.tmp 19) (.ops [⟨(some 20), .move (.tmp 7), none⟩,
    ⟨(some 21), .move (.tmp 1), none⟩,
    ⟨(some 22), .binOp .sub 2 (.tmp 20) (.tmp 21) 2, none⟩,
    ⟨(some 7), .assign (.tmp 22), none⟩]) .skip) K t m := rfl

def c_wide_Mul_1 : MC := (.seq (.ops [⟨(some 18), .move (.tmp 0), none⟩,
    ⟨(some 19), .binOp .lss 3 (.tmp 18) (.const (.int .i64 0)) 3, none⟩]) c_wide_Mul_0)
@[go_sem] theorem c_wide_Mul_1_at (rd : Option Nat) (K : Post3) (t : Fr) (m : Mem) : wpM E 57 31 rd c_wide_Mul_1 K t m = wpM E 57 31 rd (.seq (.ops [⟨(some 18), .move (.tmp 0), none⟩,
    ⟨(some 19), .binOp .lss 3 (.tmp 18) (.const (.int .i64 0)) 3, none⟩]) c_wide_Mul_0) K t m := rfl

def c_wide_Mul_2 : MC := (.cond (.tmp 24) (.ops [⟨(some 25), .move (.tmp 7), none⟩,
    ⟨(some 26), .move (.tmp 0), none⟩,
    ⟨(some 27), .binOp .sub 2 (.tmp 25) (.tmp 26) 2, none⟩,
    ⟨(some 7), .assign (.tmp 27), none⟩]) .skip)
@[go_sem] theorem c_wide_Mul_2_at (rd : Option Nat) (K : Post3) (t : Fr) (m : Mem) : wpM E 57 31 rd c_wide_Mul_2 K t m = wpM E 57 31 rd (.cond (.tmp 24) (.ops [⟨(some 25), .move (.tmp 7), none⟩,
    ⟨(some 26), .move (.tmp 0), none⟩,
    ⟨(some 27), .binOp .sub 2 (.tmp 25) (.tmp 26) 2, none⟩,
    ⟨(some 7), .assign (.tmp 27), none⟩]) .skip) K t m := rfl

def c_wide_Mul_3 : MC := (.seq (.ops [⟨(some 23), .move (.tmp 1), none⟩,
    ⟨(some 24), .binOp .lss 3 (.tmp 23) (.const (.int .i64 0)) 3, none⟩]) c_wide_Mul_2)
@[go_sem] theorem c_wide_Mul_3_at (rd : Option Nat) (K : Post3) (t : Fr) (m : Mem) : wpM E 57 31 rd c_wide_Mul_3 K t m = wpM E 57 31 rd (.seq (.ops [⟨(some 23), .move (.tmp 1), none⟩,
    ⟨(some 24), .binOp .lss 3 (.tmp 23) (.const (.int .i64 0)) 3, none⟩]) c_wide_Mul_2) K t m := rfl

def c_wide_Mul_4 : MC := (.seq (.ops [⟨(some 28), .move (.tmp 7), none⟩,
    ⟨(some 29), .move (.tmp 6), none⟩,
    ⟨(some 30), .build 83 #[(0, (.tmp 28)), (1, (.tmp 29))], none⟩,
    ⟨none, .store 83 (.tmp 4) (.tmp 30), none⟩]) .ret)
@[go_sem] theorem c_wide_Mul_4_at (rd : Option Nat) (K : Post3) (t : Fr) (m : Mem) : wpM E 57 31 rd c_wide_Mul_4 K t m = wpM E 57 31 rd (.seq (.ops [⟨(some 28), .move (.tmp 7), none⟩,
    ⟨(some 29), .move (.tmp 6), none⟩,
    ⟨(some 30), .build 83 #[(0, (.tmp 28)), (1, (.tmp 29))], none⟩,
    ⟨none, .store 83 (.tmp 4) (.tmp 30), none⟩]) .ret) K t m := rfl

def c_wide_Mul_5 : MC := (.seq c_wide_Mul_3 c_wide_Mul_4)
@[go_sem] theorem c_wide_Mul_5_at (rd : Option Nat) (K : Post3) (t : Fr) (m : Mem) : wpM E 57 31 rd c_wide_Mul_5 K t m = wpM E 57 31 rd (.seq c_wide_Mul_3 c_wide_Mul_4) K t m := rfl

def c_wide_Mul_6 : MC := (.seq c_wide_Mul_1 c_wide_Mul_5)
@[go_sem] theorem c_wide_Mul_6_at (rd : Option Nat) (K : Post3) (t : Fr) (m : Mem) : wpM E 57 31 rd c_wide_Mul_6 K t m = wpM E 57 31 rd (.seq c_wide_Mul_1 c_wide_Mul_5) K t m := rfl

def c_wide_Mul_7 : MC := (.seq (.ops [⟨(some 16), .move (.tmp 5), none⟩,
    ⟨(some 17), .convert 81 2 (.tmp 16), none⟩,
    ⟨(some 7), .assign (.tmp 17), none⟩]) c_wide_Mul_6)
@[go_sem] theorem c_wide_Mul_7_at (rd : Option Nat) (K : Post3) (t : Fr) (m : Mem) : wpM E 57 31 rd c_wide_Mul_7 K t m = wpM E 57 31 rd (.seq (.ops [⟨(some 16), .move (.tmp 5), none⟩,
    ⟨(some 17), .convert 81 2 (.tmp 16), none⟩,
    ⟨(some 7), .assign (.tmp 17), none⟩]) c_wide_Mul_6) K t m := rfl

def c_wide_Mul_8 : MC := (.seq (.ops [⟨(some 9), .move (.tmp 0), none⟩,
    ⟨(some 10), .convert 3 81 (.tmp 9), none⟩,
    ⟨(some 11), .move (.tmp 1), none⟩,
    ⟨(some 12), .convert 3 81 (.tmp 11), none⟩,
    ⟨(some 13), .call ⟨.value (.func 68), #[(.tmp 10), (.tmp 12)], #[81, 81]⟩, none⟩,
    ⟨(some 8), .move (.tmp 13), none⟩,
    ⟨(some 14), .extract (.tmp 8) 0, none⟩,
    ⟨(some 15), .extract (.tmp 8) 1, none⟩,
    ⟨(some 5), .assign (.tmp 14), none⟩,
    ⟨(some 6), .assign (.tmp 15), none⟩]) c_wide_Mul_7)
@[go_sem] theorem c_wide_Mul_8_at (rd : Option Nat) (K : Post3) (t : Fr) (m : Mem) : wpM E 57 31 rd c_wide_Mul_8 K t m = wpM E 57 31 rd (.seq (.ops [⟨(some 9), .move (.tmp 0), none⟩,
    ⟨(some 10), .convert 3 81 (.tmp 9), none⟩,
    ⟨(some 11), .move (.tmp 1), none⟩,
    ⟨(some 12), .convert 3 81 (.tmp 11), none⟩,
    ⟨(some 13), .call ⟨.value (.func 68), #[(.tmp 10), (.tmp 12)], #[81, 81]⟩, none⟩,
    ⟨(some 8), .move (.tmp 13), none⟩,
    ⟨(some 14), .extract (.tmp 8) 0, none⟩,
    ⟨(some 15), .extract (.tmp 8) 1, none⟩,
    ⟨(some 5), .assign (.tmp 14), none⟩,
    ⟨(some 6), .assign (.tmp 15), none⟩]) c_wide_Mul_7) K t m := rfl

def c_wide_Mul_9 : MC := (.seq (.ops [⟨(some 4), .alloc 83, none⟩]) c_wide_Mul_8)
@[go_sem] theorem c_wide_Mul_9_at (rd : Option Nat) (K : Post3) (t : Fr) (m : Mem) : wpM E 57 31 rd c_wide_Mul_9 K t m = wpM E 57 31 rd (.seq (.ops [⟨(some 4), .alloc 83, none⟩]) c_wide_Mul_8) K t m := rfl

@[go_sem] theorem some57 : (E.fn 57).isSome = true := by kernel_rfl
set_option maxRecDepth 100000 in
theorem fn_wide_Mul : FnIs E 57 31 [.cell 4 83] c_wide_Mul_9 := ⟨by kernel_rfl, by kernel_rfl⟩

/-! cmp.isNaN[int] -/
abbrev F_cmp_isNaN_int : FuncId := 65
def c_cmp_isNaN_int_0 : MC := (.seq (.ops [⟨(some 3), .move (.tmp 0), none⟩,
    ⟨(some 4), .move (.tmp 0), none⟩,
    ⟨(some 5), .binOp .neq 3 (.tmp 3) (.tmp 4) 3, none⟩,
    ⟨(some 2), .assign (.tmp 5), none⟩]) .ret)
@[go_sem] theorem c_cmp_isNaN_int_0_at (rd : Option Nat) (K : Post3) (t : Fr) (m : Mem) : wpM E 65 6 rd c_cmp_isNaN_int_0 K t m = wpM E 65 6 rd (.seq (.ops [⟨(some 3), .move (.tmp 0), none⟩,
    ⟨(some 4), .move (.tmp 0), none⟩,
    ⟨(some 5), .binOp .neq 3 (.tmp 3) (.tmp 4) 3, none⟩,
    ⟨(some 2), .assign (.tmp 5), none⟩]) .ret) K t m := rfl

def c_cmp_isNaN_int_1 : MC := (.seq (.ops [⟨(some 2), .assign (.const (.bool false)), none⟩]) c_cmp_isNaN_int_0)
@[go_sem] theorem c_cmp_isNaN_int_1_at (rd : Option Nat) (K : Post3) (t : Fr) (m : Mem) : wpM E 65 6 rd c_cmp_isNaN_int_1 K t m = wpM E 65 6 rd (.seq (.ops [⟨(some 2), .assign (.const (.bool false)), none⟩]) c_cmp_isNaN_int_0) K t m := rfl

@[go_sem] theorem some65 : (E.fn 65).isSome = true := by kernel_rfl
set_option maxRecDepth 100000 in
theorem fn_cmp_isNaN_int : FnIs E 65 6 [.tmp 2] c_cmp_isNaN_int_1 := ⟨by kernel_rfl, by kernel_rfl⟩

/-! sheaf/wide.size -/
abbrev F_wide_size : FuncId := 66
def c_wide_size_0 : MC := (.seq (.ops [⟨(some 12), .fieldAddr 83 (.tmp 1) 0, none⟩,
    ⟨(some 13), .load 2 (.tmp 12), none⟩,
    ⟨(some 14), .convert 2 81 (.tmp 13), none⟩,
    ⟨(some 15), .fieldAddr 83 (.tmp 1) 1, none⟩,
    ⟨(some 16), .load 81 (.tmp 15), none⟩,
    ⟨(some 2), .assign (.tmp 14), none⟩,
    ⟨(some 3), .assign (.tmp 16), none⟩,
    ⟨(some 4), .assign (.const (.bool false)), none⟩]) .ret)
@[go_sem] theorem c_wide_size_0_at (rd : Option Nat) (K : Post3) (t : Fr) (m : Mem) : wpM E 66 33 rd c_wide_size_0 K t m = wpM E 66 33 rd (.seq (.ops [⟨(some 12), .fieldAddr 83 (.tmp 1) 0, none⟩,
    ⟨(some 13), .load 2 (.tmp 12), none⟩,
    ⟨(some 14), .convert 2 81 (.tmp 13), none⟩,
    ⟨(some 15), .fieldAddr 83 (.tmp 1) 1, none⟩,
    ⟨(some 16), .load 81 (.tmp 15), none⟩,
    ⟨(some 2), .assign (.tmp 14), none⟩,
    ⟨(some 3), .assign (.tmp 16), none⟩,
    ⟨(some 4), .assign (.const (.bool false)), none⟩]) .ret) K t m := rfl

def c_wide_size_1 : MC := (.cond (.tmp 11) c_wide_size_0 .skip)
@[go_sem] theorem c_wide_size_1_at (rd : Option Nat) (K : Post3) (t : Fr) (m : Mem) : wpM E 66 33 rd c_wide_size_1 K t m = wpM E 66 33 rd (.cond (.tmp 11) c_wide_size_0 .skip) K t m := rfl

def c_wide_size_2 : MC := (.seq (.ops [⟨(some 9), .fieldAddr 83 (.tmp 1) 0, none⟩,
    ⟨(some 10), .load 2 (.tmp 9), none⟩,
    ⟨(some 11), .binOp .geq 2 (.tmp 10) (.const (.int .i64 0)) 2, none⟩]) c_wide_size_1)
@[go_sem] theorem c_wide_size_2_at (rd : Option Nat) (K : Post3) (t : Fr) (m : Mem) : wpM E 66 33 rd c_wide_size_2 K t m = wpM E 66 33 rd (.seq (.ops [⟨(some 9), .fieldAddr 83 (.tmp 1) 0, none⟩,
    ⟨(some 10), .load 2 (.tmp 9), none⟩,
    ⟨(some 11), .binOp .geq 2 (.tmp 10) (.const (.int .i64 0)) 2, none⟩]) c_wide_size_1) K t m := rfl

def c_wide_size_3 : MC := (.seq (.ops [⟨(some 31), .move (.tmp 7), none⟩,
    ⟨(some 32), .move (.tmp 5), none⟩,
    ⟨(some 2), .assign (.tmp 31), none⟩,
    ⟨(some 3), .assign (.tmp 32), none⟩,
    ⟨(some 4), .assign (.const (.bool true)), none⟩]) .ret)
@[go_sem] theorem c_wide_size_3_at (rd : Option Nat) (K : Post3) (t : Fr) (m : Mem) : wpM E 66 33 rd c_wide_size_3 K t m = wpM E 66 33 rd (.seq (.ops [⟨(some 31), .move (.tmp 7), none⟩,
    ⟨(some 32), .move (.tmp 5), none⟩,
    ⟨(some 2), .assign (.tmp 31), none⟩,
    ⟨(some 3), .assign (.tmp 32), none⟩,
    ⟨(some 4), .assign (.const (.bool true)), none⟩]) .ret) K t m := rfl

def c_wide_size_4 : MC := (.seq (.ops [⟨(some 24), .fieldAddr 83 (.tmp 1) 0, none⟩,
    ⟨(some 25), .load 2 (.tmp 24), none⟩,
    ⟨(some 26), .convert 2 81 (.tmp 25), none⟩,
    ⟨(some 27), .move (.tmp 6), none⟩,
    ⟨(some 28), .call ⟨.value (.func 75), #[(.const (.int .u64 0)), (.tmp 26), (.tmp 27)], #[81, 81, 81]⟩, none⟩,
    ⟨(some 23), .move (.tmp 28), none⟩,
    ⟨(some 29), .extract (.tmp 23) 0, none⟩,
    ⟨(some 30), .extract (.tmp 23) 1, none⟩,
    ⟨(some 7), .assign (.tmp 29), none⟩,
    ⟨(some 8), .assign (.tmp 30), none⟩]) c_wide_size_3)
@[go_sem] theorem c_wide_size_4_at (rd : Option Nat) (K : Post3) (t : Fr) (m : Mem) : wpM E 66 33 rd c_wide_size_4 K t m = wpM E 66 33 rd (.seq (.ops [⟨(some 24), .fieldAddr 83 (.tmp 1) 0, none⟩,
    ⟨(some 25), .load 2 (.tmp 24), none⟩,
    ⟨(some 26), .convert 2 81 (.tmp 25), none⟩,
    ⟨(some 27), .move (.tmp 6), none⟩,
    ⟨(some 28), .call ⟨.value (.func 75), #[(.const (.int .u64 0)), (.tmp 26), (.tmp 27)], #[81, 81, 81]⟩, none⟩,
    ⟨(some 23), .move (.tmp 28), none⟩,
    ⟨(some 29), .extract (.tmp 23) 0, none⟩,
    ⟨(some 30), .extract (.tmp 23) 1, none⟩,
    ⟨(some 7), .assign (.tmp 29), none⟩,
    ⟨(some 8), .assign (.tmp 30), none⟩]) c_wide_size_3) K t m := rfl

def c_wide_size_5 : MC := (.seq (.ops [⟨(some 18), .fieldAddr 83 (.tmp 1) 1, none⟩,
    ⟨(some 19), .load 81 (.tmp 18), none⟩,
    ⟨(some 20), .call ⟨.value (.func 75), #[(.const (.int .u64 0)), (.tmp 19), (.const (.int .u64 0))], #[81, 81, 81]⟩, none⟩,
    ⟨(some 17), .move (.tmp 20), none⟩,
    ⟨(some 21), .extract (.tmp 17) 0, none⟩,
    ⟨(some 22), .extract (.tmp 17) 1, none⟩,
    ⟨(some 5), .assign (.tmp 21), none⟩,
    ⟨(some 6), .assign (.tmp 22), none⟩]) c_wide_size_4)
@[go_sem] theorem c_wide_size_5_at (rd : Option Nat) (K : Post3) (t : Fr) (m : Mem) : wpM E 66 33 rd c_wide_size_5 K t m = wpM E 66 33 rd (.seq (.ops [⟨(some 18), .fieldAddr 83 (.tmp 1) 1, none⟩,
    ⟨(some 19), .load 81 (.tmp 18), none⟩,
    ⟨(some 20), .call ⟨.value (.func 75), #[(.const (.int .u64 0)), (.tmp 19), (.const (.int .u64 0))], #[81, 81, 81]⟩, none⟩,
    ⟨(some 17), .move (.tmp 20), none⟩,
    ⟨(some 21), .extract (.tmp 17) 0, none⟩,
    ⟨(some 22), .extract (.tmp 17) 1, none⟩,
    ⟨(some 5), .assign (.tmp 21), none⟩,
    ⟨(some 6), .assign (.tmp 22), none⟩]) c_wide_size_4) K t m := rfl

def c_wide_size_6 : MC := (.seq c_wide_size_2 c_wide_size_5)
@[go_sem] theorem c_wide_size_6_at (rd : Option Nat) (K : Post3) (t : Fr) (m : Mem) : wpM E 66 33 rd c_wide_size_6 K t m = wpM E 66 33 rd (.seq c_wide_size_2 c_wide_size_5) K t m := rfl

def c_wide_size_7 : MC := (.seq (.ops [⟨(some 1), .box 83 (.tmp 0), none⟩,
    ⟨(some 2), .assign (.const (.int .u64 0)), none⟩,
    ⟨(some 3), .assign (.const (.int .u64 0)), none⟩,
    ⟨(some 4), .assign (.const (.bool false)), none⟩]) c_wide_size_6)
@[go_sem] theorem c_wide_size_7_at (rd : Option Nat) (K : Post3) (t : Fr) (m : Mem) : wpM E 66 33 rd c_wide_size_7 K t m = wpM E 66 33 rd (.seq (.ops [⟨(some 1), .box 83 (.tmp 0), none⟩,
    ⟨(some 2), .assign (.const (.int .u64 0)), none⟩,
    ⟨(some 3), .assign (.const (.int .u64 0)), none⟩,
    ⟨(some 4), .assign (.const (.bool false)), none⟩]) c_wide_size_6) K t m := rfl

@[go_sem] theorem some66 : (E.fn 66).isSome = true := by kernel_rfl
set_option maxRecDepth 100000 in
theorem fn_wide_size : FnIs E 66 33 [.tmp 2, .tmp 3, .tmp 4] c_wide_size_7 := ⟨by kernel_rfl, by kernel_rfl⟩

/-! math/bits.Div64 -/
abbrev F_math_bits_Div64 : FuncId := 67
def c_math_bits_Div64_0 : MC := (.cond (.tmp 20) (.ops [⟨(some 21), .load 106 (.global 0), none⟩,
    ⟨none, .panic (.tmp 21), none⟩]) .skip)
@[go_sem] theorem c_math_bits_Div64_0_at (rd : Option Nat) (K : Post3) (t : Fr) (m : Mem) : wpM E 67 135 rd c_math_bits_Div64_0 K t m = wpM E 67 135 rd (.cond (.tmp 20) (.ops [⟨(some 21), .load 106 (.global 0), none⟩,
    ⟨none, .panic (.tmp 21), none⟩]) .skip) K t m := rfl

def c_math_bits_Div64_1 : MC := (.seq (.ops [⟨(some 19), .move (.tmp 2), none⟩,
    ⟨(some 20), .binOp .eql 81 (.tmp 19) (.const (.int .u64 0)) 81, none⟩]) c_math_bits_Div64_0)
@[go_sem] theorem c_math_bits_Div64_1_at (rd : Option Nat) (K : Post3) (t : Fr) (m : Mem) : wpM E 67 135 rd c_math_bits_Div64_1 K t m = wpM E 67 135 rd (.seq (.ops [⟨(some 19), .move (.tmp 2), none⟩,
    ⟨(some 20), .binOp .eql 81 (.tmp 19) (.const (.int .u64 0)) 81, none⟩]) c_math_bits_Div64_0) K t m := rfl

def c_math_bits_Div64_2 : MC := (.cond (.tmp 24) (.ops [⟨(some 25), .load 106 (.global 1), none⟩,
    ⟨none, .panic (.tmp 25), none⟩]) .skip)
@[go_sem] theorem c_math_bits_Div64_2_at (rd : Option Nat) (K : Post3) (t : Fr) (m : Mem) : wpM E 67 135 rd c_math_bits_Div64_2 K t m = wpM E 67 135 rd (.cond (.tmp 24) (.ops [⟨(some 25), .load 106 (.global 1), none⟩,
    ⟨none, .panic (.tmp 25), none⟩]) .skip) K t m := rfl

def c_math_bits_Div64_3 : MC := (.seq (.ops [⟨(some 22), .move (.tmp 2), none⟩,
    ⟨(some 23), .move (.tmp 0), none⟩,
    ⟨(some 24), .binOp .leq 81 (.tmp 22) (.tmp 23) 81, none⟩]) c_math_bits_Div64_2)
@[go_sem] theorem c_math_bits_Div64_3_at (rd : Option Nat) (K : Post3) (t : Fr) (m : Mem) : wpM E 67 135 rd c_math_bits_Div64_3 K t m = wpM E 67 135 rd (.seq (.ops [⟨(some 22), .move (.tmp 2), none⟩,
    ⟨(some 23), .move (.tmp 0), none⟩,
    ⟨(some 24), .binOp .leq 81 (.tmp 22) (.tmp 23) 81, none⟩]) c_math_bits_Div64_2) K t m := rfl

def c_math_bits_Div64_4 : MC := (.seq (.ops [⟨(some 28), .move (.tmp 1), none⟩,
    ⟨(some 29), .move (.tmp 2), none⟩,
    ⟨(some 30), .binOp .quo 81 (.tmp 28) (.tmp 29) 81, none⟩,
    ⟨(some 31), .move (.tmp 1), none⟩,
    ⟨(some 32), .move (.tmp 2), none⟩,
    ⟨(some 33), .binOp .rem 81 (.tmp 31) (.tmp 32) 81, none⟩,
    ⟨(some 6), .assign (.tmp 30), none⟩,
    ⟨(some 7), .assign (.tmp 33), none⟩]) .ret)
@[go_sem] theorem c_math_bits_Div64_4_at (rd : Option Nat) (K : Post3) (t : Fr) (m : Mem) : wpM E 67 135 rd c_math_bits_Div64_4 K t m = wpM E 67 135 rd (.seq (.ops [⟨(some 28), .move (.tmp 1), none⟩,
    ⟨(some 29), .move (.tmp 2), none⟩,
    ⟨(some 30), .binOp .quo 81 (.tmp 28) (.tmp 29) 81, none⟩,
    ⟨(some 31), .move (.tmp 1), none⟩,
    ⟨(some 32), .move (.tmp 2), none⟩,
    ⟨(some 33), .binOp .rem 81 (.tmp 31) (.tmp 32) 81, none⟩,
    ⟨(some 6), .assign (.tmp 30), none⟩,
    ⟨(some 7), .assign (.tmp 33), none⟩]) .ret) K t m := rfl

def c_math_bits_Div64_5 : MC := (.cond (.tmp 27) c_math_bits_Div64_4 .skip)
@[go_sem] theorem c_math_bits_Div64_5_at (rd : Option Nat) (K : Post3) (t : Fr) (m : Mem) : wpM E 67 135 rd c_math_bits_Div64_5 K t m = wpM E 67 135 rd (.cond (.tmp 27) c_math_bits_Div64_4 .skip) K t m := rfl

def c_math_bits_Div64_6 : MC := (.seq (.ops [⟨(some 26), .move (.tmp 0), none⟩,
    ⟨(some 27), .binOp .eql 81 (.tmp 26) (.const (.int .u64 0)) 81, none⟩]) c_math_bits_Div64_5)
@[go_sem] theorem c_math_bits_Div64_6_at (rd : Option Nat) (K : Post3) (t : Fr) (m : Mem) : wpM E 67 135 rd c_math_bits_Div64_6 K t m = wpM E 67 135 rd (.seq (.ops [⟨(some 26), .move (.tmp 0), none⟩,
    ⟨(some 27), .binOp .eql 81 (.tmp 26) (.const (.int .u64 0)) 81, none⟩]) c_math_bits_Div64_5) K t m := rfl

def c_math_bits_Div64_7 : MC := (.cond (.tmp 78) .skip (.exit 0))
@[go_sem] theorem c_math_bits_Div64_7_at (rd : Option Nat) (K : Post3) (t : Fr) (m : Mem) : wpM E 67 135 rd c_math_bits_Div64_7 K t m = wpM E 67 135 rd (.cond (.tmp 78) .skip (.exit 0)) K t m := rfl

def c_math_bits_Div64_8 : MC := (.seq (.ops [⟨(some 67), .move (.tmp 15), none⟩,
    ⟨(some 68), .binOp .geq 81 (.tmp 67) (.const (.int .u64 4294967296)) 81, none⟩,
    ⟨(some 69), .move (.tmp 68), none⟩,
    ⟨(some 70), .move (.tmp 15), (some (some 69, false))⟩,
    ⟨(some 71), .move (.tmp 10), (some (some 69, false))⟩,
    ⟨(some 72), .binOp .mul 81 (.tmp 70) (.tmp 71) 81, (some (some 69, false))⟩,
    ⟨(some 73), .move (.tmp 16), (some (some 69, false))⟩,
    ⟨(some 74), .binOp .mul 81 (.const (.int .u64 4294967296)) (.tmp 73) 81, (some (some 69, false))⟩,
    ⟨(some 75), .move (.tmp 13), (some (some 69, false))⟩,
    ⟨(some 76), .binOp .add 81 (.tmp 74) (.tmp 75) 81, (some (some 69, false))⟩,
    ⟨(some 77), .binOp .gtr 81 (.tmp 72) (.tmp 76) 81, (some (some 69, false))⟩,
    ⟨(some 78), .pick (.tmp 69) (.const (.bool true)) (.tmp 77), none⟩]) c_math_bits_Div64_7)
@[go_sem] theorem c_math_bits_Div64_8_at (rd : Option Nat) (K : Post3) (t : Fr) (m : Mem) : wpM E 67 135 rd c_math_bits_Div64_8 K t m = wpM E 67 135 rd (.seq (.ops [⟨(some 67), .move (.tmp 15), none⟩,
    ⟨(some 68), .binOp .geq 81 (.tmp 67) (.const (.int .u64 4294967296)) 81, none⟩,
    ⟨(some 69), .move (.tmp 68), none⟩,
    ⟨(some 70), .move (.tmp 15), (some (some 69, false))⟩,
    ⟨(some 71), .move (.tmp 10), (some (some 69, false))⟩,
    ⟨(some 72), .binOp .mul 81 (.tmp 70) (.tmp 71) 81, (some (some 69, false))⟩,
    ⟨(some 73), .move (.tmp 16), (some (some 69, false))⟩,
    ⟨(some 74), .binOp .mul 81 (.const (.int .u64 4294967296)) (.tmp 73) 81, (some (some 69, false))⟩,
    ⟨(some 75), .move (.tmp 13), (some (some 69, false))⟩,
    ⟨(some 76), .binOp .add 81 (.tmp 74) (.tmp 75) 81, (some (some 69, false))⟩,
    ⟨(some 77), .binOp .gtr 81 (.tmp 72) (.tmp 76) 81, (some (some 69, false))⟩,
    ⟨(some 78), .pick (.tmp 69) (.const (.bool true)) (.tmp 77), none⟩]) c_math_bits_Div64_7) K t m := rfl

def c_math_bits_Div64_9 : MC := (.cond (.tmp 85) (.exit 0) .skip)
@[go_sem] theorem c_math_bits_Div64_9_at (rd : Option Nat) (K : Post3) (t : Fr) (m : Mem) : wpM E 67 135 rd c_math_bits_Div64_9 K t m = wpM E 67 135 rd (.cond (.tmp 85) (.exit 0) .skip) K t m := rfl

def c_math_bits_Div64_10 : MC := (.seq (.ops [⟨(some 84), .move (.tmp 16), none⟩,
    ⟨(some 85), .binOp .geq 81 (.tmp 84) (.const (.int .u64 4294967296)) 81, none⟩]) c_math_bits_Div64_9)
@[go_sem] theorem c_math_bits_Div64_10_at (rd : Option Nat) (K : Post3) (t : Fr) (m : Mem) : wpM E 67 135 rd c_math_bits_Div64_10 K t m = wpM E 67 135 rd (.seq (.ops [⟨(some 84), .move (.tmp 16), none⟩,
    ⟨(some 85), .binOp .geq 81 (.tmp 84) (.const (.int .u64 4294967296)) 81, none⟩]) c_math_bits_Div64_9) K t m := rfl

def c_math_bits_Div64_11 : MC := (.seq (.ops [⟨(some 81), .move (.tmp 16), none⟩,
    ⟨(some 82), .move (.tmp 9), none⟩,
    ⟨(some 83), .binOp .add 81 (.tmp 81) (.tmp 82) 81, none⟩,
    ⟨(some 16), .assign (.tmp 83), none⟩]) c_math_bits_Div64_10)
@[go_sem] theorem c_math_bits_Div64_11_at (rd : Option Nat) (K : Post3) (t : Fr) (m : Mem) : wpM E 67 135 rd c_math_bits_Div64_11 K t m = wpM E 67 135 rd (.seq (.ops [⟨(some 81), .move (.tmp 16), none⟩,
    ⟨(some 82), .move (.tmp 9), none⟩,
    ⟨(some 83), .binOp .add 81 (.tmp 81) (.tmp 82) 81, none⟩,
    ⟨(some 16), .assign (.tmp 83), none⟩]) c_math_bits_Div64_10) K t m := rfl

def c_math_bits_Div64_12 : MC := (.seq (.ops [⟨(some 79), .move (.tmp 15), none⟩,
    ⟨(some 80), .binOp .sub 81 (.tmp 79) (.const (.int .u64 1)) 81, none⟩,
    ⟨(some 15), .assign (.tmp 80), none⟩]) c_math_bits_Div64_11)
@[go_sem] theorem c_math_bits_Div64_12_at (rd : Option Nat) (K : Post3) (t : Fr) (m : Mem) : wpM E 67 135 rd c_math_bits_Div64_12 K t m = wpM E 67 135 rd (.seq (.ops [⟨(some 79), .move (.tmp 15), none⟩,
    ⟨(some 80), .binOp .sub 81 (.tmp 79) (.const (.int .u64 1)) 81, none⟩,
    ⟨(some 15), .assign (.tmp 80), none⟩]) c_math_bits_Div64_11) K t m := rfl

def c_math_bits_Div64_13 : MC := (.block 1 c_math_bits_Div64_12)
@[go_sem] theorem c_math_bits_Div64_13_at (rd : Option Nat) (K : Post3) (t : Fr) (m : Mem) : wpM E 67 135 rd c_math_bits_Div64_13 K t m = wpM E 67 135 rd (.block 1 c_math_bits_Div64_12) K t m := rfl

def c_math_bits_Div64_14 : MC := (.seq c_math_bits_Div64_8 c_math_bits_Div64_13)
@[go_sem] theorem c_math_bits_Div64_14_at (rd : Option Nat) (K : Post3) (t : Fr) (m : Mem) : wpM E 67 135 rd c_math_bits_Div64_14 K t m = wpM E 67 135 rd (.seq c_math_bits_Div64_8 c_math_bits_Div64_13) K t m := rfl

def c_math_bits_Div64_15 : MC := (.loop c_math_bits_Div64_14)
theorem c_math_bits_Div64_15_at (rd : Option Nat) (K : Post3) (t : Fr) (m : Mem) : wpM E 67 135 rd c_math_bits_Div64_15 K t m = wpM E 67 135 rd (.loop c_math_bits_Div64_14) K t m := rfl

def c_math_bits_Div64_16 : MC := (.block 0 c_math_bits_Div64_15)
theorem c_math_bits_Div64_16_at (rd : Option Nat) (K : Post3) (t : Fr) (m : Mem) : wpM E 67 135 rd c_math_bits_Div64_16 K t m = wpM E 67 135 rd (.block 0 c_math_bits_Div64_15) K t m := rfl

def c_math_bits_Div64_17 : MC := (.cond (.tmp 113) .skip (.exit 2))
@[go_sem] theorem c_math_bits_Div64_17_at (rd : Option Nat) (K : Post3) (t : Fr) (m : Mem) : wpM E 67 135 rd c_math_bits_Div64_17 K t m = wpM E 67 135 rd (.cond (.tmp 113) .skip (.exit 2)) K t m := rfl

def c_math_bits_Div64_18 : MC := (.seq (.ops [⟨(some 102), .move (.tmp 18), none⟩,
    ⟨(some 103), .binOp .geq 81 (.tmp 102) (.const (.int .u64 4294967296)) 81, none⟩,
    ⟨(some 104), .move (.tmp 103), none⟩,
    ⟨(some 105), .move (.tmp 18), (some (some 104, false))⟩,
    ⟨(some 106), .move (.tmp 10), (some (some 104, false))⟩,
    ⟨(some 107), .binOp .mul 81 (.tmp 105) (.tmp 106) 81, (some (some 104, false))⟩,
    ⟨(some 108), .move (.tmp 16), (some (some 104, false))⟩,
    ⟨(some 109), .binOp .mul 81 (.const (.int .u64 4294967296)) (.tmp 108) 81, (some (some 104, false))⟩,
    ⟨(some 110), .move (.tmp 14), (some (some 104, false))⟩,
    ⟨(some 111), .binOp .add 81 (.tmp 109) (.tmp 110) 81, (some (some 104, false))⟩,
    ⟨(some 112), .binOp .gtr 81 (.tmp 107) (.tmp 111) 81, (some (some 104, false))⟩,
    ⟨(some 113), .pick (.tmp 104) (.const (.bool true)) (.tmp 112), none⟩]) c_math_bits_Div64_17)
@[go_sem] theorem c_math_bits_Div64_18_at (rd : Option Nat) (K : Post3) (t : Fr) (m : Mem) : wpM E 67 135 rd c_math_bits_Div64_18 K t m = wpM E 67 135 rd (.seq (.ops [⟨(some 102), .move (.tmp 18), none⟩,
    ⟨(some 103), .binOp .geq 81 (.tmp 102) (.const (.int .u64 4294967296)) 81, none⟩,
    ⟨(some 104), .move (.tmp 103), none⟩,
    ⟨(some 105), .move (.tmp 18), (some (some 104, false))⟩,
    ⟨(some 106), .move (.tmp 10), (some (some 104, false))⟩,
    ⟨(some 107), .binOp .mul 81 (.tmp 105) (.tmp 106) 81, (some (some 104, false))⟩,
    ⟨(some 108), .move (.tmp 16), (some (some 104, false))⟩,
    ⟨(some 109), .binOp .mul 81 (.const (.int .u64 4294967296)) (.tmp 108) 81, (some (some 104, false))⟩,
    ⟨(some 110), .move (.tmp 14), (some (some 104, false))⟩,
    ⟨(some 111), .binOp .add 81 (.tmp 109) (.tmp 110) 81, (some (some 104, false))⟩,
    ⟨(some 112), .binOp .gtr 81 (.tmp 107) (.tmp 111) 81, (some (some 104, false))⟩,
    ⟨(some 113), .pick (.tmp 104) (.const (.bool true)) (.tmp 112), none⟩]) c_math_bits_Div64_17) K t m := rfl

def c_math_bits_Div64_19 : MC := (.cond (.tmp 120) (.exit 2) .skip)
@[go_sem] theorem c_math_bits_Div64_19_at (rd : Option Nat) (K : Post3) (t : Fr) (m : Mem) : wpM E 67 135 rd c_math_bits_Div64_19 K t m = wpM E 67 135 rd (.cond (.tmp 120) (.exit 2) .skip) K t m := rfl

def c_math_bits_Div64_20 : MC := (.seq (.ops [⟨(some 119), .move (.tmp 16), none⟩,
    ⟨(some 120), .binOp .geq 81 (.tmp 119) (.const (.int .u64 4294967296)) 81, none⟩]) c_math_bits_Div64_19)
@[go_sem] theorem c_math_bits_Div64_20_at (rd : Option Nat) (K : Post3) (t : Fr) (m : Mem) : wpM E 67 135 rd c_math_bits_Div64_20 K t m = wpM E 67 135 rd (.seq (.ops [⟨(some 119), .move (.tmp 16), none⟩,
    ⟨(some 120), .binOp .geq 81 (.tmp 119) (.const (.int .u64 4294967296)) 81, none⟩]) c_math_bits_Div64_19) K t m := rfl

def c_math_bits_Div64_21 : MC := (.seq (.ops [⟨(some 116), .move (.tmp 16), none⟩,
    ⟨(some 117), .move (.tmp 9), none⟩,
    ⟨(some 118), .binOp .add 81 (.tmp 116) (.tmp 117) 81, none⟩,
    ⟨(some 16), .assign (.tmp 118), none⟩]) c_math_bits_Div64_20)
@[go_sem] theorem c_math_bits_Div64_21_at (rd : Option Nat) (K : Post3) (t : Fr) (m : Mem) : wpM E 67 135 rd c_math_bits_Div64_21 K t m = wpM E 67 135 rd (.seq (.ops [⟨(some 116), .move (.tmp 16), none⟩,
    ⟨(some 117), .move (.tmp 9), none⟩,
    ⟨(some 118), .binOp .add 81 (.tmp 116) (.tmp 117) 81, none⟩,
    ⟨(some 16), .assign (.tmp 118), none⟩]) c_math_bits_Div64_20) K t m := rfl

def c_math_bits_Div64_22 : MC := (.seq (.ops [⟨(some 114), .move (.tmp 18), none⟩,
    ⟨(some 115), .binOp .sub 81 (.tmp 114) (.const (.int .u64 1)) 81, none⟩,
    ⟨(some 18), .assign (.tmp 115), none⟩]) c_math_bits_Div64_21)
@[go_sem] theorem c_math_bits_Div64_22_at (rd : Option Nat) (K : Post3) (t : Fr) (m : Mem) : wpM E 67 135 rd c_math_bits_Div64_22 K t m = wpM E 67 135 rd (.seq (.ops [⟨(some 114), .move (.tmp 18), none⟩,
    ⟨(some 115), .binOp .sub 81 (.tmp 114) (.const (.int .u64 1)) 81, none⟩,
    ⟨(some 18), .assign (.tmp 115), none⟩]) c_math_bits_Div64_21) K t m := rfl

def c_math_bits_Div64_23 : MC := (.block 3 c_math_bits_Div64_22)
@[go_sem] theorem c_math_bits_Div64_23_at (rd : Option Nat) (K : Post3) (t : Fr) (m : Mem) : wpM E 67 135 rd c_math_bits_Div64_23 K t m = wpM E 67 135 rd (.block 3 c_math_bits_Div64_22) K t m := rfl

def c_math_bits_Div64_24 : MC := (.seq c_math_bits_Div64_18 c_math_bits_Div64_23)
@[go_sem] theorem c_math_bits_Div64_24_at (rd : Option Nat) (K : Post3) (t : Fr) (m : Mem) : wpM E 67 135 rd c_math_bits_Div64_24 K t m = wpM E 67 135 rd (.seq c_math_bits_Div64_18 c_math_bits_Div64_23) K t m := rfl

def c_math_bits_Div64_25 : MC := (.loop c_math_bits_Div64_24)
theorem c_math_bits_Div64_25_at (rd : Option Nat) (K : Post3) (t : Fr) (m : Mem) : wpM E 67 135 rd c_math_bits_Div64_25 K t m = wpM E 67 135 rd (.loop c_math_bits_Div64_24) K t m := rfl

def c_math_bits_Div64_26 : MC := (.block 2 c_math_bits_Div64_25)
theorem c_math_bits_Div64_26_at (rd : Option Nat) (K : Post3) (t : Fr) (m : Mem) : wpM E 67 135 rd c_math_bits_Div64_26 K t m = wpM E 67 135 rd (.block 2 c_math_bits_Div64_25) K t m := rfl

def c_math_bits_Div64_27 : MC := (.seq (.ops [⟨(some 121), .move (.tmp 15), none⟩,
    ⟨(some 122), .binOp .mul 81 (.tmp 121) (.const (.int .u64 4294967296)) 81, none⟩,
    ⟨(some 123), .move (.tmp 18), none⟩,
    ⟨(some 124), .binOp .add 81 (.tmp 122) (.tmp 123) 81, none⟩,
    ⟨(some 125), .move (.tmp 17), none⟩,
    ⟨(some 126), .binOp .mul 81 (.tmp 125) (.const (.int .u64 4294967296)) 81, none⟩,
    ⟨(some 127), .move (.tmp 14), none⟩,
    ⟨(some 128), .binOp .add 81 (.tmp 126) (.tmp 127) 81, none⟩,
    ⟨(some 129), .move (.tmp 18), none⟩,
    ⟨(some 130), .move (.tmp 2), none⟩,
    ⟨(some 131), .binOp .mul 81 (.tmp 129) (.tmp 130) 81, none⟩,
    ⟨(some 132), .binOp .sub 81 (.tmp 128) (.tmp 131) 81, none⟩,
    ⟨(some 133), .move (.tmp 8), none⟩,
    ⟨(some 134), .binOp .shr 81 (.tmp 132) (.tmp 133) 99, none⟩,
    ⟨(some 6), .assign (.tmp 124), none⟩,
    ⟨(some 7), .assign (.tmp 134), none⟩]) .ret)
@[go_sem] theorem c_math_bits_Div64_27_at (rd : Option Nat) (K : Post3) (t : Fr) (m : Mem) : wpM E 67 135 rd c_math_bits_Div64_27 K t m = wpM E 67 135 rd (.seq (.ops [⟨(some 121), .move (.tmp 15), none⟩,
    ⟨(some 122), .binOp .mul 81 (.tmp 121) (.const (.int .u64 4294967296)) 81, none⟩,
    ⟨(some 123), .move (.tmp 18), none⟩,
    ⟨(some 124), .binOp .add 81 (.tmp 122) (.tmp 123) 81, none⟩,
    ⟨(some 125), .move (.tmp 17), none⟩,
    ⟨(some 126), .binOp .mul 81 (.tmp 125) (.const (.int .u64 4294967296)) 81, none⟩,
    ⟨(some 127), .move (.tmp 14), none⟩,
    ⟨(some 128), .binOp .add 81 (.tmp 126) (.tmp 127) 81, none⟩,
    ⟨(some 129), .move (.tmp 18), none⟩,
    ⟨(some 130), .move (.tmp 2), none⟩,
    ⟨(some 131), .binOp .mul 81 (.tmp 129) (.tmp 130) 81, none⟩,
    ⟨(some 132), .binOp .sub 81 (.tmp 128) (.tmp 131) 81, none⟩,
    ⟨(some 133), .move (.tmp 8), none⟩,
    ⟨(some 134), .binOp .shr 81 (.tmp 132) (.tmp 133) 99, none⟩,
    ⟨(some 6), .assign (.tmp 124), none⟩,
    ⟨(some 7), .assign (.tmp 134), none⟩]) .ret) K t m := rfl

def c_math_bits_Div64_28 : MC := (.seq c_math_bits_Div64_26 c_math_bits_Div64_27)
@[go_sem] theorem c_math_bits_Div64_28_at (rd : Option Nat) (K : Post3) (t : Fr) (m : Mem) : wpM E 67 135 rd c_math_bits_Div64_28 K t m = wpM E 67 135 rd (.seq c_math_bits_Div64_26 c_math_bits_Div64_27) K t m := rfl

def c_math_bits_Div64_29 : MC := (.seq (.ops [⟨(some 97), .move (.tmp 17), none⟩,
    ⟨(some 98), .move (.tmp 18), none⟩,
    ⟨(some 99), .move (.tmp 9), none⟩,
    ⟨(some 100), .binOp .mul 81 (.tmp 98) (.tmp 99) 81, none⟩,
    ⟨(some 101), .binOp .sub 81 (.tmp 97) (.tmp 100) 81, none⟩,
    ⟨(some 16), .assign (.tmp 101), none⟩]) c_math_bits_Div64_28)
@[go_sem] theorem c_math_bits_Div64_29_at (rd : Option Nat) (K : Post3) (t : Fr) (m : Mem) : wpM E 67 135 rd c_math_bits_Div64_29 K t m = wpM E 67 135 rd (.seq (.ops [⟨(some 97), .move (.tmp 17), none⟩,
    ⟨(some 98), .move (.tmp 18), none⟩,
    ⟨(some 99), .move (.tmp 9), none⟩,
    ⟨(some 100), .binOp .mul 81 (.tmp 98) (.tmp 99) 81, none⟩,
    ⟨(some 101), .binOp .sub 81 (.tmp 97) (.tmp 100) 81, none⟩,
    ⟨(some 16), .assign (.tmp 101), none⟩]) c_math_bits_Div64_28) K t m := rfl

def c_math_bits_Div64_30 : MC := (.seq (.ops [⟨(some 94), .move (.tmp 17), none⟩,
    ⟨(some 95), .move (.tmp 9), none⟩,
    ⟨(some 96), .binOp .quo 81 (.tmp 94) (.tmp 95) 81, none⟩,
    ⟨(some 18), .assign (.tmp 96), none⟩]) c_math_bits_Div64_29)
@[go_sem] theorem c_math_bits_Div64_30_at (rd : Option Nat) (K : Post3) (t : Fr) (m : Mem) : wpM E 67 135 rd c_math_bits_Div64_30 K t m = wpM E 67 135 rd (.seq (.ops [⟨(some 94), .move (.tmp 17), none⟩,
    ⟨(some 95), .move (.tmp 9), none⟩,
    ⟨(some 96), .binOp .quo 81 (.tmp 94) (.tmp 95) 81, none⟩,
    ⟨(some 18), .assign (.tmp 96), none⟩]) c_math_bits_Div64_29) K t m := rfl

def c_math_bits_Div64_31 : MC := (.seq (.ops [⟨(some 86), .move (.tmp 11), none⟩,
    ⟨(some 87), .binOp .mul 81 (.tmp 86) (.const (.int .u64 4294967296)) 81, none⟩,
    ⟨(some 88), .move (.tmp 13), none⟩,
    ⟨(some 89), .binOp .add 81 (.tmp 87) (.tmp 88) 81, none⟩,
    ⟨(some 90), .move (.tmp 15), none⟩,
    ⟨(some 91), .move (.tmp 2), none⟩,
    ⟨(some 92), .binOp .mul 81 (.tmp 90) (.tmp 91) 81, none⟩,
    ⟨(some 93), .binOp .sub 81 (.tmp 89) (.tmp 92) 81, none⟩,
    ⟨(some 17), .assign (.tmp 93), none⟩]) c_math_bits_Div64_30)
@[go_sem] theorem c_math_bits_Div64_31_at (rd : Option Nat) (K : Post3) (t : Fr) (m : Mem) : wpM E 67 135 rd c_math_bits_Div64_31 K t m = wpM E 67 135 rd (.seq (.ops [⟨(some 86), .move (.tmp 11), none⟩,
    ⟨(some 87), .binOp .mul 81 (.tmp 86) (.const (.int .u64 4294967296)) 81, none⟩,
    ⟨(some 88), .move (.tmp 13), none⟩,
    ⟨(some 89), .binOp .add 81 (.tmp 87) (.tmp 88) 81, none⟩,
    ⟨(some 90), .move (.tmp 15), none⟩,
    ⟨(some 91), .move (.tmp 2), none⟩,
    ⟨(some 92), .binOp .mul 81 (.tmp 90) (.tmp 91) 81, none⟩,
    ⟨(some 93), .binOp .sub 81 (.tmp 89) (.tmp 92) 81, none⟩,
    ⟨(some 17), .assign (.tmp 93), none⟩]) c_math_bits_Div64_30) K t m := rfl

def c_math_bits_Div64_32 : MC := (.seq c_math_bits_Div64_16 c_math_bits_Div64_31)
@[go_sem] theorem c_math_bits_Div64_32_at (rd : Option Nat) (K : Post3) (t : Fr) (m : Mem) : wpM E 67 135 rd c_math_bits_Div64_32 K t m = wpM E 67 135 rd (.seq c_math_bits_Div64_16 c_math_bits_Div64_31) K t m := rfl

def c_math_bits_Div64_33 : MC := (.seq (.ops [⟨(some 62), .move (.tmp 11), none⟩,
    ⟨(some 63), .move (.tmp 15), none⟩,
    ⟨(some 64), .move (.tmp 9), none⟩,
    ⟨(some 65), .binOp .mul 81 (.tmp 63) (.tmp 64) 81, none⟩,
    ⟨(some 66), .binOp .sub 81 (.tmp 62) (.tmp 65) 81, none⟩,
    ⟨(some 16), .assign (.tmp 66), none⟩]) c_math_bits_Div64_32)
@[go_sem] theorem c_math_bits_Div64_33_at (rd : Option Nat) (K : Post3) (t : Fr) (m : Mem) : wpM E 67 135 rd c_math_bits_Div64_33 K t m = wpM E 67 135 rd (.seq (.ops [⟨(some 62), .move (.tmp 11), none⟩,
    ⟨(some 63), .move (.tmp 15), none⟩,
    ⟨(some 64), .move (.tmp 9), none⟩,
    ⟨(some 65), .binOp .mul 81 (.tmp 63) (.tmp 64) 81, none⟩,
    ⟨(some 66), .binOp .sub 81 (.tmp 62) (.tmp 65) 81, none⟩,
    ⟨(some 16), .assign (.tmp 66), none⟩]) c_math_bits_Div64_32) K t m := rfl

def c_math_bits_Div64_34 : MC := (.seq (.ops [⟨(some 59), .move (.tmp 11), none⟩,
    ⟨(some 60), .move (.tmp 9), none⟩,
    ⟨(some 61), .binOp .quo 81 (.tmp 59) (.tmp 60) 81, none⟩,
    ⟨(some 15), .assign (.tmp 61), none⟩]) c_math_bits_Div64_33)
@[go_sem] theorem c_math_bits_Div64_34_at (rd : Option Nat) (K : Post3) (t : Fr) (m : Mem) : wpM E 67 135 rd c_math_bits_Div64_34 K t m = wpM E 67 135 rd (.seq (.ops [⟨(some 59), .move (.tmp 11), none⟩,
    ⟨(some 60), .move (.tmp 9), none⟩,
    ⟨(some 61), .binOp .quo 81 (.tmp 59) (.tmp 60) 81, none⟩,
    ⟨(some 15), .assign (.tmp 61), none⟩]) c_math_bits_Div64_33) K t m := rfl

def c_math_bits_Div64_35 : MC := (.seq (.ops [⟨(some 57), .move (.tmp 12), none⟩,
    ⟨(some 58), .binOp .and 81 (.tmp 57) (.const (.int .u64 4294967295)) 81, none⟩,
    ⟨(some 14), .assign (.tmp 58), none⟩]) c_math_bits_Div64_34)
@[go_sem] theorem c_math_bits_Div64_35_at (rd : Option Nat) (K : Post3) (t : Fr) (m : Mem) : wpM E 67 135 rd c_math_bits_Div64_35 K t m = wpM E 67 135 rd (.seq (.ops [⟨(some 57), .move (.tmp 12), none⟩,
    ⟨(some 58), .binOp .and 81 (.tmp 57) (.const (.int .u64 4294967295)) 81, none⟩,
    ⟨(some 14), .assign (.tmp 58), none⟩]) c_math_bits_Div64_34) K t m := rfl

def c_math_bits_Div64_36 : MC := (.seq (.ops [⟨(some 55), .move (.tmp 12), none⟩,
    ⟨(some 56), .binOp .shr 81 (.tmp 55) (.const (.int .u64 32)) 99, none⟩,
    ⟨(some 13), .assign (.tmp 56), none⟩]) c_math_bits_Div64_35)
@[go_sem] theorem c_math_bits_Div64_36_at (rd : Option Nat) (K : Post3) (t : Fr) (m : Mem) : wpM E 67 135 rd c_math_bits_Div64_36 K t m = wpM E 67 135 rd (.seq (.ops [⟨(some 55), .move (.tmp 12), none⟩,
    ⟨(some 56), .binOp .shr 81 (.tmp 55) (.const (.int .u64 32)) 99, none⟩,
    ⟨(some 13), .assign (.tmp 56), none⟩]) c_math_bits_Div64_35) K t m := rfl

def c_math_bits_Div64_37 : MC := (.seq (.ops [⟨(some 52), .move (.tmp 1), none⟩,
    ⟨(some 53), .move (.tmp 8), none⟩,
    ⟨(some 54), .binOp .shl 81 (.tmp 52) (.tmp 53) 99, none⟩,
    ⟨(some 12), .assign (.tmp 54), none⟩]) c_math_bits_Div64_36)
@[go_sem] theorem c_math_bits_Div64_37_at (rd : Option Nat) (K : Post3) (t : Fr) (m : Mem) : wpM E 67 135 rd c_math_bits_Div64_37 K t m = wpM E 67 135 rd (.seq (.ops [⟨(some 52), .move (.tmp 1), none⟩,
    ⟨(some 53), .move (.tmp 8), none⟩,
    ⟨(some 54), .binOp .shl 81 (.tmp 52) (.tmp 53) 99, none⟩,
    ⟨(some 12), .assign (.tmp 54), none⟩]) c_math_bits_Div64_36) K t m := rfl

def c_math_bits_Div64_38 : MC := (.seq (.ops [⟨(some 44), .move (.tmp 0), none⟩,
    ⟨(some 45), .move (.tmp 8), none⟩,
    ⟨(some 46), .binOp .shl 81 (.tmp 44) (.tmp 45) 99, none⟩,
    ⟨(some 47), .move (.tmp 1), none⟩,
    ⟨(some 48), .move (.tmp 8), none⟩,
    ⟨(some 49), .binOp .sub 99 (.const (.int .u64 64)) (.tmp 48) 99, none⟩,
    ⟨(some 50), .binOp .shr 81 (.tmp 47) (.tmp 49) 99, none⟩,
    ⟨(some 51), .binOp .or 81 (.tmp 46) (.tmp 50) 81, none⟩,
    ⟨(some 11), .assign (.tmp 51), none⟩]) c_math_bits_Div64_37)
@[go_sem] theorem c_math_bits_Div64_38_at (rd : Option Nat) (K : Post3) (t : Fr) (m : Mem) : wpM E 67 135 rd c_math_bits_Div64_38 K t m = wpM E 67 135 rd (.seq (.ops [⟨(some 44), .move (.tmp 0), none⟩,
    ⟨(some 45), .move (.tmp 8), none⟩,
    ⟨(some 46), .binOp .shl 81 (.tmp 44) (.tmp 45) 99, none⟩,
    ⟨(some 47), .move (.tmp 1), none⟩,
    ⟨(some 48), .move (.tmp 8), none⟩,
    ⟨(some 49), .binOp .sub 99 (.const (.int .u64 64)) (.tmp 48) 99, none⟩,
    ⟨(some 50), .binOp .shr 81 (.tmp 47) (.tmp 49) 99, none⟩,
    ⟨(some 51), .binOp .or 81 (.tmp 46) (.tmp 50) 81, none⟩,
    ⟨(some 11), .assign (.tmp 51), none⟩]) c_math_bits_Div64_37) K t m := rfl

def c_math_bits_Div64_39 : MC := (.seq (.ops [⟨(some 42), .move (.tmp 2), none⟩,
    ⟨(some 43), .binOp .and 81 (.tmp 42) (.const (.int .u64 4294967295)) 81, none⟩,
    ⟨(some 10), .assign (.tmp 43), none⟩]) c_math_bits_Div64_38)
@[go_sem] theorem c_math_bits_Div64_39_at (rd : Option Nat) (K : Post3) (t : Fr) (m : Mem) : wpM E 67 135 rd c_math_bits_Div64_39 K t m = wpM E 67 135 rd (.seq (.ops [⟨(some 42), .move (.tmp 2), none⟩,
    ⟨(some 43), .binOp .and 81 (.tmp 42) (.const (.int .u64 4294967295)) 81, none⟩,
    ⟨(some 10), .assign (.tmp 43), none⟩]) c_math_bits_Div64_38) K t m := rfl

def c_math_bits_Div64_40 : MC := (.seq (.ops [⟨(some 40), .move (.tmp 2), none⟩,
    ⟨(some 41), .binOp .shr 81 (.tmp 40) (.const (.int .u64 32)) 99, none⟩,
    ⟨(some 9), .assign (.tmp 41), none⟩]) c_math_bits_Div64_39)
@[go_sem] theorem c_math_bits_Div64_40_at (rd : Option Nat) (K : Post3) (t : Fr) (m : Mem) : wpM E 67 135 rd c_math_bits_Div64_40 K t m = wpM E 67 135 rd (.seq (.ops [⟨(some 40), .move (.tmp 2), none⟩,
    ⟨(some 41), .binOp .shr 81 (.tmp 40) (.const (.int .u64 32)) 99, none⟩,
    ⟨(some 9), .assign (.tmp 41), none⟩]) c_math_bits_Div64_39) K t m := rfl

def c_math_bits_Div64_41 : MC := (.seq (.ops [⟨(some 37), .move (.tmp 2), none⟩,
    ⟨(some 38), .move (.tmp 8), none⟩,
    ⟨(some 39), .binOp .shl 81 (.tmp 37) (.tmp 38) 99, none⟩,
    ⟨(some 2), .assign (.tmp 39), none⟩]) c_math_bits_Div64_40)
@[go_sem] theorem c_math_bits_Div64_41_at (rd : Option Nat) (K : Post3) (t : Fr) (m : Mem) : wpM E 67 135 rd c_math_bits_Div64_41 K t m = wpM E 67 135 rd (.seq (.ops [⟨(some 37), .move (.tmp 2), none⟩,
    ⟨(some 38), .move (.tmp 8), none⟩,
    ⟨(some 39), .binOp .shl 81 (.tmp 37) (.tmp 38) 99, none⟩,
    ⟨(some 2), .assign (.tmp 39), none⟩]) c_math_bits_Div64_40) K t m := rfl

def c_math_bits_Div64_42 : MC := (.seq (.ops [⟨(some 34), .move (.tmp 2), none⟩,
    ⟨(some 35), .call ⟨.value (.func 76), #[(.tmp 34)], #[81]⟩, none⟩,
    ⟨(some 36), .convert 3 99 (.tmp 35), none⟩,
    ⟨(some 8), .assign (.tmp 36), none⟩]) c_math_bits_Div64_41)
@[go_sem] theorem c_math_bits_Div64_42_at (rd : Option Nat) (K : Post3) (t : Fr) (m : Mem) : wpM E 67 135 rd c_math_bits_Div64_42 K t m = wpM E 67 135 rd (.seq (.ops [⟨(some 34), .move (.tmp 2), none⟩,
    ⟨(some 35), .call ⟨.value (.func 76), #[(.tmp 34)], #[81]⟩, none⟩,
    ⟨(some 36), .convert 3 99 (.tmp 35), none⟩,
    ⟨(some 8), .assign (.tmp 36), none⟩]) c_math_bits_Div64_41) K t m := rfl

def c_math_bits_Div64_43 : MC := (.seq c_math_bits_Div64_6 c_math_bits_Div64_42)
@[go_sem] theorem c_math_bits_Div64_43_at (rd : Option Nat) (K : Post3) (t : Fr) (m : Mem) : wpM E 67 135 rd c_math_bits_Div64_43 K t m = wpM E 67 135 rd (.seq c_math_bits_Div64_6 c_math_bits_Div64_42) K t m := rfl

def c_math_bits_Div64_44 : MC := (.seq c_math_bits_Div64_3 c_math_bits_Div64_43)
@[go_sem] theorem c_math_bits_Div64_44_at (rd : Option Nat) (K : Post3) (t : Fr) (m : Mem) : wpM E 67 135 rd c_math_bits_Div64_44 K t m = wpM E 67 135 rd (.seq c_math_bits_Div64_3 c_math_bits_Div64_43) K t m := rfl

def c_math_bits_Div64_45 : MC := (.seq c_math_bits_Div64_1 c_math_bits_Div64_44)
@[go_sem] theorem c_math_bits_Div64_45_at (rd : Option Nat) (K : Post3) (t : Fr) (m : Mem) : wpM E 67 135 rd c_math_bits_Div64_45 K t m = wpM E 67 135 rd (.seq c_math_bits_Div64_1 c_math_bits_Div64_44) K t m := rfl

def c_math_bits_Div64_46 : MC := (.seq (.ops [⟨(some 6), .assign (.const (.int .u64 0)), none⟩,
    ⟨(some 7), .assign (.const (.int .u64 0)), none⟩]) c_math_bits_Div64_45)
@[go_sem] theorem c_math_bits_Div64_46_at (rd : Option Nat) (K : Post3) (t : Fr) (m : Mem) : wpM E 67 135 rd c_math_bits_Div64_46 K t m = wpM E 67 135 rd (.seq (.ops [⟨(some 6), .assign (.const (.int .u64 0)), none⟩,
    ⟨(some 7), .assign (.const (.int .u64 0)), none⟩]) c_math_bits_Div64_45) K t m := rfl

@[go_sem] theorem some67 : (E.fn 67).isSome = true := by kernel_rfl
set_option maxRecDepth 100000 in
theorem fn_math_bits_Div64 : FnIs E 67 135 [.tmp 6, .tmp 7] c_math_bits_Div64_46 := ⟨by kernel_rfl, by kernel_rfl⟩

/-! math/bits.Mul64 -/
abbrev F_math_bits_Mul64 : FuncId := 68
def c_math_bits_Mul64_0 : MC := (.seq (.ops [⟨(some 48), .move (.tmp 0), none⟩,
    ⟨(some 49), .move (.tmp 1), none⟩,
    ⟨(some 50), .binOp .mul 81 (.tmp 48) (.tmp 49) 81, none⟩,
    ⟨(some 5), .assign (.tmp 50), none⟩]) .ret)
@[go_sem] theorem c_math_bits_Mul64_0_at (rd : Option Nat) (K : Post3) (t : Fr) (m : Mem) : wpM E 68 51 rd c_math_bits_Mul64_0 K t m = wpM E 68 51 rd (.seq (.ops [⟨(some 48), .move (.tmp 0), none⟩,
    ⟨(some 49), .move (.tmp 1), none⟩,
    ⟨(some 50), .binOp .mul 81 (.tmp 48) (.tmp 49) 81, none⟩,
    ⟨(some 5), .assign (.tmp 50), none⟩]) .ret) K t m := rfl

def c_math_bits_Mul64_1 : MC := (.seq (.ops [⟨(some 40), .move (.tmp 7), none⟩,
    ⟨(some 41), .move (.tmp 9), none⟩,
    ⟨(some 42), .binOp .mul 81 (.tmp 40) (.tmp 41) 81, none⟩,
    ⟨(some 43), .move (.tmp 13), none⟩,
    ⟨(some 44), .binOp .add 81 (.tmp 42) (.tmp 43) 81, none⟩,
    ⟨(some 45), .move (.tmp 12), none⟩,
    ⟨(some 46), .binOp .shr 81 (.tmp 45) (.const (.int .u64 32)) 99, none⟩,
    ⟨(some 47), .binOp .add 81 (.tmp 44) (.tmp 46) 81, none⟩,
    ⟨(some 4), .assign (.tmp 47), none⟩]) c_math_bits_Mul64_0)
@[go_sem] theorem c_math_bits_Mul64_1_at (rd : Option Nat) (K : Post3) (t : Fr) (m : Mem) : wpM E 68 51 rd c_math_bits_Mul64_1 K t m = wpM E 68 51 rd (.seq (.ops [⟨(some 40), .move (.tmp 7), none⟩,
    ⟨(some 41), .move (.tmp 9), none⟩,
    ⟨(some 42), .binOp .mul 81 (.tmp 40) (.tmp 41) 81, none⟩,
    ⟨(some 43), .move (.tmp 13), none⟩,
    ⟨(some 44), .binOp .add 81 (.tmp 42) (.tmp 43) 81, none⟩,
    ⟨(some 45), .move (.tmp 12), none⟩,
    ⟨(some 46), .binOp .shr 81 (.tmp 45) (.const (.int .u64 32)) 99, none⟩,
    ⟨(some 47), .binOp .add 81 (.tmp 44) (.tmp 46) 81, none⟩,
    ⟨(some 4), .assign (.tmp 47), none⟩]) c_math_bits_Mul64_0) K t m := rfl

def c_math_bits_Mul64_2 : MC := (.seq (.ops [⟨(some 35), .move (.tmp 12), none⟩,
    ⟨(some 36), .move (.tmp 6), none⟩,
    ⟨(some 37), .move (.tmp 9), none⟩,
    ⟨(some 38), .binOp .mul 81 (.tmp 36) (.tmp 37) 81, none⟩,
    ⟨(some 39), .binOp .add 81 (.tmp 35) (.tmp 38) 81, none⟩,
    ⟨(some 12), .assign (.tmp 39), none⟩]) c_math_bits_Mul64_1)
@[go_sem] theorem c_math_bits_Mul64_2_at (rd : Option Nat) (K : Post3) (t : Fr) (m : Mem) : wpM E 68 51 rd c_math_bits_Mul64_2 K t m = wpM E 68 51 rd (.seq (.ops [⟨(some 35), .move (.tmp 12), none⟩,
    ⟨(some 36), .move (.tmp 6), none⟩,
    ⟨(some 37), .move (.tmp 9), none⟩,
    ⟨(some 38), .binOp .mul 81 (.tmp 36) (.tmp 37) 81, none⟩,
    ⟨(some 39), .binOp .add 81 (.tmp 35) (.tmp 38) 81, none⟩,
    ⟨(some 12), .assign (.tmp 39), none⟩]) c_math_bits_Mul64_1) K t m := rfl

def c_math_bits_Mul64_3 : MC := (.seq (.ops [⟨(some 33), .move (.tmp 11), none⟩,
    ⟨(some 34), .binOp .shr 81 (.tmp 33) (.const (.int .u64 32)) 99, none⟩,
    ⟨(some 13), .assign (.tmp 34), none⟩]) c_math_bits_Mul64_2)
@[go_sem] theorem c_math_bits_Mul64_3_at (rd : Option Nat) (K : Post3) (t : Fr) (m : Mem) : wpM E 68 51 rd c_math_bits_Mul64_3 K t m = wpM E 68 51 rd (.seq (.ops [⟨(some 33), .move (.tmp 11), none⟩,
    ⟨(some 34), .binOp .shr 81 (.tmp 33) (.const (.int .u64 32)) 99, none⟩,
    ⟨(some 13), .assign (.tmp 34), none⟩]) c_math_bits_Mul64_2) K t m := rfl

def c_math_bits_Mul64_4 : MC := (.seq (.ops [⟨(some 31), .move (.tmp 11), none⟩,
    ⟨(some 32), .binOp .and 81 (.tmp 31) (.const (.int .u64 4294967295)) 81, none⟩,
    ⟨(some 12), .assign (.tmp 32), none⟩]) c_math_bits_Mul64_3)
@[go_sem] theorem c_math_bits_Mul64_4_at (rd : Option Nat) (K : Post3) (t : Fr) (m : Mem) : wpM E 68 51 rd c_math_bits_Mul64_4 K t m = wpM E 68 51 rd (.seq (.ops [⟨(some 31), .move (.tmp 11), none⟩,
    ⟨(some 32), .binOp .and 81 (.tmp 31) (.const (.int .u64 4294967295)) 81, none⟩,
    ⟨(some 12), .assign (.tmp 32), none⟩]) c_math_bits_Mul64_3) K t m := rfl

def c_math_bits_Mul64_5 : MC := (.seq (.ops [⟨(some 25), .move (.tmp 7), none⟩,
    ⟨(some 26), .move (.tmp 8), none⟩,
    ⟨(some 27), .binOp .mul 81 (.tmp 25) (.tmp 26) 81, none⟩,
    ⟨(some 28), .move (.tmp 10), none⟩,
    ⟨(some 29), .binOp .shr 81 (.tmp 28) (.const (.int .u64 32)) 99, none⟩,
    ⟨(some 30), .binOp .add 81 (.tmp 27) (.tmp 29) 81, none⟩,
    ⟨(some 11), .assign (.tmp 30), none⟩]) c_math_bits_Mul64_4)
@[go_sem] theorem c_math_bits_Mul64_5_at (rd : Option Nat) (K : Post3) (t : Fr) (m : Mem) : wpM E 68 51 rd c_math_bits_Mul64_5 K t m = wpM E 68 51 rd (.seq (.ops [⟨(some 25), .move (.tmp 7), none⟩,
    ⟨(some 26), .move (.tmp 8), none⟩,
    ⟨(some 27), .binOp .mul 81 (.tmp 25) (.tmp 26) 81, none⟩,
    ⟨(some 28), .move (.tmp 10), none⟩,
    ⟨(some 29), .binOp .shr 81 (.tmp 28) (.const (.int .u64 32)) 99, none⟩,
    ⟨(some 30), .binOp .add 81 (.tmp 27) (.tmp 29) 81, none⟩,
    ⟨(some 11), .assign (.tmp 30), none⟩]) c_math_bits_Mul64_4) K t m := rfl

def c_math_bits_Mul64_6 : MC := (.seq (.ops [⟨(some 22), .move (.tmp 6), none⟩,
    ⟨(some 23), .move (.tmp 8), none⟩,
    ⟨(some 24), .binOp .mul 81 (.tmp 22) (.tmp 23) 81, none⟩,
    ⟨(some 10), .assign (.tmp 24), none⟩]) c_math_bits_Mul64_5)
@[go_sem] theorem c_math_bits_Mul64_6_at (rd : Option Nat) (K : Post3) (t : Fr) (m : Mem) : wpM E 68 51 rd c_math_bits_Mul64_6 K t m = wpM E 68 51 rd (.seq (.ops [⟨(some 22), .move (.tmp 6), none⟩,
    ⟨(some 23), .move (.tmp 8), none⟩,
    ⟨(some 24), .binOp .mul 81 (.tmp 22) (.tmp 23) 81, none⟩,
    ⟨(some 10), .assign (.tmp 24), none⟩]) c_math_bits_Mul64_5) K t m := rfl

def c_math_bits_Mul64_7 : MC := (.seq (.ops [⟨(some 20), .move (.tmp 1), none⟩,
    ⟨(some 21), .binOp .shr 81 (.tmp 20) (.const (.int .u64 32)) 99, none⟩,
    ⟨(some 9), .assign (.tmp 21), none⟩]) c_math_bits_Mul64_6)
@[go_sem] theorem c_math_bits_Mul64_7_at (rd : Option Nat) (K : Post3) (t : Fr) (m : Mem) : wpM E 68 51 rd c_math_bits_Mul64_7 K t m = wpM E 68 51 rd (.seq (.ops [⟨(some 20), .move (.tmp 1), none⟩,
    ⟨(some 21), .binOp .shr 81 (.tmp 20) (.const (.int .u64 32)) 99, none⟩,
    ⟨(some 9), .assign (.tmp 21), none⟩]) c_math_bits_Mul64_6) K t m := rfl

def c_math_bits_Mul64_8 : MC := (.seq (.ops [⟨(some 18), .move (.tmp 1), none⟩,
    ⟨(some 19), .binOp .and 81 (.tmp 18) (.const (.int .u64 4294967295)) 81, none⟩,
    ⟨(some 8), .assign (.tmp 19), none⟩]) c_math_bits_Mul64_7)
@[go_sem] theorem c_math_bits_Mul64_8_at (rd : Option Nat) (K : Post3) (t : Fr) (m : Mem) : wpM E 68 51 rd c_math_bits_Mul64_8 K t m = wpM E 68 51 rd (.seq (.ops [⟨(some 18), .move (.tmp 1), none⟩,
    ⟨(some 19), .binOp .and 81 (.tmp 18) (.const (.int .u64 4294967295)) 81, none⟩,
    ⟨(some 8), .assign (.tmp 19), none⟩]) c_math_bits_Mul64_7) K t m := rfl

def c_math_bits_Mul64_9 : MC := (.seq (.ops [⟨(some 16), .move (.tmp 0), none⟩,
    ⟨(some 17), .binOp .shr 81 (.tmp 16) (.const (.int .u64 32)) 99, none⟩,
    ⟨(some 7), .assign (.tmp 17), none⟩]) c_math_bits_Mul64_8)
@[go_sem] theorem c_math_bits_Mul64_9_at (rd : Option Nat) (K : Post3) (t : Fr) (m : Mem) : wpM E 68 51 rd c_math_bits_Mul64_9 K t m = wpM E 68 51 rd (.seq (.ops [⟨(some 16), .move (.tmp 0), none⟩,
    ⟨(some 17), .binOp .shr 81 (.tmp 16) (.const (.int .u64 32)) 99, none⟩,
    ⟨(some 7), .assign (.tmp 17), none⟩]) c_math_bits_Mul64_8) K t m := rfl

def c_math_bits_Mul64_10 : MC := (.seq (.ops [⟨(some 14), .move (.tmp 0), none⟩,
    ⟨(some 15), .binOp .and 81 (.tmp 14) (.const (.int .u64 4294967295)) 81, none⟩,
    ⟨(some 6), .assign (.tmp 15), none⟩]) c_math_bits_Mul64_9)
@[go_sem] theorem c_math_bits_Mul64_10_at (rd : Option Nat) (K : Post3) (t : Fr) (m : Mem) : wpM E 68 51 rd c_math_bits_Mul64_10 K t m = wpM E 68 51 rd (.seq (.ops [⟨(some 14), .move (.tmp 0), none⟩,
    ⟨(some 15), .binOp .and 81 (.tmp 14) (.const (.int .u64 4294967295)) 81, none⟩,
    ⟨(some 6), .assign (.tmp 15), none⟩]) c_math_bits_Mul64_9) K t m := rfl

def c_math_bits_Mul64_11 : MC := (.seq (.ops [⟨(some 4), .assign (.const (.int .u64 0)), none⟩,
    ⟨(some 5), .assign (.const (.int .u64 0)), none⟩]) c_math_bits_Mul64_10)
@[go_sem] theorem c_math_bits_Mul64_11_at (rd : Option Nat) (K : Post3) (t : Fr) (m : Mem) : wpM E 68 51 rd c_math_bits_Mul64_11 K t m = wpM E 68 51 rd (.seq (.ops [⟨(some 4), .assign (.const (.int .u64 0)), none⟩,
    ⟨(some 5), .assign (.const (.int .u64 0)), none⟩]) c_math_bits_Mul64_10) K t m := rfl

@[go_sem] theorem some68 : (E.fn 68).isSome = true := by kernel_rfl
set_option maxRecDepth 100000 in
theorem fn_math_bits_Mul64 : FnIs E 68 51 [.tmp 4, .tmp 5] c_math_bits_Mul64_11 := ⟨by kernel_rfl, by kernel_rfl⟩

/-! math/bits.LeadingZeros64 -/
abbrev F_math_bits_LeadingZeros64 : FuncId := 76
def c_math_bits_LeadingZeros64_0 : MC := (.seq (.ops [⟨(some 3), .move (.tmp 0), none⟩,
    ⟨(some 4), .call ⟨.value (.func 78), #[(.tmp 3)], #[81]⟩, none⟩,
    ⟨(some 5), .binOp .sub 3 (.const (.int .i64 64)) (.tmp 4) 3, none⟩,
    ⟨(some 2), .assign (.tmp 5), none⟩]) .ret)
@[go_sem] theorem c_math_bits_LeadingZeros64_0_at (rd : Option Nat) (K : Post3) (t : Fr) (m : Mem) : wpM E 76 6 rd c_math_bits_LeadingZeros64_0 K t m = wpM E 76 6 rd (.seq (.ops [⟨(some 3), .move (.tmp 0), none⟩,
    ⟨(some 4), .call ⟨.value (.func 78), #[(.tmp 3)], #[81]⟩, none⟩,
    ⟨(some 5), .binOp .sub 3 (.const (.int .i64 64)) (.tmp 4) 3, none⟩,
    ⟨(some 2), .assign (.tmp 5), none⟩]) .ret) K t m := rfl

def c_math_bits_LeadingZeros64_1 : MC := (.seq (.ops [⟨(some 2), .assign (.const (.int .i64 0)), none⟩]) c_math_bits_LeadingZeros64_0)
@[go_sem] theorem c_math_bits_LeadingZeros64_1_at (rd : Option Nat) (K : Post3) (t : Fr) (m : Mem) : wpM E 76 6 rd c_math_bits_LeadingZeros64_1 K t m = wpM E 76 6 rd (.seq (.ops [⟨(some 2), .assign (.const (.int .i64 0)), none⟩]) c_math_bits_LeadingZeros64_0) K t m := rfl

@[go_sem] theorem some76 : (E.fn 76).isSome = true := by kernel_rfl
set_option maxRecDepth 100000 in
theorem fn_math_bits_LeadingZeros64 : FnIs E 76 6 [.tmp 2] c_math_bits_LeadingZeros64_1 := ⟨by kernel_rfl, by kernel_rfl⟩

/-! math/bits.Len64 -/
abbrev F_math_bits_Len64 : FuncId := 78
def c_math_bits_Len64_0 : MC := (.seq (.ops [⟨(some 5), .move (.tmp 0), none⟩,
    ⟨(some 6), .binOp .shr 81 (.tmp 5) (.const (.int .u64 32)) 99, none⟩,
    ⟨(some 0), .assign (.tmp 6), none⟩]) (.ops [⟨(some 2), .assign (.const (.int .i64 32)), none⟩]))
@[go_sem] theorem c_math_bits_Len64_0_at (rd : Option Nat) (K : Post3) (t : Fr) (m : Mem) : wpM E 78 25 rd c_math_bits_Len64_0 K t m = wpM E 78 25 rd (.seq (.ops [⟨(some 5), .move (.tmp 0), none⟩,
    ⟨(some 6), .binOp .shr 81 (.tmp 5) (.const (.int .u64 32)) 99, none⟩,
    ⟨(some 0), .assign (.tmp 6), none⟩]) (.ops [⟨(some 2), .assign (.const (.int .i64 32)), none⟩])) K t m := rfl

def c_math_bits_Len64_1 : MC := (.cond (.tmp 4) c_math_bits_Len64_0 .skip)
@[go_sem] theorem c_math_bits_Len64_1_at (rd : Option Nat) (K : Post3) (t : Fr) (m : Mem) : wpM E 78 25 rd c_math_bits_Len64_1 K t m = wpM E 78 25 rd (.cond (.tmp 4) c_math_bits_Len64_0 .skip) K t m := rfl

def c_math_bits_Len64_2 : MC := (.seq (.ops [⟨(some 3), .move (.tmp 0), none⟩,
    ⟨(some 4), .binOp .geq 81 (.tmp 3) (.const (.int .u64 4294967296)) 81, none⟩]) c_math_bits_Len64_1)
@[go_sem] theorem c_math_bits_Len64_2_at (rd : Option Nat) (K : Post3) (t : Fr) (m : Mem) : wpM E 78 25 rd c_math_bits_Len64_2 K t m = wpM E 78 25 rd (.seq (.ops [⟨(some 3), .move (.tmp 0), none⟩,
    ⟨(some 4), .binOp .geq 81 (.tmp 3) (.const (.int .u64 4294967296)) 81, none⟩]) c_math_bits_Len64_1) K t m := rfl

def c_math_bits_Len64_3 : MC := (.seq (.ops [⟨(some 9), .move (.tmp 0), none⟩,
    ⟨(some 10), .binOp .shr 81 (.tmp 9) (.const (.int .u64 16)) 99, none⟩,
    ⟨(some 0), .assign (.tmp 10), none⟩]) (.ops [⟨(some 11), .move (.tmp 2), none⟩,
    ⟨(some 12), .binOp .add 3 (.tmp 11) (.const (.int .i64 16)) 3, none⟩,
    ⟨(some 2), .assign (.tmp 12), none⟩]))
@[go_sem] theorem c_math_bits_Len64_3_at (rd : Option Nat) (K : Post3) (t : Fr) (m : Mem) : wpM E 78 25 rd c_math_bits_Len64_3 K t m = wpM E 78 25 rd (.seq (.ops [⟨(some 9), .move (.tmp 0), none⟩,
    ⟨(some 10), .binOp .shr 81 (.tmp 9) (.const (.int .u64 16)) 99, none⟩,
    ⟨(some 0), .assign (.tmp 10), none⟩]) (.ops [⟨(some 11), .move (.tmp 2), none⟩,
    ⟨(some 12), .binOp .add 3 (.tmp 11) (.const (.int .i64 16)) 3, none⟩,
    ⟨(some 2), .assign (.tmp 12), none⟩])) K t m := rfl

def c_math_bits_Len64_4 : MC := (.cond (.tmp 8) c_math_bits_Len64_3 .skip)
@[go_sem] theorem c_math_bits_Len64_4_at (rd : Option Nat) (K : Post3) (t : Fr) (m : Mem) : wpM E 78 25 rd c_math_bits_Len64_4 K t m = wpM E 78 25 rd (.cond (.tmp 8) c_math_bits_Len64_3 .skip) K t m := rfl

def c_math_bits_Len64_5 : MC := (.seq (.ops [⟨(some 7), .move (.tmp 0), none⟩,
    ⟨(some 8), .binOp .geq 81 (.tmp 7) (.const (.int .u64 65536)) 81, none⟩]) c_math_bits_Len64_4)
@[go_sem] theorem c_math_bits_Len64_5_at (rd : Option Nat) (K : Post3) (t : Fr) (m : Mem) : wpM E 78 25 rd c_math_bits_Len64_5 K t m = wpM E 78 25 rd (.seq (.ops [⟨(some 7), .move (.tmp 0), none⟩,
    ⟨(some 8), .binOp .geq 81 (.tmp 7) (.const (.int .u64 65536)) 81, none⟩]) c_math_bits_Len64_4) K t m := rfl

def c_math_bits_Len64_6 : MC := (.seq (.ops [⟨(some 15), .move (.tmp 0), none⟩,
    ⟨(some 16), .binOp .shr 81 (.tmp 15) (.const (.int .u64 8)) 99, none⟩,
    ⟨(some 0), .assign (.tmp 16), none⟩]) (.ops [⟨(some 17), .move (.tmp 2), none⟩,
    ⟨(some 18), .binOp .add 3 (.tmp 17) (.const (.int .i64 8)) 3, none⟩,
    ⟨(some 2), .assign (.tmp 18), none⟩]))
@[go_sem] theorem c_math_bits_Len64_6_at (rd : Option Nat) (K : Post3) (t : Fr) (m : Mem) : wpM E 78 25 rd c_math_bits_Len64_6 K t m = wpM E 78 25 rd (.seq (.ops [⟨(some 15), .move (.tmp 0), none⟩,
    ⟨(some 16), .binOp .shr 81 (.tmp 15) (.const (.int .u64 8)) 99, none⟩,
    ⟨(some 0), .assign (.tmp 16), none⟩]) (.ops [⟨(some 17), .move (.tmp 2), none⟩,
    ⟨(some 18), .binOp .add 3 (.tmp 17) (.const (.int .i64 8)) 3, none⟩,
    ⟨(some 2), .assign (.tmp 18), none⟩])) K t m := rfl

def c_math_bits_Len64_7 : MC := (.cond (.tmp 14) c_math_bits_Len64_6 .skip)
@[go_sem] theorem c_math_bits_Len64_7_at (rd : Option Nat) (K : Post3) (t : Fr) (m : Mem) : wpM E 78 25 rd c_math_bits_Len64_7 K t m = wpM E 78 25 rd (.cond (.tmp 14) c_math_bits_Len64_6 .skip) K t m := rfl

def c_math_bits_Len64_8 : MC := (.seq (.ops [⟨(some 13), .move (.tmp 0), none⟩,
    ⟨(some 14), .binOp .geq 81 (.tmp 13) (.const (.int .u64 256)) 81, none⟩]) c_math_bits_Len64_7)
@[go_sem] theorem c_math_bits_Len64_8_at (rd : Option Nat) (K : Post3) (t : Fr) (m : Mem) : wpM E 78 25 rd c_math_bits_Len64_8 K t m = wpM E 78 25 rd (.seq (.ops [⟨(some 13), .move (.tmp 0), none⟩,
    ⟨(some 14), .binOp .geq 81 (.tmp 13) (.const (.int .u64 256)) 81, none⟩]) c_math_bits_Len64_7) K t m := rfl

def c_math_bits_Len64_9 : MC := (.seq (.ops [⟨(some 19), .move (.tmp 2), none⟩,
    ⟨(some 20), .move (.tmp 0), none⟩,
    ⟨(some 21), .convert 81 5 (.tmp 20), none⟩,
    ⟨(some 22), .index 9 (.const (.string ⟨#[0, 1, 2, 2, 3, 3, 3, 3, 4, 4, 4, 4, 4, 4, 4, 4, 5, 5, 5, 5, 5, 5, 5, 5, 5, 5, 5, 5, 5, 5, 5, 5, 6, 6, 6, 6, 6, 6, 6, 6, 6, 6, 6, 6, 6, 6, 6, 6, 6, 6, 6, 6, 6, 6, 6, 6, 6, 6, 6, 6, 6, 6, 6, 6, 7, 7, 7, 7, 7, 7, 7, 7, 7, 7, 7, 7, 7, 7, 7, 7, 7, 7, 7, 7, 7, 7, 7, 7, 7, 7, 7, 7, 7, 7, 7, 7, 7, 7, 7, 7, 7, 7, 7, 7, 7, 7, 7, 7, 7, 7, 7, 7, 7, 7, 7, 7, 7, 7, 7, 7, 7, 7, 7, 7, 7, 7, 7, 7, 8, 8, 8, 8, 8, 8, 8, 8, 8, 8, 8, 8, 8, 8, 8, 8, 8, 8, 8, 8, 8, 8, 8, 8, 8, 8, 8, 8, 8, 8, 8, 8, 8, 8, 8, 8, 8, 8, 8, 8, 8, 8, 8, 8, 8, 8, 8, 8, 8, 8, 8, 8, 8, 8, 8, 8, 8, 8, 8, 8, 8, 8, 8, 8, 8, 8, 8, 8, 8, 8, 8, 8, 8, 8, 8, 8, 8, 8, 8, 8, 8, 8, 8, 8, 8, 8, 8, 8, 8, 8, 8, 8, 8, 8, 8, 8, 8, 8, 8, 8, 8, 8, 8, 8, 8, 8, 8, 8, 8, 8, 8, 8, 8, 8, 8, 8, 8, 8, 8, 8, 8, 8, 8, 8, 8, 8, 8, 8]⟩)) (.tmp 21), none⟩,
    ⟨(some 23), .convert 5 3 (.tmp 22), none⟩,
    ⟨(some 24), .binOp .add 3 (.tmp 19) (.tmp 23) 3, none⟩,
    ⟨(some 2), .assign (.tmp 24), none⟩]) .ret)
@[go_sem] theorem c_math_bits_Len64_9_at (rd : Option Nat) (K : Post3) (t : Fr) (m : Mem) : wpM E 78 25 rd c_math_bits_Len64_9 K t m = wpM E 78 25 rd (.seq (.ops [⟨(some 19), .move (.tmp 2), none⟩,
    ⟨(some 20), .move (.tmp 0), none⟩,
    ⟨(some 21), .convert 81 5 (.tmp 20), none⟩,
    ⟨(some 22), .index 9 (.const (.string ⟨#[0, 1, 2, 2, 3, 3, 3, 3, 4, 4, 4, 4, 4, 4, 4, 4, 5, 5, 5, 5, 5, 5, 5, 5, 5, 5, 5, 5, 5, 5, 5, 5, 6, 6, 6, 6, 6, 6, 6, 6, 6, 6, 6, 6, 6, 6, 6, 6, 6, 6, 6, 6, 6, 6, 6, 6, 6, 6, 6, 6, 6, 6, 6, 6, 7, 7, 7, 7, 7, 7, 7, 7, 7, 7, 7, 7, 7, 7, 7, 7, 7, 7, 7, 7, 7, 7, 7, 7, 7, 7, 7, 7, 7, 7, 7, 7, 7, 7, 7, 7, 7, 7, 7, 7, 7, 7, 7, 7, 7, 7, 7, 7, 7, 7, 7, 7, 7, 7, 7, 7, 7, 7, 7, 7, 7, 7, 7, 7, 8, 8, 8, 8, 8, 8, 8, 8, 8, 8, 8, 8, 8, 8, 8, 8, 8, 8, 8, 8, 8, 8, 8, 8, 8, 8, 8, 8, 8, 8, 8, 8, 8, 8, 8, 8, 8, 8, 8, 8, 8, 8, 8, 8, 8, 8, 8, 8, 8, 8, 8, 8, 8, 8, 8, 8, 8, 8, 8, 8, 8, 8, 8, 8, 8, 8, 8, 8, 8, 8, 8, 8, 8, 8, 8, 8, 8, 8, 8, 8, 8, 8, 8, 8, 8, 8, 8, 8, 8, 8, 8, 8, 8, 8, 8, 8, 8, 8, 8, 8, 8, 8, 8, 8, 8, 8, 8, 8, 8, 8, 8, 8, 8, 8, 8, 8, 8, 8, 8, 8, 8, 8, 8, 8, 8, 8, 8, 8]⟩)) (.tmp 21), none⟩,
    ⟨(some 23), .convert 5 3 (.tmp 22), none⟩,
    ⟨(some 24), .binOp .add 3 (.tmp 19) (.tmp 23) 3, none⟩,
    ⟨(some 2), .assign (.tmp 24), none⟩]) .ret) K t m := rfl

def c_math_bits_Len64_10 : MC := (.seq c_math_bits_Len64_8 c_math_bits_Len64_9)
@[go_sem] theorem c_math_bits_Len64_10_at (rd : Option Nat) (K : Post3) (t : Fr) (m : Mem) : wpM E 78 25 rd c_math_bits_Len64_10 K t m = wpM E 78 25 rd (.seq c_math_bits_Len64_8 c_math_bits_Len64_9) K t m := rfl

def c_math_bits_Len64_11 : MC := (.seq c_math_bits_Len64_5 c_math_bits_Len64_10)
@[go_sem] theorem c_math_bits_Len64_11_at (rd : Option Nat) (K : Post3) (t : Fr) (m : Mem) : wpM E 78 25 rd c_math_bits_Len64_11 K t m = wpM E 78 25 rd (.seq c_math_bits_Len64_5 c_math_bits_Len64_10) K t m := rfl

def c_math_bits_Len64_12 : MC := (.seq c_math_bits_Len64_2 c_math_bits_Len64_11)
@[go_sem] theorem c_math_bits_Len64_12_at (rd : Option Nat) (K : Post3) (t : Fr) (m : Mem) : wpM E 78 25 rd c_math_bits_Len64_12 K t m = wpM E 78 25 rd (.seq c_math_bits_Len64_2 c_math_bits_Len64_11) K t m := rfl

def c_math_bits_Len64_13 : MC := (.seq (.ops [⟨(some 2), .assign (.const (.int .i64 0)), none⟩]) c_math_bits_Len64_12)
@[go_sem] theorem c_math_bits_Len64_13_at (rd : Option Nat) (K : Post3) (t : Fr) (m : Mem) : wpM E 78 25 rd c_math_bits_Len64_13 K t m = wpM E 78 25 rd (.seq (.ops [⟨(some 2), .assign (.const (.int .i64 0)), none⟩]) c_math_bits_Len64_12) K t m := rfl

@[go_sem] theorem some78 : (E.fn 78).isSome = true := by kernel_rfl
set_option maxRecDepth 100000 in
theorem fn_math_bits_Len64 : FnIs E 78 25 [.tmp 2] c_math_bits_Len64_13 := ⟨by kernel_rfl, by kernel_rfl⟩

end
end Go.Proofs.Ytpabllcacdopdaa.W
