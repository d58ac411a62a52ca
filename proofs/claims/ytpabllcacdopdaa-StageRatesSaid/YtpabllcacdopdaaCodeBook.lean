/-
  Compact code, printed by a program of mine (wip/dev/AbsPrint.lean).
-/
import Derived.Test.YtpabllcacdopdaaTypes
set_option linter.unusedVariables false
namespace Go.Proofs.Ytpabllcacdopdaa.W
open Go.Abs
noncomputable section

/-! sheaf/sheafkeep.Rows -/
abbrev F_sheafkeep_Rows : FuncId := 14
def c_sheafkeep_Rows_0 : MC := (.seq (.ops [⟨(some 4), .assign (.const (.bool false)), none⟩]) .ret)
@[go_sem] theorem c_sheafkeep_Rows_0_at (rd : Option Nat) (K : Post3) (t : Fr) (m : Mem) : wpM E 14 27 rd c_sheafkeep_Rows_0 K t m = wpM E 14 27 rd (.seq (.ops [⟨(some 4), .assign (.const (.bool false)), none⟩]) .ret) K t m := rfl

def c_sheafkeep_Rows_1 : MC := (.cond (.tmp 10) c_sheafkeep_Rows_0 .skip)
@[go_sem] theorem c_sheafkeep_Rows_1_at (rd : Option Nat) (K : Post3) (t : Fr) (m : Mem) : wpM E 14 27 rd c_sheafkeep_Rows_1 K t m = wpM E 14 27 rd (.cond (.tmp 10) c_sheafkeep_Rows_0 .skip) K t m := rfl

def c_sheafkeep_Rows_2 : MC := (.seq (.ops [⟨(some 6), .move (.tmp 0), none⟩,
    ⟨(some 7), .call ⟨.builtin .len, #[(.tmp 6)], #[23]⟩, none⟩,
    ⟨(some 8), .move (.tmp 1), none⟩,
    ⟨(some 9), .call ⟨.builtin .len, #[(.tmp 8)], #[23]⟩, none⟩,
    ⟨(some 10), .binOp .neq 3 (.tmp 7) (.tmp 9) 3, none⟩]) c_sheafkeep_Rows_1)
@[go_sem] theorem c_sheafkeep_Rows_2_at (rd : Option Nat) (K : Post3) (t : Fr) (m : Mem) : wpM E 14 27 rd c_sheafkeep_Rows_2 K t m = wpM E 14 27 rd (.seq (.ops [⟨(some 6), .move (.tmp 0), none⟩,
    ⟨(some 7), .call ⟨.builtin .len, #[(.tmp 6)], #[23]⟩, none⟩,
    ⟨(some 8), .move (.tmp 1), none⟩,
    ⟨(some 9), .call ⟨.builtin .len, #[(.tmp 8)], #[23]⟩, none⟩,
    ⟨(some 10), .binOp .neq 3 (.tmp 7) (.tmp 9) 3, none⟩]) c_sheafkeep_Rows_1) K t m := rfl

def c_sheafkeep_Rows_3 : MC := (.cond (.tmp 14) .skip (.exit 0))
@[go_sem] theorem c_sheafkeep_Rows_3_at (rd : Option Nat) (K : Post3) (t : Fr) (m : Mem) : wpM E 14 27 rd c_sheafkeep_Rows_3 K t m = wpM E 14 27 rd (.cond (.tmp 14) .skip (.exit 0)) K t m := rfl

def c_sheafkeep_Rows_4 : MC := (.seq (.ops [⟨(some 4), .assign (.const (.bool false)), none⟩]) .ret)
@[go_sem] theorem c_sheafkeep_Rows_4_at (rd : Option Nat) (K : Post3) (t : Fr) (m : Mem) : wpM E 14 27 rd c_sheafkeep_Rows_4 K t m = wpM E 14 27 rd (.seq (.ops [⟨(some 4), .assign (.const (.bool false)), none⟩]) .ret) K t m := rfl

def c_sheafkeep_Rows_5 : MC := (.cond (.tmp 25) c_sheafkeep_Rows_4 .skip)
@[go_sem] theorem c_sheafkeep_Rows_5_at (rd : Option Nat) (K : Post3) (t : Fr) (m : Mem) : wpM E 14 27 rd c_sheafkeep_Rows_5 K t m = wpM E 14 27 rd (.cond (.tmp 25) c_sheafkeep_Rows_4 .skip) K t m := rfl

def c_sheafkeep_Rows_6 : MC := (.seq (.ops [⟨(some 16), .move (.tmp 0), none⟩,
    ⟨(some 17), .move (.tmp 5), none⟩,
    ⟨(some 18), .indexAddr 23 (.tmp 16) (.tmp 17), none⟩,
    ⟨(some 19), .load 22 (.tmp 18), none⟩,
    ⟨(some 20), .move (.tmp 1), none⟩,
    ⟨(some 21), .move (.tmp 5), none⟩,
    ⟨(some 22), .indexAddr 23 (.tmp 20) (.tmp 21), none⟩,
    ⟨(some 23), .load 22 (.tmp 22), none⟩,
    ⟨(some 24), .call ⟨.value (.func 17), #[(.tmp 19), (.tmp 23)], #[22, 22]⟩, none⟩,
    ⟨(some 25), .unOp .not 4 (.tmp 24), none⟩]) c_sheafkeep_Rows_5)
@[go_sem] theorem c_sheafkeep_Rows_6_at (rd : Option Nat) (K : Post3) (t : Fr) (m : Mem) : wpM E 14 27 rd c_sheafkeep_Rows_6 K t m = wpM E 14 27 rd (.seq (.ops [⟨(some 16), .move (.tmp 0), none⟩,
    ⟨(some 17), .move (.tmp 5), none⟩,
    ⟨(some 18), .indexAddr 23 (.tmp 16) (.tmp 17), none⟩,
    ⟨(some 19), .load 22 (.tmp 18), none⟩,
    ⟨(some 20), .move (.tmp 1), none⟩,
    ⟨(some 21), .move (.tmp 5), none⟩,
    ⟨(some 22), .indexAddr 23 (.tmp 20) (.tmp 21), none⟩,
    ⟨(some 23), .load 22 (.tmp 22), none⟩,
    ⟨(some 24), .call ⟨.value (.func 17), #[(.tmp 19), (.tmp 23)], #[22, 22]⟩, none⟩,
    ⟨(some 25), .unOp .not 4 (.tmp 24), none⟩]) c_sheafkeep_Rows_5) K t m := rfl

def c_sheafkeep_Rows_7 : MC := (.seq (.ops [⟨(some 15), .move (.tmp 13), none⟩,
    ⟨(some 5), .assign (.tmp 15), none⟩]) c_sheafkeep_Rows_6)
@[go_sem] theorem c_sheafkeep_Rows_7_at (rd : Option Nat) (K : Post3) (t : Fr) (m : Mem) : wpM E 14 27 rd c_sheafkeep_Rows_7 K t m = wpM E 14 27 rd (.seq (.ops [⟨(some 15), .move (.tmp 13), none⟩,
    ⟨(some 5), .assign (.tmp 15), none⟩]) c_sheafkeep_Rows_6) K t m := rfl

def c_sheafkeep_Rows_8 : MC := (.block 1 c_sheafkeep_Rows_7)
@[go_sem] theorem c_sheafkeep_Rows_8_at (rd : Option Nat) (K : Post3) (t : Fr) (m : Mem) : wpM E 14 27 rd c_sheafkeep_Rows_8 K t m = wpM E 14 27 rd (.block 1 c_sheafkeep_Rows_7) K t m := rfl

def c_sheafkeep_Rows_9 : MC := (.seq c_sheafkeep_Rows_8 (.ops [⟨(some 26), .binOp .add 3 (.tmp 13) (.const (.int .i64 1)) 3, none⟩,
    ⟨(some 13), .move (.tmp 26), none⟩]))
@[go_sem] theorem c_sheafkeep_Rows_9_at (rd : Option Nat) (K : Post3) (t : Fr) (m : Mem) : wpM E 14 27 rd c_sheafkeep_Rows_9 K t m = wpM E 14 27 rd (.seq c_sheafkeep_Rows_8 (.ops [⟨(some 26), .binOp .add 3 (.tmp 13) (.const (.int .i64 1)) 3, none⟩,
    ⟨(some 13), .move (.tmp 26), none⟩])) K t m := rfl

def c_sheafkeep_Rows_10 : MC := (.seq c_sheafkeep_Rows_3 c_sheafkeep_Rows_9)
@[go_sem] theorem c_sheafkeep_Rows_10_at (rd : Option Nat) (K : Post3) (t : Fr) (m : Mem) : wpM E 14 27 rd c_sheafkeep_Rows_10 K t m = wpM E 14 27 rd (.seq c_sheafkeep_Rows_3 c_sheafkeep_Rows_9) K t m := rfl

def c_sheafkeep_Rows_11 : MC := (.seq (.ops [⟨(some 14), .binOp .lss 3 (.tmp 13) (.tmp 12) 3, none⟩]) c_sheafkeep_Rows_10)
@[go_sem] theorem c_sheafkeep_Rows_11_at (rd : Option Nat) (K : Post3) (t : Fr) (m : Mem) : wpM E 14 27 rd c_sheafkeep_Rows_11 K t m = wpM E 14 27 rd (.seq (.ops [⟨(some 14), .binOp .lss 3 (.tmp 13) (.tmp 12) 3, none⟩]) c_sheafkeep_Rows_10) K t m := rfl

def c_sheafkeep_Rows_12 : MC := (.loop c_sheafkeep_Rows_11)
theorem c_sheafkeep_Rows_12_at (rd : Option Nat) (K : Post3) (t : Fr) (m : Mem) : wpM E 14 27 rd c_sheafkeep_Rows_12 K t m = wpM E 14 27 rd (.loop c_sheafkeep_Rows_11) K t m := rfl

def c_sheafkeep_Rows_13 : MC := (.block 0 c_sheafkeep_Rows_12)
theorem c_sheafkeep_Rows_13_at (rd : Option Nat) (K : Post3) (t : Fr) (m : Mem) : wpM E 14 27 rd c_sheafkeep_Rows_13 K t m = wpM E 14 27 rd (.block 0 c_sheafkeep_Rows_12) K t m := rfl

def c_sheafkeep_Rows_14 : MC := (.seq (.ops [⟨(some 11), .move (.tmp 0), none⟩,
    ⟨(some 12), .call ⟨.builtin .len, #[(.tmp 11)], #[23]⟩, none⟩,
    ⟨(some 13), .move (.const (.int .i64 0)), none⟩]) c_sheafkeep_Rows_13)
@[go_sem] theorem c_sheafkeep_Rows_14_at (rd : Option Nat) (K : Post3) (t : Fr) (m : Mem) : wpM E 14 27 rd c_sheafkeep_Rows_14 K t m = wpM E 14 27 rd (.seq (.ops [⟨(some 11), .move (.tmp 0), none⟩,
    ⟨(some 12), .call ⟨.builtin .len, #[(.tmp 11)], #[23]⟩, none⟩,
    ⟨(some 13), .move (.const (.int .i64 0)), none⟩]) c_sheafkeep_Rows_13) K t m := rfl

def c_sheafkeep_Rows_15 : MC := (.seq (.ops [⟨(some 4), .assign (.const (.bool true)), none⟩]) .ret)
@[go_sem] theorem c_sheafkeep_Rows_15_at (rd : Option Nat) (K : Post3) (t : Fr) (m : Mem) : wpM E 14 27 rd c_sheafkeep_Rows_15 K t m = wpM E 14 27 rd (.seq (.ops [⟨(some 4), .assign (.const (.bool true)), none⟩]) .ret) K t m := rfl

def c_sheafkeep_Rows_16 : MC := (.seq c_sheafkeep_Rows_14 c_sheafkeep_Rows_15)
@[go_sem] theorem c_sheafkeep_Rows_16_at (rd : Option Nat) (K : Post3) (t : Fr) (m : Mem) : wpM E 14 27 rd c_sheafkeep_Rows_16 K t m = wpM E 14 27 rd (.seq c_sheafkeep_Rows_14 c_sheafkeep_Rows_15) K t m := rfl

def c_sheafkeep_Rows_17 : MC := (.seq c_sheafkeep_Rows_2 c_sheafkeep_Rows_16)
@[go_sem] theorem c_sheafkeep_Rows_17_at (rd : Option Nat) (K : Post3) (t : Fr) (m : Mem) : wpM E 14 27 rd c_sheafkeep_Rows_17 K t m = wpM E 14 27 rd (.seq c_sheafkeep_Rows_2 c_sheafkeep_Rows_16) K t m := rfl

def c_sheafkeep_Rows_18 : MC := (.seq (.ops [⟨(some 4), .assign (.const (.bool false)), none⟩]) c_sheafkeep_Rows_17)
@[go_sem] theorem c_sheafkeep_Rows_18_at (rd : Option Nat) (K : Post3) (t : Fr) (m : Mem) : wpM E 14 27 rd c_sheafkeep_Rows_18 K t m = wpM E 14 27 rd (.seq (.ops [⟨(some 4), .assign (.const (.bool false)), none⟩]) c_sheafkeep_Rows_17) K t m := rfl

@[go_sem] theorem some14 : (E.fn 14).isSome = true := by kernel_rfl
set_option maxRecDepth 100000 in
theorem fn_sheafkeep_Rows : FnIs E 14 27 [.tmp 4] c_sheafkeep_Rows_18 := ⟨by kernel_rfl, by kernel_rfl⟩

/-! sheaf/sheafbook.Within -/
abbrev F_sheafbook_Within : FuncId := 15
def c_sheafbook_Within_0 : MC := (.cond (.tmp 14) (.ops [⟨(some 15), .move (.tmp 0), none⟩,
    ⟨(some 16), .move (.tmp 2), none⟩,
    ⟨(some 17), .binOp .add 3 (.tmp 15) (.tmp 16) 3, none⟩,
    ⟨(some 18), .move (.tmp 1), none⟩,
    ⟨(some 19), .binOp .sub 3 (.tmp 17) (.tmp 18) 3, none⟩,
    ⟨(some 20), .binOp .add 3 (.tmp 19) (.const (.int .i64 1)) 3, none⟩,
    ⟨(some 0), .assign (.tmp 20), none⟩]) .skip)
@[go_sem] theorem c_sheafbook_Within_0_at (rd : Option Nat) (K : Post3) (t : Fr) (m : Mem) : wpM E 15 24 rd c_sheafbook_Within_0 K t m = wpM E 15 24 rd (.cond (.tmp 14) (.ops [⟨(some 15), .move (.tmp 0), none⟩,
    ⟨(some 16), .move (.tmp 2), none⟩,
    ⟨(some 17), .binOp .add 3 (.tmp 15) (.tmp 16) 3, none⟩,
    ⟨(some 18), .move (.tmp 1), none⟩,
    ⟨(some 19), .binOp .sub 3 (.tmp 17) (.tmp 18) 3, none⟩,
    ⟨(some 20), .binOp .add 3 (.tmp 19) (.const (.int .i64 1)) 3, none⟩,
    ⟨(some 0), .assign (.tmp 20), none⟩]) .skip) K t m := rfl

def c_sheafbook_Within_1 : MC := (.seq (.ops [⟨(some 13), .move (.tmp 0), none⟩,
    ⟨(some 14), .binOp .lss 3 (.tmp 13) (.const (.int .i64 0)) 3, none⟩]) c_sheafbook_Within_0)
@[go_sem] theorem c_sheafbook_Within_1_at (rd : Option Nat) (K : Post3) (t : Fr) (m : Mem) : wpM E 15 24 rd c_sheafbook_Within_1 K t m = wpM E 15 24 rd (.seq (.ops [⟨(some 13), .move (.tmp 0), none⟩,
    ⟨(some 14), .binOp .lss 3 (.tmp 13) (.const (.int .i64 0)) 3, none⟩]) c_sheafbook_Within_0) K t m := rfl

def c_sheafbook_Within_2 : MC := (.seq (.ops [⟨(some 21), .move (.tmp 1), none⟩,
    ⟨(some 22), .move (.tmp 0), none⟩,
    ⟨(some 23), .binOp .add 3 (.tmp 21) (.tmp 22) 3, none⟩,
    ⟨(some 6), .assign (.tmp 23), none⟩]) .ret)
@[go_sem] theorem c_sheafbook_Within_2_at (rd : Option Nat) (K : Post3) (t : Fr) (m : Mem) : wpM E 15 24 rd c_sheafbook_Within_2 K t m = wpM E 15 24 rd (.seq (.ops [⟨(some 21), .move (.tmp 1), none⟩,
    ⟨(some 22), .move (.tmp 0), none⟩,
    ⟨(some 23), .binOp .add 3 (.tmp 21) (.tmp 22) 3, none⟩,
    ⟨(some 6), .assign (.tmp 23), none⟩]) .ret) K t m := rfl

def c_sheafbook_Within_3 : MC := (.seq c_sheafbook_Within_1 c_sheafbook_Within_2)
@[go_sem] theorem c_sheafbook_Within_3_at (rd : Option Nat) (K : Post3) (t : Fr) (m : Mem) : wpM E 15 24 rd c_sheafbook_Within_3 K t m = wpM E 15 24 rd (.seq c_sheafbook_Within_1 c_sheafbook_Within_2) K t m := rfl

def c_sheafbook_Within_4 : MC := (.seq (.ops [⟨(some 7), .move (.tmp 0), none⟩,
    ⟨(some 8), .move (.tmp 2), none⟩,
    ⟨(some 9), .move (.tmp 1), none⟩,
    ⟨(some 10), .binOp .sub 3 (.tmp 8) (.tmp 9) 3, none⟩,
    ⟨(some 11), .binOp .add 3 (.tmp 10) (.const (.int .i64 1)) 3, none⟩,
    ⟨(some 12), .binOp .rem 3 (.tmp 7) (.tmp 11) 3, none⟩,
    ⟨(some 0), .assign (.tmp 12), none⟩]) c_sheafbook_Within_3)
@[go_sem] theorem c_sheafbook_Within_4_at (rd : Option Nat) (K : Post3) (t : Fr) (m : Mem) : wpM E 15 24 rd c_sheafbook_Within_4 K t m = wpM E 15 24 rd (.seq (.ops [⟨(some 7), .move (.tmp 0), none⟩,
    ⟨(some 8), .move (.tmp 2), none⟩,
    ⟨(some 9), .move (.tmp 1), none⟩,
    ⟨(some 10), .binOp .sub 3 (.tmp 8) (.tmp 9) 3, none⟩,
    ⟨(some 11), .binOp .add 3 (.tmp 10) (.const (.int .i64 1)) 3, none⟩,
    ⟨(some 12), .binOp .rem 3 (.tmp 7) (.tmp 11) 3, none⟩,
    ⟨(some 0), .assign (.tmp 12), none⟩]) c_sheafbook_Within_3) K t m := rfl

def c_sheafbook_Within_5 : MC := (.seq (.ops [⟨(some 6), .assign (.const (.int .i64 0)), none⟩]) c_sheafbook_Within_4)
@[go_sem] theorem c_sheafbook_Within_5_at (rd : Option Nat) (K : Post3) (t : Fr) (m : Mem) : wpM E 15 24 rd c_sheafbook_Within_5 K t m = wpM E 15 24 rd (.seq (.ops [⟨(some 6), .assign (.const (.int .i64 0)), none⟩]) c_sheafbook_Within_4) K t m := rfl

@[go_sem] theorem some15 : (E.fn 15).isSome = true := by kernel_rfl
set_option maxRecDepth 100000 in
theorem fn_sheafbook_Within : FnIs E 15 24 [.tmp 6] c_sheafbook_Within_5 := ⟨by kernel_rfl, by kernel_rfl⟩

/-! sheaf/sheafbook.Same[int] -/
abbrev F_sheafbook_Same_int : FuncId := 17
def c_sheafbook_Same_int_0 : MC := (.seq (.ops [⟨(some 4), .assign (.const (.bool false)), none⟩]) .ret)
@[go_sem] theorem c_sheafbook_Same_int_0_at (rd : Option Nat) (K : Post3) (t : Fr) (m : Mem) : wpM E 17 26 rd c_sheafbook_Same_int_0 K t m = wpM E 17 26 rd (.seq (.ops [⟨(some 4), .assign (.const (.bool false)), none⟩]) .ret) K t m := rfl

def c_sheafbook_Same_int_1 : MC := (.cond (.tmp 10) c_sheafbook_Same_int_0 .skip)
@[go_sem] theorem c_sheafbook_Same_int_1_at (rd : Option Nat) (K : Post3) (t : Fr) (m : Mem) : wpM E 17 26 rd c_sheafbook_Same_int_1 K t m = wpM E 17 26 rd (.cond (.tmp 10) c_sheafbook_Same_int_0 .skip) K t m := rfl

def c_sheafbook_Same_int_2 : MC := (.seq (.ops [⟨(some 6), .move (.tmp 0), none⟩,
    ⟨(some 7), .call ⟨.builtin .len, #[(.tmp 6)], #[22]⟩, none⟩,
    ⟨(some 8), .move (.tmp 1), none⟩,
    ⟨(some 9), .call ⟨.builtin .len, #[(.tmp 8)], #[22]⟩, none⟩,
    ⟨(some 10), .binOp .neq 3 (.tmp 7) (.tmp 9) 3, none⟩]) c_sheafbook_Same_int_1)
@[go_sem] theorem c_sheafbook_Same_int_2_at (rd : Option Nat) (K : Post3) (t : Fr) (m : Mem) : wpM E 17 26 rd c_sheafbook_Same_int_2 K t m = wpM E 17 26 rd (.seq (.ops [⟨(some 6), .move (.tmp 0), none⟩,
    ⟨(some 7), .call ⟨.builtin .len, #[(.tmp 6)], #[22]⟩, none⟩,
    ⟨(some 8), .move (.tmp 1), none⟩,
    ⟨(some 9), .call ⟨.builtin .len, #[(.tmp 8)], #[22]⟩, none⟩,
    ⟨(some 10), .binOp .neq 3 (.tmp 7) (.tmp 9) 3, none⟩]) c_sheafbook_Same_int_1) K t m := rfl

def c_sheafbook_Same_int_3 : MC := (.cond (.tmp 14) .skip (.exit 0))
@[go_sem] theorem c_sheafbook_Same_int_3_at (rd : Option Nat) (K : Post3) (t : Fr) (m : Mem) : wpM E 17 26 rd c_sheafbook_Same_int_3 K t m = wpM E 17 26 rd (.cond (.tmp 14) .skip (.exit 0)) K t m := rfl

def c_sheafbook_Same_int_4 : MC := (.seq (.ops [⟨(some 11), .move (.tmp 5), none⟩,
    ⟨(some 12), .move (.tmp 0), none⟩,
    ⟨(some 13), .call ⟨.builtin .len, #[(.tmp 12)], #[22]⟩, none⟩,
    ⟨(some 14), .binOp .lss 3 (.tmp 11) (.tmp 13) 3, none⟩]) c_sheafbook_Same_int_3)
@[go_sem] theorem c_sheafbook_Same_int_4_at (rd : Option Nat) (K : Post3) (t : Fr) (m : Mem) : wpM E 17 26 rd c_sheafbook_Same_int_4 K t m = wpM E 17 26 rd (.seq (.ops [⟨(some 11), .move (.tmp 5), none⟩,
    ⟨(some 12), .move (.tmp 0), none⟩,
    ⟨(some 13), .call ⟨.builtin .len, #[(.tmp 12)], #[22]⟩, none⟩,
    ⟨(some 14), .binOp .lss 3 (.tmp 11) (.tmp 13) 3, none⟩]) c_sheafbook_Same_int_3) K t m := rfl

def c_sheafbook_Same_int_5 : MC := (.seq (.ops [⟨(some 4), .assign (.const (.bool false)), none⟩]) .ret)
@[go_sem] theorem c_sheafbook_Same_int_5_at (rd : Option Nat) (K : Post3) (t : Fr) (m : Mem) : wpM E 17 26 rd c_sheafbook_Same_int_5 K t m = wpM E 17 26 rd (.seq (.ops [⟨(some 4), .assign (.const (.bool false)), none⟩]) .ret) K t m := rfl

def c_sheafbook_Same_int_6 : MC := (.cond (.tmp 25) c_sheafbook_Same_int_5 .skip)
@[go_sem] theorem c_sheafbook_Same_int_6_at (rd : Option Nat) (K : Post3) (t : Fr) (m : Mem) : wpM E 17 26 rd c_sheafbook_Same_int_6 K t m = wpM E 17 26 rd (.cond (.tmp 25) c_sheafbook_Same_int_5 .skip) K t m := rfl

def c_sheafbook_Same_int_7 : MC := (.seq (.ops [⟨(some 17), .move (.tmp 0), none⟩,
    ⟨(some 18), .move (.tmp 5), none⟩,
    ⟨(some 19), .indexAddr 22 (.tmp 17) (.tmp 18), none⟩,
    ⟨(some 20), .load 3 (.tmp 19), none⟩,
    ⟨(some 21), .move (.tmp 1), none⟩,
    ⟨(some 22), .move (.tmp 5), none⟩,
    ⟨(some 23), .indexAddr 22 (.tmp 21) (.tmp 22), none⟩,
    ⟨(some 24), .load 3 (.tmp 23), none⟩,
    ⟨(some 25), .binOp .neq 3 (.tmp 20) (.tmp 24) 3, none⟩]) c_sheafbook_Same_int_6)
@[go_sem] theorem c_sheafbook_Same_int_7_at (rd : Option Nat) (K : Post3) (t : Fr) (m : Mem) : wpM E 17 26 rd c_sheafbook_Same_int_7 K t m = wpM E 17 26 rd (.seq (.ops [⟨(some 17), .move (.tmp 0), none⟩,
    ⟨(some 18), .move (.tmp 5), none⟩,
    ⟨(some 19), .indexAddr 22 (.tmp 17) (.tmp 18), none⟩,
    ⟨(some 20), .load 3 (.tmp 19), none⟩,
    ⟨(some 21), .move (.tmp 1), none⟩,
    ⟨(some 22), .move (.tmp 5), none⟩,
    ⟨(some 23), .indexAddr 22 (.tmp 21) (.tmp 22), none⟩,
    ⟨(some 24), .load 3 (.tmp 23), none⟩,
    ⟨(some 25), .binOp .neq 3 (.tmp 20) (.tmp 24) 3, none⟩]) c_sheafbook_Same_int_6) K t m := rfl

def c_sheafbook_Same_int_8 : MC := (.block 1 c_sheafbook_Same_int_7)
@[go_sem] theorem c_sheafbook_Same_int_8_at (rd : Option Nat) (K : Post3) (t : Fr) (m : Mem) : wpM E 17 26 rd c_sheafbook_Same_int_8 K t m = wpM E 17 26 rd (.block 1 c_sheafbook_Same_int_7) K t m := rfl

def c_sheafbook_Same_int_9 : MC := (.seq c_sheafbook_Same_int_8 (.ops [⟨(some 15), .move (.tmp 5), none⟩,
    ⟨(some 16), .binOp .add 3 (.tmp 15) (.const (.int .i64 1)) 3, none⟩,
    ⟨(some 5), .assign (.tmp 16), none⟩]))
@[go_sem] theorem c_sheafbook_Same_int_9_at (rd : Option Nat) (K : Post3) (t : Fr) (m : Mem) : wpM E 17 26 rd c_sheafbook_Same_int_9 K t m = wpM E 17 26 rd (.seq c_sheafbook_Same_int_8 (.ops [⟨(some 15), .move (.tmp 5), none⟩,
    ⟨(some 16), .binOp .add 3 (.tmp 15) (.const (.int .i64 1)) 3, none⟩,
    ⟨(some 5), .assign (.tmp 16), none⟩])) K t m := rfl

def c_sheafbook_Same_int_10 : MC := (.seq c_sheafbook_Same_int_4 c_sheafbook_Same_int_9)
@[go_sem] theorem c_sheafbook_Same_int_10_at (rd : Option Nat) (K : Post3) (t : Fr) (m : Mem) : wpM E 17 26 rd c_sheafbook_Same_int_10 K t m = wpM E 17 26 rd (.seq c_sheafbook_Same_int_4 c_sheafbook_Same_int_9) K t m := rfl

def c_sheafbook_Same_int_11 : MC := (.loop c_sheafbook_Same_int_10)
theorem c_sheafbook_Same_int_11_at (rd : Option Nat) (K : Post3) (t : Fr) (m : Mem) : wpM E 17 26 rd c_sheafbook_Same_int_11 K t m = wpM E 17 26 rd (.loop c_sheafbook_Same_int_10) K t m := rfl

def c_sheafbook_Same_int_12 : MC := (.block 0 c_sheafbook_Same_int_11)
theorem c_sheafbook_Same_int_12_at (rd : Option Nat) (K : Post3) (t : Fr) (m : Mem) : wpM E 17 26 rd c_sheafbook_Same_int_12 K t m = wpM E 17 26 rd (.block 0 c_sheafbook_Same_int_11) K t m := rfl

def c_sheafbook_Same_int_13 : MC := (.seq (.ops [⟨(some 5), .assign (.const (.int .i64 0)), none⟩]) c_sheafbook_Same_int_12)
@[go_sem] theorem c_sheafbook_Same_int_13_at (rd : Option Nat) (K : Post3) (t : Fr) (m : Mem) : wpM E 17 26 rd c_sheafbook_Same_int_13 K t m = wpM E 17 26 rd (.seq (.ops [⟨(some 5), .assign (.const (.int .i64 0)), none⟩]) c_sheafbook_Same_int_12) K t m := rfl

def c_sheafbook_Same_int_14 : MC := (.seq (.ops [⟨(some 4), .assign (.const (.bool true)), none⟩]) .ret)
@[go_sem] theorem c_sheafbook_Same_int_14_at (rd : Option Nat) (K : Post3) (t : Fr) (m : Mem) : wpM E 17 26 rd c_sheafbook_Same_int_14 K t m = wpM E 17 26 rd (.seq (.ops [⟨(some 4), .assign (.const (.bool true)), none⟩]) .ret) K t m := rfl

def c_sheafbook_Same_int_15 : MC := (.seq c_sheafbook_Same_int_13 c_sheafbook_Same_int_14)
@[go_sem] theorem c_sheafbook_Same_int_15_at (rd : Option Nat) (K : Post3) (t : Fr) (m : Mem) : wpM E 17 26 rd c_sheafbook_Same_int_15 K t m = wpM E 17 26 rd (.seq c_sheafbook_Same_int_13 c_sheafbook_Same_int_14) K t m := rfl

def c_sheafbook_Same_int_16 : MC := (.seq c_sheafbook_Same_int_2 c_sheafbook_Same_int_15)
@[go_sem] theorem c_sheafbook_Same_int_16_at (rd : Option Nat) (K : Post3) (t : Fr) (m : Mem) : wpM E 17 26 rd c_sheafbook_Same_int_16 K t m = wpM E 17 26 rd (.seq c_sheafbook_Same_int_2 c_sheafbook_Same_int_15) K t m := rfl

def c_sheafbook_Same_int_17 : MC := (.seq (.ops [⟨(some 4), .assign (.const (.bool false)), none⟩]) c_sheafbook_Same_int_16)
@[go_sem] theorem c_sheafbook_Same_int_17_at (rd : Option Nat) (K : Post3) (t : Fr) (m : Mem) : wpM E 17 26 rd c_sheafbook_Same_int_17 K t m = wpM E 17 26 rd (.seq (.ops [⟨(some 4), .assign (.const (.bool false)), none⟩]) c_sheafbook_Same_int_16) K t m := rfl

@[go_sem] theorem some17 : (E.fn 17).isSome = true := by kernel_rfl
set_option maxRecDepth 100000 in
theorem fn_sheafbook_Same_int : FnIs E 17 26 [.tmp 4] c_sheafbook_Same_int_17 := ⟨by kernel_rfl, by kernel_rfl⟩

/-! (sheaf/sheafkeep.Job).Books -/
abbrev F_sheafkeep_Job_Books : FuncId := 25
def c_sheafkeep_Job_Books_0 : MC := (.cond (.tmp 30) .skip (.exit 0))
@[go_sem] theorem c_sheafkeep_Job_Books_0_at (rd : Option Nat) (K : Post3) (t : Fr) (m : Mem) : wpM E 25 251 rd c_sheafkeep_Job_Books_0 K t m = wpM E 25 251 rd (.cond (.tmp 30) .skip (.exit 0)) K t m := rfl

def c_sheafkeep_Job_Books_1 : MC := (.seq (.ops [⟨(some 28), .move (.tmp 5), none⟩,
    ⟨(some 29), .move (.tmp 4), none⟩,
    ⟨(some 30), .binOp .leq 3 (.tmp 28) (.tmp 29) 3, none⟩]) c_sheafkeep_Job_Books_0)
@[go_sem] theorem c_sheafkeep_Job_Books_1_at (rd : Option Nat) (K : Post3) (t : Fr) (m : Mem) : wpM E 25 251 rd c_sheafkeep_Job_Books_1 K t m = wpM E 25 251 rd (.seq (.ops [⟨(some 28), .move (.tmp 5), none⟩,
    ⟨(some 29), .move (.tmp 4), none⟩,
    ⟨(some 30), .binOp .leq 3 (.tmp 28) (.tmp 29) 3, none⟩]) c_sheafkeep_Job_Books_0) K t m := rfl

def c_sheafkeep_Job_Books_2 : MC := (.cond (.tmp 37) (.ops [⟨(some 38), .fieldAddr 53 (.tmp 1) 2, none⟩,
    ⟨(some 39), .load 22 (.tmp 38), none⟩,
    ⟨(some 40), .move (.tmp 5), none⟩,
    ⟨(some 41), .binOp .sub 3 (.tmp 40) (.const (.int .i64 1)) 3, none⟩,
    ⟨(some 42), .indexAddr 22 (.tmp 39) (.tmp 41), none⟩,
    ⟨(some 43), .load 3 (.tmp 42), none⟩,
    ⟨(some 44), .call ⟨.value (.func 15), #[(.tmp 43), (.const (.int .i64 0)), (.const (.int .i64 10))], #[3, 3, 3]⟩, none⟩,
    ⟨(some 45), .binOp .mul 3 (.tmp 44) (.const (.int .i64 1000)) 3, none⟩,
    ⟨(some 6), .assign (.tmp 45), none⟩]) .skip)
@[go_sem] theorem c_sheafkeep_Job_Books_2_at (rd : Option Nat) (K : Post3) (t : Fr) (m : Mem) : wpM E 25 251 rd c_sheafkeep_Job_Books_2 K t m = wpM E 25 251 rd (.cond (.tmp 37) (.ops [⟨(some 38), .fieldAddr 53 (.tmp 1) 2, none⟩,
    ⟨(some 39), .load 22 (.tmp 38), none⟩,
    ⟨(some 40), .move (.tmp 5), none⟩,
    ⟨(some 41), .binOp .sub 3 (.tmp 40) (.const (.int .i64 1)) 3, none⟩,
    ⟨(some 42), .indexAddr 22 (.tmp 39) (.tmp 41), none⟩,
    ⟨(some 43), .load 3 (.tmp 42), none⟩,
    ⟨(some 44), .call ⟨.value (.func 15), #[(.tmp 43), (.const (.int .i64 0)), (.const (.int .i64 10))], #[3, 3, 3]⟩, none⟩,
    ⟨(some 45), .binOp .mul 3 (.tmp 44) (.const (.int .i64 1000)) 3, none⟩,
    ⟨(some 6), .assign (.tmp 45), none⟩]) .skip) K t m := rfl

def c_sheafkeep_Job_Books_3 : MC := (.seq (.ops [⟨(some 33), .move (.tmp 5), none⟩,
    ⟨(some 34), .fieldAddr 53 (.tmp 1) 2, none⟩,
    ⟨(some 35), .load 22 (.tmp 34), none⟩,
    ⟨(some 36), .call ⟨.builtin .len, #[(.tmp 35)], #[22]⟩, none⟩,
    ⟨(some 37), .binOp .leq 3 (.tmp 33) (.tmp 36) 3, none⟩]) c_sheafkeep_Job_Books_2)
@[go_sem] theorem c_sheafkeep_Job_Books_3_at (rd : Option Nat) (K : Post3) (t : Fr) (m : Mem) : wpM E 25 251 rd c_sheafkeep_Job_Books_3 K t m = wpM E 25 251 rd (.seq (.ops [⟨(some 33), .move (.tmp 5), none⟩,
    ⟨(some 34), .fieldAddr 53 (.tmp 1) 2, none⟩,
    ⟨(some 35), .load 22 (.tmp 34), none⟩,
    ⟨(some 36), .call ⟨.builtin .len, #[(.tmp 35)], #[22]⟩, none⟩,
    ⟨(some 37), .binOp .leq 3 (.tmp 33) (.tmp 36) 3, none⟩]) c_sheafkeep_Job_Books_2) K t m := rfl

def c_sheafkeep_Job_Books_4 : MC := (.seq c_sheafkeep_Job_Books_3 (.ops [⟨(some 46), .fieldAddr 55 (.tmp 3) 1, none⟩,
    ⟨(some 47), .load 23 (.tmp 46), none⟩,
    ⟨(some 48), .move (.tmp 5), none⟩,
    ⟨(some 49), .move (.tmp 5), none⟩,
    ⟨(some 50), .binOp .rem 3 (.tmp 49) (.const (.int .i64 2)) 3, none⟩,
    ⟨(some 51), .binOp .add 3 (.const (.int .i64 1)) (.tmp 50) 3, none⟩,
    ⟨(some 52), .move (.tmp 6), none⟩,
    ⟨(some 53), .buildSlice 22 3 #[(0, (.tmp 48)), (1, (.tmp 51)), (2, (.tmp 52))], none⟩,
    ⟨(some 54), .buildSlice 23 1 #[(0, (.tmp 53))], none⟩,
    ⟨(some 55), .call ⟨.builtin .append, #[(.tmp 47), (.tmp 54)], #[23, 23]⟩, none⟩,
    ⟨(some 56), .fieldAddr 55 (.tmp 3) 1, none⟩,
    ⟨none, .store 23 (.tmp 56) (.tmp 55), none⟩]))
@[go_sem] theorem c_sheafkeep_Job_Books_4_at (rd : Option Nat) (K : Post3) (t : Fr) (m : Mem) : wpM E 25 251 rd c_sheafkeep_Job_Books_4 K t m = wpM E 25 251 rd (.seq c_sheafkeep_Job_Books_3 (.ops [⟨(some 46), .fieldAddr 55 (.tmp 3) 1, none⟩,
    ⟨(some 47), .load 23 (.tmp 46), none⟩,
    ⟨(some 48), .move (.tmp 5), none⟩,
    ⟨(some 49), .move (.tmp 5), none⟩,
    ⟨(some 50), .binOp .rem 3 (.tmp 49) (.const (.int .i64 2)) 3, none⟩,
    ⟨(some 51), .binOp .add 3 (.const (.int .i64 1)) (.tmp 50) 3, none⟩,
    ⟨(some 52), .move (.tmp 6), none⟩,
    ⟨(some 53), .buildSlice 22 3 #[(0, (.tmp 48)), (1, (.tmp 51)), (2, (.tmp 52))], none⟩,
    ⟨(some 54), .buildSlice 23 1 #[(0, (.tmp 53))], none⟩,
    ⟨(some 55), .call ⟨.builtin .append, #[(.tmp 47), (.tmp 54)], #[23, 23]⟩, none⟩,
    ⟨(some 56), .fieldAddr 55 (.tmp 3) 1, none⟩,
    ⟨none, .store 23 (.tmp 56) (.tmp 55), none⟩])) K t m := rfl

def c_sheafkeep_Job_Books_5 : MC := (.seq (.ops [⟨(some 6), .assign (.const (.int .i64 10000)), none⟩]) c_sheafkeep_Job_Books_4)
@[go_sem] theorem c_sheafkeep_Job_Books_5_at (rd : Option Nat) (K : Post3) (t : Fr) (m : Mem) : wpM E 25 251 rd c_sheafkeep_Job_Books_5 K t m = wpM E 25 251 rd (.seq (.ops [⟨(some 6), .assign (.const (.int .i64 10000)), none⟩]) c_sheafkeep_Job_Books_4) K t m := rfl

def c_sheafkeep_Job_Books_6 : MC := (.block 1 c_sheafkeep_Job_Books_5)
@[go_sem] theorem c_sheafkeep_Job_Books_6_at (rd : Option Nat) (K : Post3) (t : Fr) (m : Mem) : wpM E 25 251 rd c_sheafkeep_Job_Books_6 K t m = wpM E 25 251 rd (.block 1 c_sheafkeep_Job_Books_5) K t m := rfl

def c_sheafkeep_Job_Books_7 : MC := (.seq c_sheafkeep_Job_Books_6 (.ops [⟨(some 31), .move (.tmp 5), none⟩,
    ⟨(some 32), .binOp .add 3 (.tmp 31) (.const (.int .i64 1)) 3, none⟩,
    ⟨(some 5), .assign (.tmp 32), none⟩]))
@[go_sem] theorem c_sheafkeep_Job_Books_7_at (rd : Option Nat) (K : Post3) (t : Fr) (m : Mem) : wpM E 25 251 rd c_sheafkeep_Job_Books_7 K t m = wpM E 25 251 rd (.seq c_sheafkeep_Job_Books_6 (.ops [⟨(some 31), .move (.tmp 5), none⟩,
    ⟨(some 32), .binOp .add 3 (.tmp 31) (.const (.int .i64 1)) 3, none⟩,
    ⟨(some 5), .assign (.tmp 32), none⟩])) K t m := rfl

def c_sheafkeep_Job_Books_8 : MC := (.seq c_sheafkeep_Job_Books_1 c_sheafkeep_Job_Books_7)
@[go_sem] theorem c_sheafkeep_Job_Books_8_at (rd : Option Nat) (K : Post3) (t : Fr) (m : Mem) : wpM E 25 251 rd c_sheafkeep_Job_Books_8 K t m = wpM E 25 251 rd (.seq c_sheafkeep_Job_Books_1 c_sheafkeep_Job_Books_7) K t m := rfl

def c_sheafkeep_Job_Books_9 : MC := (.loop c_sheafkeep_Job_Books_8)
theorem c_sheafkeep_Job_Books_9_at (rd : Option Nat) (K : Post3) (t : Fr) (m : Mem) : wpM E 25 251 rd c_sheafkeep_Job_Books_9 K t m = wpM E 25 251 rd (.loop c_sheafkeep_Job_Books_8) K t m := rfl

def c_sheafkeep_Job_Books_10 : MC := (.block 0 c_sheafkeep_Job_Books_9)
theorem c_sheafkeep_Job_Books_10_at (rd : Option Nat) (K : Post3) (t : Fr) (m : Mem) : wpM E 25 251 rd c_sheafkeep_Job_Books_10 K t m = wpM E 25 251 rd (.block 0 c_sheafkeep_Job_Books_9) K t m := rfl

def c_sheafkeep_Job_Books_11 : MC := (.seq (.ops [⟨(some 5), .assign (.const (.int .i64 1)), none⟩]) c_sheafkeep_Job_Books_10)
@[go_sem] theorem c_sheafkeep_Job_Books_11_at (rd : Option Nat) (K : Post3) (t : Fr) (m : Mem) : wpM E 25 251 rd c_sheafkeep_Job_Books_11 K t m = wpM E 25 251 rd (.seq (.ops [⟨(some 5), .assign (.const (.int .i64 1)), none⟩]) c_sheafkeep_Job_Books_10) K t m := rfl

def c_sheafkeep_Job_Books_12 : MC := (.cond (.tmp 64) .skip (.exit 2))
@[go_sem] theorem c_sheafkeep_Job_Books_12_at (rd : Option Nat) (K : Post3) (t : Fr) (m : Mem) : wpM E 25 251 rd c_sheafkeep_Job_Books_12 K t m = wpM E 25 251 rd (.cond (.tmp 64) .skip (.exit 2)) K t m := rfl

def c_sheafkeep_Job_Books_13 : MC := (.seq (.ops [⟨(some 62), .move (.tmp 8), none⟩,
    ⟨(some 63), .move (.tmp 7), none⟩,
    ⟨(some 64), .binOp .leq 3 (.tmp 62) (.tmp 63) 3, none⟩]) c_sheafkeep_Job_Books_12)
@[go_sem] theorem c_sheafkeep_Job_Books_13_at (rd : Option Nat) (K : Post3) (t : Fr) (m : Mem) : wpM E 25 251 rd c_sheafkeep_Job_Books_13 K t m = wpM E 25 251 rd (.seq (.ops [⟨(some 62), .move (.tmp 8), none⟩,
    ⟨(some 63), .move (.tmp 7), none⟩,
    ⟨(some 64), .binOp .leq 3 (.tmp 62) (.tmp 63) 3, none⟩]) c_sheafkeep_Job_Books_12) K t m := rfl

def c_sheafkeep_Job_Books_14 : MC := (.cond (.tmp 73) (.ops [⟨(some 74), .fieldAddr 53 (.tmp 1) 3, none⟩,
    ⟨(some 75), .load 22 (.tmp 74), none⟩,
    ⟨(some 76), .move (.tmp 8), none⟩,
    ⟨(some 77), .binOp .sub 3 (.tmp 76) (.const (.int .i64 1)) 3, none⟩,
    ⟨(some 78), .indexAddr 22 (.tmp 75) (.tmp 77), none⟩,
    ⟨(some 79), .load 3 (.tmp 78), none⟩,
    ⟨(some 80), .call ⟨.value (.func 15), #[(.tmp 79), (.const (.int .i64 1)), (.const (.int .i64 4))], #[3, 3, 3]⟩, none⟩,
    ⟨(some 81), .binOp .add 3 (.const (.int .i64 100)) (.tmp 80) 3, none⟩,
    ⟨(some 9), .assign (.tmp 81), none⟩]) .skip)
@[go_sem] theorem c_sheafkeep_Job_Books_14_at (rd : Option Nat) (K : Post3) (t : Fr) (m : Mem) : wpM E 25 251 rd c_sheafkeep_Job_Books_14 K t m = wpM E 25 251 rd (.cond (.tmp 73) (.ops [⟨(some 74), .fieldAddr 53 (.tmp 1) 3, none⟩,
    ⟨(some 75), .load 22 (.tmp 74), none⟩,
    ⟨(some 76), .move (.tmp 8), none⟩,
    ⟨(some 77), .binOp .sub 3 (.tmp 76) (.const (.int .i64 1)) 3, none⟩,
    ⟨(some 78), .indexAddr 22 (.tmp 75) (.tmp 77), none⟩,
    ⟨(some 79), .load 3 (.tmp 78), none⟩,
    ⟨(some 80), .call ⟨.value (.func 15), #[(.tmp 79), (.const (.int .i64 1)), (.const (.int .i64 4))], #[3, 3, 3]⟩, none⟩,
    ⟨(some 81), .binOp .add 3 (.const (.int .i64 100)) (.tmp 80) 3, none⟩,
    ⟨(some 9), .assign (.tmp 81), none⟩]) .skip) K t m := rfl

def c_sheafkeep_Job_Books_15 : MC := (.seq (.ops [⟨(some 69), .move (.tmp 8), none⟩,
    ⟨(some 70), .fieldAddr 53 (.tmp 1) 3, none⟩,
    ⟨(some 71), .load 22 (.tmp 70), none⟩,
    ⟨(some 72), .call ⟨.builtin .len, #[(.tmp 71)], #[22]⟩, none⟩,
    ⟨(some 73), .binOp .leq 3 (.tmp 69) (.tmp 72) 3, none⟩]) c_sheafkeep_Job_Books_14)
@[go_sem] theorem c_sheafkeep_Job_Books_15_at (rd : Option Nat) (K : Post3) (t : Fr) (m : Mem) : wpM E 25 251 rd c_sheafkeep_Job_Books_15 K t m = wpM E 25 251 rd (.seq (.ops [⟨(some 69), .move (.tmp 8), none⟩,
    ⟨(some 70), .fieldAddr 53 (.tmp 1) 3, none⟩,
    ⟨(some 71), .load 22 (.tmp 70), none⟩,
    ⟨(some 72), .call ⟨.builtin .len, #[(.tmp 71)], #[22]⟩, none⟩,
    ⟨(some 73), .binOp .leq 3 (.tmp 69) (.tmp 72) 3, none⟩]) c_sheafkeep_Job_Books_14) K t m := rfl

def c_sheafkeep_Job_Books_16 : MC := (.seq c_sheafkeep_Job_Books_15 (.ops [⟨(some 82), .fieldAddr 55 (.tmp 3) 2, none⟩,
    ⟨(some 83), .load 23 (.tmp 82), none⟩,
    ⟨(some 84), .move (.tmp 8), none⟩,
    ⟨(some 85), .move (.tmp 9), none⟩,
    ⟨(some 86), .buildSlice 22 2 #[(0, (.tmp 84)), (1, (.tmp 85))], none⟩,
    ⟨(some 87), .buildSlice 23 1 #[(0, (.tmp 86))], none⟩,
    ⟨(some 88), .call ⟨.builtin .append, #[(.tmp 83), (.tmp 87)], #[23, 23]⟩, none⟩,
    ⟨(some 89), .fieldAddr 55 (.tmp 3) 2, none⟩,
    ⟨none, .store 23 (.tmp 89) (.tmp 88), none⟩]))
@[go_sem] theorem c_sheafkeep_Job_Books_16_at (rd : Option Nat) (K : Post3) (t : Fr) (m : Mem) : wpM E 25 251 rd c_sheafkeep_Job_Books_16 K t m = wpM E 25 251 rd (.seq c_sheafkeep_Job_Books_15 (.ops [⟨(some 82), .fieldAddr 55 (.tmp 3) 2, none⟩,
    ⟨(some 83), .load 23 (.tmp 82), none⟩,
    ⟨(some 84), .move (.tmp 8), none⟩,
    ⟨(some 85), .move (.tmp 9), none⟩,
    ⟨(some 86), .buildSlice 22 2 #[(0, (.tmp 84)), (1, (.tmp 85))], none⟩,
    ⟨(some 87), .buildSlice 23 1 #[(0, (.tmp 86))], none⟩,
    ⟨(some 88), .call ⟨.builtin .append, #[(.tmp 83), (.tmp 87)], #[23, 23]⟩, none⟩,
    ⟨(some 89), .fieldAddr 55 (.tmp 3) 2, none⟩,
    ⟨none, .store 23 (.tmp 89) (.tmp 88), none⟩])) K t m := rfl

def c_sheafkeep_Job_Books_17 : MC := (.seq (.ops [⟨(some 67), .move (.tmp 8), none⟩,
    ⟨(some 68), .binOp .add 3 (.const (.int .i64 100)) (.tmp 67) 3, none⟩,
    ⟨(some 9), .assign (.tmp 68), none⟩]) c_sheafkeep_Job_Books_16)
@[go_sem] theorem c_sheafkeep_Job_Books_17_at (rd : Option Nat) (K : Post3) (t : Fr) (m : Mem) : wpM E 25 251 rd c_sheafkeep_Job_Books_17 K t m = wpM E 25 251 rd (.seq (.ops [⟨(some 67), .move (.tmp 8), none⟩,
    ⟨(some 68), .binOp .add 3 (.const (.int .i64 100)) (.tmp 67) 3, none⟩,
    ⟨(some 9), .assign (.tmp 68), none⟩]) c_sheafkeep_Job_Books_16) K t m := rfl

def c_sheafkeep_Job_Books_18 : MC := (.block 3 c_sheafkeep_Job_Books_17)
@[go_sem] theorem c_sheafkeep_Job_Books_18_at (rd : Option Nat) (K : Post3) (t : Fr) (m : Mem) : wpM E 25 251 rd c_sheafkeep_Job_Books_18 K t m = wpM E 25 251 rd (.block 3 c_sheafkeep_Job_Books_17) K t m := rfl

def c_sheafkeep_Job_Books_19 : MC := (.seq c_sheafkeep_Job_Books_18 (.ops [⟨(some 65), .move (.tmp 8), none⟩,
    ⟨(some 66), .binOp .add 3 (.tmp 65) (.const (.int .i64 1)) 3, none⟩,
    ⟨(some 8), .assign (.tmp 66), none⟩]))
@[go_sem] theorem c_sheafkeep_Job_Books_19_at (rd : Option Nat) (K : Post3) (t : Fr) (m : Mem) : wpM E 25 251 rd c_sheafkeep_Job_Books_19 K t m = wpM E 25 251 rd (.seq c_sheafkeep_Job_Books_18 (.ops [⟨(some 65), .move (.tmp 8), none⟩,
    ⟨(some 66), .binOp .add 3 (.tmp 65) (.const (.int .i64 1)) 3, none⟩,
    ⟨(some 8), .assign (.tmp 66), none⟩])) K t m := rfl

def c_sheafkeep_Job_Books_20 : MC := (.seq c_sheafkeep_Job_Books_13 c_sheafkeep_Job_Books_19)
@[go_sem] theorem c_sheafkeep_Job_Books_20_at (rd : Option Nat) (K : Post3) (t : Fr) (m : Mem) : wpM E 25 251 rd c_sheafkeep_Job_Books_20 K t m = wpM E 25 251 rd (.seq c_sheafkeep_Job_Books_13 c_sheafkeep_Job_Books_19) K t m := rfl

def c_sheafkeep_Job_Books_21 : MC := (.loop c_sheafkeep_Job_Books_20)
theorem c_sheafkeep_Job_Books_21_at (rd : Option Nat) (K : Post3) (t : Fr) (m : Mem) : wpM E 25 251 rd c_sheafkeep_Job_Books_21 K t m = wpM E 25 251 rd (.loop c_sheafkeep_Job_Books_20) K t m := rfl

def c_sheafkeep_Job_Books_22 : MC := (.block 2 c_sheafkeep_Job_Books_21)
theorem c_sheafkeep_Job_Books_22_at (rd : Option Nat) (K : Post3) (t : Fr) (m : Mem) : wpM E 25 251 rd c_sheafkeep_Job_Books_22 K t m = wpM E 25 251 rd (.block 2 c_sheafkeep_Job_Books_21) K t m := rfl

def c_sheafkeep_Job_Books_23 : MC := (.seq (.ops [⟨(some 8), .assign (.const (.int .i64 1)), none⟩]) c_sheafkeep_Job_Books_22)
@[go_sem] theorem c_sheafkeep_Job_Books_23_at (rd : Option Nat) (K : Post3) (t : Fr) (m : Mem) : wpM E 25 251 rd c_sheafkeep_Job_Books_23 K t m = wpM E 25 251 rd (.seq (.ops [⟨(some 8), .assign (.const (.int .i64 1)), none⟩]) c_sheafkeep_Job_Books_22) K t m := rfl

def c_sheafkeep_Job_Books_24 : MC := (.cond (.tmp 102) .skip (.exit 4))
@[go_sem] theorem c_sheafkeep_Job_Books_24_at (rd : Option Nat) (K : Post3) (t : Fr) (m : Mem) : wpM E 25 251 rd c_sheafkeep_Job_Books_24 K t m = wpM E 25 251 rd (.cond (.tmp 102) .skip (.exit 4)) K t m := rfl

def c_sheafkeep_Job_Books_25 : MC := (.seq (.ops [⟨(some 94), .move (.tmp 10), none⟩,
    ⟨(some 95), .fieldAddr 53 (.tmp 1) 4, none⟩,
    ⟨(some 96), .load 22 (.tmp 95), none⟩,
    ⟨(some 97), .call ⟨.builtin .len, #[(.tmp 96)], #[22]⟩, none⟩,
    ⟨(some 98), .binOp .lss 3 (.tmp 94) (.tmp 97) 3, none⟩,
    ⟨(some 99), .move (.tmp 98), none⟩,
    ⟨(some 100), .move (.tmp 10), (some (some 99, true))⟩,
    ⟨(some 101), .binOp .lss 3 (.tmp 100) (.const (.int .i64 4)) 3, (some (some 99, true))⟩,
    ⟨(some 102), .pick (.tmp 99) (.tmp 101) (.const (.bool false)), none⟩]) c_sheafkeep_Job_Books_24)
@[go_sem] theorem c_sheafkeep_Job_Books_25_at (rd : Option Nat) (K : Post3) (t : Fr) (m : Mem) : wpM E 25 251 rd c_sheafkeep_Job_Books_25 K t m = wpM E 25 251 rd (.seq (.ops [⟨(some 94), .move (.tmp 10), none⟩,
    ⟨(some 95), .fieldAddr 53 (.tmp 1) 4, none⟩,
    ⟨(some 96), .load 22 (.tmp 95), none⟩,
    ⟨(some 97), .call ⟨.builtin .len, #[(.tmp 96)], #[22]⟩, none⟩,
    ⟨(some 98), .binOp .lss 3 (.tmp 94) (.tmp 97) 3, none⟩,
    ⟨(some 99), .move (.tmp 98), none⟩,
    ⟨(some 100), .move (.tmp 10), (some (some 99, true))⟩,
    ⟨(some 101), .binOp .lss 3 (.tmp 100) (.const (.int .i64 4)) 3, (some (some 99, true))⟩,
    ⟨(some 102), .pick (.tmp 99) (.tmp 101) (.const (.bool false)), none⟩]) c_sheafkeep_Job_Books_24) K t m := rfl

def c_sheafkeep_Job_Books_26 : MC := (.block 5 (.draw [(0, [], ⟨(some 105), .fieldAddr 55 (.tmp 3) 3, none⟩),
    (1, [], ⟨(some 106), .load 23 (.tmp 105), none⟩),
    (2, [], ⟨(some 107), .move (.tmp 10), none⟩),
    (3, [], ⟨(some 108), .binOp .rem 3 (.tmp 107) (.const (.int .i64 2)) 3, none⟩),
    (4, [], ⟨(some 109), .binOp .add 3 (.const (.int .i64 1)) (.tmp 108) 3, none⟩),
    (5, [], ⟨(some 110), .move (.tmp 10), none⟩),
    (6, [], ⟨(some 111), .binOp .mul 3 (.const (.int .i64 5)) (.tmp 110) 3, none⟩),
    (7, [], ⟨(some 112), .binOp .add 3 (.const (.int .i64 15)) (.tmp 111) 3, none⟩),
    (8, [], ⟨(some 113), .fieldAddr 53 (.tmp 1) 4, none⟩),
    (9, [], ⟨(some 114), .load 22 (.tmp 113), none⟩),
    (10, [], ⟨(some 115), .move (.tmp 10), none⟩),
    (11, [], ⟨(some 116), .indexAddr 22 (.tmp 114) (.tmp 115), none⟩),
    (12, [], ⟨(some 117), .load 3 (.tmp 116), none⟩),
    (13, [1], ⟨(some 118), .call ⟨.value (.func 15), #[(.tmp 117), (.const (.int .i64 1)), (.const (.int .i64 50))], #[3, 3, 3]⟩, none⟩),
    (14, [], ⟨(some 119), .buildSlice 22 4 #[(0, (.tmp 109)), (1, (.tmp 112)), (2, (.tmp 118)), (3, (.const (.int .i64 7)))], none⟩),
    (15, [], ⟨(some 120), .buildSlice 23 1 #[(0, (.tmp 119))], none⟩),
    (16, [], ⟨(some 121), .call ⟨.builtin .append, #[(.tmp 106), (.tmp 120)], #[23, 23]⟩, none⟩),
    (17, [], ⟨(some 122), .fieldAddr 55 (.tmp 3) 3, none⟩),
    (18, [], ⟨none, .store 23 (.tmp 122) (.tmp 121), none⟩)]))
@[go_sem] theorem c_sheafkeep_Job_Books_26_at (rd : Option Nat) (K : Post3) (t : Fr) (m : Mem) : wpM E 25 251 rd c_sheafkeep_Job_Books_26 K t m = wpM E 25 251 rd (.block 5 (.draw [(0, [], ⟨(some 105), .fieldAddr 55 (.tmp 3) 3, none⟩),
    (1, [], ⟨(some 106), .load 23 (.tmp 105), none⟩),
    (2, [], ⟨(some 107), .move (.tmp 10), none⟩),
    (3, [], ⟨(some 108), .binOp .rem 3 (.tmp 107) (.const (.int .i64 2)) 3, none⟩),
    (4, [], ⟨(some 109), .binOp .add 3 (.const (.int .i64 1)) (.tmp 108) 3, none⟩),
    (5, [], ⟨(some 110), .move (.tmp 10), none⟩),
    (6, [], ⟨(some 111), .binOp .mul 3 (.const (.int .i64 5)) (.tmp 110) 3, none⟩),
    (7, [], ⟨(some 112), .binOp .add 3 (.const (.int .i64 15)) (.tmp 111) 3, none⟩),
    (8, [], ⟨(some 113), .fieldAddr 53 (.tmp 1) 4, none⟩),
    (9, [], ⟨(some 114), .load 22 (.tmp 113), none⟩),
    (10, [], ⟨(some 115), .move (.tmp 10), none⟩),
    (11, [], ⟨(some 116), .indexAddr 22 (.tmp 114) (.tmp 115), none⟩),
    (12, [], ⟨(some 117), .load 3 (.tmp 116), none⟩),
    (13, [1], ⟨(some 118), .call ⟨.value (.func 15), #[(.tmp 117), (.const (.int .i64 1)), (.const (.int .i64 50))], #[3, 3, 3]⟩, none⟩),
    (14, [], ⟨(some 119), .buildSlice 22 4 #[(0, (.tmp 109)), (1, (.tmp 112)), (2, (.tmp 118)), (3, (.const (.int .i64 7)))], none⟩),
    (15, [], ⟨(some 120), .buildSlice 23 1 #[(0, (.tmp 119))], none⟩),
    (16, [], ⟨(some 121), .call ⟨.builtin .append, #[(.tmp 106), (.tmp 120)], #[23, 23]⟩, none⟩),
    (17, [], ⟨(some 122), .fieldAddr 55 (.tmp 3) 3, none⟩),
    (18, [], ⟨none, .store 23 (.tmp 122) (.tmp 121), none⟩)])) K t m := rfl

def c_sheafkeep_Job_Books_27 : MC := (.seq c_sheafkeep_Job_Books_26 (.ops [⟨(some 103), .move (.tmp 10), none⟩,
    ⟨(some 104), .binOp .add 3 (.tmp 103) (.const (.int .i64 1)) 3, none⟩,
    ⟨(some 10), .assign (.tmp 104), none⟩]))
@[go_sem] theorem c_sheafkeep_Job_Books_27_at (rd : Option Nat) (K : Post3) (t : Fr) (m : Mem) : wpM E 25 251 rd c_sheafkeep_Job_Books_27 K t m = wpM E 25 251 rd (.seq c_sheafkeep_Job_Books_26 (.ops [⟨(some 103), .move (.tmp 10), none⟩,
    ⟨(some 104), .binOp .add 3 (.tmp 103) (.const (.int .i64 1)) 3, none⟩,
    ⟨(some 10), .assign (.tmp 104), none⟩])) K t m := rfl

def c_sheafkeep_Job_Books_28 : MC := (.seq c_sheafkeep_Job_Books_25 c_sheafkeep_Job_Books_27)
@[go_sem] theorem c_sheafkeep_Job_Books_28_at (rd : Option Nat) (K : Post3) (t : Fr) (m : Mem) : wpM E 25 251 rd c_sheafkeep_Job_Books_28 K t m = wpM E 25 251 rd (.seq c_sheafkeep_Job_Books_25 c_sheafkeep_Job_Books_27) K t m := rfl

def c_sheafkeep_Job_Books_29 : MC := (.loop c_sheafkeep_Job_Books_28)
theorem c_sheafkeep_Job_Books_29_at (rd : Option Nat) (K : Post3) (t : Fr) (m : Mem) : wpM E 25 251 rd c_sheafkeep_Job_Books_29 K t m = wpM E 25 251 rd (.loop c_sheafkeep_Job_Books_28) K t m := rfl

def c_sheafkeep_Job_Books_30 : MC := (.block 4 c_sheafkeep_Job_Books_29)
theorem c_sheafkeep_Job_Books_30_at (rd : Option Nat) (K : Post3) (t : Fr) (m : Mem) : wpM E 25 251 rd c_sheafkeep_Job_Books_30 K t m = wpM E 25 251 rd (.block 4 c_sheafkeep_Job_Books_29) K t m := rfl

def c_sheafkeep_Job_Books_31 : MC := (.seq (.ops [⟨(some 10), .assign (.const (.int .i64 0)), none⟩]) c_sheafkeep_Job_Books_30)
@[go_sem] theorem c_sheafkeep_Job_Books_31_at (rd : Option Nat) (K : Post3) (t : Fr) (m : Mem) : wpM E 25 251 rd c_sheafkeep_Job_Books_31 K t m = wpM E 25 251 rd (.seq (.ops [⟨(some 10), .assign (.const (.int .i64 0)), none⟩]) c_sheafkeep_Job_Books_30) K t m := rfl

def c_sheafkeep_Job_Books_32 : MC := (.cond (.tmp 131) .skip (.exit 6))
@[go_sem] theorem c_sheafkeep_Job_Books_32_at (rd : Option Nat) (K : Post3) (t : Fr) (m : Mem) : wpM E 25 251 rd c_sheafkeep_Job_Books_32 K t m = wpM E 25 251 rd (.cond (.tmp 131) .skip (.exit 6)) K t m := rfl

def c_sheafkeep_Job_Books_33 : MC := (.seq (.ops [⟨(some 123), .move (.tmp 12), none⟩,
    ⟨(some 124), .fieldAddr 53 (.tmp 1) 5, none⟩,
    ⟨(some 125), .load 51 (.tmp 124), none⟩,
    ⟨(some 126), .call ⟨.builtin .len, #[(.tmp 125)], #[51]⟩, none⟩,
    ⟨(some 127), .binOp .lss 3 (.tmp 123) (.tmp 126) 3, none⟩,
    ⟨(some 128), .move (.tmp 127), none⟩,
    ⟨(some 129), .move (.tmp 12), (some (some 128, true))⟩,
    ⟨(some 130), .binOp .lss 3 (.tmp 129) (.const (.int .i64 12)) 3, (some (some 128, true))⟩,
    ⟨(some 131), .pick (.tmp 128) (.tmp 130) (.const (.bool false)), none⟩]) c_sheafkeep_Job_Books_32)
@[go_sem] theorem c_sheafkeep_Job_Books_33_at (rd : Option Nat) (K : Post3) (t : Fr) (m : Mem) : wpM E 25 251 rd c_sheafkeep_Job_Books_33 K t m = wpM E 25 251 rd (.seq (.ops [⟨(some 123), .move (.tmp 12), none⟩,
    ⟨(some 124), .fieldAddr 53 (.tmp 1) 5, none⟩,
    ⟨(some 125), .load 51 (.tmp 124), none⟩,
    ⟨(some 126), .call ⟨.builtin .len, #[(.tmp 125)], #[51]⟩, none⟩,
    ⟨(some 127), .binOp .lss 3 (.tmp 123) (.tmp 126) 3, none⟩,
    ⟨(some 128), .move (.tmp 127), none⟩,
    ⟨(some 129), .move (.tmp 12), (some (some 128, true))⟩,
    ⟨(some 130), .binOp .lss 3 (.tmp 129) (.const (.int .i64 12)) 3, (some (some 128, true))⟩,
    ⟨(some 131), .pick (.tmp 128) (.tmp 130) (.const (.bool false)), none⟩]) c_sheafkeep_Job_Books_32) K t m := rfl

def c_sheafkeep_Job_Books_34 : MC := (.cond (.tmp 149) (.ops [⟨(some 15), .assign (.const (.int .i64 0)), none⟩]) .skip)
@[go_sem] theorem c_sheafkeep_Job_Books_34_at (rd : Option Nat) (K : Post3) (t : Fr) (m : Mem) : wpM E 25 251 rd c_sheafkeep_Job_Books_34 K t m = wpM E 25 251 rd (.cond (.tmp 149) (.ops [⟨(some 15), .assign (.const (.int .i64 0)), none⟩]) .skip) K t m := rfl

def c_sheafkeep_Job_Books_35 : MC := (.seq (.ops [⟨(some 147), .move (.tmp 15), none⟩,
    ⟨(some 148), .move (.tmp 14), none⟩,
    ⟨(some 149), .binOp .eql 3 (.tmp 147) (.tmp 148) 3, none⟩]) c_sheafkeep_Job_Books_34)
@[go_sem] theorem c_sheafkeep_Job_Books_35_at (rd : Option Nat) (K : Post3) (t : Fr) (m : Mem) : wpM E 25 251 rd c_sheafkeep_Job_Books_35 K t m = wpM E 25 251 rd (.seq (.ops [⟨(some 147), .move (.tmp 15), none⟩,
    ⟨(some 148), .move (.tmp 14), none⟩,
    ⟨(some 149), .binOp .eql 3 (.tmp 147) (.tmp 148) 3, none⟩]) c_sheafkeep_Job_Books_34) K t m := rfl

def c_sheafkeep_Job_Books_36 : MC := (.cond (.tmp 180) (.ops [⟨(some 181), .move (.tmp 19), none⟩,
    ⟨(some 182), .fieldAddr 75 (.tmp 13) 6, none⟩,
    ⟨(some 183), .load 3 (.tmp 182), none⟩,
    ⟨(some 184), .call ⟨.value (.func 15), #[(.tmp 183), (.const (.int .i64 10)), (.const (.int .i64 40))], #[3, 3, 3]⟩, none⟩,
    ⟨(some 185), .indexAddr 22 (.tmp 181) (.const (.int .i64 3)), none⟩,
    ⟨none, .store 3 (.tmp 185) (.tmp 184), none⟩]) .skip)
@[go_sem] theorem c_sheafkeep_Job_Books_36_at (rd : Option Nat) (K : Post3) (t : Fr) (m : Mem) : wpM E 25 251 rd c_sheafkeep_Job_Books_36 K t m = wpM E 25 251 rd (.cond (.tmp 180) (.ops [⟨(some 181), .move (.tmp 19), none⟩,
    ⟨(some 182), .fieldAddr 75 (.tmp 13) 6, none⟩,
    ⟨(some 183), .load 3 (.tmp 182), none⟩,
    ⟨(some 184), .call ⟨.value (.func 15), #[(.tmp 183), (.const (.int .i64 10)), (.const (.int .i64 40))], #[3, 3, 3]⟩, none⟩,
    ⟨(some 185), .indexAddr 22 (.tmp 181) (.const (.int .i64 3)), none⟩,
    ⟨none, .store 3 (.tmp 185) (.tmp 184), none⟩]) .skip) K t m := rfl

def c_sheafkeep_Job_Books_37 : MC := (.seq (.ops [⟨(some 177), .fieldAddr 75 (.tmp 13) 6, none⟩,
    ⟨(some 178), .load 3 (.tmp 177), none⟩,
    ⟨(some 179), .binOp .and 3 (.tmp 178) (.const (.int .i64 7)) 3, none⟩,
    ⟨(some 180), .binOp .eql 3 (.tmp 179) (.const (.int .i64 7)) 3, none⟩]) c_sheafkeep_Job_Books_36)
@[go_sem] theorem c_sheafkeep_Job_Books_37_at (rd : Option Nat) (K : Post3) (t : Fr) (m : Mem) : wpM E 25 251 rd c_sheafkeep_Job_Books_37 K t m = wpM E 25 251 rd (.seq (.ops [⟨(some 177), .fieldAddr 75 (.tmp 13) 6, none⟩,
    ⟨(some 178), .load 3 (.tmp 177), none⟩,
    ⟨(some 179), .binOp .and 3 (.tmp 178) (.const (.int .i64 7)) 3, none⟩,
    ⟨(some 180), .binOp .eql 3 (.tmp 179) (.const (.int .i64 7)) 3, none⟩]) c_sheafkeep_Job_Books_36) K t m := rfl

def c_sheafkeep_Job_Books_38 : MC := (.seq (.ops [⟨(some 186), .fieldAddr 55 (.tmp 3) 0, none⟩,
    ⟨(some 187), .load 23 (.tmp 186), none⟩,
    ⟨(some 188), .move (.tmp 18), none⟩,
    ⟨(some 189), .move (.tmp 19), none⟩,
    ⟨(some 190), .buildSlice 23 2 #[(0, (.tmp 188)), (1, (.tmp 189))], none⟩,
    ⟨(some 191), .call ⟨.builtin .append, #[(.tmp 187), (.tmp 190)], #[23, 23]⟩, none⟩,
    ⟨(some 192), .fieldAddr 55 (.tmp 3) 0, none⟩,
    ⟨none, .store 23 (.tmp 192) (.tmp 191), none⟩]) (.ops [⟨(some 193), .move (.tmp 11), none⟩,
    ⟨(some 194), .binOp .add 3 (.tmp 193) (.const (.int .i64 2)) 3, none⟩,
    ⟨(some 11), .assign (.tmp 194), none⟩]))
@[go_sem] theorem c_sheafkeep_Job_Books_38_at (rd : Option Nat) (K : Post3) (t : Fr) (m : Mem) : wpM E 25 251 rd c_sheafkeep_Job_Books_38 K t m = wpM E 25 251 rd (.seq (.ops [⟨(some 186), .fieldAddr 55 (.tmp 3) 0, none⟩,
    ⟨(some 187), .load 23 (.tmp 186), none⟩,
    ⟨(some 188), .move (.tmp 18), none⟩,
    ⟨(some 189), .move (.tmp 19), none⟩,
    ⟨(some 190), .buildSlice 23 2 #[(0, (.tmp 188)), (1, (.tmp 189))], none⟩,
    ⟨(some 191), .call ⟨.builtin .append, #[(.tmp 187), (.tmp 190)], #[23, 23]⟩, none⟩,
    ⟨(some 192), .fieldAddr 55 (.tmp 3) 0, none⟩,
    ⟨none, .store 23 (.tmp 192) (.tmp 191), none⟩]) (.ops [⟨(some 193), .move (.tmp 11), none⟩,
    ⟨(some 194), .binOp .add 3 (.tmp 193) (.const (.int .i64 2)) 3, none⟩,
    ⟨(some 11), .assign (.tmp 194), none⟩])) K t m := rfl

def c_sheafkeep_Job_Books_39 : MC := (.seq c_sheafkeep_Job_Books_37 c_sheafkeep_Job_Books_38)
@[go_sem] theorem c_sheafkeep_Job_Books_39_at (rd : Option Nat) (K : Post3) (t : Fr) (m : Mem) : wpM E 25 251 rd c_sheafkeep_Job_Books_39 K t m = wpM E 25 251 rd (.seq c_sheafkeep_Job_Books_37 c_sheafkeep_Job_Books_38) K t m := rfl

def c_sheafkeep_Job_Books_40 : MC := (.seq (.ops [⟨(some 166), .move (.tmp 11), none⟩,
    ⟨(some 167), .binOp .add 3 (.tmp 166) (.const (.int .i64 1)) 3, none⟩,
    ⟨(some 168), .move (.tmp 14), none⟩,
    ⟨(some 169), .fieldAddr 75 (.tmp 13) 3, none⟩,
    ⟨(some 170), .load 3 (.tmp 169), none⟩,
    ⟨(some 171), .move (.tmp 7), none⟩,
    ⟨(some 172), .call ⟨.value (.func 15), #[(.tmp 170), (.const (.int .i64 1)), (.tmp 171)], #[3, 3, 3]⟩, none⟩,
    ⟨(some 173), .move (.tmp 16), none⟩,
    ⟨(some 174), .move (.tmp 17), none⟩,
    ⟨(some 175), .unOp .neg 3 (.tmp 174), none⟩,
    ⟨(some 176), .buildSlice 22 6 #[(0, (.tmp 167)), (1, (.tmp 168)), (2, (.tmp 172)), (3, (.tmp 173)), (4, (.tmp 175)), (5, (.const (.int .i64 0)))], none⟩,
    ⟨(some 19), .assign (.tmp 176), none⟩]) c_sheafkeep_Job_Books_39)
@[go_sem] theorem c_sheafkeep_Job_Books_40_at (rd : Option Nat) (K : Post3) (t : Fr) (m : Mem) : wpM E 25 251 rd c_sheafkeep_Job_Books_40 K t m = wpM E 25 251 rd (.seq (.ops [⟨(some 166), .move (.tmp 11), none⟩,
    ⟨(some 167), .binOp .add 3 (.tmp 166) (.const (.int .i64 1)) 3, none⟩,
    ⟨(some 168), .move (.tmp 14), none⟩,
    ⟨(some 169), .fieldAddr 75 (.tmp 13) 3, none⟩,
    ⟨(some 170), .load 3 (.tmp 169), none⟩,
    ⟨(some 171), .move (.tmp 7), none⟩,
    ⟨(some 172), .call ⟨.value (.func 15), #[(.tmp 170), (.const (.int .i64 1)), (.tmp 171)], #[3, 3, 3]⟩, none⟩,
    ⟨(some 173), .move (.tmp 16), none⟩,
    ⟨(some 174), .move (.tmp 17), none⟩,
    ⟨(some 175), .unOp .neg 3 (.tmp 174), none⟩,
    ⟨(some 176), .buildSlice 22 6 #[(0, (.tmp 167)), (1, (.tmp 168)), (2, (.tmp 172)), (3, (.tmp 173)), (4, (.tmp 175)), (5, (.const (.int .i64 0)))], none⟩,
    ⟨(some 19), .assign (.tmp 176), none⟩]) c_sheafkeep_Job_Books_39) K t m := rfl

def c_sheafkeep_Job_Books_41 : MC := (.seq (.ops [⟨(some 156), .move (.tmp 11), none⟩,
    ⟨(some 157), .move (.tmp 14), none⟩,
    ⟨(some 158), .fieldAddr 75 (.tmp 13) 2, none⟩,
    ⟨(some 159), .load 3 (.tmp 158), none⟩,
    ⟨(some 160), .move (.tmp 7), none⟩,
    ⟨(some 161), .call ⟨.value (.func 15), #[(.tmp 159), (.const (.int .i64 1)), (.tmp 160)], #[3, 3, 3]⟩, none⟩,
    ⟨(some 162), .move (.tmp 16), none⟩,
    ⟨(some 163), .move (.tmp 17), none⟩,
    ⟨(some 164), .move (.tmp 15), none⟩,
    ⟨(some 165), .buildSlice 22 6 #[(0, (.tmp 156)), (1, (.tmp 157)), (2, (.tmp 161)), (3, (.tmp 162)), (4, (.tmp 163)), (5, (.tmp 164))], none⟩,
    ⟨(some 18), .assign (.tmp 165), none⟩]) c_sheafkeep_Job_Books_40)
@[go_sem] theorem c_sheafkeep_Job_Books_41_at (rd : Option Nat) (K : Post3) (t : Fr) (m : Mem) : wpM E 25 251 rd c_sheafkeep_Job_Books_41 K t m = wpM E 25 251 rd (.seq (.ops [⟨(some 156), .move (.tmp 11), none⟩,
    ⟨(some 157), .move (.tmp 14), none⟩,
    ⟨(some 158), .fieldAddr 75 (.tmp 13) 2, none⟩,
    ⟨(some 159), .load 3 (.tmp 158), none⟩,
    ⟨(some 160), .move (.tmp 7), none⟩,
    ⟨(some 161), .call ⟨.value (.func 15), #[(.tmp 159), (.const (.int .i64 1)), (.tmp 160)], #[3, 3, 3]⟩, none⟩,
    ⟨(some 162), .move (.tmp 16), none⟩,
    ⟨(some 163), .move (.tmp 17), none⟩,
    ⟨(some 164), .move (.tmp 15), none⟩,
    ⟨(some 165), .buildSlice 22 6 #[(0, (.tmp 156)), (1, (.tmp 157)), (2, (.tmp 161)), (3, (.tmp 162)), (4, (.tmp 163)), (5, (.tmp 164))], none⟩,
    ⟨(some 18), .assign (.tmp 165), none⟩]) c_sheafkeep_Job_Books_40) K t m := rfl

def c_sheafkeep_Job_Books_42 : MC := (.seq (.draw [(0, [], ⟨(some 150), .fieldAddr 75 (.tmp 13) 4, none⟩),
    (1, [], ⟨(some 151), .load 3 (.tmp 150), none⟩),
    (3, [], ⟨(some 153), .fieldAddr 75 (.tmp 13) 5, none⟩),
    (4, [], ⟨(some 154), .load 3 (.tmp 153), none⟩),
    (2, [4], ⟨(some 152), .call ⟨.value (.func 15), #[(.tmp 151), (.const (.int .i64 10)), (.const (.int .i64 40))], #[3, 3, 3]⟩, none⟩),
    (5, [], ⟨(some 155), .call ⟨.value (.func 15), #[(.tmp 154), (.const (.int .i64 (-999))), (.const (.int .i64 999))], #[3, 3, 3]⟩, none⟩),
    (6, [], ⟨(some 16), .assign (.tmp 152), none⟩),
    (7, [], ⟨(some 17), .assign (.tmp 155), none⟩)]) c_sheafkeep_Job_Books_41)
@[go_sem] theorem c_sheafkeep_Job_Books_42_at (rd : Option Nat) (K : Post3) (t : Fr) (m : Mem) : wpM E 25 251 rd c_sheafkeep_Job_Books_42 K t m = wpM E 25 251 rd (.seq (.draw [(0, [], ⟨(some 150), .fieldAddr 75 (.tmp 13) 4, none⟩),
    (1, [], ⟨(some 151), .load 3 (.tmp 150), none⟩),
    (3, [], ⟨(some 153), .fieldAddr 75 (.tmp 13) 5, none⟩),
    (4, [], ⟨(some 154), .load 3 (.tmp 153), none⟩),
    (2, [4], ⟨(some 152), .call ⟨.value (.func 15), #[(.tmp 151), (.const (.int .i64 10)), (.const (.int .i64 40))], #[3, 3, 3]⟩, none⟩),
    (5, [], ⟨(some 155), .call ⟨.value (.func 15), #[(.tmp 154), (.const (.int .i64 (-999))), (.const (.int .i64 999))], #[3, 3, 3]⟩, none⟩),
    (6, [], ⟨(some 16), .assign (.tmp 152), none⟩),
    (7, [], ⟨(some 17), .assign (.tmp 155), none⟩)]) c_sheafkeep_Job_Books_41) K t m := rfl

def c_sheafkeep_Job_Books_43 : MC := (.seq c_sheafkeep_Job_Books_35 c_sheafkeep_Job_Books_42)
@[go_sem] theorem c_sheafkeep_Job_Books_43_at (rd : Option Nat) (K : Post3) (t : Fr) (m : Mem) : wpM E 25 251 rd c_sheafkeep_Job_Books_43 K t m = wpM E 25 251 rd (.seq c_sheafkeep_Job_Books_35 c_sheafkeep_Job_Books_42) K t m := rfl

def c_sheafkeep_Job_Books_44 : MC := (.seq (.draw [(0, [], ⟨(some 139), .fieldAddr 75 (.tmp 13) 0, none⟩),
    (1, [], ⟨(some 140), .load 3 (.tmp 139), none⟩),
    (2, [], ⟨(some 141), .move (.tmp 4), none⟩),
    (4, [], ⟨(some 143), .fieldAddr 75 (.tmp 13) 1, none⟩),
    (5, [], ⟨(some 144), .load 3 (.tmp 143), none⟩),
    (3, [5], ⟨(some 142), .call ⟨.value (.func 15), #[(.tmp 140), (.const (.int .i64 1)), (.tmp 141)], #[3, 3, 3]⟩, none⟩),
    (6, [], ⟨(some 145), .move (.tmp 4), none⟩),
    (7, [], ⟨(some 146), .call ⟨.value (.func 15), #[(.tmp 144), (.const (.int .i64 0)), (.tmp 145)], #[3, 3, 3]⟩, none⟩),
    (8, [], ⟨(some 14), .assign (.tmp 142), none⟩),
    (9, [], ⟨(some 15), .assign (.tmp 146), none⟩)]) c_sheafkeep_Job_Books_43)
@[go_sem] theorem c_sheafkeep_Job_Books_44_at (rd : Option Nat) (K : Post3) (t : Fr) (m : Mem) : wpM E 25 251 rd c_sheafkeep_Job_Books_44 K t m = wpM E 25 251 rd (.seq (.draw [(0, [], ⟨(some 139), .fieldAddr 75 (.tmp 13) 0, none⟩),
    (1, [], ⟨(some 140), .load 3 (.tmp 139), none⟩),
    (2, [], ⟨(some 141), .move (.tmp 4), none⟩),
    (4, [], ⟨(some 143), .fieldAddr 75 (.tmp 13) 1, none⟩),
    (5, [], ⟨(some 144), .load 3 (.tmp 143), none⟩),
    (3, [5], ⟨(some 142), .call ⟨.value (.func 15), #[(.tmp 140), (.const (.int .i64 1)), (.tmp 141)], #[3, 3, 3]⟩, none⟩),
    (6, [], ⟨(some 145), .move (.tmp 4), none⟩),
    (7, [], ⟨(some 146), .call ⟨.value (.func 15), #[(.tmp 144), (.const (.int .i64 0)), (.tmp 145)], #[3, 3, 3]⟩, none⟩),
    (8, [], ⟨(some 14), .assign (.tmp 142), none⟩),
    (9, [], ⟨(some 15), .assign (.tmp 146), none⟩)]) c_sheafkeep_Job_Books_43) K t m := rfl

def c_sheafkeep_Job_Books_45 : MC := (.seq (.ops [⟨(some 134), .fieldAddr 53 (.tmp 1) 5, none⟩,
    ⟨(some 135), .load 51 (.tmp 134), none⟩,
    ⟨(some 136), .move (.tmp 12), none⟩,
    ⟨(some 137), .indexAddr 51 (.tmp 135) (.tmp 136), none⟩,
    ⟨(some 138), .load 75 (.tmp 137), none⟩,
    ⟨(some 13), .alloc 75, none⟩,
    ⟨none, .store 75 (.tmp 13) (.tmp 138), none⟩]) c_sheafkeep_Job_Books_44)
@[go_sem] theorem c_sheafkeep_Job_Books_45_at (rd : Option Nat) (K : Post3) (t : Fr) (m : Mem) : wpM E 25 251 rd c_sheafkeep_Job_Books_45 K t m = wpM E 25 251 rd (.seq (.ops [⟨(some 134), .fieldAddr 53 (.tmp 1) 5, none⟩,
    ⟨(some 135), .load 51 (.tmp 134), none⟩,
    ⟨(some 136), .move (.tmp 12), none⟩,
    ⟨(some 137), .indexAddr 51 (.tmp 135) (.tmp 136), none⟩,
    ⟨(some 138), .load 75 (.tmp 137), none⟩,
    ⟨(some 13), .alloc 75, none⟩,
    ⟨none, .store 75 (.tmp 13) (.tmp 138), none⟩]) c_sheafkeep_Job_Books_44) K t m := rfl

def c_sheafkeep_Job_Books_46 : MC := (.block 7 c_sheafkeep_Job_Books_45)
@[go_sem] theorem c_sheafkeep_Job_Books_46_at (rd : Option Nat) (K : Post3) (t : Fr) (m : Mem) : wpM E 25 251 rd c_sheafkeep_Job_Books_46 K t m = wpM E 25 251 rd (.block 7 c_sheafkeep_Job_Books_45) K t m := rfl

def c_sheafkeep_Job_Books_47 : MC := (.seq c_sheafkeep_Job_Books_46 (.ops [⟨(some 132), .move (.tmp 12), none⟩,
    ⟨(some 133), .binOp .add 3 (.tmp 132) (.const (.int .i64 1)) 3, none⟩,
    ⟨(some 12), .assign (.tmp 133), none⟩]))
@[go_sem] theorem c_sheafkeep_Job_Books_47_at (rd : Option Nat) (K : Post3) (t : Fr) (m : Mem) : wpM E 25 251 rd c_sheafkeep_Job_Books_47 K t m = wpM E 25 251 rd (.seq c_sheafkeep_Job_Books_46 (.ops [⟨(some 132), .move (.tmp 12), none⟩,
    ⟨(some 133), .binOp .add 3 (.tmp 132) (.const (.int .i64 1)) 3, none⟩,
    ⟨(some 12), .assign (.tmp 133), none⟩])) K t m := rfl

def c_sheafkeep_Job_Books_48 : MC := (.seq c_sheafkeep_Job_Books_33 c_sheafkeep_Job_Books_47)
@[go_sem] theorem c_sheafkeep_Job_Books_48_at (rd : Option Nat) (K : Post3) (t : Fr) (m : Mem) : wpM E 25 251 rd c_sheafkeep_Job_Books_48 K t m = wpM E 25 251 rd (.seq c_sheafkeep_Job_Books_33 c_sheafkeep_Job_Books_47) K t m := rfl

def c_sheafkeep_Job_Books_49 : MC := (.loop c_sheafkeep_Job_Books_48)
theorem c_sheafkeep_Job_Books_49_at (rd : Option Nat) (K : Post3) (t : Fr) (m : Mem) : wpM E 25 251 rd c_sheafkeep_Job_Books_49 K t m = wpM E 25 251 rd (.loop c_sheafkeep_Job_Books_48) K t m := rfl

def c_sheafkeep_Job_Books_50 : MC := (.block 6 c_sheafkeep_Job_Books_49)
theorem c_sheafkeep_Job_Books_50_at (rd : Option Nat) (K : Post3) (t : Fr) (m : Mem) : wpM E 25 251 rd c_sheafkeep_Job_Books_50 K t m = wpM E 25 251 rd (.block 6 c_sheafkeep_Job_Books_49) K t m := rfl

def c_sheafkeep_Job_Books_51 : MC := (.seq (.ops [⟨(some 12), .assign (.const (.int .i64 0)), none⟩]) c_sheafkeep_Job_Books_50)
@[go_sem] theorem c_sheafkeep_Job_Books_51_at (rd : Option Nat) (K : Post3) (t : Fr) (m : Mem) : wpM E 25 251 rd c_sheafkeep_Job_Books_51 K t m = wpM E 25 251 rd (.seq (.ops [⟨(some 12), .assign (.const (.int .i64 0)), none⟩]) c_sheafkeep_Job_Books_50) K t m := rfl

def c_sheafkeep_Job_Books_52 : MC := (.cond (.tmp 203) .skip (.exit 8))
@[go_sem] theorem c_sheafkeep_Job_Books_52_at (rd : Option Nat) (K : Post3) (t : Fr) (m : Mem) : wpM E 25 251 rd c_sheafkeep_Job_Books_52 K t m = wpM E 25 251 rd (.cond (.tmp 203) .skip (.exit 8)) K t m := rfl

def c_sheafkeep_Job_Books_53 : MC := (.seq (.ops [⟨(some 195), .move (.tmp 20), none⟩,
    ⟨(some 196), .fieldAddr 53 (.tmp 1) 6, none⟩,
    ⟨(some 197), .load 51 (.tmp 196), none⟩,
    ⟨(some 198), .call ⟨.builtin .len, #[(.tmp 197)], #[51]⟩, none⟩,
    ⟨(some 199), .binOp .lss 3 (.tmp 195) (.tmp 198) 3, none⟩,
    ⟨(some 200), .move (.tmp 199), none⟩,
    ⟨(some 201), .move (.tmp 20), (some (some 200, true))⟩,
    ⟨(some 202), .binOp .lss 3 (.tmp 201) (.const (.int .i64 6)) 3, (some (some 200, true))⟩,
    ⟨(some 203), .pick (.tmp 200) (.tmp 202) (.const (.bool false)), none⟩]) c_sheafkeep_Job_Books_52)
@[go_sem] theorem c_sheafkeep_Job_Books_53_at (rd : Option Nat) (K : Post3) (t : Fr) (m : Mem) : wpM E 25 251 rd c_sheafkeep_Job_Books_53 K t m = wpM E 25 251 rd (.seq (.ops [⟨(some 195), .move (.tmp 20), none⟩,
    ⟨(some 196), .fieldAddr 53 (.tmp 1) 6, none⟩,
    ⟨(some 197), .load 51 (.tmp 196), none⟩,
    ⟨(some 198), .call ⟨.builtin .len, #[(.tmp 197)], #[51]⟩, none⟩,
    ⟨(some 199), .binOp .lss 3 (.tmp 195) (.tmp 198) 3, none⟩,
    ⟨(some 200), .move (.tmp 199), none⟩,
    ⟨(some 201), .move (.tmp 20), (some (some 200, true))⟩,
    ⟨(some 202), .binOp .lss 3 (.tmp 201) (.const (.int .i64 6)) 3, (some (some 200, true))⟩,
    ⟨(some 203), .pick (.tmp 200) (.tmp 202) (.const (.bool false)), none⟩]) c_sheafkeep_Job_Books_52) K t m := rfl

def c_sheafkeep_Job_Books_54 : MC := (.seq (.draw [(0, [], ⟨(some 211), .move (.tmp 11), none⟩),
    (1, [], ⟨(some 212), .fieldAddr 75 (.tmp 21) 6, none⟩),
    (2, [], ⟨(some 213), .load 3 (.tmp 212), none⟩),
    (5, [], ⟨(some 216), .fieldAddr 75 (.tmp 21) 0, none⟩),
    (6, [], ⟨(some 217), .load 3 (.tmp 216), none⟩),
    (7, [], ⟨(some 218), .move (.tmp 4), none⟩),
    (8, [], ⟨(some 219), .binOp .add 3 (.tmp 218) (.const (.int .i64 1)) 3, none⟩),
    (10, [], ⟨(some 221), .fieldAddr 75 (.tmp 21) 2, none⟩),
    (11, [], ⟨(some 222), .load 3 (.tmp 221), none⟩),
    (12, [], ⟨(some 223), .move (.tmp 7), none⟩),
    (13, [], ⟨(some 224), .binOp .add 3 (.tmp 223) (.const (.int .i64 1)) 3, none⟩),
    (15, [], ⟨(some 226), .fieldAddr 75 (.tmp 21) 4, none⟩),
    (16, [], ⟨(some 227), .load 3 (.tmp 226), none⟩),
    (18, [], ⟨(some 229), .fieldAddr 75 (.tmp 21) 5, none⟩),
    (19, [], ⟨(some 230), .load 3 (.tmp 229), none⟩),
    (21, [], ⟨(some 232), .fieldAddr 75 (.tmp 21) 1, none⟩),
    (22, [], ⟨(some 233), .load 3 (.tmp 232), none⟩),
    (3, [6, 11, 16, 19, 22], ⟨(some 214), .call ⟨.value (.func 15), #[(.tmp 213), (.const (.int .i64 0)), (.const (.int .i64 2))], #[3, 3, 3]⟩, none⟩),
    (4, [], ⟨(some 215), .binOp .add 3 (.tmp 211) (.tmp 214) 3, none⟩),
    (9, [11, 16, 19, 22], ⟨(some 220), .call ⟨.value (.func 15), #[(.tmp 217), (.const (.int .i64 0)), (.tmp 219)], #[3, 3, 3]⟩, none⟩),
    (14, [16, 19, 22], ⟨(some 225), .call ⟨.value (.func 15), #[(.tmp 222), (.const (.int .i64 0)), (.tmp 224)], #[3, 3, 3]⟩, none⟩),
    (17, [19, 22], ⟨(some 228), .call ⟨.value (.func 15), #[(.tmp 227), (.const (.int .i64 0)), (.const (.int .i64 50))], #[3, 3, 3]⟩, none⟩),
    (20, [22], ⟨(some 231), .call ⟨.value (.func 15), #[(.tmp 230), (.const (.int .i64 (-9))), (.const (.int .i64 9))], #[3, 3, 3]⟩, none⟩),
    (23, [], ⟨(some 234), .move (.tmp 4), none⟩),
    (24, [], ⟨(some 235), .binOp .add 3 (.tmp 234) (.const (.int .i64 1)) 3, none⟩),
    (25, [], ⟨(some 236), .call ⟨.value (.func 15), #[(.tmp 233), (.const (.int .i64 0)), (.tmp 235)], #[3, 3, 3]⟩, none⟩),
    (26, [], ⟨(some 237), .buildSlice 22 6 #[(0, (.tmp 215)), (1, (.tmp 220)), (2, (.tmp 225)), (3, (.tmp 228)), (4, (.tmp 231)), (5, (.tmp 236))], none⟩),
    (27, [], ⟨(some 22), .assign (.tmp 237), none⟩)]) (.draw [(0, [], ⟨(some 238), .fieldAddr 55 (.tmp 3) 0, none⟩),
    (1, [], ⟨(some 239), .load 23 (.tmp 238), none⟩),
    (2, [], ⟨(some 240), .move (.tmp 22), none⟩),
    (3, [], ⟨(some 241), .fieldAddr 75 (.tmp 21) 3, none⟩),
    (4, [], ⟨(some 242), .load 3 (.tmp 241), none⟩),
    (5, [1], ⟨(some 243), .call ⟨.value (.func 15), #[(.tmp 242), (.const (.int .i64 0)), (.const (.int .i64 9))], #[3, 3, 3]⟩, none⟩),
    (6, [], ⟨(some 244), .binOp .quo 3 (.tmp 243) (.const (.int .i64 9)) 3, none⟩),
    (7, [], ⟨(some 245), .binOp .sub 3 (.const (.int .i64 6)) (.tmp 244) 3, none⟩),
    (8, [], ⟨(some 246), .slice 22 (.tmp 240) none (some (.tmp 245)) none, none⟩),
    (9, [], ⟨(some 247), .buildSlice 23 1 #[(0, (.tmp 246))], none⟩),
    (10, [], ⟨(some 248), .call ⟨.builtin .append, #[(.tmp 239), (.tmp 247)], #[23, 23]⟩, none⟩),
    (11, [], ⟨(some 249), .fieldAddr 55 (.tmp 3) 0, none⟩),
    (12, [], ⟨none, .store 23 (.tmp 249) (.tmp 248), none⟩)]))
@[go_sem] theorem c_sheafkeep_Job_Books_54_at (rd : Option Nat) (K : Post3) (t : Fr) (m : Mem) : wpM E 25 251 rd c_sheafkeep_Job_Books_54 K t m = wpM E 25 251 rd (.seq (.draw [(0, [], ⟨(some 211), .move (.tmp 11), none⟩),
    (1, [], ⟨(some 212), .fieldAddr 75 (.tmp 21) 6, none⟩),
    (2, [], ⟨(some 213), .load 3 (.tmp 212), none⟩),
    (5, [], ⟨(some 216), .fieldAddr 75 (.tmp 21) 0, none⟩),
    (6, [], ⟨(some 217), .load 3 (.tmp 216), none⟩),
    (7, [], ⟨(some 218), .move (.tmp 4), none⟩),
    (8, [], ⟨(some 219), .binOp .add 3 (.tmp 218) (.const (.int .i64 1)) 3, none⟩),
    (10, [], ⟨(some 221), .fieldAddr 75 (.tmp 21) 2, none⟩),
    (11, [], ⟨(some 222), .load 3 (.tmp 221), none⟩),
    (12, [], ⟨(some 223), .move (.tmp 7), none⟩),
    (13, [], ⟨(some 224), .binOp .add 3 (.tmp 223) (.const (.int .i64 1)) 3, none⟩),
    (15, [], ⟨(some 226), .fieldAddr 75 (.tmp 21) 4, none⟩),
    (16, [], ⟨(some 227), .load 3 (.tmp 226), none⟩),
    (18, [], ⟨(some 229), .fieldAddr 75 (.tmp 21) 5, none⟩),
    (19, [], ⟨(some 230), .load 3 (.tmp 229), none⟩),
    (21, [], ⟨(some 232), .fieldAddr 75 (.tmp 21) 1, none⟩),
    (22, [], ⟨(some 233), .load 3 (.tmp 232), none⟩),
    (3, [6, 11, 16, 19, 22], ⟨(some 214), .call ⟨.value (.func 15), #[(.tmp 213), (.const (.int .i64 0)), (.const (.int .i64 2))], #[3, 3, 3]⟩, none⟩),
    (4, [], ⟨(some 215), .binOp .add 3 (.tmp 211) (.tmp 214) 3, none⟩),
    (9, [11, 16, 19, 22], ⟨(some 220), .call ⟨.value (.func 15), #[(.tmp 217), (.const (.int .i64 0)), (.tmp 219)], #[3, 3, 3]⟩, none⟩),
    (14, [16, 19, 22], ⟨(some 225), .call ⟨.value (.func 15), #[(.tmp 222), (.const (.int .i64 0)), (.tmp 224)], #[3, 3, 3]⟩, none⟩),
    (17, [19, 22], ⟨(some 228), .call ⟨.value (.func 15), #[(.tmp 227), (.const (.int .i64 0)), (.const (.int .i64 50))], #[3, 3, 3]⟩, none⟩),
    (20, [22], ⟨(some 231), .call ⟨.value (.func 15), #[(.tmp 230), (.const (.int .i64 (-9))), (.const (.int .i64 9))], #[3, 3, 3]⟩, none⟩),
    (23, [], ⟨(some 234), .move (.tmp 4), none⟩),
    (24, [], ⟨(some 235), .binOp .add 3 (.tmp 234) (.const (.int .i64 1)) 3, none⟩),
    (25, [], ⟨(some 236), .call ⟨.value (.func 15), #[(.tmp 233), (.const (.int .i64 0)), (.tmp 235)], #[3, 3, 3]⟩, none⟩),
    (26, [], ⟨(some 237), .buildSlice 22 6 #[(0, (.tmp 215)), (1, (.tmp 220)), (2, (.tmp 225)), (3, (.tmp 228)), (4, (.tmp 231)), (5, (.tmp 236))], none⟩),
    (27, [], ⟨(some 22), .assign (.tmp 237), none⟩)]) (.draw [(0, [], ⟨(some 238), .fieldAddr 55 (.tmp 3) 0, none⟩),
    (1, [], ⟨(some 239), .load 23 (.tmp 238), none⟩),
    (2, [], ⟨(some 240), .move (.tmp 22), none⟩),
    (3, [], ⟨(some 241), .fieldAddr 75 (.tmp 21) 3, none⟩),
    (4, [], ⟨(some 242), .load 3 (.tmp 241), none⟩),
    (5, [1], ⟨(some 243), .call ⟨.value (.func 15), #[(.tmp 242), (.const (.int .i64 0)), (.const (.int .i64 9))], #[3, 3, 3]⟩, none⟩),
    (6, [], ⟨(some 244), .binOp .quo 3 (.tmp 243) (.const (.int .i64 9)) 3, none⟩),
    (7, [], ⟨(some 245), .binOp .sub 3 (.const (.int .i64 6)) (.tmp 244) 3, none⟩),
    (8, [], ⟨(some 246), .slice 22 (.tmp 240) none (some (.tmp 245)) none, none⟩),
    (9, [], ⟨(some 247), .buildSlice 23 1 #[(0, (.tmp 246))], none⟩),
    (10, [], ⟨(some 248), .call ⟨.builtin .append, #[(.tmp 239), (.tmp 247)], #[23, 23]⟩, none⟩),
    (11, [], ⟨(some 249), .fieldAddr 55 (.tmp 3) 0, none⟩),
    (12, [], ⟨none, .store 23 (.tmp 249) (.tmp 248), none⟩)])) K t m := rfl

def c_sheafkeep_Job_Books_55 : MC := (.seq (.ops [⟨(some 206), .fieldAddr 53 (.tmp 1) 6, none⟩,
    ⟨(some 207), .load 51 (.tmp 206), none⟩,
    ⟨(some 208), .move (.tmp 20), none⟩,
    ⟨(some 209), .indexAddr 51 (.tmp 207) (.tmp 208), none⟩,
    ⟨(some 210), .load 75 (.tmp 209), none⟩,
    ⟨(some 21), .alloc 75, none⟩,
    ⟨none, .store 75 (.tmp 21) (.tmp 210), none⟩]) c_sheafkeep_Job_Books_54)
@[go_sem] theorem c_sheafkeep_Job_Books_55_at (rd : Option Nat) (K : Post3) (t : Fr) (m : Mem) : wpM E 25 251 rd c_sheafkeep_Job_Books_55 K t m = wpM E 25 251 rd (.seq (.ops [⟨(some 206), .fieldAddr 53 (.tmp 1) 6, none⟩,
    ⟨(some 207), .load 51 (.tmp 206), none⟩,
    ⟨(some 208), .move (.tmp 20), none⟩,
    ⟨(some 209), .indexAddr 51 (.tmp 207) (.tmp 208), none⟩,
    ⟨(some 210), .load 75 (.tmp 209), none⟩,
    ⟨(some 21), .alloc 75, none⟩,
    ⟨none, .store 75 (.tmp 21) (.tmp 210), none⟩]) c_sheafkeep_Job_Books_54) K t m := rfl

def c_sheafkeep_Job_Books_56 : MC := (.block 9 c_sheafkeep_Job_Books_55)
@[go_sem] theorem c_sheafkeep_Job_Books_56_at (rd : Option Nat) (K : Post3) (t : Fr) (m : Mem) : wpM E 25 251 rd c_sheafkeep_Job_Books_56 K t m = wpM E 25 251 rd (.block 9 c_sheafkeep_Job_Books_55) K t m := rfl

def c_sheafkeep_Job_Books_57 : MC := (.seq c_sheafkeep_Job_Books_56 (.ops [⟨(some 204), .move (.tmp 20), none⟩,
    ⟨(some 205), .binOp .add 3 (.tmp 204) (.const (.int .i64 1)) 3, none⟩,
    ⟨(some 20), .assign (.tmp 205), none⟩]))
@[go_sem] theorem c_sheafkeep_Job_Books_57_at (rd : Option Nat) (K : Post3) (t : Fr) (m : Mem) : wpM E 25 251 rd c_sheafkeep_Job_Books_57 K t m = wpM E 25 251 rd (.seq c_sheafkeep_Job_Books_56 (.ops [⟨(some 204), .move (.tmp 20), none⟩,
    ⟨(some 205), .binOp .add 3 (.tmp 204) (.const (.int .i64 1)) 3, none⟩,
    ⟨(some 20), .assign (.tmp 205), none⟩])) K t m := rfl

def c_sheafkeep_Job_Books_58 : MC := (.seq c_sheafkeep_Job_Books_53 c_sheafkeep_Job_Books_57)
@[go_sem] theorem c_sheafkeep_Job_Books_58_at (rd : Option Nat) (K : Post3) (t : Fr) (m : Mem) : wpM E 25 251 rd c_sheafkeep_Job_Books_58 K t m = wpM E 25 251 rd (.seq c_sheafkeep_Job_Books_53 c_sheafkeep_Job_Books_57) K t m := rfl

def c_sheafkeep_Job_Books_59 : MC := (.loop c_sheafkeep_Job_Books_58)
theorem c_sheafkeep_Job_Books_59_at (rd : Option Nat) (K : Post3) (t : Fr) (m : Mem) : wpM E 25 251 rd c_sheafkeep_Job_Books_59 K t m = wpM E 25 251 rd (.loop c_sheafkeep_Job_Books_58) K t m := rfl

def c_sheafkeep_Job_Books_60 : MC := (.block 8 c_sheafkeep_Job_Books_59)
theorem c_sheafkeep_Job_Books_60_at (rd : Option Nat) (K : Post3) (t : Fr) (m : Mem) : wpM E 25 251 rd c_sheafkeep_Job_Books_60 K t m = wpM E 25 251 rd (.block 8 c_sheafkeep_Job_Books_59) K t m := rfl

def c_sheafkeep_Job_Books_61 : MC := (.seq (.ops [⟨(some 20), .assign (.const (.int .i64 0)), none⟩]) c_sheafkeep_Job_Books_60)
@[go_sem] theorem c_sheafkeep_Job_Books_61_at (rd : Option Nat) (K : Post3) (t : Fr) (m : Mem) : wpM E 25 251 rd c_sheafkeep_Job_Books_61 K t m = wpM E 25 251 rd (.seq (.ops [⟨(some 20), .assign (.const (.int .i64 0)), none⟩]) c_sheafkeep_Job_Books_60) K t m := rfl

def c_sheafkeep_Job_Books_62 : MC := (.seq (.ops [⟨(some 250), .load 55 (.tmp 3), none⟩,
    ⟨none, .store 55 (.tmp 2) (.tmp 250), none⟩]) .ret)
@[go_sem] theorem c_sheafkeep_Job_Books_62_at (rd : Option Nat) (K : Post3) (t : Fr) (m : Mem) : wpM E 25 251 rd c_sheafkeep_Job_Books_62 K t m = wpM E 25 251 rd (.seq (.ops [⟨(some 250), .load 55 (.tmp 3), none⟩,
    ⟨none, .store 55 (.tmp 2) (.tmp 250), none⟩]) .ret) K t m := rfl

def c_sheafkeep_Job_Books_63 : MC := (.seq c_sheafkeep_Job_Books_61 c_sheafkeep_Job_Books_62)
@[go_sem] theorem c_sheafkeep_Job_Books_63_at (rd : Option Nat) (K : Post3) (t : Fr) (m : Mem) : wpM E 25 251 rd c_sheafkeep_Job_Books_63 K t m = wpM E 25 251 rd (.seq c_sheafkeep_Job_Books_61 c_sheafkeep_Job_Books_62) K t m := rfl

def c_sheafkeep_Job_Books_64 : MC := (.seq c_sheafkeep_Job_Books_51 c_sheafkeep_Job_Books_63)
@[go_sem] theorem c_sheafkeep_Job_Books_64_at (rd : Option Nat) (K : Post3) (t : Fr) (m : Mem) : wpM E 25 251 rd c_sheafkeep_Job_Books_64 K t m = wpM E 25 251 rd (.seq c_sheafkeep_Job_Books_51 c_sheafkeep_Job_Books_63) K t m := rfl

def c_sheafkeep_Job_Books_65 : MC := (.seq (.ops [⟨(some 11), .assign (.const (.int .i64 1)), none⟩]) c_sheafkeep_Job_Books_64)
@[go_sem] theorem c_sheafkeep_Job_Books_65_at (rd : Option Nat) (K : Post3) (t : Fr) (m : Mem) : wpM E 25 251 rd c_sheafkeep_Job_Books_65 K t m = wpM E 25 251 rd (.seq (.ops [⟨(some 11), .assign (.const (.int .i64 1)), none⟩]) c_sheafkeep_Job_Books_64) K t m := rfl

def c_sheafkeep_Job_Books_66 : MC := (.seq c_sheafkeep_Job_Books_31 c_sheafkeep_Job_Books_65)
@[go_sem] theorem c_sheafkeep_Job_Books_66_at (rd : Option Nat) (K : Post3) (t : Fr) (m : Mem) : wpM E 25 251 rd c_sheafkeep_Job_Books_66 K t m = wpM E 25 251 rd (.seq c_sheafkeep_Job_Books_31 c_sheafkeep_Job_Books_65) K t m := rfl

def c_sheafkeep_Job_Books_67 : MC := (.seq (.ops [⟨(some 90), .buildSlice 22 4 #[(0, (.const (.int .i64 1))), (1, (.const (.int .i64 5))), (2, (.const (.int .i64 1))), (3, (.const (.int .i64 1)))], none⟩,
    ⟨(some 91), .buildSlice 22 4 #[(0, (.const (.int .i64 2))), (1, (.const (.int .i64 5))), (2, (.const (.int .i64 3))), (3, (.const (.int .i64 2)))], none⟩,
    ⟨(some 92), .buildSlice 23 2 #[(0, (.tmp 90)), (1, (.tmp 91))], none⟩,
    ⟨(some 93), .fieldAddr 55 (.tmp 3) 3, none⟩,
    ⟨none, .store 23 (.tmp 93) (.tmp 92), none⟩]) c_sheafkeep_Job_Books_66)
@[go_sem] theorem c_sheafkeep_Job_Books_67_at (rd : Option Nat) (K : Post3) (t : Fr) (m : Mem) : wpM E 25 251 rd c_sheafkeep_Job_Books_67 K t m = wpM E 25 251 rd (.seq (.ops [⟨(some 90), .buildSlice 22 4 #[(0, (.const (.int .i64 1))), (1, (.const (.int .i64 5))), (2, (.const (.int .i64 1))), (3, (.const (.int .i64 1)))], none⟩,
    ⟨(some 91), .buildSlice 22 4 #[(0, (.const (.int .i64 2))), (1, (.const (.int .i64 5))), (2, (.const (.int .i64 3))), (3, (.const (.int .i64 2)))], none⟩,
    ⟨(some 92), .buildSlice 23 2 #[(0, (.tmp 90)), (1, (.tmp 91))], none⟩,
    ⟨(some 93), .fieldAddr 55 (.tmp 3) 3, none⟩,
    ⟨none, .store 23 (.tmp 93) (.tmp 92), none⟩]) c_sheafkeep_Job_Books_66) K t m := rfl

def c_sheafkeep_Job_Books_68 : MC := (.seq c_sheafkeep_Job_Books_23 c_sheafkeep_Job_Books_67)
@[go_sem] theorem c_sheafkeep_Job_Books_68_at (rd : Option Nat) (K : Post3) (t : Fr) (m : Mem) : wpM E 25 251 rd c_sheafkeep_Job_Books_68 K t m = wpM E 25 251 rd (.seq c_sheafkeep_Job_Books_23 c_sheafkeep_Job_Books_67) K t m := rfl

def c_sheafkeep_Job_Books_69 : MC := (.seq (.ops [⟨(some 57), .fieldAddr 53 (.tmp 1) 3, none⟩,
    ⟨(some 58), .load 22 (.tmp 57), none⟩,
    ⟨(some 59), .call ⟨.builtin .len, #[(.tmp 58)], #[22]⟩, none⟩,
    ⟨(some 60), .call ⟨.value (.func 15), #[(.tmp 59), (.const (.int .i64 0)), (.const (.int .i64 3))], #[3, 3, 3]⟩, none⟩,
    ⟨(some 61), .binOp .add 3 (.const (.int .i64 2)) (.tmp 60) 3, none⟩,
    ⟨(some 7), .assign (.tmp 61), none⟩]) c_sheafkeep_Job_Books_68)
@[go_sem] theorem c_sheafkeep_Job_Books_69_at (rd : Option Nat) (K : Post3) (t : Fr) (m : Mem) : wpM E 25 251 rd c_sheafkeep_Job_Books_69 K t m = wpM E 25 251 rd (.seq (.ops [⟨(some 57), .fieldAddr 53 (.tmp 1) 3, none⟩,
    ⟨(some 58), .load 22 (.tmp 57), none⟩,
    ⟨(some 59), .call ⟨.builtin .len, #[(.tmp 58)], #[22]⟩, none⟩,
    ⟨(some 60), .call ⟨.value (.func 15), #[(.tmp 59), (.const (.int .i64 0)), (.const (.int .i64 3))], #[3, 3, 3]⟩, none⟩,
    ⟨(some 61), .binOp .add 3 (.const (.int .i64 2)) (.tmp 60) 3, none⟩,
    ⟨(some 7), .assign (.tmp 61), none⟩]) c_sheafkeep_Job_Books_68) K t m := rfl

def c_sheafkeep_Job_Books_70 : MC := (.seq c_sheafkeep_Job_Books_11 c_sheafkeep_Job_Books_69)
@[go_sem] theorem c_sheafkeep_Job_Books_70_at (rd : Option Nat) (K : Post3) (t : Fr) (m : Mem) : wpM E 25 251 rd c_sheafkeep_Job_Books_70 K t m = wpM E 25 251 rd (.seq c_sheafkeep_Job_Books_11 c_sheafkeep_Job_Books_69) K t m := rfl

def c_sheafkeep_Job_Books_71 : MC := (.seq (.ops [⟨(some 23), .fieldAddr 53 (.tmp 1) 2, none⟩,
    ⟨(some 24), .load 22 (.tmp 23), none⟩,
    ⟨(some 25), .call ⟨.builtin .len, #[(.tmp 24)], #[22]⟩, none⟩,
    ⟨(some 26), .call ⟨.value (.func 15), #[(.tmp 25), (.const (.int .i64 0)), (.const (.int .i64 3))], #[3, 3, 3]⟩, none⟩,
    ⟨(some 27), .binOp .add 3 (.const (.int .i64 1)) (.tmp 26) 3, none⟩,
    ⟨(some 4), .assign (.tmp 27), none⟩]) c_sheafkeep_Job_Books_70)
@[go_sem] theorem c_sheafkeep_Job_Books_71_at (rd : Option Nat) (K : Post3) (t : Fr) (m : Mem) : wpM E 25 251 rd c_sheafkeep_Job_Books_71 K t m = wpM E 25 251 rd (.seq (.ops [⟨(some 23), .fieldAddr 53 (.tmp 1) 2, none⟩,
    ⟨(some 24), .load 22 (.tmp 23), none⟩,
    ⟨(some 25), .call ⟨.builtin .len, #[(.tmp 24)], #[22]⟩, none⟩,
    ⟨(some 26), .call ⟨.value (.func 15), #[(.tmp 25), (.const (.int .i64 0)), (.const (.int .i64 3))], #[3, 3, 3]⟩, none⟩,
    ⟨(some 27), .binOp .add 3 (.const (.int .i64 1)) (.tmp 26) 3, none⟩,
    ⟨(some 4), .assign (.tmp 27), none⟩]) c_sheafkeep_Job_Books_70) K t m := rfl

def c_sheafkeep_Job_Books_72 : MC := (.seq (.ops [⟨(some 3), .alloc 55, none⟩]) c_sheafkeep_Job_Books_71)
@[go_sem] theorem c_sheafkeep_Job_Books_72_at (rd : Option Nat) (K : Post3) (t : Fr) (m : Mem) : wpM E 25 251 rd c_sheafkeep_Job_Books_72 K t m = wpM E 25 251 rd (.seq (.ops [⟨(some 3), .alloc 55, none⟩]) c_sheafkeep_Job_Books_71) K t m := rfl

def c_sheafkeep_Job_Books_73 : MC := (.seq (.ops [⟨(some 1), .box 53 (.tmp 0), none⟩,
    ⟨(some 2), .alloc 55, none⟩]) c_sheafkeep_Job_Books_72)
@[go_sem] theorem c_sheafkeep_Job_Books_73_at (rd : Option Nat) (K : Post3) (t : Fr) (m : Mem) : wpM E 25 251 rd c_sheafkeep_Job_Books_73 K t m = wpM E 25 251 rd (.seq (.ops [⟨(some 1), .box 53 (.tmp 0), none⟩,
    ⟨(some 2), .alloc 55, none⟩]) c_sheafkeep_Job_Books_72) K t m := rfl

@[go_sem] theorem some25 : (E.fn 25).isSome = true := by kernel_rfl
set_option maxRecDepth 100000 in
theorem fn_sheafkeep_Job_Books : FnIs E 25 251 [.cell 2 55] c_sheafkeep_Job_Books_73 := ⟨by kernel_rfl, by kernel_rfl⟩

/-! sheaf/sheafkeep.Card -/
abbrev F_sheafkeep_Card : FuncId := 26
def c_sheafkeep_Card_0 : MC := (.seq (.ops [⟨(some 5), .move (.tmp 0), none⟩,
    ⟨(some 6), .call ⟨.value (.func 15), #[(.tmp 5), (.const (.int .i64 2)), (.const (.int .i64 6))], #[3, 3, 3]⟩, none⟩,
    ⟨(some 7), .move (.tmp 1), none⟩,
    ⟨(some 8), .call ⟨.value (.func 15), #[(.tmp 7), (.const (.int .i64 2)), (.const (.int .i64 4))], #[3, 3, 3]⟩, none⟩,
    ⟨(some 9), .build 46 #[(0, (.const (.int .i64 10))), (1, (.const (.int .i64 40))), (2, (.tmp 6)), (3, (.tmp 8))], none⟩,
    ⟨none, .store 46 (.tmp 4) (.tmp 9), none⟩]) .ret)
@[go_sem] theorem c_sheafkeep_Card_0_at (rd : Option Nat) (K : Post3) (t : Fr) (m : Mem) : wpM E 26 10 rd c_sheafkeep_Card_0 K t m = wpM E 26 10 rd (.seq (.ops [⟨(some 5), .move (.tmp 0), none⟩,
    ⟨(some 6), .call ⟨.value (.func 15), #[(.tmp 5), (.const (.int .i64 2)), (.const (.int .i64 6))], #[3, 3, 3]⟩, none⟩,
    ⟨(some 7), .move (.tmp 1), none⟩,
    ⟨(some 8), .call ⟨.value (.func 15), #[(.tmp 7), (.const (.int .i64 2)), (.const (.int .i64 4))], #[3, 3, 3]⟩, none⟩,
    ⟨(some 9), .build 46 #[(0, (.const (.int .i64 10))), (1, (.const (.int .i64 40))), (2, (.tmp 6)), (3, (.tmp 8))], none⟩,
    ⟨none, .store 46 (.tmp 4) (.tmp 9), none⟩]) .ret) K t m := rfl

def c_sheafkeep_Card_1 : MC := (.seq (.ops [⟨(some 4), .alloc 46, none⟩]) c_sheafkeep_Card_0)
@[go_sem] theorem c_sheafkeep_Card_1_at (rd : Option Nat) (K : Post3) (t : Fr) (m : Mem) : wpM E 26 10 rd c_sheafkeep_Card_1 K t m = wpM E 26 10 rd (.seq (.ops [⟨(some 4), .alloc 46, none⟩]) c_sheafkeep_Card_0) K t m := rfl

@[go_sem] theorem some26 : (E.fn 26).isSome = true := by kernel_rfl
set_option maxRecDepth 100000 in
theorem fn_sheafkeep_Card : FnIs E 26 10 [.cell 4 46] c_sheafkeep_Card_1 := ⟨by kernel_rfl, by kernel_rfl⟩

end
end Go.Proofs.Ytpabllcacdopdaa.W
