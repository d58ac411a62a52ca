/-
  Compact code, printed by a program of mine (wip/dev/AbsPrint.lean).
-/
import Derived.Test.YtjmppooebppecaaTypes
set_option linter.unusedVariables false
namespace Go.Proofs.Ytjmppooebppecaa.W
open Go.Abs
noncomputable section

/-! sheaf/sheafbook.Same[int] -/
abbrev F_sheafbook_Same_int : FuncId := 18
def c_sheafbook_Same_int_0 : MC := (.seq (.ops [⟨(some 4), .assign (.const (.bool false)), none⟩]) .ret)
@[go_sem] theorem c_sheafbook_Same_int_0_at (rd : Option Nat) (K : Post3) (t : Fr) (m : Mem) : wpM E 18 26 rd c_sheafbook_Same_int_0 K t m = wpM E 18 26 rd (.seq (.ops [⟨(some 4), .assign (.const (.bool false)), none⟩]) .ret) K t m := rfl

def c_sheafbook_Same_int_1 : MC := (.cond (.tmp 10) c_sheafbook_Same_int_0 .skip)
@[go_sem] theorem c_sheafbook_Same_int_1_at (rd : Option Nat) (K : Post3) (t : Fr) (m : Mem) : wpM E 18 26 rd c_sheafbook_Same_int_1 K t m = wpM E 18 26 rd (.cond (.tmp 10) c_sheafbook_Same_int_0 .skip) K t m := rfl

def c_sheafbook_Same_int_2 : MC := (.seq (.ops [⟨(some 6), .move (.tmp 0), none⟩,
    ⟨(some 7), .call ⟨.builtin .len, #[(.tmp 6)], #[22]⟩, none⟩,
    ⟨(some 8), .move (.tmp 1), none⟩,
    ⟨(some 9), .call ⟨.builtin .len, #[(.tmp 8)], #[22]⟩, none⟩,
    ⟨(some 10), .binOp .neq 3 (.tmp 7) (.tmp 9) 3, none⟩]) c_sheafbook_Same_int_1)
@[go_sem] theorem c_sheafbook_Same_int_2_at (rd : Option Nat) (K : Post3) (t : Fr) (m : Mem) : wpM E 18 26 rd c_sheafbook_Same_int_2 K t m = wpM E 18 26 rd (.seq (.ops [⟨(some 6), .move (.tmp 0), none⟩,
    ⟨(some 7), .call ⟨.builtin .len, #[(.tmp 6)], #[22]⟩, none⟩,
    ⟨(some 8), .move (.tmp 1), none⟩,
    ⟨(some 9), .call ⟨.builtin .len, #[(.tmp 8)], #[22]⟩, none⟩,
    ⟨(some 10), .binOp .neq 3 (.tmp 7) (.tmp 9) 3, none⟩]) c_sheafbook_Same_int_1) K t m := rfl

def c_sheafbook_Same_int_3 : MC := (.cond (.tmp 14) .skip (.exit 0))
@[go_sem] theorem c_sheafbook_Same_int_3_at (rd : Option Nat) (K : Post3) (t : Fr) (m : Mem) : wpM E 18 26 rd c_sheafbook_Same_int_3 K t m = wpM E 18 26 rd (.cond (.tmp 14) .skip (.exit 0)) K t m := rfl

def c_sheafbook_Same_int_4 : MC := (.seq (.ops [⟨(some 11), .move (.tmp 5), none⟩,
    ⟨(some 12), .move (.tmp 0), none⟩,
    ⟨(some 13), .call ⟨.builtin .len, #[(.tmp 12)], #[22]⟩, none⟩,
    ⟨(some 14), .binOp .lss 3 (.tmp 11) (.tmp 13) 3, none⟩]) c_sheafbook_Same_int_3)
@[go_sem] theorem c_sheafbook_Same_int_4_at (rd : Option Nat) (K : Post3) (t : Fr) (m : Mem) : wpM E 18 26 rd c_sheafbook_Same_int_4 K t m = wpM E 18 26 rd (.seq (.ops [⟨(some 11), .move (.tmp 5), none⟩,
    ⟨(some 12), .move (.tmp 0), none⟩,
    ⟨(some 13), .call ⟨.builtin .len, #[(.tmp 12)], #[22]⟩, none⟩,
    ⟨(some 14), .binOp .lss 3 (.tmp 11) (.tmp 13) 3, none⟩]) c_sheafbook_Same_int_3) K t m := rfl

def c_sheafbook_Same_int_5 : MC := (.seq (.ops [⟨(some 4), .assign (.const (.bool false)), none⟩]) .ret)
@[go_sem] theorem c_sheafbook_Same_int_5_at (rd : Option Nat) (K : Post3) (t : Fr) (m : Mem) : wpM E 18 26 rd c_sheafbook_Same_int_5 K t m = wpM E 18 26 rd (.seq (.ops [⟨(some 4), .assign (.const (.bool false)), none⟩]) .ret) K t m := rfl

def c_sheafbook_Same_int_6 : MC := (.cond (.tmp 25) c_sheafbook_Same_int_5 .skip)
@[go_sem] theorem c_sheafbook_Same_int_6_at (rd : Option Nat) (K : Post3) (t : Fr) (m : Mem) : wpM E 18 26 rd c_sheafbook_Same_int_6 K t m = wpM E 18 26 rd (.cond (.tmp 25) c_sheafbook_Same_int_5 .skip) K t m := rfl

def c_sheafbook_Same_int_7 : MC := (.seq (.ops [⟨(some 17), .move (.tmp 0), none⟩,
    ⟨(some 18), .move (.tmp 5), none⟩,
    ⟨(some 19), .indexAddr 22 (.tmp 17) (.tmp 18), none⟩,
    ⟨(some 20), .load 3 (.tmp 19), none⟩,
    ⟨(some 21), .move (.tmp 1), none⟩,
    ⟨(some 22), .move (.tmp 5), none⟩,
    ⟨(some 23), .indexAddr 22 (.tmp 21) (.tmp 22), none⟩,
    ⟨(some 24), .load 3 (.tmp 23), none⟩,
    ⟨(some 25), .binOp .neq 3 (.tmp 20) (.tmp 24) 3, none⟩]) c_sheafbook_Same_int_6)
@[go_sem] theorem c_sheafbook_Same_int_7_at (rd : Option Nat) (K : Post3) (t : Fr) (m : Mem) : wpM E 18 26 rd c_sheafbook_Same_int_7 K t m = wpM E 18 26 rd (.seq (.ops [⟨(some 17), .move (.tmp 0), none⟩,
    ⟨(some 18), .move (.tmp 5), none⟩,
    ⟨(some 19), .indexAddr 22 (.tmp 17) (.tmp 18), none⟩,
    ⟨(some 20), .load 3 (.tmp 19), none⟩,
    ⟨(some 21), .move (.tmp 1), none⟩,
    ⟨(some 22), .move (.tmp 5), none⟩,
    ⟨(some 23), .indexAddr 22 (.tmp 21) (.tmp 22), none⟩,
    ⟨(some 24), .load 3 (.tmp 23), none⟩,
    ⟨(some 25), .binOp .neq 3 (.tmp 20) (.tmp 24) 3, none⟩]) c_sheafbook_Same_int_6) K t m := rfl

def c_sheafbook_Same_int_8 : MC := (.block 1 c_sheafbook_Same_int_7)
@[go_sem] theorem c_sheafbook_Same_int_8_at (rd : Option Nat) (K : Post3) (t : Fr) (m : Mem) : wpM E 18 26 rd c_sheafbook_Same_int_8 K t m = wpM E 18 26 rd (.block 1 c_sheafbook_Same_int_7) K t m := rfl

def c_sheafbook_Same_int_9 : MC := (.seq c_sheafbook_Same_int_8 (.ops [⟨(some 15), .move (.tmp 5), none⟩,
    ⟨(some 16), .binOp .add 3 (.tmp 15) (.const (.int .i64 1)) 3, none⟩,
    ⟨(some 5), .assign (.tmp 16), none⟩]))
@[go_sem] theorem c_sheafbook_Same_int_9_at (rd : Option Nat) (K : Post3) (t : Fr) (m : Mem) : wpM E 18 26 rd c_sheafbook_Same_int_9 K t m = wpM E 18 26 rd (.seq c_sheafbook_Same_int_8 (.ops [⟨(some 15), .move (.tmp 5), none⟩,
    ⟨(some 16), .binOp .add 3 (.tmp 15) (.const (.int .i64 1)) 3, none⟩,
    ⟨(some 5), .assign (.tmp 16), none⟩])) K t m := rfl

def c_sheafbook_Same_int_10 : MC := (.seq c_sheafbook_Same_int_4 c_sheafbook_Same_int_9)
@[go_sem] theorem c_sheafbook_Same_int_10_at (rd : Option Nat) (K : Post3) (t : Fr) (m : Mem) : wpM E 18 26 rd c_sheafbook_Same_int_10 K t m = wpM E 18 26 rd (.seq c_sheafbook_Same_int_4 c_sheafbook_Same_int_9) K t m := rfl

def c_sheafbook_Same_int_11 : MC := (.loop c_sheafbook_Same_int_10)
theorem c_sheafbook_Same_int_11_at (rd : Option Nat) (K : Post3) (t : Fr) (m : Mem) : wpM E 18 26 rd c_sheafbook_Same_int_11 K t m = wpM E 18 26 rd (.loop c_sheafbook_Same_int_10) K t m := rfl

def c_sheafbook_Same_int_12 : MC := (.block 0 c_sheafbook_Same_int_11)
theorem c_sheafbook_Same_int_12_at (rd : Option Nat) (K : Post3) (t : Fr) (m : Mem) : wpM E 18 26 rd c_sheafbook_Same_int_12 K t m = wpM E 18 26 rd (.block 0 c_sheafbook_Same_int_11) K t m := rfl

def c_sheafbook_Same_int_13 : MC := (.seq (.ops [⟨(some 5), .assign (.const (.int .i64 0)), none⟩]) c_sheafbook_Same_int_12)
@[go_sem] theorem c_sheafbook_Same_int_13_at (rd : Option Nat) (K : Post3) (t : Fr) (m : Mem) : wpM E 18 26 rd c_sheafbook_Same_int_13 K t m = wpM E 18 26 rd (.seq (.ops [⟨(some 5), .assign (.const (.int .i64 0)), none⟩]) c_sheafbook_Same_int_12) K t m := rfl

def c_sheafbook_Same_int_14 : MC := (.seq (.ops [⟨(some 4), .assign (.const (.bool true)), none⟩]) .ret)
@[go_sem] theorem c_sheafbook_Same_int_14_at (rd : Option Nat) (K : Post3) (t : Fr) (m : Mem) : wpM E 18 26 rd c_sheafbook_Same_int_14 K t m = wpM E 18 26 rd (.seq (.ops [⟨(some 4), .assign (.const (.bool true)), none⟩]) .ret) K t m := rfl

def c_sheafbook_Same_int_15 : MC := (.seq c_sheafbook_Same_int_13 c_sheafbook_Same_int_14)
@[go_sem] theorem c_sheafbook_Same_int_15_at (rd : Option Nat) (K : Post3) (t : Fr) (m : Mem) : wpM E 18 26 rd c_sheafbook_Same_int_15 K t m = wpM E 18 26 rd (.seq c_sheafbook_Same_int_13 c_sheafbook_Same_int_14) K t m := rfl

def c_sheafbook_Same_int_16 : MC := (.seq c_sheafbook_Same_int_2 c_sheafbook_Same_int_15)
@[go_sem] theorem c_sheafbook_Same_int_16_at (rd : Option Nat) (K : Post3) (t : Fr) (m : Mem) : wpM E 18 26 rd c_sheafbook_Same_int_16 K t m = wpM E 18 26 rd (.seq c_sheafbook_Same_int_2 c_sheafbook_Same_int_15) K t m := rfl

def c_sheafbook_Same_int_17 : MC := (.seq (.ops [⟨(some 4), .assign (.const (.bool false)), none⟩]) c_sheafbook_Same_int_16)
@[go_sem] theorem c_sheafbook_Same_int_17_at (rd : Option Nat) (K : Post3) (t : Fr) (m : Mem) : wpM E 18 26 rd c_sheafbook_Same_int_17 K t m = wpM E 18 26 rd (.seq (.ops [⟨(some 4), .assign (.const (.bool false)), none⟩]) c_sheafbook_Same_int_16) K t m := rfl

@[go_sem] theorem some18 : (E.fn 18).isSome = true := by kernel_rfl
set_option maxRecDepth 100000 in
theorem fn_sheafbook_Same_int : FnIs E 18 26 [.tmp 4] c_sheafbook_Same_int_17 := ⟨by kernel_rfl, by kernel_rfl⟩

/-! sheaf/sheafkeep.Rows -/
abbrev F_sheafkeep_Rows : FuncId := 22
def c_sheafkeep_Rows_0 : MC := (.seq (.ops [⟨(some 4), .assign (.const (.bool false)), none⟩]) .ret)
@[go_sem] theorem c_sheafkeep_Rows_0_at (rd : Option Nat) (K : Post3) (t : Fr) (m : Mem) : wpM E 22 27 rd c_sheafkeep_Rows_0 K t m = wpM E 22 27 rd (.seq (.ops [⟨(some 4), .assign (.const (.bool false)), none⟩]) .ret) K t m := rfl

def c_sheafkeep_Rows_1 : MC := (.cond (.tmp 10) c_sheafkeep_Rows_0 .skip)
@[go_sem] theorem c_sheafkeep_Rows_1_at (rd : Option Nat) (K : Post3) (t : Fr) (m : Mem) : wpM E 22 27 rd c_sheafkeep_Rows_1 K t m = wpM E 22 27 rd (.cond (.tmp 10) c_sheafkeep_Rows_0 .skip) K t m := rfl

def c_sheafkeep_Rows_2 : MC := (.seq (.ops [⟨(some 6), .move (.tmp 0), none⟩,
    ⟨(some 7), .call ⟨.builtin .len, #[(.tmp 6)], #[40]⟩, none⟩,
    ⟨(some 8), .move (.tmp 1), none⟩,
    ⟨(some 9), .call ⟨.builtin .len, #[(.tmp 8)], #[40]⟩, none⟩,
    ⟨(some 10), .binOp .neq 3 (.tmp 7) (.tmp 9) 3, none⟩]) c_sheafkeep_Rows_1)
@[go_sem] theorem c_sheafkeep_Rows_2_at (rd : Option Nat) (K : Post3) (t : Fr) (m : Mem) : wpM E 22 27 rd c_sheafkeep_Rows_2 K t m = wpM E 22 27 rd (.seq (.ops [⟨(some 6), .move (.tmp 0), none⟩,
    ⟨(some 7), .call ⟨.builtin .len, #[(.tmp 6)], #[40]⟩, none⟩,
    ⟨(some 8), .move (.tmp 1), none⟩,
    ⟨(some 9), .call ⟨.builtin .len, #[(.tmp 8)], #[40]⟩, none⟩,
    ⟨(some 10), .binOp .neq 3 (.tmp 7) (.tmp 9) 3, none⟩]) c_sheafkeep_Rows_1) K t m := rfl

def c_sheafkeep_Rows_3 : MC := (.cond (.tmp 14) .skip (.exit 0))
@[go_sem] theorem c_sheafkeep_Rows_3_at (rd : Option Nat) (K : Post3) (t : Fr) (m : Mem) : wpM E 22 27 rd c_sheafkeep_Rows_3 K t m = wpM E 22 27 rd (.cond (.tmp 14) .skip (.exit 0)) K t m := rfl

def c_sheafkeep_Rows_4 : MC := (.seq (.ops [⟨(some 4), .assign (.const (.bool false)), none⟩]) .ret)
@[go_sem] theorem c_sheafkeep_Rows_4_at (rd : Option Nat) (K : Post3) (t : Fr) (m : Mem) : wpM E 22 27 rd c_sheafkeep_Rows_4 K t m = wpM E 22 27 rd (.seq (.ops [⟨(some 4), .assign (.const (.bool false)), none⟩]) .ret) K t m := rfl

def c_sheafkeep_Rows_5 : MC := (.cond (.tmp 25) c_sheafkeep_Rows_4 .skip)
@[go_sem] theorem c_sheafkeep_Rows_5_at (rd : Option Nat) (K : Post3) (t : Fr) (m : Mem) : wpM E 22 27 rd c_sheafkeep_Rows_5 K t m = wpM E 22 27 rd (.cond (.tmp 25) c_sheafkeep_Rows_4 .skip) K t m := rfl

def c_sheafkeep_Rows_6 : MC := (.seq (.ops [⟨(some 16), .move (.tmp 0), none⟩,
    ⟨(some 17), .move (.tmp 5), none⟩,
    ⟨(some 18), .indexAddr 40 (.tmp 16) (.tmp 17), none⟩,
    ⟨(some 19), .load 22 (.tmp 18), none⟩,
    ⟨(some 20), .move (.tmp 1), none⟩,
    ⟨(some 21), .move (.tmp 5), none⟩,
    ⟨(some 22), .indexAddr 40 (.tmp 20) (.tmp 21), none⟩,
    ⟨(some 23), .load 22 (.tmp 22), none⟩,
    ⟨(some 24), .call ⟨.value (.func 18), #[(.tmp 19), (.tmp 23)], #[22, 22]⟩, none⟩,
    ⟨(some 25), .unOp .not 4 (.tmp 24), none⟩]) c_sheafkeep_Rows_5)
@[go_sem] theorem c_sheafkeep_Rows_6_at (rd : Option Nat) (K : Post3) (t : Fr) (m : Mem) : wpM E 22 27 rd c_sheafkeep_Rows_6 K t m = wpM E 22 27 rd (.seq (.ops [⟨(some 16), .move (.tmp 0), none⟩,
    ⟨(some 17), .move (.tmp 5), none⟩,
    ⟨(some 18), .indexAddr 40 (.tmp 16) (.tmp 17), none⟩,
    ⟨(some 19), .load 22 (.tmp 18), none⟩,
    ⟨(some 20), .move (.tmp 1), none⟩,
    ⟨(some 21), .move (.tmp 5), none⟩,
    ⟨(some 22), .indexAddr 40 (.tmp 20) (.tmp 21), none⟩,
    ⟨(some 23), .load 22 (.tmp 22), none⟩,
    ⟨(some 24), .call ⟨.value (.func 18), #[(.tmp 19), (.tmp 23)], #[22, 22]⟩, none⟩,
    ⟨(some 25), .unOp .not 4 (.tmp 24), none⟩]) c_sheafkeep_Rows_5) K t m := rfl

def c_sheafkeep_Rows_7 : MC := (.seq (.ops [⟨(some 15), .move (.tmp 13), none⟩,
    ⟨(some 5), .assign (.tmp 15), none⟩]) c_sheafkeep_Rows_6)
@[go_sem] theorem c_sheafkeep_Rows_7_at (rd : Option Nat) (K : Post3) (t : Fr) (m : Mem) : wpM E 22 27 rd c_sheafkeep_Rows_7 K t m = wpM E 22 27 rd (.seq (.ops [⟨(some 15), .move (.tmp 13), none⟩,
    ⟨(some 5), .assign (.tmp 15), none⟩]) c_sheafkeep_Rows_6) K t m := rfl

def c_sheafkeep_Rows_8 : MC := (.block 1 c_sheafkeep_Rows_7)
@[go_sem] theorem c_sheafkeep_Rows_8_at (rd : Option Nat) (K : Post3) (t : Fr) (m : Mem) : wpM E 22 27 rd c_sheafkeep_Rows_8 K t m = wpM E 22 27 rd (.block 1 c_sheafkeep_Rows_7) K t m := rfl

def c_sheafkeep_Rows_9 : MC := (.seq c_sheafkeep_Rows_8 (.ops [⟨(some 26), .binOp .add 3 (.tmp 13) (.const (.int .i64 1)) 3, none⟩,
    ⟨(some 13), .move (.tmp 26), none⟩]))
@[go_sem] theorem c_sheafkeep_Rows_9_at (rd : Option Nat) (K : Post3) (t : Fr) (m : Mem) : wpM E 22 27 rd c_sheafkeep_Rows_9 K t m = wpM E 22 27 rd (.seq c_sheafkeep_Rows_8 (.ops [⟨(some 26), .binOp .add 3 (.tmp 13) (.const (.int .i64 1)) 3, none⟩,
    ⟨(some 13), .move (.tmp 26), none⟩])) K t m := rfl

def c_sheafkeep_Rows_10 : MC := (.seq c_sheafkeep_Rows_3 c_sheafkeep_Rows_9)
@[go_sem] theorem c_sheafkeep_Rows_10_at (rd : Option Nat) (K : Post3) (t : Fr) (m : Mem) : wpM E 22 27 rd c_sheafkeep_Rows_10 K t m = wpM E 22 27 rd (.seq c_sheafkeep_Rows_3 c_sheafkeep_Rows_9) K t m := rfl

def c_sheafkeep_Rows_11 : MC := (.seq (.ops [⟨(some 14), .binOp .lss 3 (.tmp 13) (.tmp 12) 3, none⟩]) c_sheafkeep_Rows_10)
@[go_sem] theorem c_sheafkeep_Rows_11_at (rd : Option Nat) (K : Post3) (t : Fr) (m : Mem) : wpM E 22 27 rd c_sheafkeep_Rows_11 K t m = wpM E 22 27 rd (.seq (.ops [⟨(some 14), .binOp .lss 3 (.tmp 13) (.tmp 12) 3, none⟩]) c_sheafkeep_Rows_10) K t m := rfl

def c_sheafkeep_Rows_12 : MC := (.loop c_sheafkeep_Rows_11)
theorem c_sheafkeep_Rows_12_at (rd : Option Nat) (K : Post3) (t : Fr) (m : Mem) : wpM E 22 27 rd c_sheafkeep_Rows_12 K t m = wpM E 22 27 rd (.loop c_sheafkeep_Rows_11) K t m := rfl

def c_sheafkeep_Rows_13 : MC := (.block 0 c_sheafkeep_Rows_12)
theorem c_sheafkeep_Rows_13_at (rd : Option Nat) (K : Post3) (t : Fr) (m : Mem) : wpM E 22 27 rd c_sheafkeep_Rows_13 K t m = wpM E 22 27 rd (.block 0 c_sheafkeep_Rows_12) K t m := rfl

def c_sheafkeep_Rows_14 : MC := (.seq (.ops [⟨(some 11), .move (.tmp 0), none⟩,
    ⟨(some 12), .call ⟨.builtin .len, #[(.tmp 11)], #[40]⟩, none⟩,
    ⟨(some 13), .move (.const (.int .i64 0)), none⟩]) c_sheafkeep_Rows_13)
@[go_sem] theorem c_sheafkeep_Rows_14_at (rd : Option Nat) (K : Post3) (t : Fr) (m : Mem) : wpM E 22 27 rd c_sheafkeep_Rows_14 K t m = wpM E 22 27 rd (.seq (.ops [⟨(some 11), .move (.tmp 0), none⟩,
    ⟨(some 12), .call ⟨.builtin .len, #[(.tmp 11)], #[40]⟩, none⟩,
    ⟨(some 13), .move (.const (.int .i64 0)), none⟩]) c_sheafkeep_Rows_13) K t m := rfl

def c_sheafkeep_Rows_15 : MC := (.seq (.ops [⟨(some 4), .assign (.const (.bool true)), none⟩]) .ret)
@[go_sem] theorem c_sheafkeep_Rows_15_at (rd : Option Nat) (K : Post3) (t : Fr) (m : Mem) : wpM E 22 27 rd c_sheafkeep_Rows_15 K t m = wpM E 22 27 rd (.seq (.ops [⟨(some 4), .assign (.const (.bool true)), none⟩]) .ret) K t m := rfl

def c_sheafkeep_Rows_16 : MC := (.seq c_sheafkeep_Rows_14 c_sheafkeep_Rows_15)
@[go_sem] theorem c_sheafkeep_Rows_16_at (rd : Option Nat) (K : Post3) (t : Fr) (m : Mem) : wpM E 22 27 rd c_sheafkeep_Rows_16 K t m = wpM E 22 27 rd (.seq c_sheafkeep_Rows_14 c_sheafkeep_Rows_15) K t m := rfl

def c_sheafkeep_Rows_17 : MC := (.seq c_sheafkeep_Rows_2 c_sheafkeep_Rows_16)
@[go_sem] theorem c_sheafkeep_Rows_17_at (rd : Option Nat) (K : Post3) (t : Fr) (m : Mem) : wpM E 22 27 rd c_sheafkeep_Rows_17 K t m = wpM E 22 27 rd (.seq c_sheafkeep_Rows_2 c_sheafkeep_Rows_16) K t m := rfl

def c_sheafkeep_Rows_18 : MC := (.seq (.ops [⟨(some 4), .assign (.const (.bool false)), none⟩]) c_sheafkeep_Rows_17)
@[go_sem] theorem c_sheafkeep_Rows_18_at (rd : Option Nat) (K : Post3) (t : Fr) (m : Mem) : wpM E 22 27 rd c_sheafkeep_Rows_18 K t m = wpM E 22 27 rd (.seq (.ops [⟨(some 4), .assign (.const (.bool false)), none⟩]) c_sheafkeep_Rows_17) K t m := rfl

@[go_sem] theorem some22 : (E.fn 22).isSome = true := by kernel_rfl
set_option maxRecDepth 100000 in
theorem fn_sheafkeep_Rows : FnIs E 22 27 [.tmp 4] c_sheafkeep_Rows_18 := ⟨by kernel_rfl, by kernel_rfl⟩

/-! sheaf/sheafbook.Within -/
abbrev F_sheafbook_Within : FuncId := 25
def c_sheafbook_Within_0 : MC := (.cond (.tmp 14) (.ops [⟨(some 15), .move (.tmp 0), none⟩,
    ⟨(some 16), .move (.tmp 2), none⟩,
    ⟨(some 17), .binOp .add 3 (.tmp 15) (.tmp 16) 3, none⟩,
    ⟨(some 18), .move (.tmp 1), none⟩,
    ⟨(some 19), .binOp .sub 3 (.tmp 17) (.tmp 18) 3, none⟩,
    ⟨(some 20), .binOp .add 3 (.tmp 19) (.const (.int .i64 1)) 3, none⟩,
    ⟨(some 0), .assign (.tmp 20), none⟩]) .skip)
@[go_sem] theorem c_sheafbook_Within_0_at (rd : Option Nat) (K : Post3) (t : Fr) (m : Mem) : wpM E 25 24 rd c_sheafbook_Within_0 K t m = wpM E 25 24 rd (.cond (.tmp 14) (.ops [⟨(some 15), .move (.tmp 0), none⟩,
    ⟨(some 16), .move (.tmp 2), none⟩,
    ⟨(some 17), .binOp .add 3 (.tmp 15) (.tmp 16) 3, none⟩,
    ⟨(some 18), .move (.tmp 1), none⟩,
    ⟨(some 19), .binOp .sub 3 (.tmp 17) (.tmp 18) 3, none⟩,
    ⟨(some 20), .binOp .add 3 (.tmp 19) (.const (.int .i64 1)) 3, none⟩,
    ⟨(some 0), .assign (.tmp 20), none⟩]) .skip) K t m := rfl

def c_sheafbook_Within_1 : MC := (.seq (.ops [⟨(some 13), .move (.tmp 0), none⟩,
    ⟨(some 14), .binOp .lss 3 (.tmp 13) (.const (.int .i64 0)) 3, none⟩]) c_sheafbook_Within_0)
@[go_sem] theorem c_sheafbook_Within_1_at (rd : Option Nat) (K : Post3) (t : Fr) (m : Mem) : wpM E 25 24 rd c_sheafbook_Within_1 K t m = wpM E 25 24 rd (.seq (.ops [⟨(some 13), .move (.tmp 0), none⟩,
    ⟨(some 14), .binOp .lss 3 (.tmp 13) (.const (.int .i64 0)) 3, none⟩]) c_sheafbook_Within_0) K t m := rfl

def c_sheafbook_Within_2 : MC := (.seq (.ops [⟨(some 21), .move (.tmp 1), none⟩,
    ⟨(some 22), .move (.tmp 0), none⟩,
    ⟨(some 23), .binOp .add 3 (.tmp 21) (.tmp 22) 3, none⟩,
    ⟨(some 6), .assign (.tmp 23), none⟩]) .ret)
@[go_sem] theorem c_sheafbook_Within_2_at (rd : Option Nat) (K : Post3) (t : Fr) (m : Mem) : wpM E 25 24 rd c_sheafbook_Within_2 K t m = wpM E 25 24 rd (.seq (.ops [⟨(some 21), .move (.tmp 1), none⟩,
    ⟨(some 22), .move (.tmp 0), none⟩,
    ⟨(some 23), .binOp .add 3 (.tmp 21) (.tmp 22) 3, none⟩,
    ⟨(some 6), .assign (.tmp 23), none⟩]) .ret) K t m := rfl

def c_sheafbook_Within_3 : MC := (.seq c_sheafbook_Within_1 c_sheafbook_Within_2)
@[go_sem] theorem c_sheafbook_Within_3_at (rd : Option Nat) (K : Post3) (t : Fr) (m : Mem) : wpM E 25 24 rd c_sheafbook_Within_3 K t m = wpM E 25 24 rd (.seq c_sheafbook_Within_1 c_sheafbook_Within_2) K t m := rfl

def c_sheafbook_Within_4 : MC := (.seq (.ops [⟨(some 7), .move (.tmp 0), none⟩,
    ⟨(some 8), .move (.tmp 2), none⟩,
    ⟨(some 9), .move (.tmp 1), none⟩,
    ⟨(some 10), .binOp .sub 3 (.tmp 8) (.tmp 9) 3, none⟩,
    ⟨(some 11), .binOp .add 3 (.tmp 10) (.const (.int .i64 1)) 3, none⟩,
    ⟨(some 12), .binOp .rem 3 (.tmp 7) (.tmp 11) 3, none⟩,
    ⟨(some 0), .assign (.tmp 12), none⟩]) c_sheafbook_Within_3)
@[go_sem] theorem c_sheafbook_Within_4_at (rd : Option Nat) (K : Post3) (t : Fr) (m : Mem) : wpM E 25 24 rd c_sheafbook_Within_4 K t m = wpM E 25 24 rd (.seq (.ops [⟨(some 7), .move (.tmp 0), none⟩,
    ⟨(some 8), .move (.tmp 2), none⟩,
    ⟨(some 9), .move (.tmp 1), none⟩,
    ⟨(some 10), .binOp .sub 3 (.tmp 8) (.tmp 9) 3, none⟩,
    ⟨(some 11), .binOp .add 3 (.tmp 10) (.const (.int .i64 1)) 3, none⟩,
    ⟨(some 12), .binOp .rem 3 (.tmp 7) (.tmp 11) 3, none⟩,
    ⟨(some 0), .assign (.tmp 12), none⟩]) c_sheafbook_Within_3) K t m := rfl

def c_sheafbook_Within_5 : MC := (.seq (.ops [⟨(some 6), .assign (.const (.int .i64 0)), none⟩]) c_sheafbook_Within_4)
@[go_sem] theorem c_sheafbook_Within_5_at (rd : Option Nat) (K : Post3) (t : Fr) (m : Mem) : wpM E 25 24 rd c_sheafbook_Within_5 K t m = wpM E 25 24 rd (.seq (.ops [⟨(some 6), .assign (.const (.int .i64 0)), none⟩]) c_sheafbook_Within_4) K t m := rfl

@[go_sem] theorem some25 : (E.fn 25).isSome = true := by kernel_rfl
set_option maxRecDepth 100000 in
theorem fn_sheafbook_Within : FnIs E 25 24 [.tmp 6] c_sheafbook_Within_5 := ⟨by kernel_rfl, by kernel_rfl⟩

/-! slices.Equal[[]int,int] -/
abbrev F_slices_Equal_Sint_int : FuncId := 48
def c_slices_Equal_Sint_int_0 : MC := (.seq (.ops [⟨(some 4), .assign (.const (.bool false)), none⟩]) .ret)
@[go_sem] theorem c_slices_Equal_Sint_int_0_at (rd : Option Nat) (K : Post3) (t : Fr) (m : Mem) : wpM E 48 26 rd c_slices_Equal_Sint_int_0 K t m = wpM E 48 26 rd (.seq (.ops [⟨(some 4), .assign (.const (.bool false)), none⟩]) .ret) K t m := rfl

def c_slices_Equal_Sint_int_1 : MC := (.cond (.tmp 10) c_slices_Equal_Sint_int_0 .skip)
@[go_sem] theorem c_slices_Equal_Sint_int_1_at (rd : Option Nat) (K : Post3) (t : Fr) (m : Mem) : wpM E 48 26 rd c_slices_Equal_Sint_int_1 K t m = wpM E 48 26 rd (.cond (.tmp 10) c_slices_Equal_Sint_int_0 .skip) K t m := rfl

def c_slices_Equal_Sint_int_2 : MC := (.seq (.ops [⟨(some 6), .move (.tmp 0), none⟩,
    ⟨(some 7), .call ⟨.builtin .len, #[(.tmp 6)], #[22]⟩, none⟩,
    ⟨(some 8), .move (.tmp 1), none⟩,
    ⟨(some 9), .call ⟨.builtin .len, #[(.tmp 8)], #[22]⟩, none⟩,
    ⟨(some 10), .binOp .neq 3 (.tmp 7) (.tmp 9) 3, none⟩]) c_slices_Equal_Sint_int_1)
@[go_sem] theorem c_slices_Equal_Sint_int_2_at (rd : Option Nat) (K : Post3) (t : Fr) (m : Mem) : wpM E 48 26 rd c_slices_Equal_Sint_int_2 K t m = wpM E 48 26 rd (.seq (.ops [⟨(some 6), .move (.tmp 0), none⟩,
    ⟨(some 7), .call ⟨.builtin .len, #[(.tmp 6)], #[22]⟩, none⟩,
    ⟨(some 8), .move (.tmp 1), none⟩,
    ⟨(some 9), .call ⟨.builtin .len, #[(.tmp 8)], #[22]⟩, none⟩,
    ⟨(some 10), .binOp .neq 3 (.tmp 7) (.tmp 9) 3, none⟩]) c_slices_Equal_Sint_int_1) K t m := rfl

def c_slices_Equal_Sint_int_3 : MC := (.cond (.tmp 14) .skip (.exit 0))
@[go_sem] theorem c_slices_Equal_Sint_int_3_at (rd : Option Nat) (K : Post3) (t : Fr) (m : Mem) : wpM E 48 26 rd c_slices_Equal_Sint_int_3 K t m = wpM E 48 26 rd (.cond (.tmp 14) .skip (.exit 0)) K t m := rfl

def c_slices_Equal_Sint_int_4 : MC := (.seq (.ops [⟨(some 4), .assign (.const (.bool false)), none⟩]) .ret)
@[go_sem] theorem c_slices_Equal_Sint_int_4_at (rd : Option Nat) (K : Post3) (t : Fr) (m : Mem) : wpM E 48 26 rd c_slices_Equal_Sint_int_4 K t m = wpM E 48 26 rd (.seq (.ops [⟨(some 4), .assign (.const (.bool false)), none⟩]) .ret) K t m := rfl

def c_slices_Equal_Sint_int_5 : MC := (.cond (.tmp 24) c_slices_Equal_Sint_int_4 .skip)
@[go_sem] theorem c_slices_Equal_Sint_int_5_at (rd : Option Nat) (K : Post3) (t : Fr) (m : Mem) : wpM E 48 26 rd c_slices_Equal_Sint_int_5 K t m = wpM E 48 26 rd (.cond (.tmp 24) c_slices_Equal_Sint_int_4 .skip) K t m := rfl

def c_slices_Equal_Sint_int_6 : MC := (.seq (.ops [⟨(some 16), .move (.tmp 0), none⟩,
    ⟨(some 17), .move (.tmp 5), none⟩,
    ⟨(some 18), .indexAddr 22 (.tmp 16) (.tmp 17), none⟩,
    ⟨(some 19), .load 3 (.tmp 18), none⟩,
    ⟨(some 20), .move (.tmp 1), none⟩,
    ⟨(some 21), .move (.tmp 5), none⟩,
    ⟨(some 22), .indexAddr 22 (.tmp 20) (.tmp 21), none⟩,
    ⟨(some 23), .load 3 (.tmp 22), none⟩,
    ⟨(some 24), .binOp .neq 3 (.tmp 19) (.tmp 23) 3, none⟩]) c_slices_Equal_Sint_int_5)
@[go_sem] theorem c_slices_Equal_Sint_int_6_at (rd : Option Nat) (K : Post3) (t : Fr) (m : Mem) : wpM E 48 26 rd c_slices_Equal_Sint_int_6 K t m = wpM E 48 26 rd (.seq (.ops [⟨(some 16), .move (.tmp 0), none⟩,
    ⟨(some 17), .move (.tmp 5), none⟩,
    ⟨(some 18), .indexAddr 22 (.tmp 16) (.tmp 17), none⟩,
    ⟨(some 19), .load 3 (.tmp 18), none⟩,
    ⟨(some 20), .move (.tmp 1), none⟩,
    ⟨(some 21), .move (.tmp 5), none⟩,
    ⟨(some 22), .indexAddr 22 (.tmp 20) (.tmp 21), none⟩,
    ⟨(some 23), .load 3 (.tmp 22), none⟩,
    ⟨(some 24), .binOp .neq 3 (.tmp 19) (.tmp 23) 3, none⟩]) c_slices_Equal_Sint_int_5) K t m := rfl

def c_slices_Equal_Sint_int_7 : MC := (.seq (.ops [⟨(some 15), .move (.tmp 13), none⟩,
    ⟨(some 5), .assign (.tmp 15), none⟩]) c_slices_Equal_Sint_int_6)
@[go_sem] theorem c_slices_Equal_Sint_int_7_at (rd : Option Nat) (K : Post3) (t : Fr) (m : Mem) : wpM E 48 26 rd c_slices_Equal_Sint_int_7 K t m = wpM E 48 26 rd (.seq (.ops [⟨(some 15), .move (.tmp 13), none⟩,
    ⟨(some 5), .assign (.tmp 15), none⟩]) c_slices_Equal_Sint_int_6) K t m := rfl

def c_slices_Equal_Sint_int_8 : MC := (.block 1 c_slices_Equal_Sint_int_7)
@[go_sem] theorem c_slices_Equal_Sint_int_8_at (rd : Option Nat) (K : Post3) (t : Fr) (m : Mem) : wpM E 48 26 rd c_slices_Equal_Sint_int_8 K t m = wpM E 48 26 rd (.block 1 c_slices_Equal_Sint_int_7) K t m := rfl

def c_slices_Equal_Sint_int_9 : MC := (.seq c_slices_Equal_Sint_int_8 (.ops [⟨(some 25), .binOp .add 3 (.tmp 13) (.const (.int .i64 1)) 3, none⟩,
    ⟨(some 13), .move (.tmp 25), none⟩]))
@[go_sem] theorem c_slices_Equal_Sint_int_9_at (rd : Option Nat) (K : Post3) (t : Fr) (m : Mem) : wpM E 48 26 rd c_slices_Equal_Sint_int_9 K t m = wpM E 48 26 rd (.seq c_slices_Equal_Sint_int_8 (.ops [⟨(some 25), .binOp .add 3 (.tmp 13) (.const (.int .i64 1)) 3, none⟩,
    ⟨(some 13), .move (.tmp 25), none⟩])) K t m := rfl

def c_slices_Equal_Sint_int_10 : MC := (.seq c_slices_Equal_Sint_int_3 c_slices_Equal_Sint_int_9)
@[go_sem] theorem c_slices_Equal_Sint_int_10_at (rd : Option Nat) (K : Post3) (t : Fr) (m : Mem) : wpM E 48 26 rd c_slices_Equal_Sint_int_10 K t m = wpM E 48 26 rd (.seq c_slices_Equal_Sint_int_3 c_slices_Equal_Sint_int_9) K t m := rfl

def c_slices_Equal_Sint_int_11 : MC := (.seq (.ops [⟨(some 14), .binOp .lss 3 (.tmp 13) (.tmp 12) 3, none⟩]) c_slices_Equal_Sint_int_10)
@[go_sem] theorem c_slices_Equal_Sint_int_11_at (rd : Option Nat) (K : Post3) (t : Fr) (m : Mem) : wpM E 48 26 rd c_slices_Equal_Sint_int_11 K t m = wpM E 48 26 rd (.seq (.ops [⟨(some 14), .binOp .lss 3 (.tmp 13) (.tmp 12) 3, none⟩]) c_slices_Equal_Sint_int_10) K t m := rfl

def c_slices_Equal_Sint_int_12 : MC := (.loop c_slices_Equal_Sint_int_11)
theorem c_slices_Equal_Sint_int_12_at (rd : Option Nat) (K : Post3) (t : Fr) (m : Mem) : wpM E 48 26 rd c_slices_Equal_Sint_int_12 K t m = wpM E 48 26 rd (.loop c_slices_Equal_Sint_int_11) K t m := rfl

def c_slices_Equal_Sint_int_13 : MC := (.block 0 c_slices_Equal_Sint_int_12)
theorem c_slices_Equal_Sint_int_13_at (rd : Option Nat) (K : Post3) (t : Fr) (m : Mem) : wpM E 48 26 rd c_slices_Equal_Sint_int_13 K t m = wpM E 48 26 rd (.block 0 c_slices_Equal_Sint_int_12) K t m := rfl

def c_slices_Equal_Sint_int_14 : MC := (.seq (.ops [⟨(some 11), .move (.tmp 0), none⟩,
    ⟨(some 12), .call ⟨.builtin .len, #[(.tmp 11)], #[22]⟩, none⟩,
    ⟨(some 13), .move (.const (.int .i64 0)), none⟩]) c_slices_Equal_Sint_int_13)
@[go_sem] theorem c_slices_Equal_Sint_int_14_at (rd : Option Nat) (K : Post3) (t : Fr) (m : Mem) : wpM E 48 26 rd c_slices_Equal_Sint_int_14 K t m = wpM E 48 26 rd (.seq (.ops [⟨(some 11), .move (.tmp 0), none⟩,
    ⟨(some 12), .call ⟨.builtin .len, #[(.tmp 11)], #[22]⟩, none⟩,
    ⟨(some 13), .move (.const (.int .i64 0)), none⟩]) c_slices_Equal_Sint_int_13) K t m := rfl

def c_slices_Equal_Sint_int_15 : MC := (.seq (.ops [⟨(some 4), .assign (.const (.bool true)), none⟩]) .ret)
@[go_sem] theorem c_slices_Equal_Sint_int_15_at (rd : Option Nat) (K : Post3) (t : Fr) (m : Mem) : wpM E 48 26 rd c_slices_Equal_Sint_int_15 K t m = wpM E 48 26 rd (.seq (.ops [⟨(some 4), .assign (.const (.bool true)), none⟩]) .ret) K t m := rfl

def c_slices_Equal_Sint_int_16 : MC := (.seq c_slices_Equal_Sint_int_14 c_slices_Equal_Sint_int_15)
@[go_sem] theorem c_slices_Equal_Sint_int_16_at (rd : Option Nat) (K : Post3) (t : Fr) (m : Mem) : wpM E 48 26 rd c_slices_Equal_Sint_int_16 K t m = wpM E 48 26 rd (.seq c_slices_Equal_Sint_int_14 c_slices_Equal_Sint_int_15) K t m := rfl

def c_slices_Equal_Sint_int_17 : MC := (.seq c_slices_Equal_Sint_int_2 c_slices_Equal_Sint_int_16)
@[go_sem] theorem c_slices_Equal_Sint_int_17_at (rd : Option Nat) (K : Post3) (t : Fr) (m : Mem) : wpM E 48 26 rd c_slices_Equal_Sint_int_17 K t m = wpM E 48 26 rd (.seq c_slices_Equal_Sint_int_2 c_slices_Equal_Sint_int_16) K t m := rfl

def c_slices_Equal_Sint_int_18 : MC := (.seq (.ops [⟨(some 4), .assign (.const (.bool false)), none⟩]) c_slices_Equal_Sint_int_17)
@[go_sem] theorem c_slices_Equal_Sint_int_18_at (rd : Option Nat) (K : Post3) (t : Fr) (m : Mem) : wpM E 48 26 rd c_slices_Equal_Sint_int_18 K t m = wpM E 48 26 rd (.seq (.ops [⟨(some 4), .assign (.const (.bool false)), none⟩]) c_slices_Equal_Sint_int_17) K t m := rfl

@[go_sem] theorem some48 : (E.fn 48).isSome = true := by kernel_rfl
set_option maxRecDepth 100000 in
theorem fn_slices_Equal_Sint_int : FnIs E 48 26 [.tmp 4] c_slices_Equal_Sint_int_18 := ⟨by kernel_rfl, by kernel_rfl⟩

end
end Go.Proofs.Ytjmppooebppecaa.W
