/-
  Compact code, printed by a program of mine (wip/dev/AbsPrint.lean).
-/
import Derived.Test.YthlcbacmbcmgfaaTypes
set_option linter.unusedVariables false
namespace Go.Proofs.Ythlcbacmbcmgfaa.W
open Go.Abs
noncomputable section

/-! sheaf/sheafbook.Same[int] -/
abbrev F_sheafbook_Same_int : FuncId := 17
def c_sheafbook_Same_int_0 : MC := (.seq (.ops [⟨(some 4), .assign (.const (.bool false)), none⟩]) .ret)
@[go_sem] theorem c_sheafbook_Same_int_0_at (rd : Option Nat) (K : Post3) (t : Fr) (m : Mem) : wpM E 17 26 rd c_sheafbook_Same_int_0 K t m = wpM E 17 26 rd (.seq (.ops [⟨(some 4), .assign (.const (.bool false)), none⟩]) .ret) K t m := rfl

def c_sheafbook_Same_int_1 : MC := (.cond (.tmp 10) c_sheafbook_Same_int_0 .skip)
@[go_sem] theorem c_sheafbook_Same_int_1_at (rd : Option Nat) (K : Post3) (t : Fr) (m : Mem) : wpM E 17 26 rd c_sheafbook_Same_int_1 K t m = wpM E 17 26 rd (.cond (.tmp 10) c_sheafbook_Same_int_0 .skip) K t m := rfl

def c_sheafbook_Same_int_2 : MC := (.seq (.ops [⟨(some 6), .move (.tmp 0), none⟩,
    ⟨(some 7), .call ⟨.builtin .len, #[(.tmp 6)], #[25]⟩, none⟩,
    ⟨(some 8), .move (.tmp 1), none⟩,
    ⟨(some 9), .call ⟨.builtin .len, #[(.tmp 8)], #[25]⟩, none⟩,
    ⟨(some 10), .binOp .neq 3 (.tmp 7) (.tmp 9) 3, none⟩]) c_sheafbook_Same_int_1)
@[go_sem] theorem c_sheafbook_Same_int_2_at (rd : Option Nat) (K : Post3) (t : Fr) (m : Mem) : wpM E 17 26 rd c_sheafbook_Same_int_2 K t m = wpM E 17 26 rd (.seq (.ops [⟨(some 6), .move (.tmp 0), none⟩,
    ⟨(some 7), .call ⟨.builtin .len, #[(.tmp 6)], #[25]⟩, none⟩,
    ⟨(some 8), .move (.tmp 1), none⟩,
    ⟨(some 9), .call ⟨.builtin .len, #[(.tmp 8)], #[25]⟩, none⟩,
    ⟨(some 10), .binOp .neq 3 (.tmp 7) (.tmp 9) 3, none⟩]) c_sheafbook_Same_int_1) K t m := rfl

def c_sheafbook_Same_int_3 : MC := (.cond (.tmp 14) .skip (.exit 0))
@[go_sem] theorem c_sheafbook_Same_int_3_at (rd : Option Nat) (K : Post3) (t : Fr) (m : Mem) : wpM E 17 26 rd c_sheafbook_Same_int_3 K t m = wpM E 17 26 rd (.cond (.tmp 14) .skip (.exit 0)) K t m := rfl

def c_sheafbook_Same_int_4 : MC := (.seq (.ops [⟨(some 11), .move (.tmp 5), none⟩,
    ⟨(some 12), .move (.tmp 0), none⟩,
    ⟨(some 13), .call ⟨.builtin .len, #[(.tmp 12)], #[25]⟩, none⟩,
    ⟨(some 14), .binOp .lss 3 (.tmp 11) (.tmp 13) 3, none⟩]) c_sheafbook_Same_int_3)
@[go_sem] theorem c_sheafbook_Same_int_4_at (rd : Option Nat) (K : Post3) (t : Fr) (m : Mem) : wpM E 17 26 rd c_sheafbook_Same_int_4 K t m = wpM E 17 26 rd (.seq (.ops [⟨(some 11), .move (.tmp 5), none⟩,
    ⟨(some 12), .move (.tmp 0), none⟩,
    ⟨(some 13), .call ⟨.builtin .len, #[(.tmp 12)], #[25]⟩, none⟩,
    ⟨(some 14), .binOp .lss 3 (.tmp 11) (.tmp 13) 3, none⟩]) c_sheafbook_Same_int_3) K t m := rfl

def c_sheafbook_Same_int_5 : MC := (.seq (.ops [⟨(some 4), .assign (.const (.bool false)), none⟩]) .ret)
@[go_sem] theorem c_sheafbook_Same_int_5_at (rd : Option Nat) (K : Post3) (t : Fr) (m : Mem) : wpM E 17 26 rd c_sheafbook_Same_int_5 K t m = wpM E 17 26 rd (.seq (.ops [⟨(some 4), .assign (.const (.bool false)), none⟩]) .ret) K t m := rfl

def c_sheafbook_Same_int_6 : MC := (.cond (.tmp 25) c_sheafbook_Same_int_5 .skip)
@[go_sem] theorem c_sheafbook_Same_int_6_at (rd : Option Nat) (K : Post3) (t : Fr) (m : Mem) : wpM E 17 26 rd c_sheafbook_Same_int_6 K t m = wpM E 17 26 rd (.cond (.tmp 25) c_sheafbook_Same_int_5 .skip) K t m := rfl

def c_sheafbook_Same_int_7 : MC := (.seq (.ops [⟨(some 17), .move (.tmp 0), none⟩,
    ⟨(some 18), .move (.tmp 5), none⟩,
    ⟨(some 19), .indexAddr 25 (.tmp 17) (.tmp 18), none⟩,
    ⟨(some 20), .load 3 (.tmp 19), none⟩,
    ⟨(some 21), .move (.tmp 1), none⟩,
    ⟨(some 22), .move (.tmp 5), none⟩,
    ⟨(some 23), .indexAddr 25 (.tmp 21) (.tmp 22), none⟩,
    ⟨(some 24), .load 3 (.tmp 23), none⟩,
    ⟨(some 25), .binOp .neq 3 (.tmp 20) (.tmp 24) 3, none⟩]) c_sheafbook_Same_int_6)
@[go_sem] theorem c_sheafbook_Same_int_7_at (rd : Option Nat) (K : Post3) (t : Fr) (m : Mem) : wpM E 17 26 rd c_sheafbook_Same_int_7 K t m = wpM E 17 26 rd (.seq (.ops [⟨(some 17), .move (.tmp 0), none⟩,
    ⟨(some 18), .move (.tmp 5), none⟩,
    ⟨(some 19), .indexAddr 25 (.tmp 17) (.tmp 18), none⟩,
    ⟨(some 20), .load 3 (.tmp 19), none⟩,
    ⟨(some 21), .move (.tmp 1), none⟩,
    ⟨(some 22), .move (.tmp 5), none⟩,
    ⟨(some 23), .indexAddr 25 (.tmp 21) (.tmp 22), none⟩,
    ⟨(some 24), .load 3 (.tmp 23), none⟩,
    ⟨(some 25), .binOp .neq 3 (.tmp 20) (.tmp 24) 3, none⟩]) c_sheafbook_Same_int_6) K t m := rfl

def c_sheafbook_Same_int_8 : MC := (.block 1 c_sheafbook_Same_int_7)
@[go_sem] theorem c_sheafbook_Same_int_8_at (rd : Option Nat) (K : Post3) (t : Fr) (m : Mem) : wpM E 17 26 rd c_sheafbook_Same_int_8 K t m = wpM E 17 26 rd (.block 1 c_sheafbook_Same_int_7) K t m := rfl

def c_sheafbook_Same_int_9 : MC := (.seq c_sheafbook_Same_int_8 (.ops [⟨(some 15), .move (.tmp 5), none⟩,
    ⟨(some 16), .binOp .add 3 (.tmp 15) (.const (.int .i64 1)) 3, none⟩,
    ⟨(some 5), .assign (.tmp 16), none⟩]))
@[go_sem] theorem c_sheafbook_Same_int_9_at (rd : Option Nat) (K : Post3) (t : Fr) (m : Mem) : wpM E 17 26 rd c_sheafbook_Same_int_9 K t m = wpM E 17 26 rd (.seq c_sheafbook_Same_int_8 (.ops [⟨(some 15), .move (.tmp 5), none⟩,
    ⟨(some 16), .binOp .add 3 (.tmp 15) (.const (.int .i64 1)) 3, none⟩,
    ⟨(some 5), .assign (.tmp 16), none⟩])) K t m := rfl

def c_sheafbook_Same_int_10 : MC := (.seq c_sheafbook_Same_int_4 c_sheafbook_Same_int_9)
@[go_sem] theorem c_sheafbook_Same_int_10_at (rd : Option Nat) (K : Post3) (t : Fr) (m : Mem) : wpM E 17 26 rd c_sheafbook_Same_int_10 K t m = wpM E 17 26 rd (.seq c_sheafbook_Same_int_4 c_sheafbook_Same_int_9) K t m := rfl

def c_sheafbook_Same_int_11 : MC := (.loop c_sheafbook_Same_int_10)
theorem c_sheafbook_Same_int_11_at (rd : Option Nat) (K : Post3) (t : Fr) (m : Mem) : wpM E 17 26 rd c_sheafbook_Same_int_11 K t m = wpM E 17 26 rd (.loop c_sheafbook_Same_int_10) K t m := rfl

def c_sheafbook_Same_int_12 : MC := (.block 0 c_sheafbook_Same_int_11)
theorem c_sheafbook_Same_int_12_at (rd : Option Nat) (K : Post3) (t : Fr) (m : Mem) : wpM E 17 26 rd c_sheafbook_Same_int_12 K t m = wpM E 17 26 rd (.block 0 c_sheafbook_Same_int_11) K t m := rfl

def c_sheafbook_Same_int_13 : MC := (.seq (.ops [⟨(some 5), .assign (.const (.int .i64 0)), none⟩]) c_sheafbook_Same_int_12)
@[go_sem] theorem c_sheafbook_Same_int_13_at (rd : Option Nat) (K : Post3) (t : Fr) (m : Mem) : wpM E 17 26 rd c_sheafbook_Same_int_13 K t m = wpM E 17 26 rd (.seq (.ops [⟨(some 5), .assign (.const (.int .i64 0)), none⟩]) c_sheafbook_Same_int_12) K t m := rfl

def c_sheafbook_Same_int_14 : MC := (.seq (.ops [⟨(some 4), .assign (.const (.bool true)), none⟩]) .ret)
@[go_sem] theorem c_sheafbook_Same_int_14_at (rd : Option Nat) (K : Post3) (t : Fr) (m : Mem) : wpM E 17 26 rd c_sheafbook_Same_int_14 K t m = wpM E 17 26 rd (.seq (.ops [⟨(some 4), .assign (.const (.bool true)), none⟩]) .ret) K t m := rfl

def c_sheafbook_Same_int_15 : MC := (.seq c_sheafbook_Same_int_13 c_sheafbook_Same_int_14)
@[go_sem] theorem c_sheafbook_Same_int_15_at (rd : Option Nat) (K : Post3) (t : Fr) (m : Mem) : wpM E 17 26 rd c_sheafbook_Same_int_15 K t m = wpM E 17 26 rd (.seq c_sheafbook_Same_int_13 c_sheafbook_Same_int_14) K t m := rfl

def c_sheafbook_Same_int_16 : MC := (.seq c_sheafbook_Same_int_2 c_sheafbook_Same_int_15)
@[go_sem] theorem c_sheafbook_Same_int_16_at (rd : Option Nat) (K : Post3) (t : Fr) (m : Mem) : wpM E 17 26 rd c_sheafbook_Same_int_16 K t m = wpM E 17 26 rd (.seq c_sheafbook_Same_int_2 c_sheafbook_Same_int_15) K t m := rfl

def c_sheafbook_Same_int_17 : MC := (.seq (.ops [⟨(some 4), .assign (.const (.bool false)), none⟩]) c_sheafbook_Same_int_16)
@[go_sem] theorem c_sheafbook_Same_int_17_at (rd : Option Nat) (K : Post3) (t : Fr) (m : Mem) : wpM E 17 26 rd c_sheafbook_Same_int_17 K t m = wpM E 17 26 rd (.seq (.ops [⟨(some 4), .assign (.const (.bool false)), none⟩]) c_sheafbook_Same_int_16) K t m := rfl

@[go_sem] theorem some17 : (E.fn 17).isSome = true := by kernel_rfl
set_option maxRecDepth 100000 in
theorem fn_sheafbook_Same_int : FnIs E 17 26 [.tmp 4] c_sheafbook_Same_int_17 := ⟨by kernel_rfl, by kernel_rfl⟩

/-! sheaf/sheafbook.Within -/
abbrev F_sheafbook_Within : FuncId := 29
def c_sheafbook_Within_0 : MC := (.cond (.tmp 14) (.ops [⟨(some 15), .move (.tmp 0), none⟩,
    ⟨(some 16), .move (.tmp 2), none⟩,
    ⟨(some 17), .binOp .add 3 (.tmp 15) (.tmp 16) 3, none⟩,
    ⟨(some 18), .move (.tmp 1), none⟩,
    ⟨(some 19), .binOp .sub 3 (.tmp 17) (.tmp 18) 3, none⟩,
    ⟨(some 20), .binOp .add 3 (.tmp 19) (.const (.int .i64 1)) 3, none⟩,
    ⟨(some 0), .assign (.tmp 20), none⟩]) .skip)
@[go_sem] theorem c_sheafbook_Within_0_at (rd : Option Nat) (K : Post3) (t : Fr) (m : Mem) : wpM E 29 24 rd c_sheafbook_Within_0 K t m = wpM E 29 24 rd (.cond (.tmp 14) (.ops [⟨(some 15), .move (.tmp 0), none⟩,
    ⟨(some 16), .move (.tmp 2), none⟩,
    ⟨(some 17), .binOp .add 3 (.tmp 15) (.tmp 16) 3, none⟩,
    ⟨(some 18), .move (.tmp 1), none⟩,
    ⟨(some 19), .binOp .sub 3 (.tmp 17) (.tmp 18) 3, none⟩,
    ⟨(some 20), .binOp .add 3 (.tmp 19) (.const (.int .i64 1)) 3, none⟩,
    ⟨(some 0), .assign (.tmp 20), none⟩]) .skip) K t m := rfl

def c_sheafbook_Within_1 : MC := (.seq (.ops [⟨(some 13), .move (.tmp 0), none⟩,
    ⟨(some 14), .binOp .lss 3 (.tmp 13) (.const (.int .i64 0)) 3, none⟩]) c_sheafbook_Within_0)
@[go_sem] theorem c_sheafbook_Within_1_at (rd : Option Nat) (K : Post3) (t : Fr) (m : Mem) : wpM E 29 24 rd c_sheafbook_Within_1 K t m = wpM E 29 24 rd (.seq (.ops [⟨(some 13), .move (.tmp 0), none⟩,
    ⟨(some 14), .binOp .lss 3 (.tmp 13) (.const (.int .i64 0)) 3, none⟩]) c_sheafbook_Within_0) K t m := rfl

def c_sheafbook_Within_2 : MC := (.seq (.ops [⟨(some 21), .move (.tmp 1), none⟩,
    ⟨(some 22), .move (.tmp 0), none⟩,
    ⟨(some 23), .binOp .add 3 (.tmp 21) (.tmp 22) 3, none⟩,
    ⟨(some 6), .assign (.tmp 23), none⟩]) .ret)
@[go_sem] theorem c_sheafbook_Within_2_at (rd : Option Nat) (K : Post3) (t : Fr) (m : Mem) : wpM E 29 24 rd c_sheafbook_Within_2 K t m = wpM E 29 24 rd (.seq (.ops [⟨(some 21), .move (.tmp 1), none⟩,
    ⟨(some 22), .move (.tmp 0), none⟩,
    ⟨(some 23), .binOp .add 3 (.tmp 21) (.tmp 22) 3, none⟩,
    ⟨(some 6), .assign (.tmp 23), none⟩]) .ret) K t m := rfl

def c_sheafbook_Within_3 : MC := (.seq c_sheafbook_Within_1 c_sheafbook_Within_2)
@[go_sem] theorem c_sheafbook_Within_3_at (rd : Option Nat) (K : Post3) (t : Fr) (m : Mem) : wpM E 29 24 rd c_sheafbook_Within_3 K t m = wpM E 29 24 rd (.seq c_sheafbook_Within_1 c_sheafbook_Within_2) K t m := rfl

def c_sheafbook_Within_4 : MC := (.seq (.ops [⟨(some 7), .move (.tmp 0), none⟩,
    ⟨(some 8), .move (.tmp 2), none⟩,
    ⟨(some 9), .move (.tmp 1), none⟩,
    ⟨(some 10), .binOp .sub 3 (.tmp 8) (.tmp 9) 3, none⟩,
    ⟨(some 11), .binOp .add 3 (.tmp 10) (.const (.int .i64 1)) 3, none⟩,
    ⟨(some 12), .binOp .rem 3 (.tmp 7) (.tmp 11) 3, none⟩,
    ⟨(some 0), .assign (.tmp 12), none⟩]) c_sheafbook_Within_3)
@[go_sem] theorem c_sheafbook_Within_4_at (rd : Option Nat) (K : Post3) (t : Fr) (m : Mem) : wpM E 29 24 rd c_sheafbook_Within_4 K t m = wpM E 29 24 rd (.seq (.ops [⟨(some 7), .move (.tmp 0), none⟩,
    ⟨(some 8), .move (.tmp 2), none⟩,
    ⟨(some 9), .move (.tmp 1), none⟩,
    ⟨(some 10), .binOp .sub 3 (.tmp 8) (.tmp 9) 3, none⟩,
    ⟨(some 11), .binOp .add 3 (.tmp 10) (.const (.int .i64 1)) 3, none⟩,
    ⟨(some 12), .binOp .rem 3 (.tmp 7) (.tmp 11) 3, none⟩,
    ⟨(some 0), .assign (.tmp 12), none⟩]) c_sheafbook_Within_3) K t m := rfl

def c_sheafbook_Within_5 : MC := (.seq (.ops [⟨(some 6), .assign (.const (.int .i64 0)), none⟩]) c_sheafbook_Within_4)
@[go_sem] theorem c_sheafbook_Within_5_at (rd : Option Nat) (K : Post3) (t : Fr) (m : Mem) : wpM E 29 24 rd c_sheafbook_Within_5 K t m = wpM E 29 24 rd (.seq (.ops [⟨(some 6), .assign (.const (.int .i64 0)), none⟩]) c_sheafbook_Within_4) K t m := rfl

@[go_sem] theorem some29 : (E.fn 29).isSome = true := by kernel_rfl
set_option maxRecDepth 100000 in
theorem fn_sheafbook_Within : FnIs E 29 24 [.tmp 6] c_sheafbook_Within_5 := ⟨by kernel_rfl, by kernel_rfl⟩

/-! sheaf/sheafbook.Same[sheaf/runs.Item[int]] -/
abbrev F_sheafbook_Same_runs_Item_int : FuncId := 31
def c_sheafbook_Same_runs_Item_int_0 : MC := (.seq (.ops [⟨(some 4), .assign (.const (.bool false)), none⟩]) .ret)
@[go_sem] theorem c_sheafbook_Same_runs_Item_int_0_at (rd : Option Nat) (K : Post3) (t : Fr) (m : Mem) : wpM E 31 26 rd c_sheafbook_Same_runs_Item_int_0 K t m = wpM E 31 26 rd (.seq (.ops [⟨(some 4), .assign (.const (.bool false)), none⟩]) .ret) K t m := rfl

def c_sheafbook_Same_runs_Item_int_1 : MC := (.cond (.tmp 10) c_sheafbook_Same_runs_Item_int_0 .skip)
@[go_sem] theorem c_sheafbook_Same_runs_Item_int_1_at (rd : Option Nat) (K : Post3) (t : Fr) (m : Mem) : wpM E 31 26 rd c_sheafbook_Same_runs_Item_int_1 K t m = wpM E 31 26 rd (.cond (.tmp 10) c_sheafbook_Same_runs_Item_int_0 .skip) K t m := rfl

def c_sheafbook_Same_runs_Item_int_2 : MC := (.seq (.ops [⟨(some 6), .move (.tmp 0), none⟩,
    ⟨(some 7), .call ⟨.builtin .len, #[(.tmp 6)], #[60]⟩, none⟩,
    ⟨(some 8), .move (.tmp 1), none⟩,
    ⟨(some 9), .call ⟨.builtin .len, #[(.tmp 8)], #[60]⟩, none⟩,
    ⟨(some 10), .binOp .neq 3 (.tmp 7) (.tmp 9) 3, none⟩]) c_sheafbook_Same_runs_Item_int_1)
@[go_sem] theorem c_sheafbook_Same_runs_Item_int_2_at (rd : Option Nat) (K : Post3) (t : Fr) (m : Mem) : wpM E 31 26 rd c_sheafbook_Same_runs_Item_int_2 K t m = wpM E 31 26 rd (.seq (.ops [⟨(some 6), .move (.tmp 0), none⟩,
    ⟨(some 7), .call ⟨.builtin .len, #[(.tmp 6)], #[60]⟩, none⟩,
    ⟨(some 8), .move (.tmp 1), none⟩,
    ⟨(some 9), .call ⟨.builtin .len, #[(.tmp 8)], #[60]⟩, none⟩,
    ⟨(some 10), .binOp .neq 3 (.tmp 7) (.tmp 9) 3, none⟩]) c_sheafbook_Same_runs_Item_int_1) K t m := rfl

def c_sheafbook_Same_runs_Item_int_3 : MC := (.cond (.tmp 14) .skip (.exit 0))
@[go_sem] theorem c_sheafbook_Same_runs_Item_int_3_at (rd : Option Nat) (K : Post3) (t : Fr) (m : Mem) : wpM E 31 26 rd c_sheafbook_Same_runs_Item_int_3 K t m = wpM E 31 26 rd (.cond (.tmp 14) .skip (.exit 0)) K t m := rfl

def c_sheafbook_Same_runs_Item_int_4 : MC := (.seq (.ops [⟨(some 11), .move (.tmp 5), none⟩,
    ⟨(some 12), .move (.tmp 0), none⟩,
    ⟨(some 13), .call ⟨.builtin .len, #[(.tmp 12)], #[60]⟩, none⟩,
    ⟨(some 14), .binOp .lss 3 (.tmp 11) (.tmp 13) 3, none⟩]) c_sheafbook_Same_runs_Item_int_3)
@[go_sem] theorem c_sheafbook_Same_runs_Item_int_4_at (rd : Option Nat) (K : Post3) (t : Fr) (m : Mem) : wpM E 31 26 rd c_sheafbook_Same_runs_Item_int_4 K t m = wpM E 31 26 rd (.seq (.ops [⟨(some 11), .move (.tmp 5), none⟩,
    ⟨(some 12), .move (.tmp 0), none⟩,
    ⟨(some 13), .call ⟨.builtin .len, #[(.tmp 12)], #[60]⟩, none⟩,
    ⟨(some 14), .binOp .lss 3 (.tmp 11) (.tmp 13) 3, none⟩]) c_sheafbook_Same_runs_Item_int_3) K t m := rfl

def c_sheafbook_Same_runs_Item_int_5 : MC := (.seq (.ops [⟨(some 4), .assign (.const (.bool false)), none⟩]) .ret)
@[go_sem] theorem c_sheafbook_Same_runs_Item_int_5_at (rd : Option Nat) (K : Post3) (t : Fr) (m : Mem) : wpM E 31 26 rd c_sheafbook_Same_runs_Item_int_5 K t m = wpM E 31 26 rd (.seq (.ops [⟨(some 4), .assign (.const (.bool false)), none⟩]) .ret) K t m := rfl

def c_sheafbook_Same_runs_Item_int_6 : MC := (.cond (.tmp 25) c_sheafbook_Same_runs_Item_int_5 .skip)
@[go_sem] theorem c_sheafbook_Same_runs_Item_int_6_at (rd : Option Nat) (K : Post3) (t : Fr) (m : Mem) : wpM E 31 26 rd c_sheafbook_Same_runs_Item_int_6 K t m = wpM E 31 26 rd (.cond (.tmp 25) c_sheafbook_Same_runs_Item_int_5 .skip) K t m := rfl

def c_sheafbook_Same_runs_Item_int_7 : MC := (.seq (.ops [⟨(some 17), .move (.tmp 0), none⟩,
    ⟨(some 18), .move (.tmp 5), none⟩,
    ⟨(some 19), .indexAddr 60 (.tmp 17) (.tmp 18), none⟩,
    ⟨(some 20), .load 64 (.tmp 19), none⟩,
    ⟨(some 21), .move (.tmp 1), none⟩,
    ⟨(some 22), .move (.tmp 5), none⟩,
    ⟨(some 23), .indexAddr 60 (.tmp 21) (.tmp 22), none⟩,
    ⟨(some 24), .load 64 (.tmp 23), none⟩,
    ⟨(some 25), .binOp .neq 64 (.tmp 20) (.tmp 24) 64, none⟩]) c_sheafbook_Same_runs_Item_int_6)
@[go_sem] theorem c_sheafbook_Same_runs_Item_int_7_at (rd : Option Nat) (K : Post3) (t : Fr) (m : Mem) : wpM E 31 26 rd c_sheafbook_Same_runs_Item_int_7 K t m = wpM E 31 26 rd (.seq (.ops [⟨(some 17), .move (.tmp 0), none⟩,
    ⟨(some 18), .move (.tmp 5), none⟩,
    ⟨(some 19), .indexAddr 60 (.tmp 17) (.tmp 18), none⟩,
    ⟨(some 20), .load 64 (.tmp 19), none⟩,
    ⟨(some 21), .move (.tmp 1), none⟩,
    ⟨(some 22), .move (.tmp 5), none⟩,
    ⟨(some 23), .indexAddr 60 (.tmp 21) (.tmp 22), none⟩,
    ⟨(some 24), .load 64 (.tmp 23), none⟩,
    ⟨(some 25), .binOp .neq 64 (.tmp 20) (.tmp 24) 64, none⟩]) c_sheafbook_Same_runs_Item_int_6) K t m := rfl

def c_sheafbook_Same_runs_Item_int_8 : MC := (.block 1 c_sheafbook_Same_runs_Item_int_7)
@[go_sem] theorem c_sheafbook_Same_runs_Item_int_8_at (rd : Option Nat) (K : Post3) (t : Fr) (m : Mem) : wpM E 31 26 rd c_sheafbook_Same_runs_Item_int_8 K t m = wpM E 31 26 rd (.block 1 c_sheafbook_Same_runs_Item_int_7) K t m := rfl

def c_sheafbook_Same_runs_Item_int_9 : MC := (.seq c_sheafbook_Same_runs_Item_int_8 (.ops [⟨(some 15), .move (.tmp 5), none⟩,
    ⟨(some 16), .binOp .add 3 (.tmp 15) (.const (.int .i64 1)) 3, none⟩,
    ⟨(some 5), .assign (.tmp 16), none⟩]))
@[go_sem] theorem c_sheafbook_Same_runs_Item_int_9_at (rd : Option Nat) (K : Post3) (t : Fr) (m : Mem) : wpM E 31 26 rd c_sheafbook_Same_runs_Item_int_9 K t m = wpM E 31 26 rd (.seq c_sheafbook_Same_runs_Item_int_8 (.ops [⟨(some 15), .move (.tmp 5), none⟩,
    ⟨(some 16), .binOp .add 3 (.tmp 15) (.const (.int .i64 1)) 3, none⟩,
    ⟨(some 5), .assign (.tmp 16), none⟩])) K t m := rfl

def c_sheafbook_Same_runs_Item_int_10 : MC := (.seq c_sheafbook_Same_runs_Item_int_4 c_sheafbook_Same_runs_Item_int_9)
@[go_sem] theorem c_sheafbook_Same_runs_Item_int_10_at (rd : Option Nat) (K : Post3) (t : Fr) (m : Mem) : wpM E 31 26 rd c_sheafbook_Same_runs_Item_int_10 K t m = wpM E 31 26 rd (.seq c_sheafbook_Same_runs_Item_int_4 c_sheafbook_Same_runs_Item_int_9) K t m := rfl

def c_sheafbook_Same_runs_Item_int_11 : MC := (.loop c_sheafbook_Same_runs_Item_int_10)
theorem c_sheafbook_Same_runs_Item_int_11_at (rd : Option Nat) (K : Post3) (t : Fr) (m : Mem) : wpM E 31 26 rd c_sheafbook_Same_runs_Item_int_11 K t m = wpM E 31 26 rd (.loop c_sheafbook_Same_runs_Item_int_10) K t m := rfl

def c_sheafbook_Same_runs_Item_int_12 : MC := (.block 0 c_sheafbook_Same_runs_Item_int_11)
theorem c_sheafbook_Same_runs_Item_int_12_at (rd : Option Nat) (K : Post3) (t : Fr) (m : Mem) : wpM E 31 26 rd c_sheafbook_Same_runs_Item_int_12 K t m = wpM E 31 26 rd (.block 0 c_sheafbook_Same_runs_Item_int_11) K t m := rfl

def c_sheafbook_Same_runs_Item_int_13 : MC := (.seq (.ops [⟨(some 5), .assign (.const (.int .i64 0)), none⟩]) c_sheafbook_Same_runs_Item_int_12)
@[go_sem] theorem c_sheafbook_Same_runs_Item_int_13_at (rd : Option Nat) (K : Post3) (t : Fr) (m : Mem) : wpM E 31 26 rd c_sheafbook_Same_runs_Item_int_13 K t m = wpM E 31 26 rd (.seq (.ops [⟨(some 5), .assign (.const (.int .i64 0)), none⟩]) c_sheafbook_Same_runs_Item_int_12) K t m := rfl

def c_sheafbook_Same_runs_Item_int_14 : MC := (.seq (.ops [⟨(some 4), .assign (.const (.bool true)), none⟩]) .ret)
@[go_sem] theorem c_sheafbook_Same_runs_Item_int_14_at (rd : Option Nat) (K : Post3) (t : Fr) (m : Mem) : wpM E 31 26 rd c_sheafbook_Same_runs_Item_int_14 K t m = wpM E 31 26 rd (.seq (.ops [⟨(some 4), .assign (.const (.bool true)), none⟩]) .ret) K t m := rfl

def c_sheafbook_Same_runs_Item_int_15 : MC := (.seq c_sheafbook_Same_runs_Item_int_13 c_sheafbook_Same_runs_Item_int_14)
@[go_sem] theorem c_sheafbook_Same_runs_Item_int_15_at (rd : Option Nat) (K : Post3) (t : Fr) (m : Mem) : wpM E 31 26 rd c_sheafbook_Same_runs_Item_int_15 K t m = wpM E 31 26 rd (.seq c_sheafbook_Same_runs_Item_int_13 c_sheafbook_Same_runs_Item_int_14) K t m := rfl

def c_sheafbook_Same_runs_Item_int_16 : MC := (.seq c_sheafbook_Same_runs_Item_int_2 c_sheafbook_Same_runs_Item_int_15)
@[go_sem] theorem c_sheafbook_Same_runs_Item_int_16_at (rd : Option Nat) (K : Post3) (t : Fr) (m : Mem) : wpM E 31 26 rd c_sheafbook_Same_runs_Item_int_16 K t m = wpM E 31 26 rd (.seq c_sheafbook_Same_runs_Item_int_2 c_sheafbook_Same_runs_Item_int_15) K t m := rfl

def c_sheafbook_Same_runs_Item_int_17 : MC := (.seq (.ops [⟨(some 4), .assign (.const (.bool false)), none⟩]) c_sheafbook_Same_runs_Item_int_16)
@[go_sem] theorem c_sheafbook_Same_runs_Item_int_17_at (rd : Option Nat) (K : Post3) (t : Fr) (m : Mem) : wpM E 31 26 rd c_sheafbook_Same_runs_Item_int_17 K t m = wpM E 31 26 rd (.seq (.ops [⟨(some 4), .assign (.const (.bool false)), none⟩]) c_sheafbook_Same_runs_Item_int_16) K t m := rfl

@[go_sem] theorem some31 : (E.fn 31).isSome = true := by kernel_rfl
set_option maxRecDepth 100000 in
theorem fn_sheafbook_Same_runs_Item_int : FnIs E 31 26 [.tmp 4] c_sheafbook_Same_runs_Item_int_17 := ⟨by kernel_rfl, by kernel_rfl⟩

end
end Go.Proofs.Ythlcbacmbcmgfaa.W
