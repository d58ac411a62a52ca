/-
  Compact code, printed by a program of mine (wip/dev/AbsPrint.lean).
-/
import Derived.Test.YtmgdmldmialiiaaTypes
set_option linter.unusedVariables false
namespace Go.Proofs.Ytmgdmldmialiiaa.W
open Go.Abs

/-! sheaf/money.Scale -/
abbrev F_money_Scale : FuncId := 21
def c_money_Scale_0 : MC := (.seq (.ops [⟨(some 8), .move (.tmp 0), none⟩,
    ⟨(some 9), .move (.tmp 1), none⟩,
    ⟨(some 10), .call ⟨.value (.func 14), #[(.tmp 8), (.tmp 9)], #[3, 3]⟩, none⟩,
    ⟨(some 11), .move (.tmp 2), none⟩,
    ⟨(some 12), .call ⟨.value (.func 16), #[(.tmp 10), (.tmp 11)], #[24, 3]⟩, none⟩,
    ⟨(some 13), .extract (.tmp 12) 0, none⟩,
    ⟨(some 14), .extract (.tmp 12) 1, none⟩,
    ⟨(some 6), .assign (.tmp 13), none⟩,
    ⟨(some 7), .assign (.tmp 14), none⟩]) .ret)
@[go_sem] theorem c_money_Scale_0_at (rd : Option Nat) (K : Post3) (t : Fr) (m : Mem) : wpM E 21 15 rd c_money_Scale_0 K t m = wpM E 21 15 rd (.seq (.ops [⟨(some 8), .move (.tmp 0), none⟩,
    ⟨(some 9), .move (.tmp 1), none⟩,
    ⟨(some 10), .call ⟨.value (.func 14), #[(.tmp 8), (.tmp 9)], #[3, 3]⟩, none⟩,
    ⟨(some 11), .move (.tmp 2), none⟩,
    ⟨(some 12), .call ⟨.value (.func 16), #[(.tmp 10), (.tmp 11)], #[24, 3]⟩, none⟩,
    ⟨(some 13), .extract (.tmp 12) 0, none⟩,
    ⟨(some 14), .extract (.tmp 12) 1, none⟩,
    ⟨(some 6), .assign (.tmp 13), none⟩,
    ⟨(some 7), .assign (.tmp 14), none⟩]) .ret) K t m := rfl

def c_money_Scale_1 : MC := (.seq (.ops [⟨(some 6), .assign (.const (.int .i64 0)), none⟩,
    ⟨(some 7), .assign (.const (.bool false)), none⟩]) c_money_Scale_0)
@[go_sem] theorem c_money_Scale_1_at (rd : Option Nat) (K : Post3) (t : Fr) (m : Mem) : wpM E 21 15 rd c_money_Scale_1 K t m = wpM E 21 15 rd (.seq (.ops [⟨(some 6), .assign (.const (.int .i64 0)), none⟩,
    ⟨(some 7), .assign (.const (.bool false)), none⟩]) c_money_Scale_0) K t m := rfl

@[go_sem] theorem some21 : (E.fn 21).isSome = true := by kernel_rfl
set_option maxRecDepth 100000 in
theorem fn_money_Scale : FnIs E 21 15 [.tmp 6, .tmp 7] c_money_Scale_1 := ⟨by kernel_rfl, by kernel_rfl⟩

/-! sheaf/money.Split -/
abbrev F_money_Split : FuncId := 22
def c_money_Split_0 : MC := (.seq (.ops [⟨(some 16), .move (.tmp 6), none⟩,
    ⟨(some 17), .move (.tmp 0), none⟩,
    ⟨(some 18), .move (.tmp 6), none⟩,
    ⟨(some 19), .binOp .sub 3 (.tmp 17) (.tmp 18) 3, none⟩,
    ⟨(some 4), .assign (.tmp 16), none⟩,
    ⟨(some 5), .assign (.tmp 19), none⟩]) .ret)
@[go_sem] theorem c_money_Split_0_at (rd : Option Nat) (K : Post3) (t : Fr) (m : Mem) : wpM E 22 20 rd c_money_Split_0 K t m = wpM E 22 20 rd (.seq (.ops [⟨(some 16), .move (.tmp 6), none⟩,
    ⟨(some 17), .move (.tmp 0), none⟩,
    ⟨(some 18), .move (.tmp 6), none⟩,
    ⟨(some 19), .binOp .sub 3 (.tmp 17) (.tmp 18) 3, none⟩,
    ⟨(some 4), .assign (.tmp 16), none⟩,
    ⟨(some 5), .assign (.tmp 19), none⟩]) .ret) K t m := rfl

def c_money_Split_1 : MC := (.seq (.ops [⟨(some 9), .move (.tmp 0), none⟩,
    ⟨(some 10), .move (.tmp 1), none⟩,
    ⟨(some 11), .call ⟨.builtin .min, #[(.tmp 10), (.const (.int .i64 10000))], #[3, 3]⟩, none⟩,
    ⟨(some 12), .call ⟨.builtin .max, #[(.const (.int .i64 0)), (.tmp 11)], #[3, 3]⟩, none⟩,
    ⟨(some 13), .call ⟨.value (.func 21), #[(.tmp 9), (.tmp 12), (.const (.int .i64 10000))], #[3, 3, 3]⟩, none⟩,
    ⟨(some 8), .move (.tmp 13), none⟩,
    ⟨(some 14), .extract (.tmp 8) 0, none⟩,
    ⟨(some 15), .extract (.tmp 8) 1, none⟩,
    ⟨(some 6), .assign (.tmp 14), none⟩,
    ⟨(some 7), .assign (.tmp 15), none⟩]) c_money_Split_0)
@[go_sem] theorem c_money_Split_1_at (rd : Option Nat) (K : Post3) (t : Fr) (m : Mem) : wpM E 22 20 rd c_money_Split_1 K t m = wpM E 22 20 rd (.seq (.ops [⟨(some 9), .move (.tmp 0), none⟩,
    ⟨(some 10), .move (.tmp 1), none⟩,
    ⟨(some 11), .call ⟨.builtin .min, #[(.tmp 10), (.const (.int .i64 10000))], #[3, 3]⟩, none⟩,
    ⟨(some 12), .call ⟨.builtin .max, #[(.const (.int .i64 0)), (.tmp 11)], #[3, 3]⟩, none⟩,
    ⟨(some 13), .call ⟨.value (.func 21), #[(.tmp 9), (.tmp 12), (.const (.int .i64 10000))], #[3, 3, 3]⟩, none⟩,
    ⟨(some 8), .move (.tmp 13), none⟩,
    ⟨(some 14), .extract (.tmp 8) 0, none⟩,
    ⟨(some 15), .extract (.tmp 8) 1, none⟩,
    ⟨(some 6), .assign (.tmp 14), none⟩,
    ⟨(some 7), .assign (.tmp 15), none⟩]) c_money_Split_0) K t m := rfl

def c_money_Split_2 : MC := (.seq (.ops [⟨(some 4), .assign (.const (.int .i64 0)), none⟩,
    ⟨(some 5), .assign (.const (.int .i64 0)), none⟩]) c_money_Split_1)
@[go_sem] theorem c_money_Split_2_at (rd : Option Nat) (K : Post3) (t : Fr) (m : Mem) : wpM E 22 20 rd c_money_Split_2 K t m = wpM E 22 20 rd (.seq (.ops [⟨(some 4), .assign (.const (.int .i64 0)), none⟩,
    ⟨(some 5), .assign (.const (.int .i64 0)), none⟩]) c_money_Split_1) K t m := rfl

@[go_sem] theorem some22 : (E.fn 22).isSome = true := by kernel_rfl
set_option maxRecDepth 100000 in
theorem fn_money_Split : FnIs E 22 20 [.tmp 4, .tmp 5] c_money_Split_2 := ⟨by kernel_rfl, by kernel_rfl⟩

/-! (*sheaf/money.Sum).Add -/
abbrev F_money_Sum_Add : FuncId := 23

@[go_sem] theorem some23 : (E.fn 23).isSome = true := by kernel_rfl
set_option maxRecDepth 100000 in
theorem fn_money_Sum_Add : FnIs E 23 14 [] (.draw [(0, [], ⟨(some 4), .move (.tmp 0), none⟩),
    (1, [], ⟨(some 5), .move (.tmp 0), none⟩),
    (2, [], ⟨(some 6), .nilCheck (.tmp 5), none⟩),
    (3, [], ⟨(some 7), .fieldAddr 41 (.tmp 6) 0, none⟩),
    (4, [], ⟨(some 8), .load 24 (.tmp 7), none⟩),
    (5, [], ⟨(some 9), .move (.tmp 1), none⟩),
    (6, [4], ⟨(some 10), .call ⟨.value (.func 17), #[(.tmp 9)], #[3]⟩, none⟩),
    (7, [], ⟨(some 11), .call ⟨.value (.func 20), #[(.tmp 8), (.tmp 10)], #[24, 24]⟩, none⟩),
    (8, [], ⟨(some 12), .nilCheck (.tmp 4), none⟩),
    (9, [], ⟨(some 13), .fieldAddr 41 (.tmp 12) 0, none⟩),
    (10, [], ⟨none, .store 24 (.tmp 13) (.tmp 11), none⟩)]) := ⟨by kernel_rfl, by kernel_rfl⟩

/-! (*sheaf/money.Sum).Value -/
abbrev F_money_Sum_Value : FuncId := 24
def c_money_Sum_Value_0 : MC := (.seq (.ops [⟨(some 4), .move (.tmp 0), none⟩,
    ⟨(some 5), .nilCheck (.tmp 4), none⟩,
    ⟨(some 6), .fieldAddr 41 (.tmp 5) 0, none⟩,
    ⟨(some 7), .load 24 (.tmp 6), none⟩,
    ⟨(some 8), .call ⟨.value (.func 15), #[(.tmp 7)], #[24]⟩, none⟩,
    ⟨(some 9), .extract (.tmp 8) 0, none⟩,
    ⟨(some 10), .extract (.tmp 8) 1, none⟩,
    ⟨(some 2), .assign (.tmp 9), none⟩,
    ⟨(some 3), .assign (.tmp 10), none⟩]) .ret)
@[go_sem] theorem c_money_Sum_Value_0_at (rd : Option Nat) (K : Post3) (t : Fr) (m : Mem) : wpM E 24 11 rd c_money_Sum_Value_0 K t m = wpM E 24 11 rd (.seq (.ops [⟨(some 4), .move (.tmp 0), none⟩,
    ⟨(some 5), .nilCheck (.tmp 4), none⟩,
    ⟨(some 6), .fieldAddr 41 (.tmp 5) 0, none⟩,
    ⟨(some 7), .load 24 (.tmp 6), none⟩,
    ⟨(some 8), .call ⟨.value (.func 15), #[(.tmp 7)], #[24]⟩, none⟩,
    ⟨(some 9), .extract (.tmp 8) 0, none⟩,
    ⟨(some 10), .extract (.tmp 8) 1, none⟩,
    ⟨(some 2), .assign (.tmp 9), none⟩,
    ⟨(some 3), .assign (.tmp 10), none⟩]) .ret) K t m := rfl

def c_money_Sum_Value_1 : MC := (.seq (.ops [⟨(some 2), .assign (.const (.int .i64 0)), none⟩,
    ⟨(some 3), .assign (.const (.bool false)), none⟩]) c_money_Sum_Value_0)
@[go_sem] theorem c_money_Sum_Value_1_at (rd : Option Nat) (K : Post3) (t : Fr) (m : Mem) : wpM E 24 11 rd c_money_Sum_Value_1 K t m = wpM E 24 11 rd (.seq (.ops [⟨(some 2), .assign (.const (.int .i64 0)), none⟩,
    ⟨(some 3), .assign (.const (.bool false)), none⟩]) c_money_Sum_Value_0) K t m := rfl

@[go_sem] theorem some24 : (E.fn 24).isSome = true := by kernel_rfl
set_option maxRecDepth 100000 in
theorem fn_money_Sum_Value : FnIs E 24 11 [.tmp 2, .tmp 3] c_money_Sum_Value_1 := ⟨by kernel_rfl, by kernel_rfl⟩

/-! (*sheaf/money.Sum).Wide -/
abbrev F_money_Sum_Wide : FuncId := 30
def c_money_Sum_Wide_0 : MC := (.seq (.ops [⟨(some 3), .move (.tmp 0), none⟩,
    ⟨(some 4), .nilCheck (.tmp 3), none⟩,
    ⟨(some 5), .fieldAddr 41 (.tmp 4) 0, none⟩,
    ⟨(some 6), .load 24 (.tmp 5), none⟩,
    ⟨none, .store 24 (.tmp 2) (.tmp 6), none⟩]) .ret)
@[go_sem] theorem c_money_Sum_Wide_0_at (rd : Option Nat) (K : Post3) (t : Fr) (m : Mem) : wpM E 30 7 rd c_money_Sum_Wide_0 K t m = wpM E 30 7 rd (.seq (.ops [⟨(some 3), .move (.tmp 0), none⟩,
    ⟨(some 4), .nilCheck (.tmp 3), none⟩,
    ⟨(some 5), .fieldAddr 41 (.tmp 4) 0, none⟩,
    ⟨(some 6), .load 24 (.tmp 5), none⟩,
    ⟨none, .store 24 (.tmp 2) (.tmp 6), none⟩]) .ret) K t m := rfl

def c_money_Sum_Wide_1 : MC := (.seq (.ops [⟨(some 2), .alloc 24, none⟩]) c_money_Sum_Wide_0)
@[go_sem] theorem c_money_Sum_Wide_1_at (rd : Option Nat) (K : Post3) (t : Fr) (m : Mem) : wpM E 30 7 rd c_money_Sum_Wide_1 K t m = wpM E 30 7 rd (.seq (.ops [⟨(some 2), .alloc 24, none⟩]) c_money_Sum_Wide_0) K t m := rfl

@[go_sem] theorem some30 : (E.fn 30).isSome = true := by kernel_rfl
set_option maxRecDepth 100000 in
theorem fn_money_Sum_Wide : FnIs E 30 7 [.cell 2 24] c_money_Sum_Wide_1 := ⟨by kernel_rfl, by kernel_rfl⟩

/-! (*sheaf/money.Sum).Join -/
abbrev F_money_Sum_Join : FuncId := 31
def c_money_Sum_Join_0 : MC := (.seq (.ops [⟨(some 3), .box 41 (.tmp 1), none⟩]) (.ops [⟨(some 4), .move (.tmp 0), none⟩,
    ⟨(some 5), .move (.tmp 0), none⟩,
    ⟨(some 6), .nilCheck (.tmp 5), none⟩,
    ⟨(some 7), .fieldAddr 41 (.tmp 6) 0, none⟩,
    ⟨(some 8), .load 24 (.tmp 7), none⟩,
    ⟨(some 9), .fieldAddr 41 (.tmp 3) 0, none⟩,
    ⟨(some 10), .load 24 (.tmp 9), none⟩,
    ⟨(some 11), .call ⟨.value (.func 20), #[(.tmp 8), (.tmp 10)], #[24, 24]⟩, none⟩,
    ⟨(some 12), .nilCheck (.tmp 4), none⟩,
    ⟨(some 13), .fieldAddr 41 (.tmp 12) 0, none⟩,
    ⟨none, .store 24 (.tmp 13) (.tmp 11), none⟩]))
@[go_sem] theorem c_money_Sum_Join_0_at (rd : Option Nat) (K : Post3) (t : Fr) (m : Mem) : wpM E 31 14 rd c_money_Sum_Join_0 K t m = wpM E 31 14 rd (.seq (.ops [⟨(some 3), .box 41 (.tmp 1), none⟩]) (.ops [⟨(some 4), .move (.tmp 0), none⟩,
    ⟨(some 5), .move (.tmp 0), none⟩,
    ⟨(some 6), .nilCheck (.tmp 5), none⟩,
    ⟨(some 7), .fieldAddr 41 (.tmp 6) 0, none⟩,
    ⟨(some 8), .load 24 (.tmp 7), none⟩,
    ⟨(some 9), .fieldAddr 41 (.tmp 3) 0, none⟩,
    ⟨(some 10), .load 24 (.tmp 9), none⟩,
    ⟨(some 11), .call ⟨.value (.func 20), #[(.tmp 8), (.tmp 10)], #[24, 24]⟩, none⟩,
    ⟨(some 12), .nilCheck (.tmp 4), none⟩,
    ⟨(some 13), .fieldAddr 41 (.tmp 12) 0, none⟩,
    ⟨none, .store 24 (.tmp 13) (.tmp 11), none⟩])) K t m := rfl

@[go_sem] theorem some31 : (E.fn 31).isSome = true := by kernel_rfl
set_option maxRecDepth 100000 in
theorem fn_money_Sum_Join : FnIs E 31 14 [] c_money_Sum_Join_0 := ⟨by kernel_rfl, by kernel_rfl⟩

end Go.Proofs.Ytmgdmldmialiiaa.W
