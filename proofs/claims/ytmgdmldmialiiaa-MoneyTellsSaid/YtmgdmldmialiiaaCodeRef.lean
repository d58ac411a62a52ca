/-
  Compact code, printed by a program of mine (wip/dev/AbsPrint.lean).
-/
import Derived.Test.YtmgdmldmialiiaaTypes
set_option linter.unusedVariables false
namespace Go.Proofs.Ytmgdmldmialiiaa.W
open Go.Abs

/-! sheaf/sheafref1.Scale -/
abbrev F_sheafref1_Scale : FuncId := 26
def c_sheafref1_Scale_0 : MC := (.seq (.ops [⟨(some 8), .move (.tmp 0), none⟩,
    ⟨(some 9), .move (.tmp 1), none⟩,
    ⟨(some 10), .call ⟨.value (.func 33), #[(.tmp 8), (.tmp 9)], #[3, 3]⟩, none⟩,
    ⟨(some 11), .move (.tmp 2), none⟩,
    ⟨(some 12), .call ⟨.value (.func 34), #[(.tmp 10), (.tmp 11)], #[24, 3]⟩, none⟩,
    ⟨(some 13), .extract (.tmp 12) 0, none⟩,
    ⟨(some 14), .extract (.tmp 12) 1, none⟩,
    ⟨(some 6), .assign (.tmp 13), none⟩,
    ⟨(some 7), .assign (.tmp 14), none⟩]) .ret)
@[go_sem] theorem c_sheafref1_Scale_0_at (rd : Option Nat) (K : Post3) (t : Fr) (m : Mem) : wpM E 26 15 rd c_sheafref1_Scale_0 K t m = wpM E 26 15 rd (.seq (.ops [⟨(some 8), .move (.tmp 0), none⟩,
    ⟨(some 9), .move (.tmp 1), none⟩,
    ⟨(some 10), .call ⟨.value (.func 33), #[(.tmp 8), (.tmp 9)], #[3, 3]⟩, none⟩,
    ⟨(some 11), .move (.tmp 2), none⟩,
    ⟨(some 12), .call ⟨.value (.func 34), #[(.tmp 10), (.tmp 11)], #[24, 3]⟩, none⟩,
    ⟨(some 13), .extract (.tmp 12) 0, none⟩,
    ⟨(some 14), .extract (.tmp 12) 1, none⟩,
    ⟨(some 6), .assign (.tmp 13), none⟩,
    ⟨(some 7), .assign (.tmp 14), none⟩]) .ret) K t m := rfl

def c_sheafref1_Scale_1 : MC := (.seq (.ops [⟨(some 6), .assign (.const (.int .i64 0)), none⟩,
    ⟨(some 7), .assign (.const (.bool false)), none⟩]) c_sheafref1_Scale_0)
@[go_sem] theorem c_sheafref1_Scale_1_at (rd : Option Nat) (K : Post3) (t : Fr) (m : Mem) : wpM E 26 15 rd c_sheafref1_Scale_1 K t m = wpM E 26 15 rd (.seq (.ops [⟨(some 6), .assign (.const (.int .i64 0)), none⟩,
    ⟨(some 7), .assign (.const (.bool false)), none⟩]) c_sheafref1_Scale_0) K t m := rfl

@[go_sem] theorem some26 : (E.fn 26).isSome = true := by kernel_rfl
set_option maxRecDepth 100000 in
theorem fn_sheafref1_Scale : FnIs E 26 15 [.tmp 6, .tmp 7] c_sheafref1_Scale_1 := ⟨by kernel_rfl, by kernel_rfl⟩

/-! sheaf/sheafref1.Add -/
abbrev F_sheafref1_Add : FuncId := 27
def c_sheafref1_Add_0 : MC := (.cond (.tmp 20) (.ops [⟨(some 21), .move (.tmp 6), none⟩,
    ⟨(some 22), .binOp .add 2 (.tmp 21) (.const (.int .i64 1)) 2, none⟩,
    ⟨(some 6), .assign (.tmp 22), none⟩]) .skip)
@[go_sem] theorem c_sheafref1_Add_0_at (rd : Option Nat) (K : Post3) (t : Fr) (m : Mem) : wpM E 27 26 rd c_sheafref1_Add_0 K t m = wpM E 27 26 rd (.cond (.tmp 20) (.ops [⟨(some 21), .move (.tmp 6), none⟩,
    ⟨(some 22), .binOp .add 2 (.tmp 21) (.const (.int .i64 1)) 2, none⟩,
    ⟨(some 6), .assign (.tmp 22), none⟩]) .skip) K t m := rfl

def c_sheafref1_Add_1 : MC := (.seq (.ops [⟨(some 17), .move (.tmp 5), none⟩,
    ⟨(some 18), .fieldAddr 24 (.tmp 2) 1, none⟩,
    ⟨(some 19), .load 22 (.tmp 18), none⟩,
    ⟨(some 20), .binOp .lss 22 (.tmp 17) (.tmp 19) 22, none⟩]) c_sheafref1_Add_0)
@[go_sem] theorem c_sheafref1_Add_1_at (rd : Option Nat) (K : Post3) (t : Fr) (m : Mem) : wpM E 27 26 rd c_sheafref1_Add_1 K t m = wpM E 27 26 rd (.seq (.ops [⟨(some 17), .move (.tmp 5), none⟩,
    ⟨(some 18), .fieldAddr 24 (.tmp 2) 1, none⟩,
    ⟨(some 19), .load 22 (.tmp 18), none⟩,
    ⟨(some 20), .binOp .lss 22 (.tmp 17) (.tmp 19) 22, none⟩]) c_sheafref1_Add_0) K t m := rfl

def c_sheafref1_Add_2 : MC := (.seq (.ops [⟨(some 23), .move (.tmp 6), none⟩,
    ⟨(some 24), .move (.tmp 5), none⟩,
    ⟨(some 25), .build 24 #[(0, (.tmp 23)), (1, (.tmp 24))], none⟩,
    ⟨none, .store 24 (.tmp 4) (.tmp 25), none⟩]) .ret)
@[go_sem] theorem c_sheafref1_Add_2_at (rd : Option Nat) (K : Post3) (t : Fr) (m : Mem) : wpM E 27 26 rd c_sheafref1_Add_2 K t m = wpM E 27 26 rd (.seq (.ops [⟨(some 23), .move (.tmp 6), none⟩,
    ⟨(some 24), .move (.tmp 5), none⟩,
    ⟨(some 25), .build 24 #[(0, (.tmp 23)), (1, (.tmp 24))], none⟩,
    ⟨none, .store 24 (.tmp 4) (.tmp 25), none⟩]) .ret) K t m := rfl

def c_sheafref1_Add_3 : MC := (.seq c_sheafref1_Add_1 c_sheafref1_Add_2)
@[go_sem] theorem c_sheafref1_Add_3_at (rd : Option Nat) (K : Post3) (t : Fr) (m : Mem) : wpM E 27 26 rd c_sheafref1_Add_3 K t m = wpM E 27 26 rd (.seq c_sheafref1_Add_1 c_sheafref1_Add_2) K t m := rfl

def c_sheafref1_Add_4 : MC := (.seq (.ops [⟨(some 12), .fieldAddr 24 (.tmp 2) 0, none⟩,
    ⟨(some 13), .load 2 (.tmp 12), none⟩,
    ⟨(some 14), .fieldAddr 24 (.tmp 3) 0, none⟩,
    ⟨(some 15), .load 2 (.tmp 14), none⟩,
    ⟨(some 16), .binOp .add 2 (.tmp 13) (.tmp 15) 2, none⟩,
    ⟨(some 6), .assign (.tmp 16), none⟩]) c_sheafref1_Add_3)
@[go_sem] theorem c_sheafref1_Add_4_at (rd : Option Nat) (K : Post3) (t : Fr) (m : Mem) : wpM E 27 26 rd c_sheafref1_Add_4 K t m = wpM E 27 26 rd (.seq (.ops [⟨(some 12), .fieldAddr 24 (.tmp 2) 0, none⟩,
    ⟨(some 13), .load 2 (.tmp 12), none⟩,
    ⟨(some 14), .fieldAddr 24 (.tmp 3) 0, none⟩,
    ⟨(some 15), .load 2 (.tmp 14), none⟩,
    ⟨(some 16), .binOp .add 2 (.tmp 13) (.tmp 15) 2, none⟩,
    ⟨(some 6), .assign (.tmp 16), none⟩]) c_sheafref1_Add_3) K t m := rfl

def c_sheafref1_Add_5 : MC := (.seq (.ops [⟨(some 7), .fieldAddr 24 (.tmp 2) 1, none⟩,
    ⟨(some 8), .load 22 (.tmp 7), none⟩,
    ⟨(some 9), .fieldAddr 24 (.tmp 3) 1, none⟩,
    ⟨(some 10), .load 22 (.tmp 9), none⟩,
    ⟨(some 11), .binOp .add 22 (.tmp 8) (.tmp 10) 22, none⟩,
    ⟨(some 5), .assign (.tmp 11), none⟩]) c_sheafref1_Add_4)
@[go_sem] theorem c_sheafref1_Add_5_at (rd : Option Nat) (K : Post3) (t : Fr) (m : Mem) : wpM E 27 26 rd c_sheafref1_Add_5 K t m = wpM E 27 26 rd (.seq (.ops [⟨(some 7), .fieldAddr 24 (.tmp 2) 1, none⟩,
    ⟨(some 8), .load 22 (.tmp 7), none⟩,
    ⟨(some 9), .fieldAddr 24 (.tmp 3) 1, none⟩,
    ⟨(some 10), .load 22 (.tmp 9), none⟩,
    ⟨(some 11), .binOp .add 22 (.tmp 8) (.tmp 10) 22, none⟩,
    ⟨(some 5), .assign (.tmp 11), none⟩]) c_sheafref1_Add_4) K t m := rfl

def c_sheafref1_Add_6 : MC := (.seq (.ops [⟨(some 2), .box 24 (.tmp 0), none⟩,
    ⟨(some 3), .box 24 (.tmp 1), none⟩,
    ⟨(some 4), .alloc 24, none⟩]) c_sheafref1_Add_5)
@[go_sem] theorem c_sheafref1_Add_6_at (rd : Option Nat) (K : Post3) (t : Fr) (m : Mem) : wpM E 27 26 rd c_sheafref1_Add_6 K t m = wpM E 27 26 rd (.seq (.ops [⟨(some 2), .box 24 (.tmp 0), none⟩,
    ⟨(some 3), .box 24 (.tmp 1), none⟩,
    ⟨(some 4), .alloc 24, none⟩]) c_sheafref1_Add_5) K t m := rfl

@[go_sem] theorem some27 : (E.fn 27).isSome = true := by kernel_rfl
set_option maxRecDepth 100000 in
theorem fn_sheafref1_Add : FnIs E 27 26 [.cell 4 24] c_sheafref1_Add_6 := ⟨by kernel_rfl, by kernel_rfl⟩

/-! sheaf/sheafref1.Of -/
abbrev F_sheafref1_Of : FuncId := 28
def c_sheafref1_Of_0 : MC := (.seq (.ops [⟨(some 5), .move (.tmp 0), none⟩,
    ⟨(some 6), .convert 3 22 (.tmp 5), none⟩,
    ⟨(some 7), .build 24 #[(0, (.const (.int .i64 (-1)))), (1, (.tmp 6))], none⟩,
    ⟨none, .store 24 (.tmp 2) (.tmp 7), none⟩]) .ret)
@[go_sem] theorem c_sheafref1_Of_0_at (rd : Option Nat) (K : Post3) (t : Fr) (m : Mem) : wpM E 28 11 rd c_sheafref1_Of_0 K t m = wpM E 28 11 rd (.seq (.ops [⟨(some 5), .move (.tmp 0), none⟩,
    ⟨(some 6), .convert 3 22 (.tmp 5), none⟩,
    ⟨(some 7), .build 24 #[(0, (.const (.int .i64 (-1)))), (1, (.tmp 6))], none⟩,
    ⟨none, .store 24 (.tmp 2) (.tmp 7), none⟩]) .ret) K t m := rfl

def c_sheafref1_Of_1 : MC := (.cond (.tmp 4) c_sheafref1_Of_0 .skip)
@[go_sem] theorem c_sheafref1_Of_1_at (rd : Option Nat) (K : Post3) (t : Fr) (m : Mem) : wpM E 28 11 rd c_sheafref1_Of_1 K t m = wpM E 28 11 rd (.cond (.tmp 4) c_sheafref1_Of_0 .skip) K t m := rfl

def c_sheafref1_Of_2 : MC := (.seq (.ops [⟨(some 3), .move (.tmp 0), none⟩,
    ⟨(some 4), .binOp .lss 3 (.tmp 3) (.const (.int .i64 0)) 3, none⟩]) c_sheafref1_Of_1)
@[go_sem] theorem c_sheafref1_Of_2_at (rd : Option Nat) (K : Post3) (t : Fr) (m : Mem) : wpM E 28 11 rd c_sheafref1_Of_2 K t m = wpM E 28 11 rd (.seq (.ops [⟨(some 3), .move (.tmp 0), none⟩,
    ⟨(some 4), .binOp .lss 3 (.tmp 3) (.const (.int .i64 0)) 3, none⟩]) c_sheafref1_Of_1) K t m := rfl

def c_sheafref1_Of_3 : MC := (.seq (.ops [⟨(some 8), .move (.tmp 0), none⟩,
    ⟨(some 9), .convert 3 22 (.tmp 8), none⟩,
    ⟨(some 10), .build 24 #[(1, (.tmp 9))], none⟩,
    ⟨none, .store 24 (.tmp 2) (.tmp 10), none⟩]) .ret)
@[go_sem] theorem c_sheafref1_Of_3_at (rd : Option Nat) (K : Post3) (t : Fr) (m : Mem) : wpM E 28 11 rd c_sheafref1_Of_3 K t m = wpM E 28 11 rd (.seq (.ops [⟨(some 8), .move (.tmp 0), none⟩,
    ⟨(some 9), .convert 3 22 (.tmp 8), none⟩,
    ⟨(some 10), .build 24 #[(1, (.tmp 9))], none⟩,
    ⟨none, .store 24 (.tmp 2) (.tmp 10), none⟩]) .ret) K t m := rfl

def c_sheafref1_Of_4 : MC := (.seq c_sheafref1_Of_2 c_sheafref1_Of_3)
@[go_sem] theorem c_sheafref1_Of_4_at (rd : Option Nat) (K : Post3) (t : Fr) (m : Mem) : wpM E 28 11 rd c_sheafref1_Of_4 K t m = wpM E 28 11 rd (.seq c_sheafref1_Of_2 c_sheafref1_Of_3) K t m := rfl

def c_sheafref1_Of_5 : MC := (.seq (.ops [⟨(some 2), .alloc 24, none⟩]) c_sheafref1_Of_4)
@[go_sem] theorem c_sheafref1_Of_5_at (rd : Option Nat) (K : Post3) (t : Fr) (m : Mem) : wpM E 28 11 rd c_sheafref1_Of_5 K t m = wpM E 28 11 rd (.seq (.ops [⟨(some 2), .alloc 24, none⟩]) c_sheafref1_Of_4) K t m := rfl

@[go_sem] theorem some28 : (E.fn 28).isSome = true := by kernel_rfl
set_option maxRecDepth 100000 in
theorem fn_sheafref1_Of : FnIs E 28 11 [.cell 2 24] c_sheafref1_Of_5 := ⟨by kernel_rfl, by kernel_rfl⟩

/-! sheaf/sheafref1.Int -/
abbrev F_sheafref1_Int : FuncId := 29
def c_sheafref1_Int_0 : MC := (.seq (.ops [⟨(some 2), .assign (.const (.int .i64 0)), none⟩,
    ⟨(some 3), .assign (.const (.bool false)), none⟩]) .ret)
@[go_sem] theorem c_sheafref1_Int_0_at (rd : Option Nat) (K : Post3) (t : Fr) (m : Mem) : wpM E 29 13 rd c_sheafref1_Int_0 K t m = wpM E 29 13 rd (.seq (.ops [⟨(some 2), .assign (.const (.int .i64 0)), none⟩,
    ⟨(some 3), .assign (.const (.bool false)), none⟩]) .ret) K t m := rfl

def c_sheafref1_Int_1 : MC := (.cond (.tmp 11) c_sheafref1_Int_0 .skip)
@[go_sem] theorem c_sheafref1_Int_1_at (rd : Option Nat) (K : Post3) (t : Fr) (m : Mem) : wpM E 29 13 rd c_sheafref1_Int_1 K t m = wpM E 29 13 rd (.cond (.tmp 11) c_sheafref1_Int_0 .skip) K t m := rfl

def c_sheafref1_Int_2 : MC := (.seq (.draw [(0, [], ⟨(some 8), .move (.tmp 4), none⟩),
    (2, [], ⟨(some 10), .load 24 (.tmp 1), none⟩),
    (1, [2], ⟨(some 9), .call ⟨.value (.func 28), #[(.tmp 8)], #[3]⟩, none⟩),
    (3, [], ⟨(some 11), .binOp .neq 24 (.tmp 9) (.tmp 10) 24, none⟩)]) c_sheafref1_Int_1)
@[go_sem] theorem c_sheafref1_Int_2_at (rd : Option Nat) (K : Post3) (t : Fr) (m : Mem) : wpM E 29 13 rd c_sheafref1_Int_2 K t m = wpM E 29 13 rd (.seq (.draw [(0, [], ⟨(some 8), .move (.tmp 4), none⟩),
    (2, [], ⟨(some 10), .load 24 (.tmp 1), none⟩),
    (1, [2], ⟨(some 9), .call ⟨.value (.func 28), #[(.tmp 8)], #[3]⟩, none⟩),
    (3, [], ⟨(some 11), .binOp .neq 24 (.tmp 9) (.tmp 10) 24, none⟩)]) c_sheafref1_Int_1) K t m := rfl

def c_sheafref1_Int_3 : MC := (.seq (.ops [⟨(some 12), .move (.tmp 4), none⟩,
    ⟨(some 2), .assign (.tmp 12), none⟩,
    ⟨(some 3), .assign (.const (.bool true)), none⟩]) .ret)
@[go_sem] theorem c_sheafref1_Int_3_at (rd : Option Nat) (K : Post3) (t : Fr) (m : Mem) : wpM E 29 13 rd c_sheafref1_Int_3 K t m = wpM E 29 13 rd (.seq (.ops [⟨(some 12), .move (.tmp 4), none⟩,
    ⟨(some 2), .assign (.tmp 12), none⟩,
    ⟨(some 3), .assign (.const (.bool true)), none⟩]) .ret) K t m := rfl

def c_sheafref1_Int_4 : MC := (.seq c_sheafref1_Int_2 c_sheafref1_Int_3)
@[go_sem] theorem c_sheafref1_Int_4_at (rd : Option Nat) (K : Post3) (t : Fr) (m : Mem) : wpM E 29 13 rd c_sheafref1_Int_4 K t m = wpM E 29 13 rd (.seq c_sheafref1_Int_2 c_sheafref1_Int_3) K t m := rfl

def c_sheafref1_Int_5 : MC := (.seq (.ops [⟨(some 5), .fieldAddr 24 (.tmp 1) 1, none⟩,
    ⟨(some 6), .load 22 (.tmp 5), none⟩,
    ⟨(some 7), .convert 22 3 (.tmp 6), none⟩,
    ⟨(some 4), .assign (.tmp 7), none⟩]) c_sheafref1_Int_4)
@[go_sem] theorem c_sheafref1_Int_5_at (rd : Option Nat) (K : Post3) (t : Fr) (m : Mem) : wpM E 29 13 rd c_sheafref1_Int_5 K t m = wpM E 29 13 rd (.seq (.ops [⟨(some 5), .fieldAddr 24 (.tmp 1) 1, none⟩,
    ⟨(some 6), .load 22 (.tmp 5), none⟩,
    ⟨(some 7), .convert 22 3 (.tmp 6), none⟩,
    ⟨(some 4), .assign (.tmp 7), none⟩]) c_sheafref1_Int_4) K t m := rfl

def c_sheafref1_Int_6 : MC := (.seq (.ops [⟨(some 1), .box 24 (.tmp 0), none⟩,
    ⟨(some 2), .assign (.const (.int .i64 0)), none⟩,
    ⟨(some 3), .assign (.const (.bool false)), none⟩]) c_sheafref1_Int_5)
@[go_sem] theorem c_sheafref1_Int_6_at (rd : Option Nat) (K : Post3) (t : Fr) (m : Mem) : wpM E 29 13 rd c_sheafref1_Int_6 K t m = wpM E 29 13 rd (.seq (.ops [⟨(some 1), .box 24 (.tmp 0), none⟩,
    ⟨(some 2), .assign (.const (.int .i64 0)), none⟩,
    ⟨(some 3), .assign (.const (.bool false)), none⟩]) c_sheafref1_Int_5) K t m := rfl

@[go_sem] theorem some29 : (E.fn 29).isSome = true := by kernel_rfl
set_option maxRecDepth 100000 in
theorem fn_sheafref1_Int : FnIs E 29 13 [.tmp 2, .tmp 3] c_sheafref1_Int_6 := ⟨by kernel_rfl, by kernel_rfl⟩

/-! sheaf/sheafref1.Mul -/
abbrev F_sheafref1_Mul : FuncId := 33
def c_sheafref1_Mul_0 : MC := (.seq (.ops [⟨(some 31), .load 24 (.tmp 6), none⟩,
    ⟨(some 32), .call ⟨.value (.func 44), #[(.tmp 31)], #[24]⟩, none⟩,
    ⟨none, .store 24 (.tmp 4) (.tmp 32), none⟩]) .ret)
@[go_sem] theorem c_sheafref1_Mul_0_at (rd : Option Nat) (K : Post3) (t : Fr) (m : Mem) : wpM E 33 34 rd c_sheafref1_Mul_0 K t m = wpM E 33 34 rd (.seq (.ops [⟨(some 31), .load 24 (.tmp 6), none⟩,
    ⟨(some 32), .call ⟨.value (.func 44), #[(.tmp 31)], #[24]⟩, none⟩,
    ⟨none, .store 24 (.tmp 4) (.tmp 32), none⟩]) .ret) K t m := rfl

def c_sheafref1_Mul_1 : MC := (.cond (.tmp 30) c_sheafref1_Mul_0 .skip)
@[go_sem] theorem c_sheafref1_Mul_1_at (rd : Option Nat) (K : Post3) (t : Fr) (m : Mem) : wpM E 33 34 rd c_sheafref1_Mul_1 K t m = wpM E 33 34 rd (.cond (.tmp 30) c_sheafref1_Mul_0 .skip) K t m := rfl

def c_sheafref1_Mul_2 : MC := (.seq (.ops [⟨(some 26), .move (.tmp 0), none⟩,
    ⟨(some 27), .binOp .lss 3 (.tmp 26) (.const (.int .i64 0)) 3, none⟩,
    ⟨(some 28), .move (.tmp 1), none⟩,
    ⟨(some 29), .binOp .lss 3 (.tmp 28) (.const (.int .i64 0)) 3, none⟩,
    ⟨(some 30), .binOp .neq 4 (.tmp 27) (.tmp 29) 4, none⟩]) c_sheafref1_Mul_1)
@[go_sem] theorem c_sheafref1_Mul_2_at (rd : Option Nat) (K : Post3) (t : Fr) (m : Mem) : wpM E 33 34 rd c_sheafref1_Mul_2 K t m = wpM E 33 34 rd (.seq (.ops [⟨(some 26), .move (.tmp 0), none⟩,
    ⟨(some 27), .binOp .lss 3 (.tmp 26) (.const (.int .i64 0)) 3, none⟩,
    ⟨(some 28), .move (.tmp 1), none⟩,
    ⟨(some 29), .binOp .lss 3 (.tmp 28) (.const (.int .i64 0)) 3, none⟩,
    ⟨(some 30), .binOp .neq 4 (.tmp 27) (.tmp 29) 4, none⟩]) c_sheafref1_Mul_1) K t m := rfl

def c_sheafref1_Mul_3 : MC := (.seq (.ops [⟨(some 33), .load 24 (.tmp 6), none⟩,
    ⟨none, .store 24 (.tmp 4) (.tmp 33), none⟩]) .ret)
@[go_sem] theorem c_sheafref1_Mul_3_at (rd : Option Nat) (K : Post3) (t : Fr) (m : Mem) : wpM E 33 34 rd c_sheafref1_Mul_3 K t m = wpM E 33 34 rd (.seq (.ops [⟨(some 33), .load 24 (.tmp 6), none⟩,
    ⟨none, .store 24 (.tmp 4) (.tmp 33), none⟩]) .ret) K t m := rfl

def c_sheafref1_Mul_4 : MC := (.seq c_sheafref1_Mul_2 c_sheafref1_Mul_3)
@[go_sem] theorem c_sheafref1_Mul_4_at (rd : Option Nat) (K : Post3) (t : Fr) (m : Mem) : wpM E 33 34 rd c_sheafref1_Mul_4 K t m = wpM E 33 34 rd (.seq c_sheafref1_Mul_2 c_sheafref1_Mul_3) K t m := rfl

def c_sheafref1_Mul_5 : MC := (.seq (.ops [⟨(some 12), .indexAddr 60 (.tmp 5) (.const (.int .i64 3)), none⟩,
    ⟨(some 13), .load 22 (.tmp 12), none⟩,
    ⟨(some 14), .binOp .shl 22 (.tmp 13) (.const (.int .u64 32)) 56, none⟩,
    ⟨(some 15), .indexAddr 60 (.tmp 5) (.const (.int .i64 2)), none⟩,
    ⟨(some 16), .load 22 (.tmp 15), none⟩,
    ⟨(some 17), .binOp .or 22 (.tmp 14) (.tmp 16) 22, none⟩,
    ⟨(some 18), .convert 22 2 (.tmp 17), none⟩,
    ⟨(some 19), .indexAddr 60 (.tmp 5) (.const (.int .i64 1)), none⟩,
    ⟨(some 20), .load 22 (.tmp 19), none⟩,
    ⟨(some 21), .binOp .shl 22 (.tmp 20) (.const (.int .u64 32)) 56, none⟩,
    ⟨(some 22), .indexAddr 60 (.tmp 5) (.const (.int .i64 0)), none⟩,
    ⟨(some 23), .load 22 (.tmp 22), none⟩,
    ⟨(some 24), .binOp .or 22 (.tmp 21) (.tmp 23) 22, none⟩,
    ⟨(some 25), .build 24 #[(0, (.tmp 18)), (1, (.tmp 24))], none⟩,
    ⟨(some 6), .alloc 24, none⟩,
    ⟨none, .store 24 (.tmp 6) (.tmp 25), none⟩]) c_sheafref1_Mul_4)
@[go_sem] theorem c_sheafref1_Mul_5_at (rd : Option Nat) (K : Post3) (t : Fr) (m : Mem) : wpM E 33 34 rd c_sheafref1_Mul_5 K t m = wpM E 33 34 rd (.seq (.ops [⟨(some 12), .indexAddr 60 (.tmp 5) (.const (.int .i64 3)), none⟩,
    ⟨(some 13), .load 22 (.tmp 12), none⟩,
    ⟨(some 14), .binOp .shl 22 (.tmp 13) (.const (.int .u64 32)) 56, none⟩,
    ⟨(some 15), .indexAddr 60 (.tmp 5) (.const (.int .i64 2)), none⟩,
    ⟨(some 16), .load 22 (.tmp 15), none⟩,
    ⟨(some 17), .binOp .or 22 (.tmp 14) (.tmp 16) 22, none⟩,
    ⟨(some 18), .convert 22 2 (.tmp 17), none⟩,
    ⟨(some 19), .indexAddr 60 (.tmp 5) (.const (.int .i64 1)), none⟩,
    ⟨(some 20), .load 22 (.tmp 19), none⟩,
    ⟨(some 21), .binOp .shl 22 (.tmp 20) (.const (.int .u64 32)) 56, none⟩,
    ⟨(some 22), .indexAddr 60 (.tmp 5) (.const (.int .i64 0)), none⟩,
    ⟨(some 23), .load 22 (.tmp 22), none⟩,
    ⟨(some 24), .binOp .or 22 (.tmp 21) (.tmp 23) 22, none⟩,
    ⟨(some 25), .build 24 #[(0, (.tmp 18)), (1, (.tmp 24))], none⟩,
    ⟨(some 6), .alloc 24, none⟩,
    ⟨none, .store 24 (.tmp 6) (.tmp 25), none⟩]) c_sheafref1_Mul_4) K t m := rfl

def c_sheafref1_Mul_6 : MC := (.seq (.ops [⟨(some 7), .move (.tmp 0), none⟩,
    ⟨(some 8), .call ⟨.value (.func 43), #[(.tmp 7)], #[3]⟩, none⟩,
    ⟨(some 9), .move (.tmp 1), none⟩,
    ⟨(some 10), .call ⟨.value (.func 43), #[(.tmp 9)], #[3]⟩, none⟩,
    ⟨(some 11), .call ⟨.value (.func 42), #[(.tmp 8), (.tmp 10)], #[22, 22]⟩, none⟩,
    ⟨(some 5), .alloc 60, none⟩,
    ⟨none, .store 60 (.tmp 5) (.tmp 11), none⟩]) c_sheafref1_Mul_5)
@[go_sem] theorem c_sheafref1_Mul_6_at (rd : Option Nat) (K : Post3) (t : Fr) (m : Mem) : wpM E 33 34 rd c_sheafref1_Mul_6 K t m = wpM E 33 34 rd (.seq (.ops [⟨(some 7), .move (.tmp 0), none⟩,
    ⟨(some 8), .call ⟨.value (.func 43), #[(.tmp 7)], #[3]⟩, none⟩,
    ⟨(some 9), .move (.tmp 1), none⟩,
    ⟨(some 10), .call ⟨.value (.func 43), #[(.tmp 9)], #[3]⟩, none⟩,
    ⟨(some 11), .call ⟨.value (.func 42), #[(.tmp 8), (.tmp 10)], #[22, 22]⟩, none⟩,
    ⟨(some 5), .alloc 60, none⟩,
    ⟨none, .store 60 (.tmp 5) (.tmp 11), none⟩]) c_sheafref1_Mul_5) K t m := rfl

def c_sheafref1_Mul_7 : MC := (.seq (.ops [⟨(some 4), .alloc 24, none⟩]) c_sheafref1_Mul_6)
@[go_sem] theorem c_sheafref1_Mul_7_at (rd : Option Nat) (K : Post3) (t : Fr) (m : Mem) : wpM E 33 34 rd c_sheafref1_Mul_7 K t m = wpM E 33 34 rd (.seq (.ops [⟨(some 4), .alloc 24, none⟩]) c_sheafref1_Mul_6) K t m := rfl

@[go_sem] theorem some33 : (E.fn 33).isSome = true := by kernel_rfl
set_option maxRecDepth 100000 in
theorem fn_sheafref1_Mul : FnIs E 33 34 [.cell 4 24] c_sheafref1_Mul_7 := ⟨by kernel_rfl, by kernel_rfl⟩

/-! sheaf/sheafref1.Quo -/
abbrev F_sheafref1_Quo : FuncId := 34
def c_sheafref1_Quo_0 : MC := (.seq (.ops [⟨(some 4), .assign (.const (.int .i64 0)), none⟩,
    ⟨(some 5), .assign (.const (.bool false)), none⟩]) .ret)
@[go_sem] theorem c_sheafref1_Quo_0_at (rd : Option Nat) (K : Post3) (t : Fr) (m : Mem) : wpM E 34 86 rd c_sheafref1_Quo_0 K t m = wpM E 34 86 rd (.seq (.ops [⟨(some 4), .assign (.const (.int .i64 0)), none⟩,
    ⟨(some 5), .assign (.const (.bool false)), none⟩]) .ret) K t m := rfl

def c_sheafref1_Quo_1 : MC := (.cond (.tmp 13) c_sheafref1_Quo_0 .skip)
@[go_sem] theorem c_sheafref1_Quo_1_at (rd : Option Nat) (K : Post3) (t : Fr) (m : Mem) : wpM E 34 86 rd c_sheafref1_Quo_1 K t m = wpM E 34 86 rd (.cond (.tmp 13) c_sheafref1_Quo_0 .skip) K t m := rfl

def c_sheafref1_Quo_2 : MC := (.seq (.ops [⟨(some 12), .move (.tmp 1), none⟩,
    ⟨(some 13), .binOp .leq 3 (.tmp 12) (.const (.int .i64 0)) 3, none⟩]) c_sheafref1_Quo_1)
@[go_sem] theorem c_sheafref1_Quo_2_at (rd : Option Nat) (K : Post3) (t : Fr) (m : Mem) : wpM E 34 86 rd c_sheafref1_Quo_2 K t m = wpM E 34 86 rd (.seq (.ops [⟨(some 12), .move (.tmp 1), none⟩,
    ⟨(some 13), .binOp .leq 3 (.tmp 12) (.const (.int .i64 0)) 3, none⟩]) c_sheafref1_Quo_1) K t m := rfl

def c_sheafref1_Quo_3 : MC := (.cond (.tmp 17) (.ops [⟨(some 18), .load 24 (.tmp 2), none⟩,
    ⟨(some 19), .call ⟨.value (.func 44), #[(.tmp 18)], #[24]⟩, none⟩,
    ⟨none, .store 24 (.tmp 2) (.tmp 19), none⟩]) .skip)
@[go_sem] theorem c_sheafref1_Quo_3_at (rd : Option Nat) (K : Post3) (t : Fr) (m : Mem) : wpM E 34 86 rd c_sheafref1_Quo_3 K t m = wpM E 34 86 rd (.cond (.tmp 17) (.ops [⟨(some 18), .load 24 (.tmp 2), none⟩,
    ⟨(some 19), .call ⟨.value (.func 44), #[(.tmp 18)], #[24]⟩, none⟩,
    ⟨none, .store 24 (.tmp 2) (.tmp 19), none⟩]) .skip) K t m := rfl

def c_sheafref1_Quo_4 : MC := (.seq (.ops [⟨(some 17), .move (.tmp 6), none⟩]) c_sheafref1_Quo_3)
@[go_sem] theorem c_sheafref1_Quo_4_at (rd : Option Nat) (K : Post3) (t : Fr) (m : Mem) : wpM E 34 86 rd c_sheafref1_Quo_4 K t m = wpM E 34 86 rd (.seq (.ops [⟨(some 17), .move (.tmp 6), none⟩]) c_sheafref1_Quo_3) K t m := rfl

def c_sheafref1_Quo_5 : MC := (.cond (.tmp 22) .skip (.exit 0))
@[go_sem] theorem c_sheafref1_Quo_5_at (rd : Option Nat) (K : Post3) (t : Fr) (m : Mem) : wpM E 34 86 rd c_sheafref1_Quo_5 K t m = wpM E 34 86 rd (.cond (.tmp 22) .skip (.exit 0)) K t m := rfl

def c_sheafref1_Quo_6 : MC := (.seq (.ops [⟨(some 21), .move (.tmp 9), none⟩,
    ⟨(some 22), .binOp .geq 3 (.tmp 21) (.const (.int .i64 0)) 3, none⟩]) c_sheafref1_Quo_5)
@[go_sem] theorem c_sheafref1_Quo_6_at (rd : Option Nat) (K : Post3) (t : Fr) (m : Mem) : wpM E 34 86 rd c_sheafref1_Quo_6 K t m = wpM E 34 86 rd (.seq (.ops [⟨(some 21), .move (.tmp 9), none⟩,
    ⟨(some 22), .binOp .geq 3 (.tmp 21) (.const (.int .i64 0)) 3, none⟩]) c_sheafref1_Quo_5) K t m := rfl

def c_sheafref1_Quo_7 : MC := (.cond (.tmp 31) (.ops [⟨(some 32), .fieldAddr 24 (.tmp 2) 0, none⟩,
    ⟨(some 33), .load 2 (.tmp 32), none⟩,
    ⟨(some 34), .convert 2 22 (.tmp 33), none⟩,
    ⟨(some 35), .move (.tmp 9), none⟩,
    ⟨(some 36), .binOp .sub 3 (.tmp 35) (.const (.int .i64 64)) 3, none⟩,
    ⟨(some 37), .binOp .shr 22 (.tmp 34) (.tmp 36) 3, none⟩,
    ⟨(some 38), .binOp .and 22 (.tmp 37) (.const (.int .u64 1)) 22, none⟩,
    ⟨(some 10), .assign (.tmp 38), none⟩]) .skip)
@[go_sem] theorem c_sheafref1_Quo_7_at (rd : Option Nat) (K : Post3) (t : Fr) (m : Mem) : wpM E 34 86 rd c_sheafref1_Quo_7 K t m = wpM E 34 86 rd (.cond (.tmp 31) (.ops [⟨(some 32), .fieldAddr 24 (.tmp 2) 0, none⟩,
    ⟨(some 33), .load 2 (.tmp 32), none⟩,
    ⟨(some 34), .convert 2 22 (.tmp 33), none⟩,
    ⟨(some 35), .move (.tmp 9), none⟩,
    ⟨(some 36), .binOp .sub 3 (.tmp 35) (.const (.int .i64 64)) 3, none⟩,
    ⟨(some 37), .binOp .shr 22 (.tmp 34) (.tmp 36) 3, none⟩,
    ⟨(some 38), .binOp .and 22 (.tmp 37) (.const (.int .u64 1)) 22, none⟩,
    ⟨(some 10), .assign (.tmp 38), none⟩]) .skip) K t m := rfl

def c_sheafref1_Quo_8 : MC := (.seq (.ops [⟨(some 30), .move (.tmp 9), none⟩,
    ⟨(some 31), .binOp .geq 3 (.tmp 30) (.const (.int .i64 64)) 3, none⟩]) c_sheafref1_Quo_7)
@[go_sem] theorem c_sheafref1_Quo_8_at (rd : Option Nat) (K : Post3) (t : Fr) (m : Mem) : wpM E 34 86 rd c_sheafref1_Quo_8 K t m = wpM E 34 86 rd (.seq (.ops [⟨(some 30), .move (.tmp 9), none⟩,
    ⟨(some 31), .binOp .geq 3 (.tmp 30) (.const (.int .i64 64)) 3, none⟩]) c_sheafref1_Quo_7) K t m := rfl

def c_sheafref1_Quo_9 : MC := (.seq (.ops [⟨(some 50), .move (.tmp 8), none⟩,
    ⟨(some 51), .move (.tmp 1), none⟩,
    ⟨(some 52), .convert 3 22 (.tmp 51), none⟩,
    ⟨(some 53), .binOp .sub 22 (.tmp 50) (.tmp 52) 22, none⟩,
    ⟨(some 8), .assign (.tmp 53), none⟩]) (.ops [⟨(some 54), .fieldAddr 24 (.tmp 7) 1, none⟩,
    ⟨(some 55), .load 22 (.tmp 54), none⟩,
    ⟨(some 56), .binOp .or 22 (.tmp 55) (.const (.int .u64 1)) 22, none⟩,
    ⟨(some 57), .fieldAddr 24 (.tmp 7) 1, none⟩,
    ⟨none, .store 22 (.tmp 57) (.tmp 56), none⟩]))
@[go_sem] theorem c_sheafref1_Quo_9_at (rd : Option Nat) (K : Post3) (t : Fr) (m : Mem) : wpM E 34 86 rd c_sheafref1_Quo_9 K t m = wpM E 34 86 rd (.seq (.ops [⟨(some 50), .move (.tmp 8), none⟩,
    ⟨(some 51), .move (.tmp 1), none⟩,
    ⟨(some 52), .convert 3 22 (.tmp 51), none⟩,
    ⟨(some 53), .binOp .sub 22 (.tmp 50) (.tmp 52) 22, none⟩,
    ⟨(some 8), .assign (.tmp 53), none⟩]) (.ops [⟨(some 54), .fieldAddr 24 (.tmp 7) 1, none⟩,
    ⟨(some 55), .load 22 (.tmp 54), none⟩,
    ⟨(some 56), .binOp .or 22 (.tmp 55) (.const (.int .u64 1)) 22, none⟩,
    ⟨(some 57), .fieldAddr 24 (.tmp 7) 1, none⟩,
    ⟨none, .store 22 (.tmp 57) (.tmp 56), none⟩])) K t m := rfl

def c_sheafref1_Quo_10 : MC := (.cond (.tmp 49) c_sheafref1_Quo_9 .skip)
@[go_sem] theorem c_sheafref1_Quo_10_at (rd : Option Nat) (K : Post3) (t : Fr) (m : Mem) : wpM E 34 86 rd c_sheafref1_Quo_10 K t m = wpM E 34 86 rd (.cond (.tmp 49) c_sheafref1_Quo_9 .skip) K t m := rfl

def c_sheafref1_Quo_11 : MC := (.seq (.ops [⟨(some 46), .move (.tmp 8), none⟩,
    ⟨(some 47), .move (.tmp 1), none⟩,
    ⟨(some 48), .convert 3 22 (.tmp 47), none⟩,
    ⟨(some 49), .binOp .geq 22 (.tmp 46) (.tmp 48) 22, none⟩]) c_sheafref1_Quo_10)
@[go_sem] theorem c_sheafref1_Quo_11_at (rd : Option Nat) (K : Post3) (t : Fr) (m : Mem) : wpM E 34 86 rd c_sheafref1_Quo_11 K t m = wpM E 34 86 rd (.seq (.ops [⟨(some 46), .move (.tmp 8), none⟩,
    ⟨(some 47), .move (.tmp 1), none⟩,
    ⟨(some 48), .convert 3 22 (.tmp 47), none⟩,
    ⟨(some 49), .binOp .geq 22 (.tmp 46) (.tmp 48) 22, none⟩]) c_sheafref1_Quo_10) K t m := rfl

def c_sheafref1_Quo_12 : MC := (.seq (.ops [⟨(some 43), .load 24 (.tmp 7), none⟩,
    ⟨(some 44), .load 24 (.tmp 7), none⟩,
    ⟨(some 45), .call ⟨.value (.func 27), #[(.tmp 43), (.tmp 44)], #[24, 24]⟩, none⟩,
    ⟨none, .store 24 (.tmp 7) (.tmp 45), none⟩]) c_sheafref1_Quo_11)
@[go_sem] theorem c_sheafref1_Quo_12_at (rd : Option Nat) (K : Post3) (t : Fr) (m : Mem) : wpM E 34 86 rd c_sheafref1_Quo_12 K t m = wpM E 34 86 rd (.seq (.ops [⟨(some 43), .load 24 (.tmp 7), none⟩,
    ⟨(some 44), .load 24 (.tmp 7), none⟩,
    ⟨(some 45), .call ⟨.value (.func 27), #[(.tmp 43), (.tmp 44)], #[24, 24]⟩, none⟩,
    ⟨none, .store 24 (.tmp 7) (.tmp 45), none⟩]) c_sheafref1_Quo_11) K t m := rfl

def c_sheafref1_Quo_13 : MC := (.seq (.ops [⟨(some 39), .move (.tmp 8), none⟩,
    ⟨(some 40), .binOp .shl 22 (.tmp 39) (.const (.int .u64 1)) 56, none⟩,
    ⟨(some 41), .move (.tmp 10), none⟩,
    ⟨(some 42), .binOp .or 22 (.tmp 40) (.tmp 41) 22, none⟩,
    ⟨(some 8), .assign (.tmp 42), none⟩]) c_sheafref1_Quo_12)
@[go_sem] theorem c_sheafref1_Quo_13_at (rd : Option Nat) (K : Post3) (t : Fr) (m : Mem) : wpM E 34 86 rd c_sheafref1_Quo_13 K t m = wpM E 34 86 rd (.seq (.ops [⟨(some 39), .move (.tmp 8), none⟩,
    ⟨(some 40), .binOp .shl 22 (.tmp 39) (.const (.int .u64 1)) 56, none⟩,
    ⟨(some 41), .move (.tmp 10), none⟩,
    ⟨(some 42), .binOp .or 22 (.tmp 40) (.tmp 41) 22, none⟩,
    ⟨(some 8), .assign (.tmp 42), none⟩]) c_sheafref1_Quo_12) K t m := rfl

def c_sheafref1_Quo_14 : MC := (.seq c_sheafref1_Quo_8 c_sheafref1_Quo_13)
@[go_sem] theorem c_sheafref1_Quo_14_at (rd : Option Nat) (K : Post3) (t : Fr) (m : Mem) : wpM E 34 86 rd c_sheafref1_Quo_14 K t m = wpM E 34 86 rd (.seq c_sheafref1_Quo_8 c_sheafref1_Quo_13) K t m := rfl

def c_sheafref1_Quo_15 : MC := (.seq (.ops [⟨(some 25), .fieldAddr 24 (.tmp 2) 1, none⟩,
    ⟨(some 26), .load 22 (.tmp 25), none⟩,
    ⟨(some 27), .move (.tmp 9), none⟩,
    ⟨(some 28), .binOp .shr 22 (.tmp 26) (.tmp 27) 3, none⟩,
    ⟨(some 29), .binOp .and 22 (.tmp 28) (.const (.int .u64 1)) 22, none⟩,
    ⟨(some 10), .assign (.tmp 29), none⟩]) c_sheafref1_Quo_14)
@[go_sem] theorem c_sheafref1_Quo_15_at (rd : Option Nat) (K : Post3) (t : Fr) (m : Mem) : wpM E 34 86 rd c_sheafref1_Quo_15 K t m = wpM E 34 86 rd (.seq (.ops [⟨(some 25), .fieldAddr 24 (.tmp 2) 1, none⟩,
    ⟨(some 26), .load 22 (.tmp 25), none⟩,
    ⟨(some 27), .move (.tmp 9), none⟩,
    ⟨(some 28), .binOp .shr 22 (.tmp 26) (.tmp 27) 3, none⟩,
    ⟨(some 29), .binOp .and 22 (.tmp 28) (.const (.int .u64 1)) 22, none⟩,
    ⟨(some 10), .assign (.tmp 29), none⟩]) c_sheafref1_Quo_14) K t m := rfl

def c_sheafref1_Quo_16 : MC := (.block 1 c_sheafref1_Quo_15)
@[go_sem] theorem c_sheafref1_Quo_16_at (rd : Option Nat) (K : Post3) (t : Fr) (m : Mem) : wpM E 34 86 rd c_sheafref1_Quo_16 K t m = wpM E 34 86 rd (.block 1 c_sheafref1_Quo_15) K t m := rfl

def c_sheafref1_Quo_17 : MC := (.seq c_sheafref1_Quo_16 (.ops [⟨(some 23), .move (.tmp 9), none⟩,
    ⟨(some 24), .binOp .sub 3 (.tmp 23) (.const (.int .i64 1)) 3, none⟩,
    ⟨(some 9), .assign (.tmp 24), none⟩]))
@[go_sem] theorem c_sheafref1_Quo_17_at (rd : Option Nat) (K : Post3) (t : Fr) (m : Mem) : wpM E 34 86 rd c_sheafref1_Quo_17 K t m = wpM E 34 86 rd (.seq c_sheafref1_Quo_16 (.ops [⟨(some 23), .move (.tmp 9), none⟩,
    ⟨(some 24), .binOp .sub 3 (.tmp 23) (.const (.int .i64 1)) 3, none⟩,
    ⟨(some 9), .assign (.tmp 24), none⟩])) K t m := rfl

def c_sheafref1_Quo_18 : MC := (.seq c_sheafref1_Quo_6 c_sheafref1_Quo_17)
@[go_sem] theorem c_sheafref1_Quo_18_at (rd : Option Nat) (K : Post3) (t : Fr) (m : Mem) : wpM E 34 86 rd c_sheafref1_Quo_18 K t m = wpM E 34 86 rd (.seq c_sheafref1_Quo_6 c_sheafref1_Quo_17) K t m := rfl

def c_sheafref1_Quo_19 : MC := (.loop c_sheafref1_Quo_18)
theorem c_sheafref1_Quo_19_at (rd : Option Nat) (K : Post3) (t : Fr) (m : Mem) : wpM E 34 86 rd c_sheafref1_Quo_19 K t m = wpM E 34 86 rd (.loop c_sheafref1_Quo_18) K t m := rfl

def c_sheafref1_Quo_20 : MC := (.block 0 c_sheafref1_Quo_19)
theorem c_sheafref1_Quo_20_at (rd : Option Nat) (K : Post3) (t : Fr) (m : Mem) : wpM E 34 86 rd c_sheafref1_Quo_20 K t m = wpM E 34 86 rd (.block 0 c_sheafref1_Quo_19) K t m := rfl

def c_sheafref1_Quo_21 : MC := (.seq (.ops [⟨(some 9), .assign (.const (.int .i64 127)), none⟩]) c_sheafref1_Quo_20)
@[go_sem] theorem c_sheafref1_Quo_21_at (rd : Option Nat) (K : Post3) (t : Fr) (m : Mem) : wpM E 34 86 rd c_sheafref1_Quo_21 K t m = wpM E 34 86 rd (.seq (.ops [⟨(some 9), .assign (.const (.int .i64 127)), none⟩]) c_sheafref1_Quo_20) K t m := rfl

def c_sheafref1_Quo_22 : MC := (.cond (.tmp 75) (.ops [⟨(some 76), .load 24 (.tmp 7), none⟩,
    ⟨(some 77), .build 24 #[(1, (.const (.int .u64 1)))], none⟩,
    ⟨(some 78), .call ⟨.value (.func 27), #[(.tmp 76), (.tmp 77)], #[24, 24]⟩, none⟩,
    ⟨none, .store 24 (.tmp 7) (.tmp 78), none⟩]) .skip)
@[go_sem] theorem c_sheafref1_Quo_22_at (rd : Option Nat) (K : Post3) (t : Fr) (m : Mem) : wpM E 34 86 rd c_sheafref1_Quo_22 K t m = wpM E 34 86 rd (.cond (.tmp 75) (.ops [⟨(some 76), .load 24 (.tmp 7), none⟩,
    ⟨(some 77), .build 24 #[(1, (.const (.int .u64 1)))], none⟩,
    ⟨(some 78), .call ⟨.value (.func 27), #[(.tmp 76), (.tmp 77)], #[24, 24]⟩, none⟩,
    ⟨none, .store 24 (.tmp 7) (.tmp 78), none⟩]) .skip) K t m := rfl

def c_sheafref1_Quo_23 : MC := (.seq (.ops [⟨(some 62), .move (.tmp 8), none⟩,
    ⟨(some 63), .move (.tmp 11), none⟩,
    ⟨(some 64), .binOp .gtr 22 (.tmp 62) (.tmp 63) 22, none⟩,
    ⟨(some 65), .move (.tmp 64), none⟩,
    ⟨(some 66), .move (.tmp 8), (some (some 65, false))⟩,
    ⟨(some 67), .move (.tmp 11), (some (some 65, false))⟩,
    ⟨(some 68), .binOp .eql 22 (.tmp 66) (.tmp 67) 22, (some (some 65, false))⟩,
    ⟨(some 69), .move (.tmp 68), (some (some 65, false))⟩,
    ⟨(some 70), .fieldAddr 24 (.tmp 7) 1, (some (some 69, true))⟩,
    ⟨(some 71), .load 22 (.tmp 70), (some (some 69, true))⟩,
    ⟨(some 72), .binOp .and 22 (.tmp 71) (.const (.int .u64 1)) 22, (some (some 69, true))⟩,
    ⟨(some 73), .binOp .eql 22 (.tmp 72) (.const (.int .u64 1)) 22, (some (some 69, true))⟩,
    ⟨(some 74), .pick (.tmp 69) (.tmp 73) (.const (.bool false)), (some (some 65, false))⟩,
    ⟨(some 75), .pick (.tmp 65) (.const (.bool true)) (.tmp 74), none⟩]) c_sheafref1_Quo_22)
@[go_sem] theorem c_sheafref1_Quo_23_at (rd : Option Nat) (K : Post3) (t : Fr) (m : Mem) : wpM E 34 86 rd c_sheafref1_Quo_23 K t m = wpM E 34 86 rd (.seq (.ops [⟨(some 62), .move (.tmp 8), none⟩,
    ⟨(some 63), .move (.tmp 11), none⟩,
    ⟨(some 64), .binOp .gtr 22 (.tmp 62) (.tmp 63) 22, none⟩,
    ⟨(some 65), .move (.tmp 64), none⟩,
    ⟨(some 66), .move (.tmp 8), (some (some 65, false))⟩,
    ⟨(some 67), .move (.tmp 11), (some (some 65, false))⟩,
    ⟨(some 68), .binOp .eql 22 (.tmp 66) (.tmp 67) 22, (some (some 65, false))⟩,
    ⟨(some 69), .move (.tmp 68), (some (some 65, false))⟩,
    ⟨(some 70), .fieldAddr 24 (.tmp 7) 1, (some (some 69, true))⟩,
    ⟨(some 71), .load 22 (.tmp 70), (some (some 69, true))⟩,
    ⟨(some 72), .binOp .and 22 (.tmp 71) (.const (.int .u64 1)) 22, (some (some 69, true))⟩,
    ⟨(some 73), .binOp .eql 22 (.tmp 72) (.const (.int .u64 1)) 22, (some (some 69, true))⟩,
    ⟨(some 74), .pick (.tmp 69) (.tmp 73) (.const (.bool false)), (some (some 65, false))⟩,
    ⟨(some 75), .pick (.tmp 65) (.const (.bool true)) (.tmp 74), none⟩]) c_sheafref1_Quo_22) K t m := rfl

def c_sheafref1_Quo_24 : MC := (.cond (.tmp 79) (.ops [⟨(some 80), .load 24 (.tmp 7), none⟩,
    ⟨(some 81), .call ⟨.value (.func 44), #[(.tmp 80)], #[24]⟩, none⟩,
    ⟨none, .store 24 (.tmp 7) (.tmp 81), none⟩]) .skip)
@[go_sem] theorem c_sheafref1_Quo_24_at (rd : Option Nat) (K : Post3) (t : Fr) (m : Mem) : wpM E 34 86 rd c_sheafref1_Quo_24 K t m = wpM E 34 86 rd (.cond (.tmp 79) (.ops [⟨(some 80), .load 24 (.tmp 7), none⟩,
    ⟨(some 81), .call ⟨.value (.func 44), #[(.tmp 80)], #[24]⟩, none⟩,
    ⟨none, .store 24 (.tmp 7) (.tmp 81), none⟩]) .skip) K t m := rfl

def c_sheafref1_Quo_25 : MC := (.seq (.ops [⟨(some 79), .move (.tmp 6), none⟩]) c_sheafref1_Quo_24)
@[go_sem] theorem c_sheafref1_Quo_25_at (rd : Option Nat) (K : Post3) (t : Fr) (m : Mem) : wpM E 34 86 rd c_sheafref1_Quo_25 K t m = wpM E 34 86 rd (.seq (.ops [⟨(some 79), .move (.tmp 6), none⟩]) c_sheafref1_Quo_24) K t m := rfl

def c_sheafref1_Quo_26 : MC := (.seq (.ops [⟨(some 82), .load 24 (.tmp 7), none⟩,
    ⟨(some 83), .call ⟨.value (.func 29), #[(.tmp 82)], #[24]⟩, none⟩,
    ⟨(some 84), .extract (.tmp 83) 0, none⟩,
    ⟨(some 85), .extract (.tmp 83) 1, none⟩,
    ⟨(some 4), .assign (.tmp 84), none⟩,
    ⟨(some 5), .assign (.tmp 85), none⟩]) .ret)
@[go_sem] theorem c_sheafref1_Quo_26_at (rd : Option Nat) (K : Post3) (t : Fr) (m : Mem) : wpM E 34 86 rd c_sheafref1_Quo_26 K t m = wpM E 34 86 rd (.seq (.ops [⟨(some 82), .load 24 (.tmp 7), none⟩,
    ⟨(some 83), .call ⟨.value (.func 29), #[(.tmp 82)], #[24]⟩, none⟩,
    ⟨(some 84), .extract (.tmp 83) 0, none⟩,
    ⟨(some 85), .extract (.tmp 83) 1, none⟩,
    ⟨(some 4), .assign (.tmp 84), none⟩,
    ⟨(some 5), .assign (.tmp 85), none⟩]) .ret) K t m := rfl

def c_sheafref1_Quo_27 : MC := (.seq c_sheafref1_Quo_25 c_sheafref1_Quo_26)
@[go_sem] theorem c_sheafref1_Quo_27_at (rd : Option Nat) (K : Post3) (t : Fr) (m : Mem) : wpM E 34 86 rd c_sheafref1_Quo_27 K t m = wpM E 34 86 rd (.seq c_sheafref1_Quo_25 c_sheafref1_Quo_26) K t m := rfl

def c_sheafref1_Quo_28 : MC := (.seq c_sheafref1_Quo_23 c_sheafref1_Quo_27)
@[go_sem] theorem c_sheafref1_Quo_28_at (rd : Option Nat) (K : Post3) (t : Fr) (m : Mem) : wpM E 34 86 rd c_sheafref1_Quo_28 K t m = wpM E 34 86 rd (.seq c_sheafref1_Quo_23 c_sheafref1_Quo_27) K t m := rfl

def c_sheafref1_Quo_29 : MC := (.seq (.ops [⟨(some 58), .move (.tmp 1), none⟩,
    ⟨(some 59), .convert 3 22 (.tmp 58), none⟩,
    ⟨(some 60), .move (.tmp 8), none⟩,
    ⟨(some 61), .binOp .sub 22 (.tmp 59) (.tmp 60) 22, none⟩,
    ⟨(some 11), .assign (.tmp 61), none⟩]) c_sheafref1_Quo_28)
@[go_sem] theorem c_sheafref1_Quo_29_at (rd : Option Nat) (K : Post3) (t : Fr) (m : Mem) : wpM E 34 86 rd c_sheafref1_Quo_29 K t m = wpM E 34 86 rd (.seq (.ops [⟨(some 58), .move (.tmp 1), none⟩,
    ⟨(some 59), .convert 3 22 (.tmp 58), none⟩,
    ⟨(some 60), .move (.tmp 8), none⟩,
    ⟨(some 61), .binOp .sub 22 (.tmp 59) (.tmp 60) 22, none⟩,
    ⟨(some 11), .assign (.tmp 61), none⟩]) c_sheafref1_Quo_28) K t m := rfl

def c_sheafref1_Quo_30 : MC := (.seq c_sheafref1_Quo_21 c_sheafref1_Quo_29)
@[go_sem] theorem c_sheafref1_Quo_30_at (rd : Option Nat) (K : Post3) (t : Fr) (m : Mem) : wpM E 34 86 rd c_sheafref1_Quo_30 K t m = wpM E 34 86 rd (.seq c_sheafref1_Quo_21 c_sheafref1_Quo_29) K t m := rfl

def c_sheafref1_Quo_31 : MC := (.seq (.ops [⟨(some 20), .build 24 #[], none⟩,
    ⟨(some 7), .alloc 24, none⟩,
    ⟨none, .store 24 (.tmp 7) (.tmp 20), none⟩,
    ⟨(some 8), .assign (.const (.int .u64 0)), none⟩]) c_sheafref1_Quo_30)
@[go_sem] theorem c_sheafref1_Quo_31_at (rd : Option Nat) (K : Post3) (t : Fr) (m : Mem) : wpM E 34 86 rd c_sheafref1_Quo_31 K t m = wpM E 34 86 rd (.seq (.ops [⟨(some 20), .build 24 #[], none⟩,
    ⟨(some 7), .alloc 24, none⟩,
    ⟨none, .store 24 (.tmp 7) (.tmp 20), none⟩,
    ⟨(some 8), .assign (.const (.int .u64 0)), none⟩]) c_sheafref1_Quo_30) K t m := rfl

def c_sheafref1_Quo_32 : MC := (.seq c_sheafref1_Quo_4 c_sheafref1_Quo_31)
@[go_sem] theorem c_sheafref1_Quo_32_at (rd : Option Nat) (K : Post3) (t : Fr) (m : Mem) : wpM E 34 86 rd c_sheafref1_Quo_32 K t m = wpM E 34 86 rd (.seq c_sheafref1_Quo_4 c_sheafref1_Quo_31) K t m := rfl

def c_sheafref1_Quo_33 : MC := (.seq (.ops [⟨(some 14), .fieldAddr 24 (.tmp 2) 0, none⟩,
    ⟨(some 15), .load 2 (.tmp 14), none⟩,
    ⟨(some 16), .binOp .lss 2 (.tmp 15) (.const (.int .i64 0)) 2, none⟩,
    ⟨(some 6), .assign (.tmp 16), none⟩]) c_sheafref1_Quo_32)
@[go_sem] theorem c_sheafref1_Quo_33_at (rd : Option Nat) (K : Post3) (t : Fr) (m : Mem) : wpM E 34 86 rd c_sheafref1_Quo_33 K t m = wpM E 34 86 rd (.seq (.ops [⟨(some 14), .fieldAddr 24 (.tmp 2) 0, none⟩,
    ⟨(some 15), .load 2 (.tmp 14), none⟩,
    ⟨(some 16), .binOp .lss 2 (.tmp 15) (.const (.int .i64 0)) 2, none⟩,
    ⟨(some 6), .assign (.tmp 16), none⟩]) c_sheafref1_Quo_32) K t m := rfl

def c_sheafref1_Quo_34 : MC := (.seq c_sheafref1_Quo_2 c_sheafref1_Quo_33)
@[go_sem] theorem c_sheafref1_Quo_34_at (rd : Option Nat) (K : Post3) (t : Fr) (m : Mem) : wpM E 34 86 rd c_sheafref1_Quo_34 K t m = wpM E 34 86 rd (.seq c_sheafref1_Quo_2 c_sheafref1_Quo_33) K t m := rfl

def c_sheafref1_Quo_35 : MC := (.seq (.ops [⟨(some 2), .box 24 (.tmp 0), none⟩,
    ⟨(some 4), .assign (.const (.int .i64 0)), none⟩,
    ⟨(some 5), .assign (.const (.bool false)), none⟩]) c_sheafref1_Quo_34)
@[go_sem] theorem c_sheafref1_Quo_35_at (rd : Option Nat) (K : Post3) (t : Fr) (m : Mem) : wpM E 34 86 rd c_sheafref1_Quo_35 K t m = wpM E 34 86 rd (.seq (.ops [⟨(some 2), .box 24 (.tmp 0), none⟩,
    ⟨(some 4), .assign (.const (.int .i64 0)), none⟩,
    ⟨(some 5), .assign (.const (.bool false)), none⟩]) c_sheafref1_Quo_34) K t m := rfl

@[go_sem] theorem some34 : (E.fn 34).isSome = true := by kernel_rfl
set_option maxRecDepth 100000 in
theorem fn_sheafref1_Quo : FnIs E 34 86 [.tmp 4, .tmp 5] c_sheafref1_Quo_35 := ⟨by kernel_rfl, by kernel_rfl⟩

/-! sheaf/sheafref1.Cmp -/
abbrev F_sheafref1_Cmp : FuncId := 35
def c_sheafref1_Cmp_0 : MC := (.seq (.ops [⟨(some 4), .assign (.const (.int .i64 (-1))), none⟩]) .ret)
@[go_sem] theorem c_sheafref1_Cmp_0_at (rd : Option Nat) (K : Post3) (t : Fr) (m : Mem) : wpM E 35 29 rd c_sheafref1_Cmp_0 K t m = wpM E 35 29 rd (.seq (.ops [⟨(some 4), .assign (.const (.int .i64 (-1))), none⟩]) .ret) K t m := rfl

def c_sheafref1_Cmp_1 : MC := (.seq (.ops [⟨(some 4), .assign (.const (.int .i64 0)), none⟩]) .ret)
@[go_sem] theorem c_sheafref1_Cmp_1_at (rd : Option Nat) (K : Post3) (t : Fr) (m : Mem) : wpM E 35 29 rd c_sheafref1_Cmp_1 K t m = wpM E 35 29 rd (.seq (.ops [⟨(some 4), .assign (.const (.int .i64 0)), none⟩]) .ret) K t m := rfl

def c_sheafref1_Cmp_2 : MC := (.cond (.tmp 25) c_sheafref1_Cmp_1 .skip)
@[go_sem] theorem c_sheafref1_Cmp_2_at (rd : Option Nat) (K : Post3) (t : Fr) (m : Mem) : wpM E 35 29 rd c_sheafref1_Cmp_2 K t m = wpM E 35 29 rd (.cond (.tmp 25) c_sheafref1_Cmp_1 .skip) K t m := rfl

def c_sheafref1_Cmp_3 : MC := (.seq (.ops [⟨(some 26), .load 24 (.tmp 2), none⟩,
    ⟨(some 27), .load 24 (.tmp 3), none⟩,
    ⟨(some 28), .binOp .eql 24 (.tmp 26) (.tmp 27) 24, none⟩,
    ⟨(some 25), .assign (.tmp 28), none⟩]) c_sheafref1_Cmp_2)
@[go_sem] theorem c_sheafref1_Cmp_3_at (rd : Option Nat) (K : Post3) (t : Fr) (m : Mem) : wpM E 35 29 rd c_sheafref1_Cmp_3 K t m = wpM E 35 29 rd (.seq (.ops [⟨(some 26), .load 24 (.tmp 2), none⟩,
    ⟨(some 27), .load 24 (.tmp 3), none⟩,
    ⟨(some 28), .binOp .eql 24 (.tmp 26) (.tmp 27) 24, none⟩,
    ⟨(some 25), .assign (.tmp 28), none⟩]) c_sheafref1_Cmp_2) K t m := rfl

def c_sheafref1_Cmp_4 : MC := (.cond (.tmp 5) c_sheafref1_Cmp_0 c_sheafref1_Cmp_3)
@[go_sem] theorem c_sheafref1_Cmp_4_at (rd : Option Nat) (K : Post3) (t : Fr) (m : Mem) : wpM E 35 29 rd c_sheafref1_Cmp_4 K t m = wpM E 35 29 rd (.cond (.tmp 5) c_sheafref1_Cmp_0 c_sheafref1_Cmp_3) K t m := rfl

def c_sheafref1_Cmp_5 : MC := (.seq (.ops [⟨(some 6), .fieldAddr 24 (.tmp 2) 0, none⟩,
    ⟨(some 7), .load 2 (.tmp 6), none⟩,
    ⟨(some 8), .fieldAddr 24 (.tmp 3) 0, none⟩,
    ⟨(some 9), .load 2 (.tmp 8), none⟩,
    ⟨(some 10), .binOp .lss 2 (.tmp 7) (.tmp 9) 2, none⟩,
    ⟨(some 11), .move (.tmp 10), none⟩,
    ⟨(some 12), .fieldAddr 24 (.tmp 2) 0, (some (some 11, false))⟩,
    ⟨(some 13), .load 2 (.tmp 12), (some (some 11, false))⟩,
    ⟨(some 14), .fieldAddr 24 (.tmp 3) 0, (some (some 11, false))⟩,
    ⟨(some 15), .load 2 (.tmp 14), (some (some 11, false))⟩,
    ⟨(some 16), .binOp .eql 2 (.tmp 13) (.tmp 15) 2, (some (some 11, false))⟩,
    ⟨(some 17), .move (.tmp 16), (some (some 11, false))⟩,
    ⟨(some 18), .fieldAddr 24 (.tmp 2) 1, (some (some 17, true))⟩,
    ⟨(some 19), .load 22 (.tmp 18), (some (some 17, true))⟩,
    ⟨(some 20), .fieldAddr 24 (.tmp 3) 1, (some (some 17, true))⟩,
    ⟨(some 21), .load 22 (.tmp 20), (some (some 17, true))⟩,
    ⟨(some 22), .binOp .lss 22 (.tmp 19) (.tmp 21) 22, (some (some 17, true))⟩,
    ⟨(some 23), .pick (.tmp 17) (.tmp 22) (.const (.bool false)), (some (some 11, false))⟩,
    ⟨(some 24), .pick (.tmp 11) (.const (.bool true)) (.tmp 23), none⟩,
    ⟨(some 5), .assign (.tmp 24), none⟩]) c_sheafref1_Cmp_4)
@[go_sem] theorem c_sheafref1_Cmp_5_at (rd : Option Nat) (K : Post3) (t : Fr) (m : Mem) : wpM E 35 29 rd c_sheafref1_Cmp_5 K t m = wpM E 35 29 rd (.seq (.ops [⟨(some 6), .fieldAddr 24 (.tmp 2) 0, none⟩,
    ⟨(some 7), .load 2 (.tmp 6), none⟩,
    ⟨(some 8), .fieldAddr 24 (.tmp 3) 0, none⟩,
    ⟨(some 9), .load 2 (.tmp 8), none⟩,
    ⟨(some 10), .binOp .lss 2 (.tmp 7) (.tmp 9) 2, none⟩,
    ⟨(some 11), .move (.tmp 10), none⟩,
    ⟨(some 12), .fieldAddr 24 (.tmp 2) 0, (some (some 11, false))⟩,
    ⟨(some 13), .load 2 (.tmp 12), (some (some 11, false))⟩,
    ⟨(some 14), .fieldAddr 24 (.tmp 3) 0, (some (some 11, false))⟩,
    ⟨(some 15), .load 2 (.tmp 14), (some (some 11, false))⟩,
    ⟨(some 16), .binOp .eql 2 (.tmp 13) (.tmp 15) 2, (some (some 11, false))⟩,
    ⟨(some 17), .move (.tmp 16), (some (some 11, false))⟩,
    ⟨(some 18), .fieldAddr 24 (.tmp 2) 1, (some (some 17, true))⟩,
    ⟨(some 19), .load 22 (.tmp 18), (some (some 17, true))⟩,
    ⟨(some 20), .fieldAddr 24 (.tmp 3) 1, (some (some 17, true))⟩,
    ⟨(some 21), .load 22 (.tmp 20), (some (some 17, true))⟩,
    ⟨(some 22), .binOp .lss 22 (.tmp 19) (.tmp 21) 22, (some (some 17, true))⟩,
    ⟨(some 23), .pick (.tmp 17) (.tmp 22) (.const (.bool false)), (some (some 11, false))⟩,
    ⟨(some 24), .pick (.tmp 11) (.const (.bool true)) (.tmp 23), none⟩,
    ⟨(some 5), .assign (.tmp 24), none⟩]) c_sheafref1_Cmp_4) K t m := rfl

def c_sheafref1_Cmp_6 : MC := (.block 0 c_sheafref1_Cmp_5)
@[go_sem] theorem c_sheafref1_Cmp_6_at (rd : Option Nat) (K : Post3) (t : Fr) (m : Mem) : wpM E 35 29 rd c_sheafref1_Cmp_6 K t m = wpM E 35 29 rd (.block 0 c_sheafref1_Cmp_5) K t m := rfl

def c_sheafref1_Cmp_7 : MC := (.seq (.ops [⟨(some 4), .assign (.const (.int .i64 1)), none⟩]) .ret)
@[go_sem] theorem c_sheafref1_Cmp_7_at (rd : Option Nat) (K : Post3) (t : Fr) (m : Mem) : wpM E 35 29 rd c_sheafref1_Cmp_7 K t m = wpM E 35 29 rd (.seq (.ops [⟨(some 4), .assign (.const (.int .i64 1)), none⟩]) .ret) K t m := rfl

def c_sheafref1_Cmp_8 : MC := (.seq c_sheafref1_Cmp_6 c_sheafref1_Cmp_7)
@[go_sem] theorem c_sheafref1_Cmp_8_at (rd : Option Nat) (K : Post3) (t : Fr) (m : Mem) : wpM E 35 29 rd c_sheafref1_Cmp_8 K t m = wpM E 35 29 rd (.seq c_sheafref1_Cmp_6 c_sheafref1_Cmp_7) K t m := rfl

def c_sheafref1_Cmp_9 : MC := (.seq (.ops [⟨(some 2), .box 24 (.tmp 0), none⟩,
    ⟨(some 3), .box 24 (.tmp 1), none⟩,
    ⟨(some 4), .assign (.const (.int .i64 0)), none⟩]) c_sheafref1_Cmp_8)
@[go_sem] theorem c_sheafref1_Cmp_9_at (rd : Option Nat) (K : Post3) (t : Fr) (m : Mem) : wpM E 35 29 rd c_sheafref1_Cmp_9 K t m = wpM E 35 29 rd (.seq (.ops [⟨(some 2), .box 24 (.tmp 0), none⟩,
    ⟨(some 3), .box 24 (.tmp 1), none⟩,
    ⟨(some 4), .assign (.const (.int .i64 0)), none⟩]) c_sheafref1_Cmp_8) K t m := rfl

@[go_sem] theorem some35 : (E.fn 35).isSome = true := by kernel_rfl
set_option maxRecDepth 100000 in
theorem fn_sheafref1_Cmp : FnIs E 35 29 [.tmp 4] c_sheafref1_Cmp_9 := ⟨by kernel_rfl, by kernel_rfl⟩

/-! sheaf/sheafref1.limbs -/
abbrev F_sheafref1_limbs : FuncId := 42
def c_sheafref1_limbs_0 : MC := (.cond (.tmp 23) .skip (.exit 0))
@[go_sem] theorem c_sheafref1_limbs_0_at (rd : Option Nat) (K : Post3) (t : Fr) (m : Mem) : wpM E 42 63 rd c_sheafref1_limbs_0 K t m = wpM E 42 63 rd (.cond (.tmp 23) .skip (.exit 0)) K t m := rfl

def c_sheafref1_limbs_1 : MC := (.cond (.tmp 26) .skip (.exit 2))
@[go_sem] theorem c_sheafref1_limbs_1_at (rd : Option Nat) (K : Post3) (t : Fr) (m : Mem) : wpM E 42 63 rd c_sheafref1_limbs_1 K t m = wpM E 42 63 rd (.cond (.tmp 26) .skip (.exit 2)) K t m := rfl

def c_sheafref1_limbs_2 : MC := (.seq (.ops [⟨(some 28), .move (.tmp 8), none⟩,
    ⟨(some 29), .move (.tmp 10), none⟩,
    ⟨(some 30), .binOp .add 3 (.tmp 28) (.tmp 29) 3, none⟩,
    ⟨(some 31), .indexAddr 60 (.tmp 7) (.tmp 30), none⟩,
    ⟨(some 32), .load 22 (.tmp 31), none⟩,
    ⟨(some 33), .move (.tmp 8), none⟩,
    ⟨(some 34), .indexAddr 69 (.tmp 5) (.tmp 33), none⟩,
    ⟨(some 35), .load 22 (.tmp 34), none⟩,
    ⟨(some 36), .move (.tmp 10), none⟩,
    ⟨(some 37), .indexAddr 69 (.tmp 6) (.tmp 36), none⟩,
    ⟨(some 38), .load 22 (.tmp 37), none⟩,
    ⟨(some 39), .binOp .mul 22 (.tmp 35) (.tmp 38) 22, none⟩,
    ⟨(some 40), .binOp .add 22 (.tmp 32) (.tmp 39) 22, none⟩,
    ⟨(some 41), .move (.tmp 9), none⟩,
    ⟨(some 42), .binOp .add 22 (.tmp 40) (.tmp 41) 22, none⟩,
    ⟨(some 11), .assign (.tmp 42), none⟩]) (.ops [⟨(some 43), .move (.tmp 8), none⟩,
    ⟨(some 44), .move (.tmp 10), none⟩,
    ⟨(some 45), .binOp .add 3 (.tmp 43) (.tmp 44) 3, none⟩,
    ⟨(some 46), .move (.tmp 11), none⟩,
    ⟨(some 47), .binOp .and 22 (.tmp 46) (.const (.int .u64 4294967295)) 22, none⟩,
    ⟨(some 48), .move (.tmp 11), none⟩,
    ⟨(some 49), .binOp .shr 22 (.tmp 48) (.const (.int .u64 32)) 56, none⟩,
    ⟨(some 50), .indexAddr 60 (.tmp 7) (.tmp 45), none⟩,
    ⟨none, .store 22 (.tmp 50) (.tmp 47), none⟩,
    ⟨(some 9), .assign (.tmp 49), none⟩]))
@[go_sem] theorem c_sheafref1_limbs_2_at (rd : Option Nat) (K : Post3) (t : Fr) (m : Mem) : wpM E 42 63 rd c_sheafref1_limbs_2 K t m = wpM E 42 63 rd (.seq (.ops [⟨(some 28), .move (.tmp 8), none⟩,
    ⟨(some 29), .move (.tmp 10), none⟩,
    ⟨(some 30), .binOp .add 3 (.tmp 28) (.tmp 29) 3, none⟩,
    ⟨(some 31), .indexAddr 60 (.tmp 7) (.tmp 30), none⟩,
    ⟨(some 32), .load 22 (.tmp 31), none⟩,
    ⟨(some 33), .move (.tmp 8), none⟩,
    ⟨(some 34), .indexAddr 69 (.tmp 5) (.tmp 33), none⟩,
    ⟨(some 35), .load 22 (.tmp 34), none⟩,
    ⟨(some 36), .move (.tmp 10), none⟩,
    ⟨(some 37), .indexAddr 69 (.tmp 6) (.tmp 36), none⟩,
    ⟨(some 38), .load 22 (.tmp 37), none⟩,
    ⟨(some 39), .binOp .mul 22 (.tmp 35) (.tmp 38) 22, none⟩,
    ⟨(some 40), .binOp .add 22 (.tmp 32) (.tmp 39) 22, none⟩,
    ⟨(some 41), .move (.tmp 9), none⟩,
    ⟨(some 42), .binOp .add 22 (.tmp 40) (.tmp 41) 22, none⟩,
    ⟨(some 11), .assign (.tmp 42), none⟩]) (.ops [⟨(some 43), .move (.tmp 8), none⟩,
    ⟨(some 44), .move (.tmp 10), none⟩,
    ⟨(some 45), .binOp .add 3 (.tmp 43) (.tmp 44) 3, none⟩,
    ⟨(some 46), .move (.tmp 11), none⟩,
    ⟨(some 47), .binOp .and 22 (.tmp 46) (.const (.int .u64 4294967295)) 22, none⟩,
    ⟨(some 48), .move (.tmp 11), none⟩,
    ⟨(some 49), .binOp .shr 22 (.tmp 48) (.const (.int .u64 32)) 56, none⟩,
    ⟨(some 50), .indexAddr 60 (.tmp 7) (.tmp 45), none⟩,
    ⟨none, .store 22 (.tmp 50) (.tmp 47), none⟩,
    ⟨(some 9), .assign (.tmp 49), none⟩])) K t m := rfl

def c_sheafref1_limbs_3 : MC := (.seq (.ops [⟨(some 27), .move (.tmp 25), none⟩,
    ⟨(some 10), .assign (.tmp 27), none⟩]) c_sheafref1_limbs_2)
@[go_sem] theorem c_sheafref1_limbs_3_at (rd : Option Nat) (K : Post3) (t : Fr) (m : Mem) : wpM E 42 63 rd c_sheafref1_limbs_3 K t m = wpM E 42 63 rd (.seq (.ops [⟨(some 27), .move (.tmp 25), none⟩,
    ⟨(some 10), .assign (.tmp 27), none⟩]) c_sheafref1_limbs_2) K t m := rfl

def c_sheafref1_limbs_4 : MC := (.block 3 c_sheafref1_limbs_3)
@[go_sem] theorem c_sheafref1_limbs_4_at (rd : Option Nat) (K : Post3) (t : Fr) (m : Mem) : wpM E 42 63 rd c_sheafref1_limbs_4 K t m = wpM E 42 63 rd (.block 3 c_sheafref1_limbs_3) K t m := rfl

def c_sheafref1_limbs_5 : MC := (.seq c_sheafref1_limbs_4 (.ops [⟨(some 51), .binOp .add 3 (.tmp 25) (.const (.int .i64 1)) 3, none⟩,
    ⟨(some 25), .move (.tmp 51), none⟩]))
@[go_sem] theorem c_sheafref1_limbs_5_at (rd : Option Nat) (K : Post3) (t : Fr) (m : Mem) : wpM E 42 63 rd c_sheafref1_limbs_5 K t m = wpM E 42 63 rd (.seq c_sheafref1_limbs_4 (.ops [⟨(some 51), .binOp .add 3 (.tmp 25) (.const (.int .i64 1)) 3, none⟩,
    ⟨(some 25), .move (.tmp 51), none⟩])) K t m := rfl

def c_sheafref1_limbs_6 : MC := (.seq c_sheafref1_limbs_1 c_sheafref1_limbs_5)
@[go_sem] theorem c_sheafref1_limbs_6_at (rd : Option Nat) (K : Post3) (t : Fr) (m : Mem) : wpM E 42 63 rd c_sheafref1_limbs_6 K t m = wpM E 42 63 rd (.seq c_sheafref1_limbs_1 c_sheafref1_limbs_5) K t m := rfl

def c_sheafref1_limbs_7 : MC := (.seq (.ops [⟨(some 26), .binOp .lss 3 (.tmp 25) (.const (.int .i64 2)) 3, none⟩]) c_sheafref1_limbs_6)
@[go_sem] theorem c_sheafref1_limbs_7_at (rd : Option Nat) (K : Post3) (t : Fr) (m : Mem) : wpM E 42 63 rd c_sheafref1_limbs_7 K t m = wpM E 42 63 rd (.seq (.ops [⟨(some 26), .binOp .lss 3 (.tmp 25) (.const (.int .i64 2)) 3, none⟩]) c_sheafref1_limbs_6) K t m := rfl

def c_sheafref1_limbs_8 : MC := (.loop c_sheafref1_limbs_7)
theorem c_sheafref1_limbs_8_at (rd : Option Nat) (K : Post3) (t : Fr) (m : Mem) : wpM E 42 63 rd c_sheafref1_limbs_8 K t m = wpM E 42 63 rd (.loop c_sheafref1_limbs_7) K t m := rfl

def c_sheafref1_limbs_9 : MC := (.block 2 c_sheafref1_limbs_8)
theorem c_sheafref1_limbs_9_at (rd : Option Nat) (K : Post3) (t : Fr) (m : Mem) : wpM E 42 63 rd c_sheafref1_limbs_9 K t m = wpM E 42 63 rd (.block 2 c_sheafref1_limbs_8) K t m := rfl

def c_sheafref1_limbs_10 : MC := (.seq (.ops [⟨(some 25), .move (.const (.int .i64 0)), none⟩]) c_sheafref1_limbs_9)
@[go_sem] theorem c_sheafref1_limbs_10_at (rd : Option Nat) (K : Post3) (t : Fr) (m : Mem) : wpM E 42 63 rd c_sheafref1_limbs_10 K t m = wpM E 42 63 rd (.seq (.ops [⟨(some 25), .move (.const (.int .i64 0)), none⟩]) c_sheafref1_limbs_9) K t m := rfl

def c_sheafref1_limbs_11 : MC := (.seq c_sheafref1_limbs_10 (.ops [⟨(some 52), .move (.tmp 8), none⟩,
    ⟨(some 53), .binOp .add 3 (.tmp 52) (.const (.int .i64 2)) 3, none⟩,
    ⟨(some 54), .move (.tmp 8), none⟩,
    ⟨(some 55), .binOp .add 3 (.tmp 54) (.const (.int .i64 2)) 3, none⟩,
    ⟨(some 56), .indexAddr 60 (.tmp 7) (.tmp 55), none⟩,
    ⟨(some 57), .load 22 (.tmp 56), none⟩,
    ⟨(some 58), .move (.tmp 9), none⟩,
    ⟨(some 59), .binOp .add 22 (.tmp 57) (.tmp 58) 22, none⟩,
    ⟨(some 60), .indexAddr 60 (.tmp 7) (.tmp 53), none⟩,
    ⟨none, .store 22 (.tmp 60) (.tmp 59), none⟩]))
@[go_sem] theorem c_sheafref1_limbs_11_at (rd : Option Nat) (K : Post3) (t : Fr) (m : Mem) : wpM E 42 63 rd c_sheafref1_limbs_11 K t m = wpM E 42 63 rd (.seq c_sheafref1_limbs_10 (.ops [⟨(some 52), .move (.tmp 8), none⟩,
    ⟨(some 53), .binOp .add 3 (.tmp 52) (.const (.int .i64 2)) 3, none⟩,
    ⟨(some 54), .move (.tmp 8), none⟩,
    ⟨(some 55), .binOp .add 3 (.tmp 54) (.const (.int .i64 2)) 3, none⟩,
    ⟨(some 56), .indexAddr 60 (.tmp 7) (.tmp 55), none⟩,
    ⟨(some 57), .load 22 (.tmp 56), none⟩,
    ⟨(some 58), .move (.tmp 9), none⟩,
    ⟨(some 59), .binOp .add 22 (.tmp 57) (.tmp 58) 22, none⟩,
    ⟨(some 60), .indexAddr 60 (.tmp 7) (.tmp 53), none⟩,
    ⟨none, .store 22 (.tmp 60) (.tmp 59), none⟩])) K t m := rfl

def c_sheafref1_limbs_12 : MC := (.seq (.ops [⟨(some 9), .assign (.const (.int .u64 0)), none⟩]) c_sheafref1_limbs_11)
@[go_sem] theorem c_sheafref1_limbs_12_at (rd : Option Nat) (K : Post3) (t : Fr) (m : Mem) : wpM E 42 63 rd c_sheafref1_limbs_12 K t m = wpM E 42 63 rd (.seq (.ops [⟨(some 9), .assign (.const (.int .u64 0)), none⟩]) c_sheafref1_limbs_11) K t m := rfl

def c_sheafref1_limbs_13 : MC := (.seq (.ops [⟨(some 24), .move (.tmp 22), none⟩,
    ⟨(some 8), .assign (.tmp 24), none⟩]) c_sheafref1_limbs_12)
@[go_sem] theorem c_sheafref1_limbs_13_at (rd : Option Nat) (K : Post3) (t : Fr) (m : Mem) : wpM E 42 63 rd c_sheafref1_limbs_13 K t m = wpM E 42 63 rd (.seq (.ops [⟨(some 24), .move (.tmp 22), none⟩,
    ⟨(some 8), .assign (.tmp 24), none⟩]) c_sheafref1_limbs_12) K t m := rfl

def c_sheafref1_limbs_14 : MC := (.block 1 c_sheafref1_limbs_13)
@[go_sem] theorem c_sheafref1_limbs_14_at (rd : Option Nat) (K : Post3) (t : Fr) (m : Mem) : wpM E 42 63 rd c_sheafref1_limbs_14 K t m = wpM E 42 63 rd (.block 1 c_sheafref1_limbs_13) K t m := rfl

def c_sheafref1_limbs_15 : MC := (.seq c_sheafref1_limbs_14 (.ops [⟨(some 61), .binOp .add 3 (.tmp 22) (.const (.int .i64 1)) 3, none⟩,
    ⟨(some 22), .move (.tmp 61), none⟩]))
@[go_sem] theorem c_sheafref1_limbs_15_at (rd : Option Nat) (K : Post3) (t : Fr) (m : Mem) : wpM E 42 63 rd c_sheafref1_limbs_15 K t m = wpM E 42 63 rd (.seq c_sheafref1_limbs_14 (.ops [⟨(some 61), .binOp .add 3 (.tmp 22) (.const (.int .i64 1)) 3, none⟩,
    ⟨(some 22), .move (.tmp 61), none⟩])) K t m := rfl

def c_sheafref1_limbs_16 : MC := (.seq c_sheafref1_limbs_0 c_sheafref1_limbs_15)
@[go_sem] theorem c_sheafref1_limbs_16_at (rd : Option Nat) (K : Post3) (t : Fr) (m : Mem) : wpM E 42 63 rd c_sheafref1_limbs_16 K t m = wpM E 42 63 rd (.seq c_sheafref1_limbs_0 c_sheafref1_limbs_15) K t m := rfl

def c_sheafref1_limbs_17 : MC := (.seq (.ops [⟨(some 23), .binOp .lss 3 (.tmp 22) (.const (.int .i64 2)) 3, none⟩]) c_sheafref1_limbs_16)
@[go_sem] theorem c_sheafref1_limbs_17_at (rd : Option Nat) (K : Post3) (t : Fr) (m : Mem) : wpM E 42 63 rd c_sheafref1_limbs_17 K t m = wpM E 42 63 rd (.seq (.ops [⟨(some 23), .binOp .lss 3 (.tmp 22) (.const (.int .i64 2)) 3, none⟩]) c_sheafref1_limbs_16) K t m := rfl

def c_sheafref1_limbs_18 : MC := (.loop c_sheafref1_limbs_17)
theorem c_sheafref1_limbs_18_at (rd : Option Nat) (K : Post3) (t : Fr) (m : Mem) : wpM E 42 63 rd c_sheafref1_limbs_18 K t m = wpM E 42 63 rd (.loop c_sheafref1_limbs_17) K t m := rfl

def c_sheafref1_limbs_19 : MC := (.block 0 c_sheafref1_limbs_18)
theorem c_sheafref1_limbs_19_at (rd : Option Nat) (K : Post3) (t : Fr) (m : Mem) : wpM E 42 63 rd c_sheafref1_limbs_19 K t m = wpM E 42 63 rd (.block 0 c_sheafref1_limbs_18) K t m := rfl

def c_sheafref1_limbs_20 : MC := (.seq (.ops [⟨(some 22), .move (.const (.int .i64 0)), none⟩]) c_sheafref1_limbs_19)
@[go_sem] theorem c_sheafref1_limbs_20_at (rd : Option Nat) (K : Post3) (t : Fr) (m : Mem) : wpM E 42 63 rd c_sheafref1_limbs_20 K t m = wpM E 42 63 rd (.seq (.ops [⟨(some 22), .move (.const (.int .i64 0)), none⟩]) c_sheafref1_limbs_19) K t m := rfl

def c_sheafref1_limbs_21 : MC := (.seq (.ops [⟨(some 62), .load 60 (.tmp 7), none⟩,
    ⟨none, .store 60 (.tmp 4) (.tmp 62), none⟩]) .ret)
@[go_sem] theorem c_sheafref1_limbs_21_at (rd : Option Nat) (K : Post3) (t : Fr) (m : Mem) : wpM E 42 63 rd c_sheafref1_limbs_21 K t m = wpM E 42 63 rd (.seq (.ops [⟨(some 62), .load 60 (.tmp 7), none⟩,
    ⟨none, .store 60 (.tmp 4) (.tmp 62), none⟩]) .ret) K t m := rfl

def c_sheafref1_limbs_22 : MC := (.seq c_sheafref1_limbs_20 c_sheafref1_limbs_21)
@[go_sem] theorem c_sheafref1_limbs_22_at (rd : Option Nat) (K : Post3) (t : Fr) (m : Mem) : wpM E 42 63 rd c_sheafref1_limbs_22 K t m = wpM E 42 63 rd (.seq c_sheafref1_limbs_20 c_sheafref1_limbs_21) K t m := rfl

def c_sheafref1_limbs_23 : MC := (.seq (.ops [⟨(some 7), .alloc 60, none⟩]) c_sheafref1_limbs_22)
@[go_sem] theorem c_sheafref1_limbs_23_at (rd : Option Nat) (K : Post3) (t : Fr) (m : Mem) : wpM E 42 63 rd c_sheafref1_limbs_23 K t m = wpM E 42 63 rd (.seq (.ops [⟨(some 7), .alloc 60, none⟩]) c_sheafref1_limbs_22) K t m := rfl

def c_sheafref1_limbs_24 : MC := (.seq (.ops [⟨(some 12), .move (.tmp 0), none⟩,
    ⟨(some 13), .binOp .and 22 (.tmp 12) (.const (.int .u64 4294967295)) 22, none⟩,
    ⟨(some 14), .move (.tmp 0), none⟩,
    ⟨(some 15), .binOp .shr 22 (.tmp 14) (.const (.int .u64 32)) 56, none⟩,
    ⟨(some 16), .build 69 #[(0, (.tmp 13)), (1, (.tmp 15))], none⟩,
    ⟨(some 17), .move (.tmp 1), none⟩,
    ⟨(some 18), .binOp .and 22 (.tmp 17) (.const (.int .u64 4294967295)) 22, none⟩,
    ⟨(some 19), .move (.tmp 1), none⟩,
    ⟨(some 20), .binOp .shr 22 (.tmp 19) (.const (.int .u64 32)) 56, none⟩,
    ⟨(some 21), .build 69 #[(0, (.tmp 18)), (1, (.tmp 20))], none⟩,
    ⟨(some 5), .alloc 69, none⟩,
    ⟨(some 6), .alloc 69, none⟩,
    ⟨none, .store 69 (.tmp 5) (.tmp 16), none⟩,
    ⟨none, .store 69 (.tmp 6) (.tmp 21), none⟩]) c_sheafref1_limbs_23)
@[go_sem] theorem c_sheafref1_limbs_24_at (rd : Option Nat) (K : Post3) (t : Fr) (m : Mem) : wpM E 42 63 rd c_sheafref1_limbs_24 K t m = wpM E 42 63 rd (.seq (.ops [⟨(some 12), .move (.tmp 0), none⟩,
    ⟨(some 13), .binOp .and 22 (.tmp 12) (.const (.int .u64 4294967295)) 22, none⟩,
    ⟨(some 14), .move (.tmp 0), none⟩,
    ⟨(some 15), .binOp .shr 22 (.tmp 14) (.const (.int .u64 32)) 56, none⟩,
    ⟨(some 16), .build 69 #[(0, (.tmp 13)), (1, (.tmp 15))], none⟩,
    ⟨(some 17), .move (.tmp 1), none⟩,
    ⟨(some 18), .binOp .and 22 (.tmp 17) (.const (.int .u64 4294967295)) 22, none⟩,
    ⟨(some 19), .move (.tmp 1), none⟩,
    ⟨(some 20), .binOp .shr 22 (.tmp 19) (.const (.int .u64 32)) 56, none⟩,
    ⟨(some 21), .build 69 #[(0, (.tmp 18)), (1, (.tmp 20))], none⟩,
    ⟨(some 5), .alloc 69, none⟩,
    ⟨(some 6), .alloc 69, none⟩,
    ⟨none, .store 69 (.tmp 5) (.tmp 16), none⟩,
    ⟨none, .store 69 (.tmp 6) (.tmp 21), none⟩]) c_sheafref1_limbs_23) K t m := rfl

def c_sheafref1_limbs_25 : MC := (.seq (.ops [⟨(some 4), .alloc 60, none⟩]) c_sheafref1_limbs_24)
@[go_sem] theorem c_sheafref1_limbs_25_at (rd : Option Nat) (K : Post3) (t : Fr) (m : Mem) : wpM E 42 63 rd c_sheafref1_limbs_25 K t m = wpM E 42 63 rd (.seq (.ops [⟨(some 4), .alloc 60, none⟩]) c_sheafref1_limbs_24) K t m := rfl

@[go_sem] theorem some42 : (E.fn 42).isSome = true := by kernel_rfl
set_option maxRecDepth 100000 in
theorem fn_sheafref1_limbs : FnIs E 42 63 [.cell 4 60] c_sheafref1_limbs_25 := ⟨by kernel_rfl, by kernel_rfl⟩

/-! sheaf/sheafref1.size -/
abbrev F_sheafref1_size : FuncId := 43
def c_sheafref1_size_0 : MC := (.seq (.ops [⟨(some 5), .move (.tmp 0), none⟩,
    ⟨(some 6), .binOp .add 3 (.tmp 5) (.const (.int .i64 1)) 3, none⟩,
    ⟨(some 7), .unOp .neg 3 (.tmp 6), none⟩,
    ⟨(some 8), .convert 3 22 (.tmp 7), none⟩,
    ⟨(some 9), .binOp .add 22 (.tmp 8) (.const (.int .u64 1)) 22, none⟩,
    ⟨(some 2), .assign (.tmp 9), none⟩]) .ret)
@[go_sem] theorem c_sheafref1_size_0_at (rd : Option Nat) (K : Post3) (t : Fr) (m : Mem) : wpM E 43 12 rd c_sheafref1_size_0 K t m = wpM E 43 12 rd (.seq (.ops [⟨(some 5), .move (.tmp 0), none⟩,
    ⟨(some 6), .binOp .add 3 (.tmp 5) (.const (.int .i64 1)) 3, none⟩,
    ⟨(some 7), .unOp .neg 3 (.tmp 6), none⟩,
    ⟨(some 8), .convert 3 22 (.tmp 7), none⟩,
    ⟨(some 9), .binOp .add 22 (.tmp 8) (.const (.int .u64 1)) 22, none⟩,
    ⟨(some 2), .assign (.tmp 9), none⟩]) .ret) K t m := rfl

def c_sheafref1_size_1 : MC := (.cond (.tmp 4) c_sheafref1_size_0 .skip)
@[go_sem] theorem c_sheafref1_size_1_at (rd : Option Nat) (K : Post3) (t : Fr) (m : Mem) : wpM E 43 12 rd c_sheafref1_size_1 K t m = wpM E 43 12 rd (.cond (.tmp 4) c_sheafref1_size_0 .skip) K t m := rfl

def c_sheafref1_size_2 : MC := (.seq (.ops [⟨(some 3), .move (.tmp 0), none⟩,
    ⟨(some 4), .binOp .lss 3 (.tmp 3) (.const (.int .i64 0)) 3, none⟩]) c_sheafref1_size_1)
@[go_sem] theorem c_sheafref1_size_2_at (rd : Option Nat) (K : Post3) (t : Fr) (m : Mem) : wpM E 43 12 rd c_sheafref1_size_2 K t m = wpM E 43 12 rd (.seq (.ops [⟨(some 3), .move (.tmp 0), none⟩,
    ⟨(some 4), .binOp .lss 3 (.tmp 3) (.const (.int .i64 0)) 3, none⟩]) c_sheafref1_size_1) K t m := rfl

def c_sheafref1_size_3 : MC := (.seq (.ops [⟨(some 10), .move (.tmp 0), none⟩,
    ⟨(some 11), .convert 3 22 (.tmp 10), none⟩,
    ⟨(some 2), .assign (.tmp 11), none⟩]) .ret)
@[go_sem] theorem c_sheafref1_size_3_at (rd : Option Nat) (K : Post3) (t : Fr) (m : Mem) : wpM E 43 12 rd c_sheafref1_size_3 K t m = wpM E 43 12 rd (.seq (.ops [⟨(some 10), .move (.tmp 0), none⟩,
    ⟨(some 11), .convert 3 22 (.tmp 10), none⟩,
    ⟨(some 2), .assign (.tmp 11), none⟩]) .ret) K t m := rfl

def c_sheafref1_size_4 : MC := (.seq c_sheafref1_size_2 c_sheafref1_size_3)
@[go_sem] theorem c_sheafref1_size_4_at (rd : Option Nat) (K : Post3) (t : Fr) (m : Mem) : wpM E 43 12 rd c_sheafref1_size_4 K t m = wpM E 43 12 rd (.seq c_sheafref1_size_2 c_sheafref1_size_3) K t m := rfl

def c_sheafref1_size_5 : MC := (.seq (.ops [⟨(some 2), .assign (.const (.int .u64 0)), none⟩]) c_sheafref1_size_4)
@[go_sem] theorem c_sheafref1_size_5_at (rd : Option Nat) (K : Post3) (t : Fr) (m : Mem) : wpM E 43 12 rd c_sheafref1_size_5 K t m = wpM E 43 12 rd (.seq (.ops [⟨(some 2), .assign (.const (.int .u64 0)), none⟩]) c_sheafref1_size_4) K t m := rfl

@[go_sem] theorem some43 : (E.fn 43).isSome = true := by kernel_rfl
set_option maxRecDepth 100000 in
theorem fn_sheafref1_size : FnIs E 43 12 [.tmp 2] c_sheafref1_size_5 := ⟨by kernel_rfl, by kernel_rfl⟩

/-! sheaf/sheafref1.neg -/
abbrev F_sheafref1_neg : FuncId := 44
def c_sheafref1_neg_0 : MC := (.cond (.tmp 13) (.ops [⟨(some 14), .move (.tmp 4), none⟩,
    ⟨(some 15), .binOp .add 2 (.tmp 14) (.const (.int .i64 1)) 2, none⟩,
    ⟨(some 4), .assign (.tmp 15), none⟩]) .skip)
@[go_sem] theorem c_sheafref1_neg_0_at (rd : Option Nat) (K : Post3) (t : Fr) (m : Mem) : wpM E 44 19 rd c_sheafref1_neg_0 K t m = wpM E 44 19 rd (.cond (.tmp 13) (.ops [⟨(some 14), .move (.tmp 4), none⟩,
    ⟨(some 15), .binOp .add 2 (.tmp 14) (.const (.int .i64 1)) 2, none⟩,
    ⟨(some 4), .assign (.tmp 15), none⟩]) .skip) K t m := rfl

def c_sheafref1_neg_1 : MC := (.seq (.ops [⟨(some 12), .move (.tmp 3), none⟩,
    ⟨(some 13), .binOp .eql 22 (.tmp 12) (.const (.int .u64 0)) 22, none⟩]) c_sheafref1_neg_0)
@[go_sem] theorem c_sheafref1_neg_1_at (rd : Option Nat) (K : Post3) (t : Fr) (m : Mem) : wpM E 44 19 rd c_sheafref1_neg_1 K t m = wpM E 44 19 rd (.seq (.ops [⟨(some 12), .move (.tmp 3), none⟩,
    ⟨(some 13), .binOp .eql 22 (.tmp 12) (.const (.int .u64 0)) 22, none⟩]) c_sheafref1_neg_0) K t m := rfl

def c_sheafref1_neg_2 : MC := (.seq (.ops [⟨(some 16), .move (.tmp 4), none⟩,
    ⟨(some 17), .move (.tmp 3), none⟩,
    ⟨(some 18), .build 24 #[(0, (.tmp 16)), (1, (.tmp 17))], none⟩,
    ⟨none, .store 24 (.tmp 2) (.tmp 18), none⟩]) .ret)
@[go_sem] theorem c_sheafref1_neg_2_at (rd : Option Nat) (K : Post3) (t : Fr) (m : Mem) : wpM E 44 19 rd c_sheafref1_neg_2 K t m = wpM E 44 19 rd (.seq (.ops [⟨(some 16), .move (.tmp 4), none⟩,
    ⟨(some 17), .move (.tmp 3), none⟩,
    ⟨(some 18), .build 24 #[(0, (.tmp 16)), (1, (.tmp 17))], none⟩,
    ⟨none, .store 24 (.tmp 2) (.tmp 18), none⟩]) .ret) K t m := rfl

def c_sheafref1_neg_3 : MC := (.seq c_sheafref1_neg_1 c_sheafref1_neg_2)
@[go_sem] theorem c_sheafref1_neg_3_at (rd : Option Nat) (K : Post3) (t : Fr) (m : Mem) : wpM E 44 19 rd c_sheafref1_neg_3 K t m = wpM E 44 19 rd (.seq c_sheafref1_neg_1 c_sheafref1_neg_2) K t m := rfl

def c_sheafref1_neg_4 : MC := (.seq (.ops [⟨(some 9), .fieldAddr 24 (.tmp 1) 0, none⟩,
    ⟨(some 10), .load 2 (.tmp 9), none⟩,
    ⟨(some 11), .unOp .xor 2 (.tmp 10), none⟩,
    ⟨(some 4), .assign (.tmp 11), none⟩]) c_sheafref1_neg_3)
@[go_sem] theorem c_sheafref1_neg_4_at (rd : Option Nat) (K : Post3) (t : Fr) (m : Mem) : wpM E 44 19 rd c_sheafref1_neg_4 K t m = wpM E 44 19 rd (.seq (.ops [⟨(some 9), .fieldAddr 24 (.tmp 1) 0, none⟩,
    ⟨(some 10), .load 2 (.tmp 9), none⟩,
    ⟨(some 11), .unOp .xor 2 (.tmp 10), none⟩,
    ⟨(some 4), .assign (.tmp 11), none⟩]) c_sheafref1_neg_3) K t m := rfl

def c_sheafref1_neg_5 : MC := (.seq (.ops [⟨(some 5), .fieldAddr 24 (.tmp 1) 1, none⟩,
    ⟨(some 6), .load 22 (.tmp 5), none⟩,
    ⟨(some 7), .unOp .xor 22 (.tmp 6), none⟩,
    ⟨(some 8), .binOp .add 22 (.tmp 7) (.const (.int .u64 1)) 22, none⟩,
    ⟨(some 3), .assign (.tmp 8), none⟩]) c_sheafref1_neg_4)
@[go_sem] theorem c_sheafref1_neg_5_at (rd : Option Nat) (K : Post3) (t : Fr) (m : Mem) : wpM E 44 19 rd c_sheafref1_neg_5 K t m = wpM E 44 19 rd (.seq (.ops [⟨(some 5), .fieldAddr 24 (.tmp 1) 1, none⟩,
    ⟨(some 6), .load 22 (.tmp 5), none⟩,
    ⟨(some 7), .unOp .xor 22 (.tmp 6), none⟩,
    ⟨(some 8), .binOp .add 22 (.tmp 7) (.const (.int .u64 1)) 22, none⟩,
    ⟨(some 3), .assign (.tmp 8), none⟩]) c_sheafref1_neg_4) K t m := rfl

def c_sheafref1_neg_6 : MC := (.seq (.ops [⟨(some 1), .box 24 (.tmp 0), none⟩,
    ⟨(some 2), .alloc 24, none⟩]) c_sheafref1_neg_5)
@[go_sem] theorem c_sheafref1_neg_6_at (rd : Option Nat) (K : Post3) (t : Fr) (m : Mem) : wpM E 44 19 rd c_sheafref1_neg_6 K t m = wpM E 44 19 rd (.seq (.ops [⟨(some 1), .box 24 (.tmp 0), none⟩,
    ⟨(some 2), .alloc 24, none⟩]) c_sheafref1_neg_5) K t m := rfl

@[go_sem] theorem some44 : (E.fn 44).isSome = true := by kernel_rfl
set_option maxRecDepth 100000 in
theorem fn_sheafref1_neg : FnIs E 44 19 [.cell 2 24] c_sheafref1_neg_6 := ⟨by kernel_rfl, by kernel_rfl⟩

end Go.Proofs.Ytmgdmldmialiiaa.W
