/-
  Compact code, printed by a program of mine (wip/dev/AbsPrint.lean).
-/
import Derived.Test.YtjmppooebppecaaTypes
set_option linter.unusedVariables false
namespace Go.Proofs.Ytjmppooebppecaa.W
open Go.Abs
noncomputable section

/-! sheaf/wide.Of -/
abbrev F_wide_Of : FuncId := 16
def c_wide_Of_0 : MC := (.seq (.ops [⟨(some 3), .move (.tmp 0), none⟩,
    ⟨(some 4), .binOp .shr 2 (.tmp 3) (.const (.int .u64 63)) 77, none⟩,
    ⟨(some 5), .move (.tmp 0), none⟩,
    ⟨(some 6), .convert 3 25 (.tmp 5), none⟩,
    ⟨(some 7), .build 27 #[(0, (.tmp 4)), (1, (.tmp 6))], none⟩,
    ⟨none, .store 27 (.tmp 2) (.tmp 7), none⟩]) .ret)
@[go_sem] theorem c_wide_Of_0_at (rd : Option Nat) (K : Post3) (t : Fr) (m : Mem) : wpM E 16 8 rd c_wide_Of_0 K t m = wpM E 16 8 rd (.seq (.ops [⟨(some 3), .move (.tmp 0), none⟩,
    ⟨(some 4), .binOp .shr 2 (.tmp 3) (.const (.int .u64 63)) 77, none⟩,
    ⟨(some 5), .move (.tmp 0), none⟩,
    ⟨(some 6), .convert 3 25 (.tmp 5), none⟩,
    ⟨(some 7), .build 27 #[(0, (.tmp 4)), (1, (.tmp 6))], none⟩,
    ⟨none, .store 27 (.tmp 2) (.tmp 7), none⟩]) .ret) K t m := rfl

def c_wide_Of_1 : MC := (.seq (.ops [⟨(some 2), .alloc 27, none⟩]) c_wide_Of_0)
@[go_sem] theorem c_wide_Of_1_at (rd : Option Nat) (K : Post3) (t : Fr) (m : Mem) : wpM E 16 8 rd c_wide_Of_1 K t m = wpM E 16 8 rd (.seq (.ops [⟨(some 2), .alloc 27, none⟩]) c_wide_Of_0) K t m := rfl

@[go_sem] theorem some16 : (E.fn 16).isSome = true := by kernel_rfl
set_option maxRecDepth 100000 in
theorem fn_wide_Of : FnIs E 16 8 [.cell 2 27] c_wide_Of_1 := ⟨by kernel_rfl, by kernel_rfl⟩

/-! sheaf/wide.Int -/
abbrev F_wide_Int : FuncId := 17
def c_wide_Int_0 : MC := (.seq (.ops [⟨(some 12), .move (.tmp 4), none⟩,
    ⟨(some 2), .assign (.tmp 12), none⟩,
    ⟨(some 3), .assign (.const (.bool true)), none⟩]) .ret)
@[go_sem] theorem c_wide_Int_0_at (rd : Option Nat) (K : Post3) (t : Fr) (m : Mem) : wpM E 17 13 rd c_wide_Int_0 K t m = wpM E 17 13 rd (.seq (.ops [⟨(some 12), .move (.tmp 4), none⟩,
    ⟨(some 2), .assign (.tmp 12), none⟩,
    ⟨(some 3), .assign (.const (.bool true)), none⟩]) .ret) K t m := rfl

def c_wide_Int_1 : MC := (.cond (.tmp 11) c_wide_Int_0 .skip)
@[go_sem] theorem c_wide_Int_1_at (rd : Option Nat) (K : Post3) (t : Fr) (m : Mem) : wpM E 17 13 rd c_wide_Int_1 K t m = wpM E 17 13 rd (.cond (.tmp 11) c_wide_Int_0 .skip) K t m := rfl

def c_wide_Int_2 : MC := (.seq (.draw [(0, [], ⟨(some 8), .move (.tmp 4), none⟩),
    (2, [], ⟨(some 10), .load 27 (.tmp 1), none⟩),
    (1, [2], ⟨(some 9), .call ⟨.value (.func 16), #[(.tmp 8)], #[3]⟩, none⟩),
    (3, [], ⟨(some 11), .binOp .eql 27 (.tmp 9) (.tmp 10) 27, none⟩)]) c_wide_Int_1)
@[go_sem] theorem c_wide_Int_2_at (rd : Option Nat) (K : Post3) (t : Fr) (m : Mem) : wpM E 17 13 rd c_wide_Int_2 K t m = wpM E 17 13 rd (.seq (.draw [(0, [], ⟨(some 8), .move (.tmp 4), none⟩),
    (2, [], ⟨(some 10), .load 27 (.tmp 1), none⟩),
    (1, [2], ⟨(some 9), .call ⟨.value (.func 16), #[(.tmp 8)], #[3]⟩, none⟩),
    (3, [], ⟨(some 11), .binOp .eql 27 (.tmp 9) (.tmp 10) 27, none⟩)]) c_wide_Int_1) K t m := rfl

def c_wide_Int_3 : MC := (.seq (.ops [⟨(some 5), .fieldAddr 27 (.tmp 1) 1, none⟩,
    ⟨(some 6), .load 25 (.tmp 5), none⟩,
    ⟨(some 7), .convert 25 3 (.tmp 6), none⟩,
    ⟨(some 4), .assign (.tmp 7), none⟩]) c_wide_Int_2)
@[go_sem] theorem c_wide_Int_3_at (rd : Option Nat) (K : Post3) (t : Fr) (m : Mem) : wpM E 17 13 rd c_wide_Int_3 K t m = wpM E 17 13 rd (.seq (.ops [⟨(some 5), .fieldAddr 27 (.tmp 1) 1, none⟩,
    ⟨(some 6), .load 25 (.tmp 5), none⟩,
    ⟨(some 7), .convert 25 3 (.tmp 6), none⟩,
    ⟨(some 4), .assign (.tmp 7), none⟩]) c_wide_Int_2) K t m := rfl

def c_wide_Int_4 : MC := (.seq (.ops [⟨(some 2), .assign (.const (.int .i64 0)), none⟩,
    ⟨(some 3), .assign (.const (.bool false)), none⟩]) .ret)
@[go_sem] theorem c_wide_Int_4_at (rd : Option Nat) (K : Post3) (t : Fr) (m : Mem) : wpM E 17 13 rd c_wide_Int_4 K t m = wpM E 17 13 rd (.seq (.ops [⟨(some 2), .assign (.const (.int .i64 0)), none⟩,
    ⟨(some 3), .assign (.const (.bool false)), none⟩]) .ret) K t m := rfl

def c_wide_Int_5 : MC := (.seq c_wide_Int_3 c_wide_Int_4)
@[go_sem] theorem c_wide_Int_5_at (rd : Option Nat) (K : Post3) (t : Fr) (m : Mem) : wpM E 17 13 rd c_wide_Int_5 K t m = wpM E 17 13 rd (.seq c_wide_Int_3 c_wide_Int_4) K t m := rfl

def c_wide_Int_6 : MC := (.seq (.ops [⟨(some 1), .box 27 (.tmp 0), none⟩,
    ⟨(some 2), .assign (.const (.int .i64 0)), none⟩,
    ⟨(some 3), .assign (.const (.bool false)), none⟩]) c_wide_Int_5)
@[go_sem] theorem c_wide_Int_6_at (rd : Option Nat) (K : Post3) (t : Fr) (m : Mem) : wpM E 17 13 rd c_wide_Int_6 K t m = wpM E 17 13 rd (.seq (.ops [⟨(some 1), .box 27 (.tmp 0), none⟩,
    ⟨(some 2), .assign (.const (.int .i64 0)), none⟩,
    ⟨(some 3), .assign (.const (.bool false)), none⟩]) c_wide_Int_5) K t m := rfl

@[go_sem] theorem some17 : (E.fn 17).isSome = true := by kernel_rfl
set_option maxRecDepth 100000 in
theorem fn_wide_Int : FnIs E 17 13 [.tmp 2, .tmp 3] c_wide_Int_6 := ⟨by kernel_rfl, by kernel_rfl⟩

/-! sheaf/wide.Mul -/
abbrev F_wide_Mul : FuncId := 29
def c_wide_Mul_0 : MC := (.cond (.tmp 19) (.ops [⟨(some 20), .move (.tmp 7), none⟩,
    ⟨(some 21), .move (.tmp 1), none⟩,
    ⟨(some 22), .binOp .sub 2 (.tmp 20) (.tmp 21) 2, none⟩,
    ⟨(some 7), .assign (.tmp 22), none⟩]) .skip)
@[go_sem] theorem c_wide_Mul_0_at (rd : Option Nat) (K : Post3) (t : Fr) (m : Mem) : wpM E 29 31 rd c_wide_Mul_0 K t m = wpM E 29 31 rd (.cond (.tmp 19) (.ops [⟨(some 20), .move (.tmp 7), none⟩,
    ⟨(some 21), .move (.tmp 1), none⟩,
    ⟨(some 22), .binOp .sub 2 (.tmp 20) (.tmp 21) 2, none⟩,
    ⟨(some 7), .assign (.tmp 22), none⟩]) .skip) K t m := rfl

def c_wide_Mul_1 : MC := (.seq (.ops [⟨(some 18), .move (.tmp 0), none⟩,
    ⟨(some 19), .binOp .lss 3 (.tmp 18) (.const (.int .i64 0)) 3, none⟩]) c_wide_Mul_0)
@[go_sem] theorem c_wide_Mul_1_at (rd : Option Nat) (K : Post3) (t : Fr) (m : Mem) : wpM E 29 31 rd c_wide_Mul_1 K t m = wpM E 29 31 rd (.seq (.ops [⟨(some 18), .move (.tmp 0), none⟩,
    ⟨(some 19), .binOp .lss 3 (.tmp 18) (.const (.int .i64 0)) 3, none⟩]) c_wide_Mul_0) K t m := rfl

def c_wide_Mul_2 : MC := (.cond (.tmp 24) (.ops [⟨(some 25), .move (.tmp 7), none⟩,
    ⟨(some 26), .move (.tmp 0), none⟩,
    ⟨(some 27), .binOp .sub 2 (.tmp 25) (.tmp 26) 2, none⟩,
    ⟨(some 7), .assign (.tmp 27), none⟩]) .skip)
@[go_sem] theorem c_wide_Mul_2_at (rd : Option Nat) (K : Post3) (t : Fr) (m : Mem) : wpM E 29 31 rd c_wide_Mul_2 K t m = wpM E 29 31 rd (.cond (.tmp 24) (.ops [⟨(some 25), .move (.tmp 7), none⟩,
    ⟨(some 26), .move (.tmp 0), none⟩,
    ⟨(some 27), .binOp .sub 2 (.tmp 25) (.tmp 26) 2, none⟩,
    ⟨(some 7), .assign (.tmp 27), none⟩]) .skip) K t m := rfl

def c_wide_Mul_3 : MC := (.seq (.ops [⟨(some 23), .move (.tmp 1), none⟩,
    ⟨(some 24), .binOp .lss 3 (.tmp 23) (.const (.int .i64 0)) 3, none⟩]) c_wide_Mul_2)
@[go_sem] theorem c_wide_Mul_3_at (rd : Option Nat) (K : Post3) (t : Fr) (m : Mem) : wpM E 29 31 rd c_wide_Mul_3 K t m = wpM E 29 31 rd (.seq (.ops [⟨(some 23), .move (.tmp 1), none⟩,
    ⟨(some 24), .binOp .lss 3 (.tmp 23) (.const (.int .i64 0)) 3, none⟩]) c_wide_Mul_2) K t m := rfl

def c_wide_Mul_4 : MC := (.seq (.ops [⟨(some 28), .move (.tmp 7), none⟩,
    ⟨(some 29), .move (.tmp 6), none⟩,
    ⟨(some 30), .build 27 #[(0, (.tmp 28)), (1, (.tmp 29))], none⟩,
    ⟨none, .store 27 (.tmp 4) (.tmp 30), none⟩]) .ret)
@[go_sem] theorem c_wide_Mul_4_at (rd : Option Nat) (K : Post3) (t : Fr) (m : Mem) : wpM E 29 31 rd c_wide_Mul_4 K t m = wpM E 29 31 rd (.seq (.ops [⟨(some 28), .move (.tmp 7), none⟩,
    ⟨(some 29), .move (.tmp 6), none⟩,
    ⟨(some 30), .build 27 #[(0, (.tmp 28)), (1, (.tmp 29))], none⟩,
    ⟨none, .store 27 (.tmp 4) (.tmp 30), none⟩]) .ret) K t m := rfl

def c_wide_Mul_5 : MC := (.seq c_wide_Mul_3 c_wide_Mul_4)
@[go_sem] theorem c_wide_Mul_5_at (rd : Option Nat) (K : Post3) (t : Fr) (m : Mem) : wpM E 29 31 rd c_wide_Mul_5 K t m = wpM E 29 31 rd (.seq c_wide_Mul_3 c_wide_Mul_4) K t m := rfl

def c_wide_Mul_6 : MC := (.seq c_wide_Mul_1 c_wide_Mul_5)
@[go_sem] theorem c_wide_Mul_6_at (rd : Option Nat) (K : Post3) (t : Fr) (m : Mem) : wpM E 29 31 rd c_wide_Mul_6 K t m = wpM E 29 31 rd (.seq c_wide_Mul_1 c_wide_Mul_5) K t m := rfl

def c_wide_Mul_7 : MC := (.seq (.ops [⟨(some 16), .move (.tmp 5), none⟩,
    ⟨(some 17), .convert 25 2 (.tmp 16), none⟩,
    ⟨(some 7), .assign (.tmp 17), none⟩]) c_wide_Mul_6)
@[go_sem] theorem c_wide_Mul_7_at (rd : Option Nat) (K : Post3) (t : Fr) (m : Mem) : wpM E 29 31 rd c_wide_Mul_7 K t m = wpM E 29 31 rd (.seq (.ops [⟨(some 16), .move (.tmp 5), none⟩,
    ⟨(some 17), .convert 25 2 (.tmp 16), none⟩,
    ⟨(some 7), .assign (.tmp 17), none⟩]) c_wide_Mul_6) K t m := rfl

def c_wide_Mul_8 : MC := (.seq (.ops [⟨(some 9), .move (.tmp 0), none⟩,
    ⟨(some 10), .convert 3 25 (.tmp 9), none⟩,
    ⟨(some 11), .move (.tmp 1), none⟩,
    ⟨(some 12), .convert 3 25 (.tmp 11), none⟩,
    ⟨(some 13), .call ⟨.value (.func 51), #[(.tmp 10), (.tmp 12)], #[25, 25]⟩, none⟩,
    ⟨(some 8), .move (.tmp 13), none⟩,
    ⟨(some 14), .extract (.tmp 8) 0, none⟩,
    ⟨(some 15), .extract (.tmp 8) 1, none⟩,
    ⟨(some 5), .assign (.tmp 14), none⟩,
    ⟨(some 6), .assign (.tmp 15), none⟩]) c_wide_Mul_7)
@[go_sem] theorem c_wide_Mul_8_at (rd : Option Nat) (K : Post3) (t : Fr) (m : Mem) : wpM E 29 31 rd c_wide_Mul_8 K t m = wpM E 29 31 rd (.seq (.ops [⟨(some 9), .move (.tmp 0), none⟩,
    ⟨(some 10), .convert 3 25 (.tmp 9), none⟩,
    ⟨(some 11), .move (.tmp 1), none⟩,
    ⟨(some 12), .convert 3 25 (.tmp 11), none⟩,
    ⟨(some 13), .call ⟨.value (.func 51), #[(.tmp 10), (.tmp 12)], #[25, 25]⟩, none⟩,
    ⟨(some 8), .move (.tmp 13), none⟩,
    ⟨(some 14), .extract (.tmp 8) 0, none⟩,
    ⟨(some 15), .extract (.tmp 8) 1, none⟩,
    ⟨(some 5), .assign (.tmp 14), none⟩,
    ⟨(some 6), .assign (.tmp 15), none⟩]) c_wide_Mul_7) K t m := rfl

def c_wide_Mul_9 : MC := (.seq (.ops [⟨(some 4), .alloc 27, none⟩]) c_wide_Mul_8)
@[go_sem] theorem c_wide_Mul_9_at (rd : Option Nat) (K : Post3) (t : Fr) (m : Mem) : wpM E 29 31 rd c_wide_Mul_9 K t m = wpM E 29 31 rd (.seq (.ops [⟨(some 4), .alloc 27, none⟩]) c_wide_Mul_8) K t m := rfl

@[go_sem] theorem some29 : (E.fn 29).isSome = true := by kernel_rfl
set_option maxRecDepth 100000 in
theorem fn_wide_Mul : FnIs E 29 31 [.cell 4 27] c_wide_Mul_9 := ⟨by kernel_rfl, by kernel_rfl⟩

/-! sheaf/wide.Cmp -/
abbrev F_wide_Cmp : FuncId := 30
def c_wide_Cmp_0 : MC := (.seq (.ops [⟨(some 13), .move (.tmp 5), none⟩,
    ⟨(some 4), .assign (.tmp 13), none⟩]) .ret)
@[go_sem] theorem c_wide_Cmp_0_at (rd : Option Nat) (K : Post3) (t : Fr) (m : Mem) : wpM E 30 19 rd c_wide_Cmp_0 K t m = wpM E 30 19 rd (.seq (.ops [⟨(some 13), .move (.tmp 5), none⟩,
    ⟨(some 4), .assign (.tmp 13), none⟩]) .ret) K t m := rfl

def c_wide_Cmp_1 : MC := (.cond (.tmp 12) c_wide_Cmp_0 .skip)
@[go_sem] theorem c_wide_Cmp_1_at (rd : Option Nat) (K : Post3) (t : Fr) (m : Mem) : wpM E 30 19 rd c_wide_Cmp_1 K t m = wpM E 30 19 rd (.cond (.tmp 12) c_wide_Cmp_0 .skip) K t m := rfl

def c_wide_Cmp_2 : MC := (.seq (.ops [⟨(some 11), .move (.tmp 5), none⟩,
    ⟨(some 12), .binOp .neq 3 (.tmp 11) (.const (.int .i64 0)) 3, none⟩]) c_wide_Cmp_1)
@[go_sem] theorem c_wide_Cmp_2_at (rd : Option Nat) (K : Post3) (t : Fr) (m : Mem) : wpM E 30 19 rd c_wide_Cmp_2 K t m = wpM E 30 19 rd (.seq (.ops [⟨(some 11), .move (.tmp 5), none⟩,
    ⟨(some 12), .binOp .neq 3 (.tmp 11) (.const (.int .i64 0)) 3, none⟩]) c_wide_Cmp_1) K t m := rfl

def c_wide_Cmp_3 : MC := (.seq (.ops [⟨(some 6), .fieldAddr 27 (.tmp 2) 0, none⟩,
    ⟨(some 7), .load 2 (.tmp 6), none⟩,
    ⟨(some 8), .fieldAddr 27 (.tmp 3) 0, none⟩,
    ⟨(some 9), .load 2 (.tmp 8), none⟩,
    ⟨(some 10), .call ⟨.value (.func 52), #[(.tmp 7), (.tmp 9)], #[2, 2]⟩, none⟩,
    ⟨(some 5), .assign (.tmp 10), none⟩]) c_wide_Cmp_2)
@[go_sem] theorem c_wide_Cmp_3_at (rd : Option Nat) (K : Post3) (t : Fr) (m : Mem) : wpM E 30 19 rd c_wide_Cmp_3 K t m = wpM E 30 19 rd (.seq (.ops [⟨(some 6), .fieldAddr 27 (.tmp 2) 0, none⟩,
    ⟨(some 7), .load 2 (.tmp 6), none⟩,
    ⟨(some 8), .fieldAddr 27 (.tmp 3) 0, none⟩,
    ⟨(some 9), .load 2 (.tmp 8), none⟩,
    ⟨(some 10), .call ⟨.value (.func 52), #[(.tmp 7), (.tmp 9)], #[2, 2]⟩, none⟩,
    ⟨(some 5), .assign (.tmp 10), none⟩]) c_wide_Cmp_2) K t m := rfl

def c_wide_Cmp_4 : MC := (.seq (.ops [⟨(some 14), .fieldAddr 27 (.tmp 2) 1, none⟩,
    ⟨(some 15), .load 25 (.tmp 14), none⟩,
    ⟨(some 16), .fieldAddr 27 (.tmp 3) 1, none⟩,
    ⟨(some 17), .load 25 (.tmp 16), none⟩,
    ⟨(some 18), .call ⟨.value (.func 53), #[(.tmp 15), (.tmp 17)], #[25, 25]⟩, none⟩,
    ⟨(some 4), .assign (.tmp 18), none⟩]) .ret)
@[go_sem] theorem c_wide_Cmp_4_at (rd : Option Nat) (K : Post3) (t : Fr) (m : Mem) : wpM E 30 19 rd c_wide_Cmp_4 K t m = wpM E 30 19 rd (.seq (.ops [⟨(some 14), .fieldAddr 27 (.tmp 2) 1, none⟩,
    ⟨(some 15), .load 25 (.tmp 14), none⟩,
    ⟨(some 16), .fieldAddr 27 (.tmp 3) 1, none⟩,
    ⟨(some 17), .load 25 (.tmp 16), none⟩,
    ⟨(some 18), .call ⟨.value (.func 53), #[(.tmp 15), (.tmp 17)], #[25, 25]⟩, none⟩,
    ⟨(some 4), .assign (.tmp 18), none⟩]) .ret) K t m := rfl

def c_wide_Cmp_5 : MC := (.seq c_wide_Cmp_3 c_wide_Cmp_4)
@[go_sem] theorem c_wide_Cmp_5_at (rd : Option Nat) (K : Post3) (t : Fr) (m : Mem) : wpM E 30 19 rd c_wide_Cmp_5 K t m = wpM E 30 19 rd (.seq c_wide_Cmp_3 c_wide_Cmp_4) K t m := rfl

def c_wide_Cmp_6 : MC := (.seq (.ops [⟨(some 2), .box 27 (.tmp 0), none⟩,
    ⟨(some 3), .box 27 (.tmp 1), none⟩,
    ⟨(some 4), .assign (.const (.int .i64 0)), none⟩]) c_wide_Cmp_5)
@[go_sem] theorem c_wide_Cmp_6_at (rd : Option Nat) (K : Post3) (t : Fr) (m : Mem) : wpM E 30 19 rd c_wide_Cmp_6 K t m = wpM E 30 19 rd (.seq (.ops [⟨(some 2), .box 27 (.tmp 0), none⟩,
    ⟨(some 3), .box 27 (.tmp 1), none⟩,
    ⟨(some 4), .assign (.const (.int .i64 0)), none⟩]) c_wide_Cmp_5) K t m := rfl

@[go_sem] theorem some30 : (E.fn 30).isSome = true := by kernel_rfl
set_option maxRecDepth 100000 in
theorem fn_wide_Cmp : FnIs E 30 19 [.tmp 4] c_wide_Cmp_6 := ⟨by kernel_rfl, by kernel_rfl⟩

/-! sheaf/wide.Add -/
abbrev F_wide_Add : FuncId := 31
def c_wide_Add_0 : MC := (.seq (.ops [⟨(some 15), .fieldAddr 27 (.tmp 2) 0, none⟩,
    ⟨(some 16), .load 2 (.tmp 15), none⟩,
    ⟨(some 17), .fieldAddr 27 (.tmp 3) 0, none⟩,
    ⟨(some 18), .load 2 (.tmp 17), none⟩,
    ⟨(some 19), .binOp .add 2 (.tmp 16) (.tmp 18) 2, none⟩,
    ⟨(some 20), .move (.tmp 6), none⟩,
    ⟨(some 21), .convert 25 2 (.tmp 20), none⟩,
    ⟨(some 22), .binOp .add 2 (.tmp 19) (.tmp 21) 2, none⟩,
    ⟨(some 23), .move (.tmp 5), none⟩,
    ⟨(some 24), .build 27 #[(0, (.tmp 22)), (1, (.tmp 23))], none⟩,
    ⟨none, .store 27 (.tmp 4) (.tmp 24), none⟩]) .ret)
@[go_sem] theorem c_wide_Add_0_at (rd : Option Nat) (K : Post3) (t : Fr) (m : Mem) : wpM E 31 25 rd c_wide_Add_0 K t m = wpM E 31 25 rd (.seq (.ops [⟨(some 15), .fieldAddr 27 (.tmp 2) 0, none⟩,
    ⟨(some 16), .load 2 (.tmp 15), none⟩,
    ⟨(some 17), .fieldAddr 27 (.tmp 3) 0, none⟩,
    ⟨(some 18), .load 2 (.tmp 17), none⟩,
    ⟨(some 19), .binOp .add 2 (.tmp 16) (.tmp 18) 2, none⟩,
    ⟨(some 20), .move (.tmp 6), none⟩,
    ⟨(some 21), .convert 25 2 (.tmp 20), none⟩,
    ⟨(some 22), .binOp .add 2 (.tmp 19) (.tmp 21) 2, none⟩,
    ⟨(some 23), .move (.tmp 5), none⟩,
    ⟨(some 24), .build 27 #[(0, (.tmp 22)), (1, (.tmp 23))], none⟩,
    ⟨none, .store 27 (.tmp 4) (.tmp 24), none⟩]) .ret) K t m := rfl

def c_wide_Add_1 : MC := (.seq (.ops [⟨(some 8), .fieldAddr 27 (.tmp 2) 1, none⟩,
    ⟨(some 9), .load 25 (.tmp 8), none⟩,
    ⟨(some 10), .fieldAddr 27 (.tmp 3) 1, none⟩,
    ⟨(some 11), .load 25 (.tmp 10), none⟩,
    ⟨(some 12), .call ⟨.value (.func 54), #[(.tmp 9), (.tmp 11), (.const (.int .u64 0))], #[25, 25, 25]⟩, none⟩,
    ⟨(some 7), .move (.tmp 12), none⟩,
    ⟨(some 13), .extract (.tmp 7) 0, none⟩,
    ⟨(some 14), .extract (.tmp 7) 1, none⟩,
    ⟨(some 5), .assign (.tmp 13), none⟩,
    ⟨(some 6), .assign (.tmp 14), none⟩]) c_wide_Add_0)
@[go_sem] theorem c_wide_Add_1_at (rd : Option Nat) (K : Post3) (t : Fr) (m : Mem) : wpM E 31 25 rd c_wide_Add_1 K t m = wpM E 31 25 rd (.seq (.ops [⟨(some 8), .fieldAddr 27 (.tmp 2) 1, none⟩,
    ⟨(some 9), .load 25 (.tmp 8), none⟩,
    ⟨(some 10), .fieldAddr 27 (.tmp 3) 1, none⟩,
    ⟨(some 11), .load 25 (.tmp 10), none⟩,
    ⟨(some 12), .call ⟨.value (.func 54), #[(.tmp 9), (.tmp 11), (.const (.int .u64 0))], #[25, 25, 25]⟩, none⟩,
    ⟨(some 7), .move (.tmp 12), none⟩,
    ⟨(some 13), .extract (.tmp 7) 0, none⟩,
    ⟨(some 14), .extract (.tmp 7) 1, none⟩,
    ⟨(some 5), .assign (.tmp 13), none⟩,
    ⟨(some 6), .assign (.tmp 14), none⟩]) c_wide_Add_0) K t m := rfl

def c_wide_Add_2 : MC := (.seq (.ops [⟨(some 2), .box 27 (.tmp 0), none⟩,
    ⟨(some 3), .box 27 (.tmp 1), none⟩,
    ⟨(some 4), .alloc 27, none⟩]) c_wide_Add_1)
@[go_sem] theorem c_wide_Add_2_at (rd : Option Nat) (K : Post3) (t : Fr) (m : Mem) : wpM E 31 25 rd c_wide_Add_2 K t m = wpM E 31 25 rd (.seq (.ops [⟨(some 2), .box 27 (.tmp 0), none⟩,
    ⟨(some 3), .box 27 (.tmp 1), none⟩,
    ⟨(some 4), .alloc 27, none⟩]) c_wide_Add_1) K t m := rfl

@[go_sem] theorem some31 : (E.fn 31).isSome = true := by kernel_rfl
set_option maxRecDepth 100000 in
theorem fn_wide_Add : FnIs E 31 25 [.cell 4 27] c_wide_Add_2 := ⟨by kernel_rfl, by kernel_rfl⟩

/-! math/bits.Mul64 -/
abbrev F_math_bits_Mul64 : FuncId := 51
def c_math_bits_Mul64_0 : MC := (.seq (.ops [⟨(some 48), .move (.tmp 0), none⟩,
    ⟨(some 49), .move (.tmp 1), none⟩,
    ⟨(some 50), .binOp .mul 25 (.tmp 48) (.tmp 49) 25, none⟩,
    ⟨(some 5), .assign (.tmp 50), none⟩]) .ret)
@[go_sem] theorem c_math_bits_Mul64_0_at (rd : Option Nat) (K : Post3) (t : Fr) (m : Mem) : wpM E 51 51 rd c_math_bits_Mul64_0 K t m = wpM E 51 51 rd (.seq (.ops [⟨(some 48), .move (.tmp 0), none⟩,
    ⟨(some 49), .move (.tmp 1), none⟩,
    ⟨(some 50), .binOp .mul 25 (.tmp 48) (.tmp 49) 25, none⟩,
    ⟨(some 5), .assign (.tmp 50), none⟩]) .ret) K t m := rfl

def c_math_bits_Mul64_1 : MC := (.seq (.ops [⟨(some 40), .move (.tmp 7), none⟩,
    ⟨(some 41), .move (.tmp 9), none⟩,
    ⟨(some 42), .binOp .mul 25 (.tmp 40) (.tmp 41) 25, none⟩,
    ⟨(some 43), .move (.tmp 13), none⟩,
    ⟨(some 44), .binOp .add 25 (.tmp 42) (.tmp 43) 25, none⟩,
    ⟨(some 45), .move (.tmp 12), none⟩,
    ⟨(some 46), .binOp .shr 25 (.tmp 45) (.const (.int .u64 32)) 77, none⟩,
    ⟨(some 47), .binOp .add 25 (.tmp 44) (.tmp 46) 25, none⟩,
    ⟨(some 4), .assign (.tmp 47), none⟩]) c_math_bits_Mul64_0)
@[go_sem] theorem c_math_bits_Mul64_1_at (rd : Option Nat) (K : Post3) (t : Fr) (m : Mem) : wpM E 51 51 rd c_math_bits_Mul64_1 K t m = wpM E 51 51 rd (.seq (.ops [⟨(some 40), .move (.tmp 7), none⟩,
    ⟨(some 41), .move (.tmp 9), none⟩,
    ⟨(some 42), .binOp .mul 25 (.tmp 40) (.tmp 41) 25, none⟩,
    ⟨(some 43), .move (.tmp 13), none⟩,
    ⟨(some 44), .binOp .add 25 (.tmp 42) (.tmp 43) 25, none⟩,
    ⟨(some 45), .move (.tmp 12), none⟩,
    ⟨(some 46), .binOp .shr 25 (.tmp 45) (.const (.int .u64 32)) 77, none⟩,
    ⟨(some 47), .binOp .add 25 (.tmp 44) (.tmp 46) 25, none⟩,
    ⟨(some 4), .assign (.tmp 47), none⟩]) c_math_bits_Mul64_0) K t m := rfl

def c_math_bits_Mul64_2 : MC := (.seq (.ops [⟨(some 35), .move (.tmp 12), none⟩,
    ⟨(some 36), .move (.tmp 6), none⟩,
    ⟨(some 37), .move (.tmp 9), none⟩,
    ⟨(some 38), .binOp .mul 25 (.tmp 36) (.tmp 37) 25, none⟩,
    ⟨(some 39), .binOp .add 25 (.tmp 35) (.tmp 38) 25, none⟩,
    ⟨(some 12), .assign (.tmp 39), none⟩]) c_math_bits_Mul64_1)
@[go_sem] theorem c_math_bits_Mul64_2_at (rd : Option Nat) (K : Post3) (t : Fr) (m : Mem) : wpM E 51 51 rd c_math_bits_Mul64_2 K t m = wpM E 51 51 rd (.seq (.ops [⟨(some 35), .move (.tmp 12), none⟩,
    ⟨(some 36), .move (.tmp 6), none⟩,
    ⟨(some 37), .move (.tmp 9), none⟩,
    ⟨(some 38), .binOp .mul 25 (.tmp 36) (.tmp 37) 25, none⟩,
    ⟨(some 39), .binOp .add 25 (.tmp 35) (.tmp 38) 25, none⟩,
    ⟨(some 12), .assign (.tmp 39), none⟩]) c_math_bits_Mul64_1) K t m := rfl

def c_math_bits_Mul64_3 : MC := (.seq (.ops [⟨(some 33), .move (.tmp 11), none⟩,
    ⟨(some 34), .binOp .shr 25 (.tmp 33) (.const (.int .u64 32)) 77, none⟩,
    ⟨(some 13), .assign (.tmp 34), none⟩]) c_math_bits_Mul64_2)
@[go_sem] theorem c_math_bits_Mul64_3_at (rd : Option Nat) (K : Post3) (t : Fr) (m : Mem) : wpM E 51 51 rd c_math_bits_Mul64_3 K t m = wpM E 51 51 rd (.seq (.ops [⟨(some 33), .move (.tmp 11), none⟩,
    ⟨(some 34), .binOp .shr 25 (.tmp 33) (.const (.int .u64 32)) 77, none⟩,
    ⟨(some 13), .assign (.tmp 34), none⟩]) c_math_bits_Mul64_2) K t m := rfl

def c_math_bits_Mul64_4 : MC := (.seq (.ops [⟨(some 31), .move (.tmp 11), none⟩,
    ⟨(some 32), .binOp .and 25 (.tmp 31) (.const (.int .u64 4294967295)) 25, none⟩,
    ⟨(some 12), .assign (.tmp 32), none⟩]) c_math_bits_Mul64_3)
@[go_sem] theorem c_math_bits_Mul64_4_at (rd : Option Nat) (K : Post3) (t : Fr) (m : Mem) : wpM E 51 51 rd c_math_bits_Mul64_4 K t m = wpM E 51 51 rd (.seq (.ops [⟨(some 31), .move (.tmp 11), none⟩,
    ⟨(some 32), .binOp .and 25 (.tmp 31) (.const (.int .u64 4294967295)) 25, none⟩,
    ⟨(some 12), .assign (.tmp 32), none⟩]) c_math_bits_Mul64_3) K t m := rfl

def c_math_bits_Mul64_5 : MC := (.seq (.ops [⟨(some 25), .move (.tmp 7), none⟩,
    ⟨(some 26), .move (.tmp 8), none⟩,
    ⟨(some 27), .binOp .mul 25 (.tmp 25) (.tmp 26) 25, none⟩,
    ⟨(some 28), .move (.tmp 10), none⟩,
    ⟨(some 29), .binOp .shr 25 (.tmp 28) (.const (.int .u64 32)) 77, none⟩,
    ⟨(some 30), .binOp .add 25 (.tmp 27) (.tmp 29) 25, none⟩,
    ⟨(some 11), .assign (.tmp 30), none⟩]) c_math_bits_Mul64_4)
@[go_sem] theorem c_math_bits_Mul64_5_at (rd : Option Nat) (K : Post3) (t : Fr) (m : Mem) : wpM E 51 51 rd c_math_bits_Mul64_5 K t m = wpM E 51 51 rd (.seq (.ops [⟨(some 25), .move (.tmp 7), none⟩,
    ⟨(some 26), .move (.tmp 8), none⟩,
    ⟨(some 27), .binOp .mul 25 (.tmp 25) (.tmp 26) 25, none⟩,
    ⟨(some 28), .move (.tmp 10), none⟩,
    ⟨(some 29), .binOp .shr 25 (.tmp 28) (.const (.int .u64 32)) 77, none⟩,
    ⟨(some 30), .binOp .add 25 (.tmp 27) (.tmp 29) 25, none⟩,
    ⟨(some 11), .assign (.tmp 30), none⟩]) c_math_bits_Mul64_4) K t m := rfl

def c_math_bits_Mul64_6 : MC := (.seq (.ops [⟨(some 22), .move (.tmp 6), none⟩,
    ⟨(some 23), .move (.tmp 8), none⟩,
    ⟨(some 24), .binOp .mul 25 (.tmp 22) (.tmp 23) 25, none⟩,
    ⟨(some 10), .assign (.tmp 24), none⟩]) c_math_bits_Mul64_5)
@[go_sem] theorem c_math_bits_Mul64_6_at (rd : Option Nat) (K : Post3) (t : Fr) (m : Mem) : wpM E 51 51 rd c_math_bits_Mul64_6 K t m = wpM E 51 51 rd (.seq (.ops [⟨(some 22), .move (.tmp 6), none⟩,
    ⟨(some 23), .move (.tmp 8), none⟩,
    ⟨(some 24), .binOp .mul 25 (.tmp 22) (.tmp 23) 25, none⟩,
    ⟨(some 10), .assign (.tmp 24), none⟩]) c_math_bits_Mul64_5) K t m := rfl

def c_math_bits_Mul64_7 : MC := (.seq (.ops [⟨(some 20), .move (.tmp 1), none⟩,
    ⟨(some 21), .binOp .shr 25 (.tmp 20) (.const (.int .u64 32)) 77, none⟩,
    ⟨(some 9), .assign (.tmp 21), none⟩]) c_math_bits_Mul64_6)
@[go_sem] theorem c_math_bits_Mul64_7_at (rd : Option Nat) (K : Post3) (t : Fr) (m : Mem) : wpM E 51 51 rd c_math_bits_Mul64_7 K t m = wpM E 51 51 rd (.seq (.ops [⟨(some 20), .move (.tmp 1), none⟩,
    ⟨(some 21), .binOp .shr 25 (.tmp 20) (.const (.int .u64 32)) 77, none⟩,
    ⟨(some 9), .assign (.tmp 21), none⟩]) c_math_bits_Mul64_6) K t m := rfl

def c_math_bits_Mul64_8 : MC := (.seq (.ops [⟨(some 18), .move (.tmp 1), none⟩,
    ⟨(some 19), .binOp .and 25 (.tmp 18) (.const (.int .u64 4294967295)) 25, none⟩,
    ⟨(some 8), .assign (.tmp 19), none⟩]) c_math_bits_Mul64_7)
@[go_sem] theorem c_math_bits_Mul64_8_at (rd : Option Nat) (K : Post3) (t : Fr) (m : Mem) : wpM E 51 51 rd c_math_bits_Mul64_8 K t m = wpM E 51 51 rd (.seq (.ops [⟨(some 18), .move (.tmp 1), none⟩,
    ⟨(some 19), .binOp .and 25 (.tmp 18) (.const (.int .u64 4294967295)) 25, none⟩,
    ⟨(some 8), .assign (.tmp 19), none⟩]) c_math_bits_Mul64_7) K t m := rfl

def c_math_bits_Mul64_9 : MC := (.seq (.ops [⟨(some 16), .move (.tmp 0), none⟩,
    ⟨(some 17), .binOp .shr 25 (.tmp 16) (.const (.int .u64 32)) 77, none⟩,
    ⟨(some 7), .assign (.tmp 17), none⟩]) c_math_bits_Mul64_8)
@[go_sem] theorem c_math_bits_Mul64_9_at (rd : Option Nat) (K : Post3) (t : Fr) (m : Mem) : wpM E 51 51 rd c_math_bits_Mul64_9 K t m = wpM E 51 51 rd (.seq (.ops [⟨(some 16), .move (.tmp 0), none⟩,
    ⟨(some 17), .binOp .shr 25 (.tmp 16) (.const (.int .u64 32)) 77, none⟩,
    ⟨(some 7), .assign (.tmp 17), none⟩]) c_math_bits_Mul64_8) K t m := rfl

def c_math_bits_Mul64_10 : MC := (.seq (.ops [⟨(some 14), .move (.tmp 0), none⟩,
    ⟨(some 15), .binOp .and 25 (.tmp 14) (.const (.int .u64 4294967295)) 25, none⟩,
    ⟨(some 6), .assign (.tmp 15), none⟩]) c_math_bits_Mul64_9)
@[go_sem] theorem c_math_bits_Mul64_10_at (rd : Option Nat) (K : Post3) (t : Fr) (m : Mem) : wpM E 51 51 rd c_math_bits_Mul64_10 K t m = wpM E 51 51 rd (.seq (.ops [⟨(some 14), .move (.tmp 0), none⟩,
    ⟨(some 15), .binOp .and 25 (.tmp 14) (.const (.int .u64 4294967295)) 25, none⟩,
    ⟨(some 6), .assign (.tmp 15), none⟩]) c_math_bits_Mul64_9) K t m := rfl

def c_math_bits_Mul64_11 : MC := (.seq (.ops [⟨(some 4), .assign (.const (.int .u64 0)), none⟩,
    ⟨(some 5), .assign (.const (.int .u64 0)), none⟩]) c_math_bits_Mul64_10)
@[go_sem] theorem c_math_bits_Mul64_11_at (rd : Option Nat) (K : Post3) (t : Fr) (m : Mem) : wpM E 51 51 rd c_math_bits_Mul64_11 K t m = wpM E 51 51 rd (.seq (.ops [⟨(some 4), .assign (.const (.int .u64 0)), none⟩,
    ⟨(some 5), .assign (.const (.int .u64 0)), none⟩]) c_math_bits_Mul64_10) K t m := rfl

@[go_sem] theorem some51 : (E.fn 51).isSome = true := by kernel_rfl
set_option maxRecDepth 100000 in
theorem fn_math_bits_Mul64 : FnIs E 51 51 [.tmp 4, .tmp 5] c_math_bits_Mul64_11 := ⟨by kernel_rfl, by kernel_rfl⟩

/-! cmp.Compare[int64] -/
abbrev F_cmp_Compare_int64 : FuncId := 52
def c_cmp_Compare_int64_0 : MC := (.seq (.ops [⟨(some 4), .assign (.const (.int .i64 0)), none⟩]) .ret)
@[go_sem] theorem c_cmp_Compare_int64_0_at (rd : Option Nat) (K : Post3) (t : Fr) (m : Mem) : wpM E 52 20 rd c_cmp_Compare_int64_0 K t m = wpM E 52 20 rd (.seq (.ops [⟨(some 4), .assign (.const (.int .i64 0)), none⟩]) .ret) K t m := rfl

def c_cmp_Compare_int64_1 : MC := (.cond (.tmp 12) c_cmp_Compare_int64_0 .skip)
@[go_sem] theorem c_cmp_Compare_int64_1_at (rd : Option Nat) (K : Post3) (t : Fr) (m : Mem) : wpM E 52 20 rd c_cmp_Compare_int64_1 K t m = wpM E 52 20 rd (.cond (.tmp 12) c_cmp_Compare_int64_0 .skip) K t m := rfl

def c_cmp_Compare_int64_2 : MC := (.seq (.ops [⟨(some 12), .move (.tmp 6), none⟩]) c_cmp_Compare_int64_1)
@[go_sem] theorem c_cmp_Compare_int64_2_at (rd : Option Nat) (K : Post3) (t : Fr) (m : Mem) : wpM E 52 20 rd c_cmp_Compare_int64_2 K t m = wpM E 52 20 rd (.seq (.ops [⟨(some 12), .move (.tmp 6), none⟩]) c_cmp_Compare_int64_1) K t m := rfl

def c_cmp_Compare_int64_3 : MC := (.seq (.ops [⟨(some 4), .assign (.const (.int .i64 (-1))), none⟩]) .ret)
@[go_sem] theorem c_cmp_Compare_int64_3_at (rd : Option Nat) (K : Post3) (t : Fr) (m : Mem) : wpM E 52 20 rd c_cmp_Compare_int64_3 K t m = wpM E 52 20 rd (.seq (.ops [⟨(some 4), .assign (.const (.int .i64 (-1))), none⟩]) .ret) K t m := rfl

def c_cmp_Compare_int64_4 : MC := (.seq c_cmp_Compare_int64_2 c_cmp_Compare_int64_3)
@[go_sem] theorem c_cmp_Compare_int64_4_at (rd : Option Nat) (K : Post3) (t : Fr) (m : Mem) : wpM E 52 20 rd c_cmp_Compare_int64_4 K t m = wpM E 52 20 rd (.seq c_cmp_Compare_int64_2 c_cmp_Compare_int64_3) K t m := rfl

def c_cmp_Compare_int64_5 : MC := (.cond (.tmp 11) c_cmp_Compare_int64_4 .skip)
@[go_sem] theorem c_cmp_Compare_int64_5_at (rd : Option Nat) (K : Post3) (t : Fr) (m : Mem) : wpM E 52 20 rd c_cmp_Compare_int64_5 K t m = wpM E 52 20 rd (.cond (.tmp 11) c_cmp_Compare_int64_4 .skip) K t m := rfl

def c_cmp_Compare_int64_6 : MC := (.seq (.ops [⟨(some 11), .move (.tmp 5), none⟩]) c_cmp_Compare_int64_5)
@[go_sem] theorem c_cmp_Compare_int64_6_at (rd : Option Nat) (K : Post3) (t : Fr) (m : Mem) : wpM E 52 20 rd c_cmp_Compare_int64_6 K t m = wpM E 52 20 rd (.seq (.ops [⟨(some 11), .move (.tmp 5), none⟩]) c_cmp_Compare_int64_5) K t m := rfl

def c_cmp_Compare_int64_7 : MC := (.seq (.ops [⟨(some 4), .assign (.const (.int .i64 1)), none⟩]) .ret)
@[go_sem] theorem c_cmp_Compare_int64_7_at (rd : Option Nat) (K : Post3) (t : Fr) (m : Mem) : wpM E 52 20 rd c_cmp_Compare_int64_7 K t m = wpM E 52 20 rd (.seq (.ops [⟨(some 4), .assign (.const (.int .i64 1)), none⟩]) .ret) K t m := rfl

def c_cmp_Compare_int64_8 : MC := (.cond (.tmp 13) c_cmp_Compare_int64_7 .skip)
@[go_sem] theorem c_cmp_Compare_int64_8_at (rd : Option Nat) (K : Post3) (t : Fr) (m : Mem) : wpM E 52 20 rd c_cmp_Compare_int64_8 K t m = wpM E 52 20 rd (.cond (.tmp 13) c_cmp_Compare_int64_7 .skip) K t m := rfl

def c_cmp_Compare_int64_9 : MC := (.seq (.ops [⟨(some 13), .move (.tmp 6), none⟩]) c_cmp_Compare_int64_8)
@[go_sem] theorem c_cmp_Compare_int64_9_at (rd : Option Nat) (K : Post3) (t : Fr) (m : Mem) : wpM E 52 20 rd c_cmp_Compare_int64_9 K t m = wpM E 52 20 rd (.seq (.ops [⟨(some 13), .move (.tmp 6), none⟩]) c_cmp_Compare_int64_8) K t m := rfl

def c_cmp_Compare_int64_10 : MC := (.seq (.ops [⟨(some 4), .assign (.const (.int .i64 (-1))), none⟩]) .ret)
@[go_sem] theorem c_cmp_Compare_int64_10_at (rd : Option Nat) (K : Post3) (t : Fr) (m : Mem) : wpM E 52 20 rd c_cmp_Compare_int64_10 K t m = wpM E 52 20 rd (.seq (.ops [⟨(some 4), .assign (.const (.int .i64 (-1))), none⟩]) .ret) K t m := rfl

def c_cmp_Compare_int64_11 : MC := (.cond (.tmp 16) c_cmp_Compare_int64_10 .skip)
@[go_sem] theorem c_cmp_Compare_int64_11_at (rd : Option Nat) (K : Post3) (t : Fr) (m : Mem) : wpM E 52 20 rd c_cmp_Compare_int64_11 K t m = wpM E 52 20 rd (.cond (.tmp 16) c_cmp_Compare_int64_10 .skip) K t m := rfl

def c_cmp_Compare_int64_12 : MC := (.seq (.ops [⟨(some 14), .move (.tmp 0), none⟩,
    ⟨(some 15), .move (.tmp 1), none⟩,
    ⟨(some 16), .binOp .lss 2 (.tmp 14) (.tmp 15) 2, none⟩]) c_cmp_Compare_int64_11)
@[go_sem] theorem c_cmp_Compare_int64_12_at (rd : Option Nat) (K : Post3) (t : Fr) (m : Mem) : wpM E 52 20 rd c_cmp_Compare_int64_12 K t m = wpM E 52 20 rd (.seq (.ops [⟨(some 14), .move (.tmp 0), none⟩,
    ⟨(some 15), .move (.tmp 1), none⟩,
    ⟨(some 16), .binOp .lss 2 (.tmp 14) (.tmp 15) 2, none⟩]) c_cmp_Compare_int64_11) K t m := rfl

def c_cmp_Compare_int64_13 : MC := (.seq (.ops [⟨(some 4), .assign (.const (.int .i64 1)), none⟩]) .ret)
@[go_sem] theorem c_cmp_Compare_int64_13_at (rd : Option Nat) (K : Post3) (t : Fr) (m : Mem) : wpM E 52 20 rd c_cmp_Compare_int64_13 K t m = wpM E 52 20 rd (.seq (.ops [⟨(some 4), .assign (.const (.int .i64 1)), none⟩]) .ret) K t m := rfl

def c_cmp_Compare_int64_14 : MC := (.cond (.tmp 19) c_cmp_Compare_int64_13 .skip)
@[go_sem] theorem c_cmp_Compare_int64_14_at (rd : Option Nat) (K : Post3) (t : Fr) (m : Mem) : wpM E 52 20 rd c_cmp_Compare_int64_14 K t m = wpM E 52 20 rd (.cond (.tmp 19) c_cmp_Compare_int64_13 .skip) K t m := rfl

def c_cmp_Compare_int64_15 : MC := (.seq (.ops [⟨(some 17), .move (.tmp 0), none⟩,
    ⟨(some 18), .move (.tmp 1), none⟩,
    ⟨(some 19), .binOp .gtr 2 (.tmp 17) (.tmp 18) 2, none⟩]) c_cmp_Compare_int64_14)
@[go_sem] theorem c_cmp_Compare_int64_15_at (rd : Option Nat) (K : Post3) (t : Fr) (m : Mem) : wpM E 52 20 rd c_cmp_Compare_int64_15 K t m = wpM E 52 20 rd (.seq (.ops [⟨(some 17), .move (.tmp 0), none⟩,
    ⟨(some 18), .move (.tmp 1), none⟩,
    ⟨(some 19), .binOp .gtr 2 (.tmp 17) (.tmp 18) 2, none⟩]) c_cmp_Compare_int64_14) K t m := rfl

def c_cmp_Compare_int64_16 : MC := (.seq (.ops [⟨(some 4), .assign (.const (.int .i64 0)), none⟩]) .ret)
@[go_sem] theorem c_cmp_Compare_int64_16_at (rd : Option Nat) (K : Post3) (t : Fr) (m : Mem) : wpM E 52 20 rd c_cmp_Compare_int64_16 K t m = wpM E 52 20 rd (.seq (.ops [⟨(some 4), .assign (.const (.int .i64 0)), none⟩]) .ret) K t m := rfl

def c_cmp_Compare_int64_17 : MC := (.seq c_cmp_Compare_int64_15 c_cmp_Compare_int64_16)
@[go_sem] theorem c_cmp_Compare_int64_17_at (rd : Option Nat) (K : Post3) (t : Fr) (m : Mem) : wpM E 52 20 rd c_cmp_Compare_int64_17 K t m = wpM E 52 20 rd (.seq c_cmp_Compare_int64_15 c_cmp_Compare_int64_16) K t m := rfl

def c_cmp_Compare_int64_18 : MC := (.seq c_cmp_Compare_int64_12 c_cmp_Compare_int64_17)
@[go_sem] theorem c_cmp_Compare_int64_18_at (rd : Option Nat) (K : Post3) (t : Fr) (m : Mem) : wpM E 52 20 rd c_cmp_Compare_int64_18 K t m = wpM E 52 20 rd (.seq c_cmp_Compare_int64_12 c_cmp_Compare_int64_17) K t m := rfl

def c_cmp_Compare_int64_19 : MC := (.seq c_cmp_Compare_int64_9 c_cmp_Compare_int64_18)
@[go_sem] theorem c_cmp_Compare_int64_19_at (rd : Option Nat) (K : Post3) (t : Fr) (m : Mem) : wpM E 52 20 rd c_cmp_Compare_int64_19 K t m = wpM E 52 20 rd (.seq c_cmp_Compare_int64_9 c_cmp_Compare_int64_18) K t m := rfl

def c_cmp_Compare_int64_20 : MC := (.seq c_cmp_Compare_int64_6 c_cmp_Compare_int64_19)
@[go_sem] theorem c_cmp_Compare_int64_20_at (rd : Option Nat) (K : Post3) (t : Fr) (m : Mem) : wpM E 52 20 rd c_cmp_Compare_int64_20 K t m = wpM E 52 20 rd (.seq c_cmp_Compare_int64_6 c_cmp_Compare_int64_19) K t m := rfl

def c_cmp_Compare_int64_21 : MC := (.seq (.ops [⟨(some 9), .move (.tmp 1), none⟩,
    ⟨(some 10), .call ⟨.value (.func 63), #[(.tmp 9)], #[2]⟩, none⟩,
    ⟨(some 6), .assign (.tmp 10), none⟩]) c_cmp_Compare_int64_20)
@[go_sem] theorem c_cmp_Compare_int64_21_at (rd : Option Nat) (K : Post3) (t : Fr) (m : Mem) : wpM E 52 20 rd c_cmp_Compare_int64_21 K t m = wpM E 52 20 rd (.seq (.ops [⟨(some 9), .move (.tmp 1), none⟩,
    ⟨(some 10), .call ⟨.value (.func 63), #[(.tmp 9)], #[2]⟩, none⟩,
    ⟨(some 6), .assign (.tmp 10), none⟩]) c_cmp_Compare_int64_20) K t m := rfl

def c_cmp_Compare_int64_22 : MC := (.seq (.ops [⟨(some 7), .move (.tmp 0), none⟩,
    ⟨(some 8), .call ⟨.value (.func 63), #[(.tmp 7)], #[2]⟩, none⟩,
    ⟨(some 5), .assign (.tmp 8), none⟩]) c_cmp_Compare_int64_21)
@[go_sem] theorem c_cmp_Compare_int64_22_at (rd : Option Nat) (K : Post3) (t : Fr) (m : Mem) : wpM E 52 20 rd c_cmp_Compare_int64_22 K t m = wpM E 52 20 rd (.seq (.ops [⟨(some 7), .move (.tmp 0), none⟩,
    ⟨(some 8), .call ⟨.value (.func 63), #[(.tmp 7)], #[2]⟩, none⟩,
    ⟨(some 5), .assign (.tmp 8), none⟩]) c_cmp_Compare_int64_21) K t m := rfl

def c_cmp_Compare_int64_23 : MC := (.seq (.ops [⟨(some 4), .assign (.const (.int .i64 0)), none⟩]) c_cmp_Compare_int64_22)
@[go_sem] theorem c_cmp_Compare_int64_23_at (rd : Option Nat) (K : Post3) (t : Fr) (m : Mem) : wpM E 52 20 rd c_cmp_Compare_int64_23 K t m = wpM E 52 20 rd (.seq (.ops [⟨(some 4), .assign (.const (.int .i64 0)), none⟩]) c_cmp_Compare_int64_22) K t m := rfl

@[go_sem] theorem some52 : (E.fn 52).isSome = true := by kernel_rfl
set_option maxRecDepth 100000 in
theorem fn_cmp_Compare_int64 : FnIs E 52 20 [.tmp 4] c_cmp_Compare_int64_23 := ⟨by kernel_rfl, by kernel_rfl⟩

/-! cmp.Compare[uint64] -/
abbrev F_cmp_Compare_uint64 : FuncId := 53
def c_cmp_Compare_uint64_0 : MC := (.seq (.ops [⟨(some 4), .assign (.const (.int .i64 0)), none⟩]) .ret)
@[go_sem] theorem c_cmp_Compare_uint64_0_at (rd : Option Nat) (K : Post3) (t : Fr) (m : Mem) : wpM E 53 20 rd c_cmp_Compare_uint64_0 K t m = wpM E 53 20 rd (.seq (.ops [⟨(some 4), .assign (.const (.int .i64 0)), none⟩]) .ret) K t m := rfl

def c_cmp_Compare_uint64_1 : MC := (.cond (.tmp 12) c_cmp_Compare_uint64_0 .skip)
@[go_sem] theorem c_cmp_Compare_uint64_1_at (rd : Option Nat) (K : Post3) (t : Fr) (m : Mem) : wpM E 53 20 rd c_cmp_Compare_uint64_1 K t m = wpM E 53 20 rd (.cond (.tmp 12) c_cmp_Compare_uint64_0 .skip) K t m := rfl

def c_cmp_Compare_uint64_2 : MC := (.seq (.ops [⟨(some 12), .move (.tmp 6), none⟩]) c_cmp_Compare_uint64_1)
@[go_sem] theorem c_cmp_Compare_uint64_2_at (rd : Option Nat) (K : Post3) (t : Fr) (m : Mem) : wpM E 53 20 rd c_cmp_Compare_uint64_2 K t m = wpM E 53 20 rd (.seq (.ops [⟨(some 12), .move (.tmp 6), none⟩]) c_cmp_Compare_uint64_1) K t m := rfl

def c_cmp_Compare_uint64_3 : MC := (.seq (.ops [⟨(some 4), .assign (.const (.int .i64 (-1))), none⟩]) .ret)
@[go_sem] theorem c_cmp_Compare_uint64_3_at (rd : Option Nat) (K : Post3) (t : Fr) (m : Mem) : wpM E 53 20 rd c_cmp_Compare_uint64_3 K t m = wpM E 53 20 rd (.seq (.ops [⟨(some 4), .assign (.const (.int .i64 (-1))), none⟩]) .ret) K t m := rfl

def c_cmp_Compare_uint64_4 : MC := (.seq c_cmp_Compare_uint64_2 c_cmp_Compare_uint64_3)
@[go_sem] theorem c_cmp_Compare_uint64_4_at (rd : Option Nat) (K : Post3) (t : Fr) (m : Mem) : wpM E 53 20 rd c_cmp_Compare_uint64_4 K t m = wpM E 53 20 rd (.seq c_cmp_Compare_uint64_2 c_cmp_Compare_uint64_3) K t m := rfl

def c_cmp_Compare_uint64_5 : MC := (.cond (.tmp 11) c_cmp_Compare_uint64_4 .skip)
@[go_sem] theorem c_cmp_Compare_uint64_5_at (rd : Option Nat) (K : Post3) (t : Fr) (m : Mem) : wpM E 53 20 rd c_cmp_Compare_uint64_5 K t m = wpM E 53 20 rd (.cond (.tmp 11) c_cmp_Compare_uint64_4 .skip) K t m := rfl

def c_cmp_Compare_uint64_6 : MC := (.seq (.ops [⟨(some 11), .move (.tmp 5), none⟩]) c_cmp_Compare_uint64_5)
@[go_sem] theorem c_cmp_Compare_uint64_6_at (rd : Option Nat) (K : Post3) (t : Fr) (m : Mem) : wpM E 53 20 rd c_cmp_Compare_uint64_6 K t m = wpM E 53 20 rd (.seq (.ops [⟨(some 11), .move (.tmp 5), none⟩]) c_cmp_Compare_uint64_5) K t m := rfl

def c_cmp_Compare_uint64_7 : MC := (.seq (.ops [⟨(some 4), .assign (.const (.int .i64 1)), none⟩]) .ret)
@[go_sem] theorem c_cmp_Compare_uint64_7_at (rd : Option Nat) (K : Post3) (t : Fr) (m : Mem) : wpM E 53 20 rd c_cmp_Compare_uint64_7 K t m = wpM E 53 20 rd (.seq (.ops [⟨(some 4), .assign (.const (.int .i64 1)), none⟩]) .ret) K t m := rfl

def c_cmp_Compare_uint64_8 : MC := (.cond (.tmp 13) c_cmp_Compare_uint64_7 .skip)
@[go_sem] theorem c_cmp_Compare_uint64_8_at (rd : Option Nat) (K : Post3) (t : Fr) (m : Mem) : wpM E 53 20 rd c_cmp_Compare_uint64_8 K t m = wpM E 53 20 rd (.cond (.tmp 13) c_cmp_Compare_uint64_7 .skip) K t m := rfl

def c_cmp_Compare_uint64_9 : MC := (.seq (.ops [⟨(some 13), .move (.tmp 6), none⟩]) c_cmp_Compare_uint64_8)
@[go_sem] theorem c_cmp_Compare_uint64_9_at (rd : Option Nat) (K : Post3) (t : Fr) (m : Mem) : wpM E 53 20 rd c_cmp_Compare_uint64_9 K t m = wpM E 53 20 rd (.seq (.ops [⟨(some 13), .move (.tmp 6), none⟩]) c_cmp_Compare_uint64_8) K t m := rfl

def c_cmp_Compare_uint64_10 : MC := (.seq (.ops [⟨(some 4), .assign (.const (.int .i64 (-1))), none⟩]) .ret)
@[go_sem] theorem c_cmp_Compare_uint64_10_at (rd : Option Nat) (K : Post3) (t : Fr) (m : Mem) : wpM E 53 20 rd c_cmp_Compare_uint64_10 K t m = wpM E 53 20 rd (.seq (.ops [⟨(some 4), .assign (.const (.int .i64 (-1))), none⟩]) .ret) K t m := rfl

def c_cmp_Compare_uint64_11 : MC := (.cond (.tmp 16) c_cmp_Compare_uint64_10 .skip)
@[go_sem] theorem c_cmp_Compare_uint64_11_at (rd : Option Nat) (K : Post3) (t : Fr) (m : Mem) : wpM E 53 20 rd c_cmp_Compare_uint64_11 K t m = wpM E 53 20 rd (.cond (.tmp 16) c_cmp_Compare_uint64_10 .skip) K t m := rfl

def c_cmp_Compare_uint64_12 : MC := (.seq (.ops [⟨(some 14), .move (.tmp 0), none⟩,
    ⟨(some 15), .move (.tmp 1), none⟩,
    ⟨(some 16), .binOp .lss 25 (.tmp 14) (.tmp 15) 25, none⟩]) c_cmp_Compare_uint64_11)
@[go_sem] theorem c_cmp_Compare_uint64_12_at (rd : Option Nat) (K : Post3) (t : Fr) (m : Mem) : wpM E 53 20 rd c_cmp_Compare_uint64_12 K t m = wpM E 53 20 rd (.seq (.ops [⟨(some 14), .move (.tmp 0), none⟩,
    ⟨(some 15), .move (.tmp 1), none⟩,
    ⟨(some 16), .binOp .lss 25 (.tmp 14) (.tmp 15) 25, none⟩]) c_cmp_Compare_uint64_11) K t m := rfl

def c_cmp_Compare_uint64_13 : MC := (.seq (.ops [⟨(some 4), .assign (.const (.int .i64 1)), none⟩]) .ret)
@[go_sem] theorem c_cmp_Compare_uint64_13_at (rd : Option Nat) (K : Post3) (t : Fr) (m : Mem) : wpM E 53 20 rd c_cmp_Compare_uint64_13 K t m = wpM E 53 20 rd (.seq (.ops [⟨(some 4), .assign (.const (.int .i64 1)), none⟩]) .ret) K t m := rfl

def c_cmp_Compare_uint64_14 : MC := (.cond (.tmp 19) c_cmp_Compare_uint64_13 .skip)
@[go_sem] theorem c_cmp_Compare_uint64_14_at (rd : Option Nat) (K : Post3) (t : Fr) (m : Mem) : wpM E 53 20 rd c_cmp_Compare_uint64_14 K t m = wpM E 53 20 rd (.cond (.tmp 19) c_cmp_Compare_uint64_13 .skip) K t m := rfl

def c_cmp_Compare_uint64_15 : MC := (.seq (.ops [⟨(some 17), .move (.tmp 0), none⟩,
    ⟨(some 18), .move (.tmp 1), none⟩,
    ⟨(some 19), .binOp .gtr 25 (.tmp 17) (.tmp 18) 25, none⟩]) c_cmp_Compare_uint64_14)
@[go_sem] theorem c_cmp_Compare_uint64_15_at (rd : Option Nat) (K : Post3) (t : Fr) (m : Mem) : wpM E 53 20 rd c_cmp_Compare_uint64_15 K t m = wpM E 53 20 rd (.seq (.ops [⟨(some 17), .move (.tmp 0), none⟩,
    ⟨(some 18), .move (.tmp 1), none⟩,
    ⟨(some 19), .binOp .gtr 25 (.tmp 17) (.tmp 18) 25, none⟩]) c_cmp_Compare_uint64_14) K t m := rfl

def c_cmp_Compare_uint64_16 : MC := (.seq (.ops [⟨(some 4), .assign (.const (.int .i64 0)), none⟩]) .ret)
@[go_sem] theorem c_cmp_Compare_uint64_16_at (rd : Option Nat) (K : Post3) (t : Fr) (m : Mem) : wpM E 53 20 rd c_cmp_Compare_uint64_16 K t m = wpM E 53 20 rd (.seq (.ops [⟨(some 4), .assign (.const (.int .i64 0)), none⟩]) .ret) K t m := rfl

def c_cmp_Compare_uint64_17 : MC := (.seq c_cmp_Compare_uint64_15 c_cmp_Compare_uint64_16)
@[go_sem] theorem c_cmp_Compare_uint64_17_at (rd : Option Nat) (K : Post3) (t : Fr) (m : Mem) : wpM E 53 20 rd c_cmp_Compare_uint64_17 K t m = wpM E 53 20 rd (.seq c_cmp_Compare_uint64_15 c_cmp_Compare_uint64_16) K t m := rfl

def c_cmp_Compare_uint64_18 : MC := (.seq c_cmp_Compare_uint64_12 c_cmp_Compare_uint64_17)
@[go_sem] theorem c_cmp_Compare_uint64_18_at (rd : Option Nat) (K : Post3) (t : Fr) (m : Mem) : wpM E 53 20 rd c_cmp_Compare_uint64_18 K t m = wpM E 53 20 rd (.seq c_cmp_Compare_uint64_12 c_cmp_Compare_uint64_17) K t m := rfl

def c_cmp_Compare_uint64_19 : MC := (.seq c_cmp_Compare_uint64_9 c_cmp_Compare_uint64_18)
@[go_sem] theorem c_cmp_Compare_uint64_19_at (rd : Option Nat) (K : Post3) (t : Fr) (m : Mem) : wpM E 53 20 rd c_cmp_Compare_uint64_19 K t m = wpM E 53 20 rd (.seq c_cmp_Compare_uint64_9 c_cmp_Compare_uint64_18) K t m := rfl

def c_cmp_Compare_uint64_20 : MC := (.seq c_cmp_Compare_uint64_6 c_cmp_Compare_uint64_19)
@[go_sem] theorem c_cmp_Compare_uint64_20_at (rd : Option Nat) (K : Post3) (t : Fr) (m : Mem) : wpM E 53 20 rd c_cmp_Compare_uint64_20 K t m = wpM E 53 20 rd (.seq c_cmp_Compare_uint64_6 c_cmp_Compare_uint64_19) K t m := rfl

def c_cmp_Compare_uint64_21 : MC := (.seq (.ops [⟨(some 9), .move (.tmp 1), none⟩,
    ⟨(some 10), .call ⟨.value (.func 64), #[(.tmp 9)], #[25]⟩, none⟩,
    ⟨(some 6), .assign (.tmp 10), none⟩]) c_cmp_Compare_uint64_20)
@[go_sem] theorem c_cmp_Compare_uint64_21_at (rd : Option Nat) (K : Post3) (t : Fr) (m : Mem) : wpM E 53 20 rd c_cmp_Compare_uint64_21 K t m = wpM E 53 20 rd (.seq (.ops [⟨(some 9), .move (.tmp 1), none⟩,
    ⟨(some 10), .call ⟨.value (.func 64), #[(.tmp 9)], #[25]⟩, none⟩,
    ⟨(some 6), .assign (.tmp 10), none⟩]) c_cmp_Compare_uint64_20) K t m := rfl

def c_cmp_Compare_uint64_22 : MC := (.seq (.ops [⟨(some 7), .move (.tmp 0), none⟩,
    ⟨(some 8), .call ⟨.value (.func 64), #[(.tmp 7)], #[25]⟩, none⟩,
    ⟨(some 5), .assign (.tmp 8), none⟩]) c_cmp_Compare_uint64_21)
@[go_sem] theorem c_cmp_Compare_uint64_22_at (rd : Option Nat) (K : Post3) (t : Fr) (m : Mem) : wpM E 53 20 rd c_cmp_Compare_uint64_22 K t m = wpM E 53 20 rd (.seq (.ops [⟨(some 7), .move (.tmp 0), none⟩,
    ⟨(some 8), .call ⟨.value (.func 64), #[(.tmp 7)], #[25]⟩, none⟩,
    ⟨(some 5), .assign (.tmp 8), none⟩]) c_cmp_Compare_uint64_21) K t m := rfl

def c_cmp_Compare_uint64_23 : MC := (.seq (.ops [⟨(some 4), .assign (.const (.int .i64 0)), none⟩]) c_cmp_Compare_uint64_22)
@[go_sem] theorem c_cmp_Compare_uint64_23_at (rd : Option Nat) (K : Post3) (t : Fr) (m : Mem) : wpM E 53 20 rd c_cmp_Compare_uint64_23 K t m = wpM E 53 20 rd (.seq (.ops [⟨(some 4), .assign (.const (.int .i64 0)), none⟩]) c_cmp_Compare_uint64_22) K t m := rfl

@[go_sem] theorem some53 : (E.fn 53).isSome = true := by kernel_rfl
set_option maxRecDepth 100000 in
theorem fn_cmp_Compare_uint64 : FnIs E 53 20 [.tmp 4] c_cmp_Compare_uint64_23 := ⟨by kernel_rfl, by kernel_rfl⟩

/-! cmp.isNaN[int64] -/
abbrev F_cmp_isNaN_int64 : FuncId := 63
def c_cmp_isNaN_int64_0 : MC := (.seq (.ops [⟨(some 3), .move (.tmp 0), none⟩,
    ⟨(some 4), .move (.tmp 0), none⟩,
    ⟨(some 5), .binOp .neq 2 (.tmp 3) (.tmp 4) 2, none⟩,
    ⟨(some 2), .assign (.tmp 5), none⟩]) .ret)
@[go_sem] theorem c_cmp_isNaN_int64_0_at (rd : Option Nat) (K : Post3) (t : Fr) (m : Mem) : wpM E 63 6 rd c_cmp_isNaN_int64_0 K t m = wpM E 63 6 rd (.seq (.ops [⟨(some 3), .move (.tmp 0), none⟩,
    ⟨(some 4), .move (.tmp 0), none⟩,
    ⟨(some 5), .binOp .neq 2 (.tmp 3) (.tmp 4) 2, none⟩,
    ⟨(some 2), .assign (.tmp 5), none⟩]) .ret) K t m := rfl

def c_cmp_isNaN_int64_1 : MC := (.seq (.ops [⟨(some 2), .assign (.const (.bool false)), none⟩]) c_cmp_isNaN_int64_0)
@[go_sem] theorem c_cmp_isNaN_int64_1_at (rd : Option Nat) (K : Post3) (t : Fr) (m : Mem) : wpM E 63 6 rd c_cmp_isNaN_int64_1 K t m = wpM E 63 6 rd (.seq (.ops [⟨(some 2), .assign (.const (.bool false)), none⟩]) c_cmp_isNaN_int64_0) K t m := rfl

@[go_sem] theorem some63 : (E.fn 63).isSome = true := by kernel_rfl
set_option maxRecDepth 100000 in
theorem fn_cmp_isNaN_int64 : FnIs E 63 6 [.tmp 2] c_cmp_isNaN_int64_1 := ⟨by kernel_rfl, by kernel_rfl⟩

/-! cmp.isNaN[uint64] -/
abbrev F_cmp_isNaN_uint64 : FuncId := 64
def c_cmp_isNaN_uint64_0 : MC := (.seq (.ops [⟨(some 3), .move (.tmp 0), none⟩,
    ⟨(some 4), .move (.tmp 0), none⟩,
    ⟨(some 5), .binOp .neq 25 (.tmp 3) (.tmp 4) 25, none⟩,
    ⟨(some 2), .assign (.tmp 5), none⟩]) .ret)
@[go_sem] theorem c_cmp_isNaN_uint64_0_at (rd : Option Nat) (K : Post3) (t : Fr) (m : Mem) : wpM E 64 6 rd c_cmp_isNaN_uint64_0 K t m = wpM E 64 6 rd (.seq (.ops [⟨(some 3), .move (.tmp 0), none⟩,
    ⟨(some 4), .move (.tmp 0), none⟩,
    ⟨(some 5), .binOp .neq 25 (.tmp 3) (.tmp 4) 25, none⟩,
    ⟨(some 2), .assign (.tmp 5), none⟩]) .ret) K t m := rfl

def c_cmp_isNaN_uint64_1 : MC := (.seq (.ops [⟨(some 2), .assign (.const (.bool false)), none⟩]) c_cmp_isNaN_uint64_0)
@[go_sem] theorem c_cmp_isNaN_uint64_1_at (rd : Option Nat) (K : Post3) (t : Fr) (m : Mem) : wpM E 64 6 rd c_cmp_isNaN_uint64_1 K t m = wpM E 64 6 rd (.seq (.ops [⟨(some 2), .assign (.const (.bool false)), none⟩]) c_cmp_isNaN_uint64_0) K t m := rfl

@[go_sem] theorem some64 : (E.fn 64).isSome = true := by kernel_rfl
set_option maxRecDepth 100000 in
theorem fn_cmp_isNaN_uint64 : FnIs E 64 6 [.tmp 2] c_cmp_isNaN_uint64_1 := ⟨by kernel_rfl, by kernel_rfl⟩

end
end Go.Proofs.Ytjmppooebppecaa.W
