/-
  Compact code, printed by a program of mine (wip/dev/AbsPrint.lean).
-/
import Derived.Test.YtpabllcacdopdaaTypes
set_option linter.unusedVariables false
namespace Go.Proofs.Ytpabllcacdopdaa.W
open Go.Abs
noncomputable section

/-! sheaf/stage.Doubles -/
abbrev F_stage_Doubles : FuncId := 10
def c_stage_Doubles_0 : MC := (.seq (.ops [⟨(some 3), .makeFunc (.func 30) #[] #[(.tmp 1)], none⟩,
    ⟨(some 2), .assign (.tmp 3), none⟩]) .ret)
@[go_sem] theorem c_stage_Doubles_0_at (rd : Option Nat) (K : Post3) (t : Fr) (m : Mem) : wpM E 10 4 rd c_stage_Doubles_0 K t m = wpM E 10 4 rd (.seq (.ops [⟨(some 3), .makeFunc (.func 30) #[] #[(.tmp 1)], none⟩,
    ⟨(some 2), .assign (.tmp 3), none⟩]) .ret) K t m := rfl

def c_stage_Doubles_1 : MC := (.seq (.ops [⟨(some 1), .box 30 (.tmp 0), none⟩,
    ⟨(some 2), .assign (.const .nilFunc), none⟩]) c_stage_Doubles_0)
@[go_sem] theorem c_stage_Doubles_1_at (rd : Option Nat) (K : Post3) (t : Fr) (m : Mem) : wpM E 10 4 rd c_stage_Doubles_1 K t m = wpM E 10 4 rd (.seq (.ops [⟨(some 1), .box 30 (.tmp 0), none⟩,
    ⟨(some 2), .assign (.const .nilFunc), none⟩]) c_stage_Doubles_0) K t m := rfl

@[go_sem] theorem some10 : (E.fn 10).isSome = true := by kernel_rfl
set_option maxRecDepth 100000 in
theorem fn_stage_Doubles : FnIs E 10 4 [.tmp 2] c_stage_Doubles_1 := ⟨by kernel_rfl, by kernel_rfl⟩

/-! sheaf/stage.Rates -/
abbrev F_stage_Rates : FuncId := 12
def c_stage_Rates_0 : MC := (.seq (.ops [⟨(some 5), .makeFunc (.func 35) #[] #[(.tmp 2), (.tmp 3)], none⟩,
    ⟨(some 4), .assign (.tmp 5), none⟩]) .ret)
@[go_sem] theorem c_stage_Rates_0_at (rd : Option Nat) (K : Post3) (t : Fr) (m : Mem) : wpM E 12 6 rd c_stage_Rates_0 K t m = wpM E 12 6 rd (.seq (.ops [⟨(some 5), .makeFunc (.func 35) #[] #[(.tmp 2), (.tmp 3)], none⟩,
    ⟨(some 4), .assign (.tmp 5), none⟩]) .ret) K t m := rfl

def c_stage_Rates_1 : MC := (.seq (.ops [⟨(some 2), .box 30 (.tmp 0), none⟩,
    ⟨(some 3), .box 33 (.tmp 1), none⟩,
    ⟨(some 4), .assign (.const .nilFunc), none⟩]) c_stage_Rates_0)
@[go_sem] theorem c_stage_Rates_1_at (rd : Option Nat) (K : Post3) (t : Fr) (m : Mem) : wpM E 12 6 rd c_stage_Rates_1 K t m = wpM E 12 6 rd (.seq (.ops [⟨(some 2), .box 30 (.tmp 0), none⟩,
    ⟨(some 3), .box 33 (.tmp 1), none⟩,
    ⟨(some 4), .assign (.const .nilFunc), none⟩]) c_stage_Rates_0) K t m := rfl

@[go_sem] theorem some12 : (E.fn 12).isSome = true := by kernel_rfl
set_option maxRecDepth 100000 in
theorem fn_stage_Rates : FnIs E 12 6 [.tmp 4] c_stage_Rates_1 := ⟨by kernel_rfl, by kernel_rfl⟩

/-! sheaf/stage.Entities -/
abbrev F_stage_Entities : FuncId := 19
def c_stage_Entities_0 : MC := (.seq (.ops [⟨(some 5), .move (.tmp 0), none⟩,
    ⟨(some 6), .move (.tmp 1), none⟩,
    ⟨(some 7), .call ⟨.value (.func 40), #[(.tmp 5), (.tmp 6), (.const (.int .i64 1)), (.const (.int .i64 4)), (.func 41)], #[30, 33, 3, 3, 68]⟩, none⟩,
    ⟨(some 4), .assign (.tmp 7), none⟩]) .ret)
@[go_sem] theorem c_stage_Entities_0_at (rd : Option Nat) (K : Post3) (t : Fr) (m : Mem) : wpM E 19 8 rd c_stage_Entities_0 K t m = wpM E 19 8 rd (.seq (.ops [⟨(some 5), .move (.tmp 0), none⟩,
    ⟨(some 6), .move (.tmp 1), none⟩,
    ⟨(some 7), .call ⟨.value (.func 40), #[(.tmp 5), (.tmp 6), (.const (.int .i64 1)), (.const (.int .i64 4)), (.func 41)], #[30, 33, 3, 3, 68]⟩, none⟩,
    ⟨(some 4), .assign (.tmp 7), none⟩]) .ret) K t m := rfl

def c_stage_Entities_1 : MC := (.seq (.ops [⟨(some 4), .assign (.const .nilFunc), none⟩]) c_stage_Entities_0)
@[go_sem] theorem c_stage_Entities_1_at (rd : Option Nat) (K : Post3) (t : Fr) (m : Mem) : wpM E 19 8 rd c_stage_Entities_1 K t m = wpM E 19 8 rd (.seq (.ops [⟨(some 4), .assign (.const .nilFunc), none⟩]) c_stage_Entities_0) K t m := rfl

@[go_sem] theorem some19 : (E.fn 19).isSome = true := by kernel_rfl
set_option maxRecDepth 100000 in
theorem fn_stage_Entities : FnIs E 19 8 [.tmp 4] c_stage_Entities_1 := ⟨by kernel_rfl, by kernel_rfl⟩

/-! sheaf/stage.Partners -/
abbrev F_stage_Partners : FuncId := 20
def c_stage_Partners_0 : MC := (.seq (.ops [⟨(some 5), .move (.tmp 0), none⟩,
    ⟨(some 6), .move (.tmp 1), none⟩,
    ⟨(some 7), .call ⟨.value (.func 40), #[(.tmp 5), (.tmp 6), (.const (.int .i64 5)), (.const (.int .i64 6)), (.func 42)], #[30, 33, 3, 3, 68]⟩, none⟩,
    ⟨(some 4), .assign (.tmp 7), none⟩]) .ret)
@[go_sem] theorem c_stage_Partners_0_at (rd : Option Nat) (K : Post3) (t : Fr) (m : Mem) : wpM E 20 8 rd c_stage_Partners_0 K t m = wpM E 20 8 rd (.seq (.ops [⟨(some 5), .move (.tmp 0), none⟩,
    ⟨(some 6), .move (.tmp 1), none⟩,
    ⟨(some 7), .call ⟨.value (.func 40), #[(.tmp 5), (.tmp 6), (.const (.int .i64 5)), (.const (.int .i64 6)), (.func 42)], #[30, 33, 3, 3, 68]⟩, none⟩,
    ⟨(some 4), .assign (.tmp 7), none⟩]) .ret) K t m := rfl

def c_stage_Partners_1 : MC := (.seq (.ops [⟨(some 4), .assign (.const .nilFunc), none⟩]) c_stage_Partners_0)
@[go_sem] theorem c_stage_Partners_1_at (rd : Option Nat) (K : Post3) (t : Fr) (m : Mem) : wpM E 20 8 rd c_stage_Partners_1 K t m = wpM E 20 8 rd (.seq (.ops [⟨(some 4), .assign (.const .nilFunc), none⟩]) c_stage_Partners_0) K t m := rfl

@[go_sem] theorem some20 : (E.fn 20).isSome = true := by kernel_rfl
set_option maxRecDepth 100000 in
theorem fn_stage_Partners : FnIs E 20 8 [.tmp 4] c_stage_Partners_1 := ⟨by kernel_rfl, by kernel_rfl⟩

/-! sheaf/stage.Shape -/
abbrev F_stage_Shape : FuncId := 21
def c_stage_Shape_0 : MC := (.seq (.ops [⟨(some 3), .move (.tmp 0), none⟩,
    ⟨(some 4), .call ⟨.value (.func 43), #[(.tmp 3), (.const (.int .i64 1)), (.func 44)], #[30, 3, 39]⟩, none⟩,
    ⟨(some 2), .assign (.tmp 4), none⟩]) .ret)
@[go_sem] theorem c_stage_Shape_0_at (rd : Option Nat) (K : Post3) (t : Fr) (m : Mem) : wpM E 21 5 rd c_stage_Shape_0 K t m = wpM E 21 5 rd (.seq (.ops [⟨(some 3), .move (.tmp 0), none⟩,
    ⟨(some 4), .call ⟨.value (.func 43), #[(.tmp 3), (.const (.int .i64 1)), (.func 44)], #[30, 3, 39]⟩, none⟩,
    ⟨(some 2), .assign (.tmp 4), none⟩]) .ret) K t m := rfl

def c_stage_Shape_1 : MC := (.seq (.ops [⟨(some 2), .assign (.const .nilFunc), none⟩]) c_stage_Shape_0)
@[go_sem] theorem c_stage_Shape_1_at (rd : Option Nat) (K : Post3) (t : Fr) (m : Mem) : wpM E 21 5 rd c_stage_Shape_1 K t m = wpM E 21 5 rd (.seq (.ops [⟨(some 2), .assign (.const .nilFunc), none⟩]) c_stage_Shape_0) K t m := rfl

@[go_sem] theorem some21 : (E.fn 21).isSome = true := by kernel_rfl
set_option maxRecDepth 100000 in
theorem fn_stage_Shape : FnIs E 21 5 [.tmp 2] c_stage_Shape_1 := ⟨by kernel_rfl, by kernel_rfl⟩

/-! sheaf/stage.Reject -/
abbrev F_stage_Reject : FuncId := 23
def c_stage_Reject_0 : MC := (.seq (.ops [⟨(some 10), .move (.tmp 5), none⟩,
    ⟨(some 11), .move (.tmp 5), none⟩,
    ⟨(some 12), .call ⟨.builtin .len, #[(.tmp 11)], #[22]⟩, none⟩,
    ⟨(some 13), .call ⟨.builtin .min, #[(.tmp 12), (.const (.int .i64 10))], #[3, 3]⟩, none⟩,
    ⟨(some 14), .slice 22 (.tmp 10) none (some (.tmp 13)) none, none⟩,
    ⟨(some 15), .call ⟨.value (.func 46), #[(.tmp 14)], #[22]⟩, none⟩,
    ⟨(some 4), .assign (.tmp 15), none⟩]) .ret)
@[go_sem] theorem c_stage_Reject_0_at (rd : Option Nat) (K : Post3) (t : Fr) (m : Mem) : wpM E 23 16 rd c_stage_Reject_0 K t m = wpM E 23 16 rd (.seq (.ops [⟨(some 10), .move (.tmp 5), none⟩,
    ⟨(some 11), .move (.tmp 5), none⟩,
    ⟨(some 12), .call ⟨.builtin .len, #[(.tmp 11)], #[22]⟩, none⟩,
    ⟨(some 13), .call ⟨.builtin .min, #[(.tmp 12), (.const (.int .i64 10))], #[3, 3]⟩, none⟩,
    ⟨(some 14), .slice 22 (.tmp 10) none (some (.tmp 13)) none, none⟩,
    ⟨(some 15), .call ⟨.value (.func 46), #[(.tmp 14)], #[22]⟩, none⟩,
    ⟨(some 4), .assign (.tmp 15), none⟩]) .ret) K t m := rfl

def c_stage_Reject_1 : MC := (.seq (.ops [⟨(some 6), .move (.tmp 0), none⟩,
    ⟨(some 7), .buildSlice 22 1 #[(0, (.tmp 6))], none⟩,
    ⟨(some 8), .move (.tmp 1), none⟩,
    ⟨(some 9), .call ⟨.builtin .append, #[(.tmp 7), (.tmp 8)], #[22, 22]⟩, none⟩,
    ⟨(some 5), .assign (.tmp 9), none⟩]) c_stage_Reject_0)
@[go_sem] theorem c_stage_Reject_1_at (rd : Option Nat) (K : Post3) (t : Fr) (m : Mem) : wpM E 23 16 rd c_stage_Reject_1 K t m = wpM E 23 16 rd (.seq (.ops [⟨(some 6), .move (.tmp 0), none⟩,
    ⟨(some 7), .buildSlice 22 1 #[(0, (.tmp 6))], none⟩,
    ⟨(some 8), .move (.tmp 1), none⟩,
    ⟨(some 9), .call ⟨.builtin .append, #[(.tmp 7), (.tmp 8)], #[22, 22]⟩, none⟩,
    ⟨(some 5), .assign (.tmp 9), none⟩]) c_stage_Reject_0) K t m := rfl

def c_stage_Reject_2 : MC := (.seq (.ops [⟨(some 4), .assign (.const (.slice none 0 0)), none⟩]) c_stage_Reject_1)
@[go_sem] theorem c_stage_Reject_2_at (rd : Option Nat) (K : Post3) (t : Fr) (m : Mem) : wpM E 23 16 rd c_stage_Reject_2 K t m = wpM E 23 16 rd (.seq (.ops [⟨(some 4), .assign (.const (.slice none 0 0)), none⟩]) c_stage_Reject_1) K t m := rfl

@[go_sem] theorem some23 : (E.fn 23).isSome = true := by kernel_rfl
set_option maxRecDepth 100000 in
theorem fn_stage_Reject : FnIs E 23 16 [.tmp 4] c_stage_Reject_2 := ⟨by kernel_rfl, by kernel_rfl⟩

/-! sheaf/stage.Days -/
abbrev F_stage_Days : FuncId := 24
def c_stage_Days_0 : MC := (.seq (.ops [⟨(some 5), .move (.tmp 0), none⟩,
    ⟨(some 6), .makeFunc (.func 47) #[] #[(.tmp 3)], none⟩,
    ⟨(some 7), .call ⟨.value (.func 43), #[(.tmp 5), (.const (.int .i64 3)), (.tmp 6)], #[30, 3, 39]⟩, none⟩,
    ⟨(some 4), .assign (.tmp 7), none⟩]) .ret)
@[go_sem] theorem c_stage_Days_0_at (rd : Option Nat) (K : Post3) (t : Fr) (m : Mem) : wpM E 24 8 rd c_stage_Days_0 K t m = wpM E 24 8 rd (.seq (.ops [⟨(some 5), .move (.tmp 0), none⟩,
    ⟨(some 6), .makeFunc (.func 47) #[] #[(.tmp 3)], none⟩,
    ⟨(some 7), .call ⟨.value (.func 43), #[(.tmp 5), (.const (.int .i64 3)), (.tmp 6)], #[30, 3, 39]⟩, none⟩,
    ⟨(some 4), .assign (.tmp 7), none⟩]) .ret) K t m := rfl

def c_stage_Days_1 : MC := (.seq (.ops [⟨(some 3), .box 46 (.tmp 1), none⟩,
    ⟨(some 4), .assign (.const .nilFunc), none⟩]) c_stage_Days_0)
@[go_sem] theorem c_stage_Days_1_at (rd : Option Nat) (K : Post3) (t : Fr) (m : Mem) : wpM E 24 8 rd c_stage_Days_1 K t m = wpM E 24 8 rd (.seq (.ops [⟨(some 3), .box 46 (.tmp 1), none⟩,
    ⟨(some 4), .assign (.const .nilFunc), none⟩]) c_stage_Days_0) K t m := rfl

@[go_sem] theorem some24 : (E.fn 24).isSome = true := by kernel_rfl
set_option maxRecDepth 100000 in
theorem fn_stage_Days : FnIs E 24 8 [.tmp 4] c_stage_Days_1 := ⟨by kernel_rfl, by kernel_rfl⟩

/-! sheaf/stage.Accounts -/
abbrev F_stage_Accounts : FuncId := 27
def c_stage_Accounts_0 : MC := (.seq (.ops [⟨(some 5), .move (.tmp 0), none⟩,
    ⟨(some 6), .move (.tmp 1), none⟩,
    ⟨(some 7), .call ⟨.value (.func 40), #[(.tmp 5), (.tmp 6), (.const (.int .i64 2)), (.const (.int .i64 5)), (.func 48)], #[30, 33, 3, 3, 68]⟩, none⟩,
    ⟨(some 4), .assign (.tmp 7), none⟩]) .ret)
@[go_sem] theorem c_stage_Accounts_0_at (rd : Option Nat) (K : Post3) (t : Fr) (m : Mem) : wpM E 27 8 rd c_stage_Accounts_0 K t m = wpM E 27 8 rd (.seq (.ops [⟨(some 5), .move (.tmp 0), none⟩,
    ⟨(some 6), .move (.tmp 1), none⟩,
    ⟨(some 7), .call ⟨.value (.func 40), #[(.tmp 5), (.tmp 6), (.const (.int .i64 2)), (.const (.int .i64 5)), (.func 48)], #[30, 33, 3, 3, 68]⟩, none⟩,
    ⟨(some 4), .assign (.tmp 7), none⟩]) .ret) K t m := rfl

def c_stage_Accounts_1 : MC := (.seq (.ops [⟨(some 4), .assign (.const .nilFunc), none⟩]) c_stage_Accounts_0)
@[go_sem] theorem c_stage_Accounts_1_at (rd : Option Nat) (K : Post3) (t : Fr) (m : Mem) : wpM E 27 8 rd c_stage_Accounts_1 K t m = wpM E 27 8 rd (.seq (.ops [⟨(some 4), .assign (.const .nilFunc), none⟩]) c_stage_Accounts_0) K t m := rfl

@[go_sem] theorem some27 : (E.fn 27).isSome = true := by kernel_rfl
set_option maxRecDepth 100000 in
theorem fn_stage_Accounts : FnIs E 27 8 [.tmp 4] c_stage_Accounts_1 := ⟨by kernel_rfl, by kernel_rfl⟩

/-! sheaf/stage.Doubles$1 -/
abbrev F_stage_Doubles_1 : FuncId := 30
def c_stage_Doubles_1_0 : MC := (.cond (.tmp 29) .ret .skip)
@[go_sem] theorem c_stage_Doubles_1_0_at (rd : Option Nat) (K : Post3) (t : Fr) (m : Mem) : wpM E 30 36 rd c_stage_Doubles_1_0 K t m = wpM E 30 36 rd (.cond (.tmp 29) .ret .skip) K t m := rfl

def c_stage_Doubles_1_1 : MC := (.seq (.ops [⟨(some 24), .load 4 (.tmp 4), none⟩,
    ⟨(some 25), .move (.tmp 24), none⟩,
    ⟨(some 26), .load 36 (.tmp 6), (some (some 25, true))⟩,
    ⟨(some 27), .call ⟨.value (.tmp 26), #[], #[]⟩, (some (some 25, true))⟩,
    ⟨(some 28), .unOp .not 4 (.tmp 27), (some (some 25, true))⟩,
    ⟨(some 29), .pick (.tmp 25) (.tmp 28) (.const (.bool false)), none⟩]) c_stage_Doubles_1_0)
@[go_sem] theorem c_stage_Doubles_1_1_at (rd : Option Nat) (K : Post3) (t : Fr) (m : Mem) : wpM E 30 36 rd c_stage_Doubles_1_1 K t m = wpM E 30 36 rd (.seq (.ops [⟨(some 24), .load 4 (.tmp 4), none⟩,
    ⟨(some 25), .move (.tmp 24), none⟩,
    ⟨(some 26), .load 36 (.tmp 6), (some (some 25, true))⟩,
    ⟨(some 27), .call ⟨.value (.tmp 26), #[], #[]⟩, (some (some 25, true))⟩,
    ⟨(some 28), .unOp .not 4 (.tmp 27), (some (some 25, true))⟩,
    ⟨(some 29), .pick (.tmp 25) (.tmp 28) (.const (.bool false)), none⟩]) c_stage_Doubles_1_0) K t m := rfl

def c_stage_Doubles_1_2 : MC := (.seq c_stage_Doubles_1_1 (.ops [⟨(some 30), .move (.tmp 7), none⟩,
    ⟨(some 31), .call ⟨.value (.func 33), #[(.tmp 30)], #[22]⟩, none⟩,
    ⟨(some 32), .move (.tmp 8), none⟩,
    ⟨none, .store 22 (.tmp 3) (.tmp 31), none⟩,
    ⟨none, .store 4 (.tmp 4) (.const (.bool true)), none⟩,
    ⟨none, .store 4 (.tmp 5) (.tmp 32), none⟩]))
@[go_sem] theorem c_stage_Doubles_1_2_at (rd : Option Nat) (K : Post3) (t : Fr) (m : Mem) : wpM E 30 36 rd c_stage_Doubles_1_2 K t m = wpM E 30 36 rd (.seq c_stage_Doubles_1_1 (.ops [⟨(some 30), .move (.tmp 7), none⟩,
    ⟨(some 31), .call ⟨.value (.func 33), #[(.tmp 30)], #[22]⟩, none⟩,
    ⟨(some 32), .move (.tmp 8), none⟩,
    ⟨none, .store 22 (.tmp 3) (.tmp 31), none⟩,
    ⟨none, .store 4 (.tmp 4) (.const (.bool true)), none⟩,
    ⟨none, .store 4 (.tmp 5) (.tmp 32), none⟩])) K t m := rfl

def c_stage_Doubles_1_3 : MC := (.seq (.ops [⟨(some 20), .load 4 (.tmp 5), none⟩,
    ⟨(some 21), .move (.tmp 20), none⟩,
    ⟨(some 22), .move (.tmp 8), (some (some 21, false))⟩,
    ⟨(some 23), .pick (.tmp 21) (.const (.bool true)) (.tmp 22), none⟩,
    ⟨none, .store 4 (.tmp 5) (.tmp 23), none⟩]) c_stage_Doubles_1_2)
@[go_sem] theorem c_stage_Doubles_1_3_at (rd : Option Nat) (K : Post3) (t : Fr) (m : Mem) : wpM E 30 36 rd c_stage_Doubles_1_3 K t m = wpM E 30 36 rd (.seq (.ops [⟨(some 20), .load 4 (.tmp 5), none⟩,
    ⟨(some 21), .move (.tmp 20), none⟩,
    ⟨(some 22), .move (.tmp 8), (some (some 21, false))⟩,
    ⟨(some 23), .pick (.tmp 21) (.const (.bool true)) (.tmp 22), none⟩,
    ⟨none, .store 4 (.tmp 5) (.tmp 23), none⟩]) c_stage_Doubles_1_2) K t m := rfl

def c_stage_Doubles_1_4 : MC := (.seq (.ops [⟨(some 12), .load 4 (.tmp 4), none⟩,
    ⟨(some 13), .move (.tmp 12), none⟩,
    ⟨(some 14), .load 22 (.tmp 3), (some (some 13, true))⟩,
    ⟨(some 15), .call ⟨.value (.func 32), #[(.tmp 14), (.const (.int .i64 0))], #[22, 3]⟩, (some (some 13, true))⟩,
    ⟨(some 16), .move (.tmp 7), (some (some 13, true))⟩,
    ⟨(some 17), .call ⟨.value (.func 32), #[(.tmp 16), (.const (.int .i64 0))], #[22, 3]⟩, (some (some 13, true))⟩,
    ⟨(some 18), .binOp .eql 3 (.tmp 15) (.tmp 17) 3, (some (some 13, true))⟩,
    ⟨(some 19), .pick (.tmp 13) (.tmp 18) (.const (.bool false)), none⟩,
    ⟨(some 8), .assign (.tmp 19), none⟩]) c_stage_Doubles_1_3)
@[go_sem] theorem c_stage_Doubles_1_4_at (rd : Option Nat) (K : Post3) (t : Fr) (m : Mem) : wpM E 30 36 rd c_stage_Doubles_1_4 K t m = wpM E 30 36 rd (.seq (.ops [⟨(some 12), .load 4 (.tmp 4), none⟩,
    ⟨(some 13), .move (.tmp 12), none⟩,
    ⟨(some 14), .load 22 (.tmp 3), (some (some 13, true))⟩,
    ⟨(some 15), .call ⟨.value (.func 32), #[(.tmp 14), (.const (.int .i64 0))], #[22, 3]⟩, (some (some 13, true))⟩,
    ⟨(some 16), .move (.tmp 7), (some (some 13, true))⟩,
    ⟨(some 17), .call ⟨.value (.func 32), #[(.tmp 16), (.const (.int .i64 0))], #[22, 3]⟩, (some (some 13, true))⟩,
    ⟨(some 18), .binOp .eql 3 (.tmp 15) (.tmp 17) 3, (some (some 13, true))⟩,
    ⟨(some 19), .pick (.tmp 13) (.tmp 18) (.const (.bool false)), none⟩,
    ⟨(some 8), .assign (.tmp 19), none⟩]) c_stage_Doubles_1_3) K t m := rfl

def c_stage_Doubles_1_5 : MC := (.block 1 c_stage_Doubles_1_4)
@[go_sem] theorem c_stage_Doubles_1_5_at (rd : Option Nat) (K : Post3) (t : Fr) (m : Mem) : wpM E 30 36 rd c_stage_Doubles_1_5 K t m = wpM E 30 36 rd (.block 1 c_stage_Doubles_1_4) K t m := rfl

theorem asg_stage_Doubles_1_0 : compile E 30 36 (asgAt E 30 0) = some (.ops [⟨(some 7), .assign (.tmp 11), none⟩]) := by kernel_rfl

theorem body_stage_Doubles_1_0 : compile E 30 36 (bodyAt E 30 0) = some c_stage_Doubles_1_5 := by kernel_rfl

def c_stage_Doubles_1_6 : MC := (.range (.tmp 10) #[11] (asgAt E 30 0) (bodyAt E 30 0))
theorem c_stage_Doubles_1_6_at (rd : Option Nat) (K : Post3) (t : Fr) (m : Mem) : wpM E 30 36 rd c_stage_Doubles_1_6 K t m = wpM E 30 36 rd (.range (.tmp 10) #[11] (asgAt E 30 0) (bodyAt E 30 0)) K t m := rfl

def c_stage_Doubles_1_7 : MC := (.block 0 c_stage_Doubles_1_6)
@[go_sem] theorem c_stage_Doubles_1_7_at (rd : Option Nat) (K : Post3) (t : Fr) (m : Mem) : wpM E 30 36 rd c_stage_Doubles_1_7 K t m = wpM E 30 36 rd (.block 0 c_stage_Doubles_1_6) K t m := rfl

def c_stage_Doubles_1_8 : MC := (.seq (.ops [⟨(some 10), .load 30 (.tmp 1), none⟩]) c_stage_Doubles_1_7)
@[go_sem] theorem c_stage_Doubles_1_8_at (rd : Option Nat) (K : Post3) (t : Fr) (m : Mem) : wpM E 30 36 rd c_stage_Doubles_1_8 K t m = wpM E 30 36 rd (.seq (.ops [⟨(some 10), .load 30 (.tmp 1), none⟩]) c_stage_Doubles_1_7) K t m := rfl

def c_stage_Doubles_1_9 : MC := (.cond (.tmp 33) (.ops [⟨(some 34), .load 36 (.tmp 6), none⟩,
    ⟨(some 35), .call ⟨.value (.tmp 34), #[], #[]⟩, none⟩]) .skip)
@[go_sem] theorem c_stage_Doubles_1_9_at (rd : Option Nat) (K : Post3) (t : Fr) (m : Mem) : wpM E 30 36 rd c_stage_Doubles_1_9 K t m = wpM E 30 36 rd (.cond (.tmp 33) (.ops [⟨(some 34), .load 36 (.tmp 6), none⟩,
    ⟨(some 35), .call ⟨.value (.tmp 34), #[], #[]⟩, none⟩]) .skip) K t m := rfl

def c_stage_Doubles_1_10 : MC := (.seq (.ops [⟨(some 33), .load 4 (.tmp 4), none⟩]) c_stage_Doubles_1_9)
@[go_sem] theorem c_stage_Doubles_1_10_at (rd : Option Nat) (K : Post3) (t : Fr) (m : Mem) : wpM E 30 36 rd c_stage_Doubles_1_10 K t m = wpM E 30 36 rd (.seq (.ops [⟨(some 33), .load 4 (.tmp 4), none⟩]) c_stage_Doubles_1_9) K t m := rfl

def c_stage_Doubles_1_11 : MC := (.seq c_stage_Doubles_1_8 c_stage_Doubles_1_10)
@[go_sem] theorem c_stage_Doubles_1_11_at (rd : Option Nat) (K : Post3) (t : Fr) (m : Mem) : wpM E 30 36 rd c_stage_Doubles_1_11 K t m = wpM E 30 36 rd (.seq c_stage_Doubles_1_8 c_stage_Doubles_1_10) K t m := rfl

def c_stage_Doubles_1_12 : MC := (.seq (.ops [⟨(some 9), .makeFunc (.func 31) #[] #[(.tmp 5), (.tmp 2), (.tmp 3)], none⟩,
    ⟨(some 6), .alloc 36, none⟩,
    ⟨none, .store 36 (.tmp 6) (.tmp 9), none⟩]) c_stage_Doubles_1_11)
@[go_sem] theorem c_stage_Doubles_1_12_at (rd : Option Nat) (K : Post3) (t : Fr) (m : Mem) : wpM E 30 36 rd c_stage_Doubles_1_12 K t m = wpM E 30 36 rd (.seq (.ops [⟨(some 9), .makeFunc (.func 31) #[] #[(.tmp 5), (.tmp 2), (.tmp 3)], none⟩,
    ⟨(some 6), .alloc 36, none⟩,
    ⟨none, .store 36 (.tmp 6) (.tmp 9), none⟩]) c_stage_Doubles_1_11) K t m := rfl

def c_stage_Doubles_1_13 : MC := (.seq (.ops [⟨(some 4), .alloc 4, none⟩,
    ⟨(some 5), .alloc 4, none⟩,
    ⟨none, .store 4 (.tmp 4) (.const (.bool false)), none⟩,
    ⟨none, .store 4 (.tmp 5) (.const (.bool false)), none⟩]) c_stage_Doubles_1_12)
@[go_sem] theorem c_stage_Doubles_1_13_at (rd : Option Nat) (K : Post3) (t : Fr) (m : Mem) : wpM E 30 36 rd c_stage_Doubles_1_13 K t m = wpM E 30 36 rd (.seq (.ops [⟨(some 4), .alloc 4, none⟩,
    ⟨(some 5), .alloc 4, none⟩,
    ⟨none, .store 4 (.tmp 4) (.const (.bool false)), none⟩,
    ⟨none, .store 4 (.tmp 5) (.const (.bool false)), none⟩]) c_stage_Doubles_1_12) K t m := rfl

def c_stage_Doubles_1_14 : MC := (.seq (.ops [⟨(some 3), .alloc 22, none⟩]) c_stage_Doubles_1_13)
@[go_sem] theorem c_stage_Doubles_1_14_at (rd : Option Nat) (K : Post3) (t : Fr) (m : Mem) : wpM E 30 36 rd c_stage_Doubles_1_14 K t m = wpM E 30 36 rd (.seq (.ops [⟨(some 3), .alloc 22, none⟩]) c_stage_Doubles_1_13) K t m := rfl

def c_stage_Doubles_1_15 : MC := (.seq (.ops [⟨(some 2), .box 41 (.tmp 0), none⟩]) c_stage_Doubles_1_14)
@[go_sem] theorem c_stage_Doubles_1_15_at (rd : Option Nat) (K : Post3) (t : Fr) (m : Mem) : wpM E 30 36 rd c_stage_Doubles_1_15 K t m = wpM E 30 36 rd (.seq (.ops [⟨(some 2), .box 41 (.tmp 0), none⟩]) c_stage_Doubles_1_14) K t m := rfl

@[go_sem] theorem some30 : (E.fn 30).isSome = true := by kernel_rfl
set_option maxRecDepth 100000 in
theorem fn_stage_Doubles_1 : FnIs E 30 36 [] c_stage_Doubles_1_15 := ⟨by kernel_rfl, by kernel_rfl⟩

/-! sheaf/stage.Doubles$1$1 -/
abbrev F_stage_Doubles_1_1 : FuncId := 31
def c_stage_Doubles_1_1_0 : MC := (.cond (.tmp 5) (.ops [⟨(some 4), .assign (.const (.int .i64 2)), none⟩]) .skip)
@[go_sem] theorem c_stage_Doubles_1_1_0_at (rd : Option Nat) (K : Post3) (t : Fr) (m : Mem) : wpM E 31 10 rd c_stage_Doubles_1_1_0 K t m = wpM E 31 10 rd (.cond (.tmp 5) (.ops [⟨(some 4), .assign (.const (.int .i64 2)), none⟩]) .skip) K t m := rfl

def c_stage_Doubles_1_1_1 : MC := (.seq (.ops [⟨(some 5), .load 4 (.tmp 0), none⟩]) c_stage_Doubles_1_1_0)
@[go_sem] theorem c_stage_Doubles_1_1_1_at (rd : Option Nat) (K : Post3) (t : Fr) (m : Mem) : wpM E 31 10 rd c_stage_Doubles_1_1_1 K t m = wpM E 31 10 rd (.seq (.ops [⟨(some 5), .load 4 (.tmp 0), none⟩]) c_stage_Doubles_1_1_0) K t m := rfl

def c_stage_Doubles_1_1_2 : MC := (.seq (.ops [⟨(some 6), .load 41 (.tmp 1), none⟩,
    ⟨(some 7), .load 22 (.tmp 2), none⟩,
    ⟨(some 8), .move (.tmp 4), none⟩,
    ⟨(some 9), .call ⟨.value (.tmp 6), #[(.tmp 7), (.tmp 8)], #[22, 3]⟩, none⟩,
    ⟨(some 3), .assign (.tmp 9), none⟩]) .ret)
@[go_sem] theorem c_stage_Doubles_1_1_2_at (rd : Option Nat) (K : Post3) (t : Fr) (m : Mem) : wpM E 31 10 rd c_stage_Doubles_1_1_2 K t m = wpM E 31 10 rd (.seq (.ops [⟨(some 6), .load 41 (.tmp 1), none⟩,
    ⟨(some 7), .load 22 (.tmp 2), none⟩,
    ⟨(some 8), .move (.tmp 4), none⟩,
    ⟨(some 9), .call ⟨.value (.tmp 6), #[(.tmp 7), (.tmp 8)], #[22, 3]⟩, none⟩,
    ⟨(some 3), .assign (.tmp 9), none⟩]) .ret) K t m := rfl

def c_stage_Doubles_1_1_3 : MC := (.seq c_stage_Doubles_1_1_1 c_stage_Doubles_1_1_2)
@[go_sem] theorem c_stage_Doubles_1_1_3_at (rd : Option Nat) (K : Post3) (t : Fr) (m : Mem) : wpM E 31 10 rd c_stage_Doubles_1_1_3 K t m = wpM E 31 10 rd (.seq c_stage_Doubles_1_1_1 c_stage_Doubles_1_1_2) K t m := rfl

def c_stage_Doubles_1_1_4 : MC := (.seq (.ops [⟨(some 4), .assign (.const (.int .i64 0)), none⟩]) c_stage_Doubles_1_1_3)
@[go_sem] theorem c_stage_Doubles_1_1_4_at (rd : Option Nat) (K : Post3) (t : Fr) (m : Mem) : wpM E 31 10 rd c_stage_Doubles_1_1_4 K t m = wpM E 31 10 rd (.seq (.ops [⟨(some 4), .assign (.const (.int .i64 0)), none⟩]) c_stage_Doubles_1_1_3) K t m := rfl

def c_stage_Doubles_1_1_5 : MC := (.seq (.ops [⟨(some 3), .assign (.const (.bool false)), none⟩]) c_stage_Doubles_1_1_4)
@[go_sem] theorem c_stage_Doubles_1_1_5_at (rd : Option Nat) (K : Post3) (t : Fr) (m : Mem) : wpM E 31 10 rd c_stage_Doubles_1_1_5 K t m = wpM E 31 10 rd (.seq (.ops [⟨(some 3), .assign (.const (.bool false)), none⟩]) c_stage_Doubles_1_1_4) K t m := rfl

@[go_sem] theorem some31 : (E.fn 31).isSome = true := by kernel_rfl
set_option maxRecDepth 100000 in
theorem fn_stage_Doubles_1_1 : FnIs E 31 10 [.tmp 3] c_stage_Doubles_1_1_5 := ⟨by kernel_rfl, by kernel_rfl⟩

/-! sheaf/stage.at -/
abbrev F_stage_at : FuncId := 32
def c_stage_at_0 : MC := (.seq (.ops [⟨(some 4), .assign (.const (.int .i64 0)), none⟩]) .ret)
@[go_sem] theorem c_stage_at_0_at (rd : Option Nat) (K : Post3) (t : Fr) (m : Mem) : wpM E 32 13 rd c_stage_at_0 K t m = wpM E 32 13 rd (.seq (.ops [⟨(some 4), .assign (.const (.int .i64 0)), none⟩]) .ret) K t m := rfl

def c_stage_at_1 : MC := (.cond (.tmp 8) c_stage_at_0 .skip)
@[go_sem] theorem c_stage_at_1_at (rd : Option Nat) (K : Post3) (t : Fr) (m : Mem) : wpM E 32 13 rd c_stage_at_1 K t m = wpM E 32 13 rd (.cond (.tmp 8) c_stage_at_0 .skip) K t m := rfl

def c_stage_at_2 : MC := (.seq (.ops [⟨(some 5), .move (.tmp 1), none⟩,
    ⟨(some 6), .move (.tmp 0), none⟩,
    ⟨(some 7), .call ⟨.builtin .len, #[(.tmp 6)], #[22]⟩, none⟩,
    ⟨(some 8), .binOp .geq 3 (.tmp 5) (.tmp 7) 3, none⟩]) c_stage_at_1)
@[go_sem] theorem c_stage_at_2_at (rd : Option Nat) (K : Post3) (t : Fr) (m : Mem) : wpM E 32 13 rd c_stage_at_2 K t m = wpM E 32 13 rd (.seq (.ops [⟨(some 5), .move (.tmp 1), none⟩,
    ⟨(some 6), .move (.tmp 0), none⟩,
    ⟨(some 7), .call ⟨.builtin .len, #[(.tmp 6)], #[22]⟩, none⟩,
    ⟨(some 8), .binOp .geq 3 (.tmp 5) (.tmp 7) 3, none⟩]) c_stage_at_1) K t m := rfl

def c_stage_at_3 : MC := (.seq (.ops [⟨(some 9), .move (.tmp 0), none⟩,
    ⟨(some 10), .move (.tmp 1), none⟩,
    ⟨(some 11), .indexAddr 22 (.tmp 9) (.tmp 10), none⟩,
    ⟨(some 12), .load 3 (.tmp 11), none⟩,
    ⟨(some 4), .assign (.tmp 12), none⟩]) .ret)
@[go_sem] theorem c_stage_at_3_at (rd : Option Nat) (K : Post3) (t : Fr) (m : Mem) : wpM E 32 13 rd c_stage_at_3 K t m = wpM E 32 13 rd (.seq (.ops [⟨(some 9), .move (.tmp 0), none⟩,
    ⟨(some 10), .move (.tmp 1), none⟩,
    ⟨(some 11), .indexAddr 22 (.tmp 9) (.tmp 10), none⟩,
    ⟨(some 12), .load 3 (.tmp 11), none⟩,
    ⟨(some 4), .assign (.tmp 12), none⟩]) .ret) K t m := rfl

def c_stage_at_4 : MC := (.seq c_stage_at_2 c_stage_at_3)
@[go_sem] theorem c_stage_at_4_at (rd : Option Nat) (K : Post3) (t : Fr) (m : Mem) : wpM E 32 13 rd c_stage_at_4 K t m = wpM E 32 13 rd (.seq c_stage_at_2 c_stage_at_3) K t m := rfl

def c_stage_at_5 : MC := (.seq (.ops [⟨(some 4), .assign (.const (.int .i64 0)), none⟩]) c_stage_at_4)
@[go_sem] theorem c_stage_at_5_at (rd : Option Nat) (K : Post3) (t : Fr) (m : Mem) : wpM E 32 13 rd c_stage_at_5 K t m = wpM E 32 13 rd (.seq (.ops [⟨(some 4), .assign (.const (.int .i64 0)), none⟩]) c_stage_at_4) K t m := rfl

@[go_sem] theorem some32 : (E.fn 32).isSome = true := by kernel_rfl
set_option maxRecDepth 100000 in
theorem fn_stage_at : FnIs E 32 13 [.tmp 4] c_stage_at_5 := ⟨by kernel_rfl, by kernel_rfl⟩

/-! sheaf/stage.Rates$1 -/
abbrev F_stage_Rates_1 : FuncId := 35
def c_stage_Rates_1_0 : MC := (.cond (.tmp 27) .skip (.exit 2))
@[go_sem] theorem c_stage_Rates_1_0_at (rd : Option Nat) (K : Post3) (t : Fr) (m : Mem) : wpM E 35 68 rd c_stage_Rates_1_0 K t m = wpM E 35 68 rd (.cond (.tmp 27) .skip (.exit 2)) K t m := rfl

def c_stage_Rates_1_1 : MC := (.seq (.ops [⟨(some 17), .load 4 (.tmp 9), none⟩,
    ⟨(some 18), .unOp .not 4 (.tmp 17), none⟩,
    ⟨(some 19), .move (.tmp 18), none⟩,
    ⟨(some 20), .load 4 (.tmp 8), (some (some 19, false))⟩,
    ⟨(some 21), .move (.tmp 20), (some (some 19, false))⟩,
    ⟨(some 22), .load 22 (.tmp 4), (some (some 21, true))⟩,
    ⟨(some 23), .move (.tmp 10), (some (some 21, true))⟩,
    ⟨(some 24), .call ⟨.value (.func 36), #[(.tmp 22), (.tmp 23)], #[22, 22]⟩, (some (some 21, true))⟩,
    ⟨(some 25), .unOp .not 4 (.tmp 24), (some (some 21, true))⟩,
    ⟨(some 26), .pick (.tmp 21) (.tmp 25) (.const (.bool false)), (some (some 19, false))⟩,
    ⟨(some 27), .pick (.tmp 19) (.const (.bool true)) (.tmp 26), none⟩]) c_stage_Rates_1_0)
@[go_sem] theorem c_stage_Rates_1_1_at (rd : Option Nat) (K : Post3) (t : Fr) (m : Mem) : wpM E 35 68 rd c_stage_Rates_1_1 K t m = wpM E 35 68 rd (.seq (.ops [⟨(some 17), .load 4 (.tmp 9), none⟩,
    ⟨(some 18), .unOp .not 4 (.tmp 17), none⟩,
    ⟨(some 19), .move (.tmp 18), none⟩,
    ⟨(some 20), .load 4 (.tmp 8), (some (some 19, false))⟩,
    ⟨(some 21), .move (.tmp 20), (some (some 19, false))⟩,
    ⟨(some 22), .load 22 (.tmp 4), (some (some 21, true))⟩,
    ⟨(some 23), .move (.tmp 10), (some (some 21, true))⟩,
    ⟨(some 24), .call ⟨.value (.func 36), #[(.tmp 22), (.tmp 23)], #[22, 22]⟩, (some (some 21, true))⟩,
    ⟨(some 25), .unOp .not 4 (.tmp 24), (some (some 21, true))⟩,
    ⟨(some 26), .pick (.tmp 21) (.tmp 25) (.const (.bool false)), (some (some 19, false))⟩,
    ⟨(some 27), .pick (.tmp 19) (.const (.bool true)) (.tmp 26), none⟩]) c_stage_Rates_1_0) K t m := rfl

def c_stage_Rates_1_2 : MC := (.cond (.tmp 28) (.draw [(0, [], ⟨(some 29), .load 22 (.tmp 4), none⟩),
    (2, [], ⟨(some 31), .load 22 (.tmp 4), none⟩),
    (4, [], ⟨(some 33), .load 22 (.tmp 4), none⟩),
    (1, [2, 4], ⟨(some 30), .call ⟨.value (.func 32), #[(.tmp 29), (.const (.int .i64 0))], #[22, 3]⟩, none⟩),
    (3, [4], ⟨(some 32), .call ⟨.value (.func 32), #[(.tmp 31), (.const (.int .i64 2))], #[22, 3]⟩, none⟩),
    (5, [], ⟨(some 34), .call ⟨.value (.func 32), #[(.tmp 33), (.const (.int .i64 3))], #[22, 3]⟩, none⟩),
    (6, [], ⟨none, .store 3 (.tmp 5) (.tmp 30), none⟩),
    (7, [], ⟨none, .store 3 (.tmp 6) (.tmp 32), none⟩),
    (8, [], ⟨none, .store 3 (.tmp 7) (.tmp 34), none⟩)]) .skip)
@[go_sem] theorem c_stage_Rates_1_2_at (rd : Option Nat) (K : Post3) (t : Fr) (m : Mem) : wpM E 35 68 rd c_stage_Rates_1_2 K t m = wpM E 35 68 rd (.cond (.tmp 28) (.draw [(0, [], ⟨(some 29), .load 22 (.tmp 4), none⟩),
    (2, [], ⟨(some 31), .load 22 (.tmp 4), none⟩),
    (4, [], ⟨(some 33), .load 22 (.tmp 4), none⟩),
    (1, [2, 4], ⟨(some 30), .call ⟨.value (.func 32), #[(.tmp 29), (.const (.int .i64 0))], #[22, 3]⟩, none⟩),
    (3, [4], ⟨(some 32), .call ⟨.value (.func 32), #[(.tmp 31), (.const (.int .i64 2))], #[22, 3]⟩, none⟩),
    (5, [], ⟨(some 34), .call ⟨.value (.func 32), #[(.tmp 33), (.const (.int .i64 3))], #[22, 3]⟩, none⟩),
    (6, [], ⟨none, .store 3 (.tmp 5) (.tmp 30), none⟩),
    (7, [], ⟨none, .store 3 (.tmp 6) (.tmp 32), none⟩),
    (8, [], ⟨none, .store 3 (.tmp 7) (.tmp 34), none⟩)]) .skip) K t m := rfl

def c_stage_Rates_1_3 : MC := (.seq (.ops [⟨(some 28), .load 4 (.tmp 8), none⟩]) c_stage_Rates_1_2)
@[go_sem] theorem c_stage_Rates_1_3_at (rd : Option Nat) (K : Post3) (t : Fr) (m : Mem) : wpM E 35 68 rd c_stage_Rates_1_3 K t m = wpM E 35 68 rd (.seq (.ops [⟨(some 28), .load 4 (.tmp 8), none⟩]) c_stage_Rates_1_2) K t m := rfl

def c_stage_Rates_1_4 : MC := (.seq (.ops [⟨(some 36), .load 33 (.tmp 2), none⟩,
    ⟨(some 37), .call ⟨.value (.tmp 36), #[], #[]⟩, none⟩,
    ⟨(some 35), .move (.tmp 37), none⟩,
    ⟨(some 38), .extract (.tmp 35) 0, none⟩,
    ⟨(some 39), .extract (.tmp 35) 1, none⟩,
    ⟨none, .store 22 (.tmp 4) (.tmp 38), none⟩,
    ⟨none, .store 4 (.tmp 8) (.tmp 39), none⟩]) (.ops [⟨none, .store 4 (.tmp 9) (.const (.bool true)), none⟩]))
@[go_sem] theorem c_stage_Rates_1_4_at (rd : Option Nat) (K : Post3) (t : Fr) (m : Mem) : wpM E 35 68 rd c_stage_Rates_1_4 K t m = wpM E 35 68 rd (.seq (.ops [⟨(some 36), .load 33 (.tmp 2), none⟩,
    ⟨(some 37), .call ⟨.value (.tmp 36), #[], #[]⟩, none⟩,
    ⟨(some 35), .move (.tmp 37), none⟩,
    ⟨(some 38), .extract (.tmp 35) 0, none⟩,
    ⟨(some 39), .extract (.tmp 35) 1, none⟩,
    ⟨none, .store 22 (.tmp 4) (.tmp 38), none⟩,
    ⟨none, .store 4 (.tmp 8) (.tmp 39), none⟩]) (.ops [⟨none, .store 4 (.tmp 9) (.const (.bool true)), none⟩])) K t m := rfl

def c_stage_Rates_1_5 : MC := (.seq c_stage_Rates_1_3 c_stage_Rates_1_4)
@[go_sem] theorem c_stage_Rates_1_5_at (rd : Option Nat) (K : Post3) (t : Fr) (m : Mem) : wpM E 35 68 rd c_stage_Rates_1_5 K t m = wpM E 35 68 rd (.seq c_stage_Rates_1_3 c_stage_Rates_1_4) K t m := rfl

def c_stage_Rates_1_6 : MC := (.block 3 c_stage_Rates_1_5)
@[go_sem] theorem c_stage_Rates_1_6_at (rd : Option Nat) (K : Post3) (t : Fr) (m : Mem) : wpM E 35 68 rd c_stage_Rates_1_6 K t m = wpM E 35 68 rd (.block 3 c_stage_Rates_1_5) K t m := rfl

def c_stage_Rates_1_7 : MC := (.seq c_stage_Rates_1_1 c_stage_Rates_1_6)
@[go_sem] theorem c_stage_Rates_1_7_at (rd : Option Nat) (K : Post3) (t : Fr) (m : Mem) : wpM E 35 68 rd c_stage_Rates_1_7 K t m = wpM E 35 68 rd (.seq c_stage_Rates_1_1 c_stage_Rates_1_6) K t m := rfl

def c_stage_Rates_1_8 : MC := (.loop c_stage_Rates_1_7)
theorem c_stage_Rates_1_8_at (rd : Option Nat) (K : Post3) (t : Fr) (m : Mem) : wpM E 35 68 rd c_stage_Rates_1_8 K t m = wpM E 35 68 rd (.loop c_stage_Rates_1_7) K t m := rfl

def c_stage_Rates_1_9 : MC := (.block 2 c_stage_Rates_1_8)
theorem c_stage_Rates_1_9_at (rd : Option Nat) (K : Post3) (t : Fr) (m : Mem) : wpM E 35 68 rd c_stage_Rates_1_9 K t m = wpM E 35 68 rd (.block 2 c_stage_Rates_1_8) K t m := rfl

def c_stage_Rates_1_10 : MC := (.cond (.tmp 58) (.ops [⟨(some 59), .move (.tmp 11), none⟩,
    ⟨(some 60), .move (.tmp 13), none⟩,
    ⟨(some 61), .buildSlice 22 1 #[(0, (.tmp 60))], none⟩,
    ⟨(some 62), .call ⟨.builtin .append, #[(.tmp 59), (.tmp 61)], #[22, 22]⟩, none⟩,
    ⟨(some 11), .assign (.tmp 62), none⟩]) .skip)
@[go_sem] theorem c_stage_Rates_1_10_at (rd : Option Nat) (K : Post3) (t : Fr) (m : Mem) : wpM E 35 68 rd c_stage_Rates_1_10 K t m = wpM E 35 68 rd (.cond (.tmp 58) (.ops [⟨(some 59), .move (.tmp 11), none⟩,
    ⟨(some 60), .move (.tmp 13), none⟩,
    ⟨(some 61), .buildSlice 22 1 #[(0, (.tmp 60))], none⟩,
    ⟨(some 62), .call ⟨.builtin .append, #[(.tmp 59), (.tmp 61)], #[22, 22]⟩, none⟩,
    ⟨(some 11), .assign (.tmp 62), none⟩]) .skip) K t m := rfl

def c_stage_Rates_1_11 : MC := (.seq (.ops [⟨(some 58), .move (.tmp 14), none⟩]) c_stage_Rates_1_10)
@[go_sem] theorem c_stage_Rates_1_11_at (rd : Option Nat) (K : Post3) (t : Fr) (m : Mem) : wpM E 35 68 rd c_stage_Rates_1_11 K t m = wpM E 35 68 rd (.seq (.ops [⟨(some 58), .move (.tmp 14), none⟩]) c_stage_Rates_1_10) K t m := rfl

def c_stage_Rates_1_12 : MC := (.seq (.draw [(0, [], ⟨(some 51), .move (.tmp 10), none⟩),
    (2, [], ⟨(some 53), .load 3 (.tmp 6), none⟩),
    (3, [], ⟨(some 54), .load 3 (.tmp 7), none⟩),
    (1, [2, 3], ⟨(some 52), .call ⟨.value (.func 32), #[(.tmp 51), (.const (.int .i64 4))], #[22, 3]⟩, none⟩),
    (4, [], ⟨(some 55), .call ⟨.value (.func 37), #[(.tmp 52), (.tmp 53), (.tmp 54)], #[3, 3, 3]⟩, none⟩),
    (5, [], ⟨(some 50), .move (.tmp 55), none⟩),
    (6, [], ⟨(some 56), .extract (.tmp 50) 0, none⟩),
    (7, [], ⟨(some 57), .extract (.tmp 50) 1, none⟩),
    (8, [], ⟨(some 13), .assign (.tmp 56), none⟩),
    (9, [], ⟨(some 14), .assign (.tmp 57), none⟩)]) c_stage_Rates_1_11)
@[go_sem] theorem c_stage_Rates_1_12_at (rd : Option Nat) (K : Post3) (t : Fr) (m : Mem) : wpM E 35 68 rd c_stage_Rates_1_12 K t m = wpM E 35 68 rd (.seq (.draw [(0, [], ⟨(some 51), .move (.tmp 10), none⟩),
    (2, [], ⟨(some 53), .load 3 (.tmp 6), none⟩),
    (3, [], ⟨(some 54), .load 3 (.tmp 7), none⟩),
    (1, [2, 3], ⟨(some 52), .call ⟨.value (.func 32), #[(.tmp 51), (.const (.int .i64 4))], #[22, 3]⟩, none⟩),
    (4, [], ⟨(some 55), .call ⟨.value (.func 37), #[(.tmp 52), (.tmp 53), (.tmp 54)], #[3, 3, 3]⟩, none⟩),
    (5, [], ⟨(some 50), .move (.tmp 55), none⟩),
    (6, [], ⟨(some 56), .extract (.tmp 50) 0, none⟩),
    (7, [], ⟨(some 57), .extract (.tmp 50) 1, none⟩),
    (8, [], ⟨(some 13), .assign (.tmp 56), none⟩),
    (9, [], ⟨(some 14), .assign (.tmp 57), none⟩)]) c_stage_Rates_1_11) K t m := rfl

def c_stage_Rates_1_13 : MC := (.seq (.ops [⟨(some 12), .assign (.const (.int .i64 0)), none⟩]) c_stage_Rates_1_12)
@[go_sem] theorem c_stage_Rates_1_13_at (rd : Option Nat) (K : Post3) (t : Fr) (m : Mem) : wpM E 35 68 rd c_stage_Rates_1_13 K t m = wpM E 35 68 rd (.seq (.ops [⟨(some 12), .assign (.const (.int .i64 0)), none⟩]) c_stage_Rates_1_12) K t m := rfl

def c_stage_Rates_1_14 : MC := (.cond (.tmp 49) c_stage_Rates_1_13 .skip)
@[go_sem] theorem c_stage_Rates_1_14_at (rd : Option Nat) (K : Post3) (t : Fr) (m : Mem) : wpM E 35 68 rd c_stage_Rates_1_14 K t m = wpM E 35 68 rd (.cond (.tmp 49) c_stage_Rates_1_13 .skip) K t m := rfl

def c_stage_Rates_1_15 : MC := (.seq (.draw [(0, [], ⟨(some 42), .load 3 (.tmp 7), none⟩),
    (1, [], ⟨(some 43), .binOp .neq 3 (.tmp 42) (.const (.int .i64 0)) 3, none⟩),
    (2, [], ⟨(some 44), .move (.tmp 43), none⟩),
    (3, [], ⟨(some 45), .load 3 (.tmp 5), (some (some 44, true))⟩),
    (4, [], ⟨(some 46), .move (.tmp 10), (some (some 44, true))⟩),
    (5, [3], ⟨(some 47), .call ⟨.value (.func 32), #[(.tmp 46), (.const (.int .i64 6))], #[22, 3]⟩, (some (some 44, true))⟩),
    (6, [], ⟨(some 48), .binOp .eql 3 (.tmp 45) (.tmp 47) 3, (some (some 44, true))⟩),
    (7, [], ⟨(some 49), .pick (.tmp 44) (.tmp 48) (.const (.bool false)), none⟩)]) c_stage_Rates_1_14)
@[go_sem] theorem c_stage_Rates_1_15_at (rd : Option Nat) (K : Post3) (t : Fr) (m : Mem) : wpM E 35 68 rd c_stage_Rates_1_15 K t m = wpM E 35 68 rd (.seq (.draw [(0, [], ⟨(some 42), .load 3 (.tmp 7), none⟩),
    (1, [], ⟨(some 43), .binOp .neq 3 (.tmp 42) (.const (.int .i64 0)) 3, none⟩),
    (2, [], ⟨(some 44), .move (.tmp 43), none⟩),
    (3, [], ⟨(some 45), .load 3 (.tmp 5), (some (some 44, true))⟩),
    (4, [], ⟨(some 46), .move (.tmp 10), (some (some 44, true))⟩),
    (5, [3], ⟨(some 47), .call ⟨.value (.func 32), #[(.tmp 46), (.const (.int .i64 6))], #[22, 3]⟩, (some (some 44, true))⟩),
    (6, [], ⟨(some 48), .binOp .eql 3 (.tmp 45) (.tmp 47) 3, (some (some 44, true))⟩),
    (7, [], ⟨(some 49), .pick (.tmp 44) (.tmp 48) (.const (.bool false)), none⟩)]) c_stage_Rates_1_14) K t m := rfl

def c_stage_Rates_1_16 : MC := (.cond (.tmp 67) .ret .skip)
@[go_sem] theorem c_stage_Rates_1_16_at (rd : Option Nat) (K : Post3) (t : Fr) (m : Mem) : wpM E 35 68 rd c_stage_Rates_1_16 K t m = wpM E 35 68 rd (.cond (.tmp 67) .ret .skip) K t m := rfl

def c_stage_Rates_1_17 : MC := (.seq (.ops [⟨(some 63), .load 41 (.tmp 3), none⟩,
    ⟨(some 64), .move (.tmp 11), none⟩,
    ⟨(some 65), .move (.tmp 12), none⟩,
    ⟨(some 66), .call ⟨.value (.tmp 63), #[(.tmp 64), (.tmp 65)], #[22, 3]⟩, none⟩,
    ⟨(some 67), .unOp .not 4 (.tmp 66), none⟩]) c_stage_Rates_1_16)
@[go_sem] theorem c_stage_Rates_1_17_at (rd : Option Nat) (K : Post3) (t : Fr) (m : Mem) : wpM E 35 68 rd c_stage_Rates_1_17 K t m = wpM E 35 68 rd (.seq (.ops [⟨(some 63), .load 41 (.tmp 3), none⟩,
    ⟨(some 64), .move (.tmp 11), none⟩,
    ⟨(some 65), .move (.tmp 12), none⟩,
    ⟨(some 66), .call ⟨.value (.tmp 63), #[(.tmp 64), (.tmp 65)], #[22, 3]⟩, none⟩,
    ⟨(some 67), .unOp .not 4 (.tmp 66), none⟩]) c_stage_Rates_1_16) K t m := rfl

def c_stage_Rates_1_18 : MC := (.seq c_stage_Rates_1_15 c_stage_Rates_1_17)
@[go_sem] theorem c_stage_Rates_1_18_at (rd : Option Nat) (K : Post3) (t : Fr) (m : Mem) : wpM E 35 68 rd c_stage_Rates_1_18 K t m = wpM E 35 68 rd (.seq c_stage_Rates_1_15 c_stage_Rates_1_17) K t m := rfl

def c_stage_Rates_1_19 : MC := (.seq (.ops [⟨(some 40), .move (.tmp 10), none⟩,
    ⟨(some 41), .call ⟨.value (.func 33), #[(.tmp 40)], #[22]⟩, none⟩,
    ⟨(some 11), .assign (.tmp 41), none⟩,
    ⟨(some 12), .assign (.const (.int .i64 7)), none⟩]) c_stage_Rates_1_18)
@[go_sem] theorem c_stage_Rates_1_19_at (rd : Option Nat) (K : Post3) (t : Fr) (m : Mem) : wpM E 35 68 rd c_stage_Rates_1_19 K t m = wpM E 35 68 rd (.seq (.ops [⟨(some 40), .move (.tmp 10), none⟩,
    ⟨(some 41), .call ⟨.value (.func 33), #[(.tmp 40)], #[22]⟩, none⟩,
    ⟨(some 11), .assign (.tmp 41), none⟩,
    ⟨(some 12), .assign (.const (.int .i64 7)), none⟩]) c_stage_Rates_1_18) K t m := rfl

def c_stage_Rates_1_20 : MC := (.seq c_stage_Rates_1_9 c_stage_Rates_1_19)
@[go_sem] theorem c_stage_Rates_1_20_at (rd : Option Nat) (K : Post3) (t : Fr) (m : Mem) : wpM E 35 68 rd c_stage_Rates_1_20 K t m = wpM E 35 68 rd (.seq c_stage_Rates_1_9 c_stage_Rates_1_19) K t m := rfl

def c_stage_Rates_1_21 : MC := (.block 1 c_stage_Rates_1_20)
@[go_sem] theorem c_stage_Rates_1_21_at (rd : Option Nat) (K : Post3) (t : Fr) (m : Mem) : wpM E 35 68 rd c_stage_Rates_1_21 K t m = wpM E 35 68 rd (.block 1 c_stage_Rates_1_20) K t m := rfl

theorem asg_stage_Rates_1_0 : compile E 35 68 (asgAt E 35 0) = some (.ops [⟨(some 10), .assign (.tmp 16), none⟩]) := by kernel_rfl

theorem body_stage_Rates_1_0 : compile E 35 68 (bodyAt E 35 0) = some c_stage_Rates_1_21 := by kernel_rfl

def c_stage_Rates_1_22 : MC := (.range (.tmp 15) #[16] (asgAt E 35 0) (bodyAt E 35 0))
theorem c_stage_Rates_1_22_at (rd : Option Nat) (K : Post3) (t : Fr) (m : Mem) : wpM E 35 68 rd c_stage_Rates_1_22 K t m = wpM E 35 68 rd (.range (.tmp 15) #[16] (asgAt E 35 0) (bodyAt E 35 0)) K t m := rfl

def c_stage_Rates_1_23 : MC := (.block 0 c_stage_Rates_1_22)
@[go_sem] theorem c_stage_Rates_1_23_at (rd : Option Nat) (K : Post3) (t : Fr) (m : Mem) : wpM E 35 68 rd c_stage_Rates_1_23 K t m = wpM E 35 68 rd (.block 0 c_stage_Rates_1_22) K t m := rfl

def c_stage_Rates_1_24 : MC := (.seq (.ops [⟨(some 15), .load 30 (.tmp 1), none⟩]) c_stage_Rates_1_23)
@[go_sem] theorem c_stage_Rates_1_24_at (rd : Option Nat) (K : Post3) (t : Fr) (m : Mem) : wpM E 35 68 rd c_stage_Rates_1_24 K t m = wpM E 35 68 rd (.seq (.ops [⟨(some 15), .load 30 (.tmp 1), none⟩]) c_stage_Rates_1_23) K t m := rfl

def c_stage_Rates_1_25 : MC := (.seq (.ops [⟨(some 8), .alloc 4, none⟩,
    ⟨(some 9), .alloc 4, none⟩,
    ⟨none, .store 4 (.tmp 8) (.const (.bool false)), none⟩,
    ⟨none, .store 4 (.tmp 9) (.const (.bool false)), none⟩]) c_stage_Rates_1_24)
@[go_sem] theorem c_stage_Rates_1_25_at (rd : Option Nat) (K : Post3) (t : Fr) (m : Mem) : wpM E 35 68 rd c_stage_Rates_1_25 K t m = wpM E 35 68 rd (.seq (.ops [⟨(some 8), .alloc 4, none⟩,
    ⟨(some 9), .alloc 4, none⟩,
    ⟨none, .store 4 (.tmp 8) (.const (.bool false)), none⟩,
    ⟨none, .store 4 (.tmp 9) (.const (.bool false)), none⟩]) c_stage_Rates_1_24) K t m := rfl

def c_stage_Rates_1_26 : MC := (.seq (.ops [⟨(some 5), .alloc 3, none⟩,
    ⟨(some 6), .alloc 3, none⟩,
    ⟨(some 7), .alloc 3, none⟩]) c_stage_Rates_1_25)
@[go_sem] theorem c_stage_Rates_1_26_at (rd : Option Nat) (K : Post3) (t : Fr) (m : Mem) : wpM E 35 68 rd c_stage_Rates_1_26 K t m = wpM E 35 68 rd (.seq (.ops [⟨(some 5), .alloc 3, none⟩,
    ⟨(some 6), .alloc 3, none⟩,
    ⟨(some 7), .alloc 3, none⟩]) c_stage_Rates_1_25) K t m := rfl

def c_stage_Rates_1_27 : MC := (.seq (.ops [⟨(some 4), .alloc 22, none⟩]) c_stage_Rates_1_26)
@[go_sem] theorem c_stage_Rates_1_27_at (rd : Option Nat) (K : Post3) (t : Fr) (m : Mem) : wpM E 35 68 rd c_stage_Rates_1_27 K t m = wpM E 35 68 rd (.seq (.ops [⟨(some 4), .alloc 22, none⟩]) c_stage_Rates_1_26) K t m := rfl

def c_stage_Rates_1_28 : MC := (.seq (.ops [⟨(some 3), .box 41 (.tmp 0), none⟩]) c_stage_Rates_1_27)
@[go_sem] theorem c_stage_Rates_1_28_at (rd : Option Nat) (K : Post3) (t : Fr) (m : Mem) : wpM E 35 68 rd c_stage_Rates_1_28 K t m = wpM E 35 68 rd (.seq (.ops [⟨(some 3), .box 41 (.tmp 0), none⟩]) c_stage_Rates_1_27) K t m := rfl

@[go_sem] theorem some35 : (E.fn 35).isSome = true := by kernel_rfl
set_option maxRecDepth 100000 in
theorem fn_stage_Rates_1 : FnIs E 35 68 [] c_stage_Rates_1_28 := ⟨by kernel_rfl, by kernel_rfl⟩

/-! sheaf/stage.behind -/
abbrev F_stage_behind : FuncId := 36
def c_stage_behind_0 : MC := (.seq (.ops [⟨(some 5), .move (.tmp 0), none⟩,
    ⟨(some 6), .call ⟨.value (.func 32), #[(.tmp 5), (.const (.int .i64 0))], #[22, 3]⟩, none⟩,
    ⟨(some 7), .move (.tmp 1), none⟩,
    ⟨(some 8), .call ⟨.value (.func 32), #[(.tmp 7), (.const (.int .i64 6))], #[22, 3]⟩, none⟩,
    ⟨(some 9), .call ⟨.value (.func 55), #[(.tmp 6), (.tmp 8)], #[3, 3]⟩, none⟩,
    ⟨(some 10), .move (.tmp 0), none⟩,
    ⟨(some 11), .call ⟨.value (.func 32), #[(.tmp 10), (.const (.int .i64 1))], #[22, 3]⟩, none⟩,
    ⟨(some 12), .move (.tmp 1), none⟩,
    ⟨(some 13), .call ⟨.value (.func 32), #[(.tmp 12), (.const (.int .i64 3))], #[22, 3]⟩, none⟩,
    ⟨(some 14), .call ⟨.value (.func 55), #[(.tmp 11), (.tmp 13)], #[3, 3]⟩, none⟩,
    ⟨(some 15), .buildSlice 22 2 #[(0, (.tmp 9)), (1, (.tmp 14))], none⟩,
    ⟨(some 16), .call ⟨.value (.func 54), #[(.tmp 15)], #[22]⟩, none⟩,
    ⟨(some 17), .binOp .gtr 3 (.tmp 16) (.const (.int .i64 0)) 3, none⟩,
    ⟨(some 4), .assign (.tmp 17), none⟩]) .ret)
@[go_sem] theorem c_stage_behind_0_at (rd : Option Nat) (K : Post3) (t : Fr) (m : Mem) : wpM E 36 18 rd c_stage_behind_0 K t m = wpM E 36 18 rd (.seq (.ops [⟨(some 5), .move (.tmp 0), none⟩,
    ⟨(some 6), .call ⟨.value (.func 32), #[(.tmp 5), (.const (.int .i64 0))], #[22, 3]⟩, none⟩,
    ⟨(some 7), .move (.tmp 1), none⟩,
    ⟨(some 8), .call ⟨.value (.func 32), #[(.tmp 7), (.const (.int .i64 6))], #[22, 3]⟩, none⟩,
    ⟨(some 9), .call ⟨.value (.func 55), #[(.tmp 6), (.tmp 8)], #[3, 3]⟩, none⟩,
    ⟨(some 10), .move (.tmp 0), none⟩,
    ⟨(some 11), .call ⟨.value (.func 32), #[(.tmp 10), (.const (.int .i64 1))], #[22, 3]⟩, none⟩,
    ⟨(some 12), .move (.tmp 1), none⟩,
    ⟨(some 13), .call ⟨.value (.func 32), #[(.tmp 12), (.const (.int .i64 3))], #[22, 3]⟩, none⟩,
    ⟨(some 14), .call ⟨.value (.func 55), #[(.tmp 11), (.tmp 13)], #[3, 3]⟩, none⟩,
    ⟨(some 15), .buildSlice 22 2 #[(0, (.tmp 9)), (1, (.tmp 14))], none⟩,
    ⟨(some 16), .call ⟨.value (.func 54), #[(.tmp 15)], #[22]⟩, none⟩,
    ⟨(some 17), .binOp .gtr 3 (.tmp 16) (.const (.int .i64 0)) 3, none⟩,
    ⟨(some 4), .assign (.tmp 17), none⟩]) .ret) K t m := rfl

def c_stage_behind_1 : MC := (.seq (.ops [⟨(some 4), .assign (.const (.bool false)), none⟩]) c_stage_behind_0)
@[go_sem] theorem c_stage_behind_1_at (rd : Option Nat) (K : Post3) (t : Fr) (m : Mem) : wpM E 36 18 rd c_stage_behind_1 K t m = wpM E 36 18 rd (.seq (.ops [⟨(some 4), .assign (.const (.bool false)), none⟩]) c_stage_behind_0) K t m := rfl

@[go_sem] theorem some36 : (E.fn 36).isSome = true := by kernel_rfl
set_option maxRecDepth 100000 in
theorem fn_stage_behind : FnIs E 36 18 [.tmp 4] c_stage_behind_1 := ⟨by kernel_rfl, by kernel_rfl⟩

/-! sheaf/stage.found -/
abbrev F_stage_found : FuncId := 40
def c_stage_found_0 : MC := (.seq (.ops [⟨(some 11), .makeFunc (.func 59) #[] #[(.tmp 7), (.tmp 5), (.tmp 6), (.tmp 8), (.tmp 9)], none⟩,
    ⟨(some 10), .assign (.tmp 11), none⟩]) .ret)
@[go_sem] theorem c_stage_found_0_at (rd : Option Nat) (K : Post3) (t : Fr) (m : Mem) : wpM E 40 12 rd c_stage_found_0 K t m = wpM E 40 12 rd (.seq (.ops [⟨(some 11), .makeFunc (.func 59) #[] #[(.tmp 7), (.tmp 5), (.tmp 6), (.tmp 8), (.tmp 9)], none⟩,
    ⟨(some 10), .assign (.tmp 11), none⟩]) .ret) K t m := rfl

def c_stage_found_1 : MC := (.seq (.ops [⟨(some 5), .box 30 (.tmp 0), none⟩,
    ⟨(some 6), .box 33 (.tmp 1), none⟩,
    ⟨(some 7), .box 3 (.tmp 2), none⟩,
    ⟨(some 8), .box 3 (.tmp 3), none⟩,
    ⟨(some 9), .box 68 (.tmp 4), none⟩,
    ⟨(some 10), .assign (.const .nilFunc), none⟩]) c_stage_found_0)
@[go_sem] theorem c_stage_found_1_at (rd : Option Nat) (K : Post3) (t : Fr) (m : Mem) : wpM E 40 12 rd c_stage_found_1 K t m = wpM E 40 12 rd (.seq (.ops [⟨(some 5), .box 30 (.tmp 0), none⟩,
    ⟨(some 6), .box 33 (.tmp 1), none⟩,
    ⟨(some 7), .box 3 (.tmp 2), none⟩,
    ⟨(some 8), .box 3 (.tmp 3), none⟩,
    ⟨(some 9), .box 68 (.tmp 4), none⟩,
    ⟨(some 10), .assign (.const .nilFunc), none⟩]) c_stage_found_0) K t m := rfl

@[go_sem] theorem some40 : (E.fn 40).isSome = true := by kernel_rfl
set_option maxRecDepth 100000 in
theorem fn_stage_found : FnIs E 40 12 [.tmp 10] c_stage_found_1 := ⟨by kernel_rfl, by kernel_rfl⟩

/-! sheaf/stage.Entities$1 -/
abbrev F_stage_Entities_1 : FuncId := 41
def c_stage_Entities_1_0 : MC := (.seq (.ops [⟨(some 5), .move (.tmp 0), none⟩,
    ⟨(some 6), .move (.tmp 1), none⟩,
    ⟨(some 7), .call ⟨.value (.func 32), #[(.tmp 6), (.const (.int .i64 1))], #[22, 3]⟩, none⟩,
    ⟨(some 8), .move (.tmp 1), none⟩,
    ⟨(some 9), .call ⟨.value (.func 32), #[(.tmp 8), (.const (.int .i64 2))], #[22, 3]⟩, none⟩,
    ⟨(some 10), .buildSlice 22 2 #[(0, (.tmp 7)), (1, (.tmp 9))], none⟩,
    ⟨(some 11), .call ⟨.builtin .append, #[(.tmp 5), (.tmp 10)], #[22, 22]⟩, none⟩,
    ⟨(some 4), .assign (.tmp 11), none⟩]) .ret)
@[go_sem] theorem c_stage_Entities_1_0_at (rd : Option Nat) (K : Post3) (t : Fr) (m : Mem) : wpM E 41 12 rd c_stage_Entities_1_0 K t m = wpM E 41 12 rd (.seq (.ops [⟨(some 5), .move (.tmp 0), none⟩,
    ⟨(some 6), .move (.tmp 1), none⟩,
    ⟨(some 7), .call ⟨.value (.func 32), #[(.tmp 6), (.const (.int .i64 1))], #[22, 3]⟩, none⟩,
    ⟨(some 8), .move (.tmp 1), none⟩,
    ⟨(some 9), .call ⟨.value (.func 32), #[(.tmp 8), (.const (.int .i64 2))], #[22, 3]⟩, none⟩,
    ⟨(some 10), .buildSlice 22 2 #[(0, (.tmp 7)), (1, (.tmp 9))], none⟩,
    ⟨(some 11), .call ⟨.builtin .append, #[(.tmp 5), (.tmp 10)], #[22, 22]⟩, none⟩,
    ⟨(some 4), .assign (.tmp 11), none⟩]) .ret) K t m := rfl

def c_stage_Entities_1_1 : MC := (.seq (.ops [⟨(some 4), .assign (.const (.slice none 0 0)), none⟩]) c_stage_Entities_1_0)
@[go_sem] theorem c_stage_Entities_1_1_at (rd : Option Nat) (K : Post3) (t : Fr) (m : Mem) : wpM E 41 12 rd c_stage_Entities_1_1 K t m = wpM E 41 12 rd (.seq (.ops [⟨(some 4), .assign (.const (.slice none 0 0)), none⟩]) c_stage_Entities_1_0) K t m := rfl

@[go_sem] theorem some41 : (E.fn 41).isSome = true := by kernel_rfl
set_option maxRecDepth 100000 in
theorem fn_stage_Entities_1 : FnIs E 41 12 [.tmp 4] c_stage_Entities_1_1 := ⟨by kernel_rfl, by kernel_rfl⟩

/-! sheaf/stage.Partners$1 -/
abbrev F_stage_Partners_1 : FuncId := 42
def c_stage_Partners_1_0 : MC := (.seq (.ops [⟨(some 5), .move (.tmp 0), none⟩,
    ⟨(some 4), .assign (.tmp 5), none⟩]) .ret)
@[go_sem] theorem c_stage_Partners_1_0_at (rd : Option Nat) (K : Post3) (t : Fr) (m : Mem) : wpM E 42 6 rd c_stage_Partners_1_0 K t m = wpM E 42 6 rd (.seq (.ops [⟨(some 5), .move (.tmp 0), none⟩,
    ⟨(some 4), .assign (.tmp 5), none⟩]) .ret) K t m := rfl

def c_stage_Partners_1_1 : MC := (.seq (.ops [⟨(some 4), .assign (.const (.slice none 0 0)), none⟩]) c_stage_Partners_1_0)
@[go_sem] theorem c_stage_Partners_1_1_at (rd : Option Nat) (K : Post3) (t : Fr) (m : Mem) : wpM E 42 6 rd c_stage_Partners_1_1 K t m = wpM E 42 6 rd (.seq (.ops [⟨(some 4), .assign (.const (.slice none 0 0)), none⟩]) c_stage_Partners_1_0) K t m := rfl

@[go_sem] theorem some42 : (E.fn 42).isSome = true := by kernel_rfl
set_option maxRecDepth 100000 in
theorem fn_stage_Partners_1 : FnIs E 42 6 [.tmp 4] c_stage_Partners_1_1 := ⟨by kernel_rfl, by kernel_rfl⟩

/-! sheaf/stage.each -/
abbrev F_stage_each : FuncId := 43
def c_stage_each_0 : MC := (.seq (.ops [⟨(some 7), .makeFunc (.func 62) #[] #[(.tmp 3), (.tmp 4), (.tmp 5)], none⟩,
    ⟨(some 6), .assign (.tmp 7), none⟩]) .ret)
@[go_sem] theorem c_stage_each_0_at (rd : Option Nat) (K : Post3) (t : Fr) (m : Mem) : wpM E 43 8 rd c_stage_each_0 K t m = wpM E 43 8 rd (.seq (.ops [⟨(some 7), .makeFunc (.func 62) #[] #[(.tmp 3), (.tmp 4), (.tmp 5)], none⟩,
    ⟨(some 6), .assign (.tmp 7), none⟩]) .ret) K t m := rfl

def c_stage_each_1 : MC := (.seq (.ops [⟨(some 3), .box 30 (.tmp 0), none⟩,
    ⟨(some 4), .box 3 (.tmp 1), none⟩,
    ⟨(some 5), .box 39 (.tmp 2), none⟩,
    ⟨(some 6), .assign (.const .nilFunc), none⟩]) c_stage_each_0)
@[go_sem] theorem c_stage_each_1_at (rd : Option Nat) (K : Post3) (t : Fr) (m : Mem) : wpM E 43 8 rd c_stage_each_1 K t m = wpM E 43 8 rd (.seq (.ops [⟨(some 3), .box 30 (.tmp 0), none⟩,
    ⟨(some 4), .box 3 (.tmp 1), none⟩,
    ⟨(some 5), .box 39 (.tmp 2), none⟩,
    ⟨(some 6), .assign (.const .nilFunc), none⟩]) c_stage_each_0) K t m := rfl

@[go_sem] theorem some43 : (E.fn 43).isSome = true := by kernel_rfl
set_option maxRecDepth 100000 in
theorem fn_stage_each : FnIs E 43 8 [.tmp 6] c_stage_each_1 := ⟨by kernel_rfl, by kernel_rfl⟩

/-! sheaf/stage.Shape$1 -/
abbrev F_stage_Shape_1 : FuncId := 44
def c_stage_Shape_1_0 : MC := (.seq (.ops [⟨(some 3), .move (.tmp 0), none⟩,
    ⟨(some 4), .call ⟨.value (.func 22), #[(.const (.int .i64 1)), (.tmp 3)], #[3, 22]⟩, none⟩,
    ⟨(some 2), .assign (.tmp 4), none⟩]) .ret)
@[go_sem] theorem c_stage_Shape_1_0_at (rd : Option Nat) (K : Post3) (t : Fr) (m : Mem) : wpM E 44 5 rd c_stage_Shape_1_0 K t m = wpM E 44 5 rd (.seq (.ops [⟨(some 3), .move (.tmp 0), none⟩,
    ⟨(some 4), .call ⟨.value (.func 22), #[(.const (.int .i64 1)), (.tmp 3)], #[3, 22]⟩, none⟩,
    ⟨(some 2), .assign (.tmp 4), none⟩]) .ret) K t m := rfl

def c_stage_Shape_1_1 : MC := (.seq (.ops [⟨(some 2), .assign (.const (.bool false)), none⟩]) c_stage_Shape_1_0)
@[go_sem] theorem c_stage_Shape_1_1_at (rd : Option Nat) (K : Post3) (t : Fr) (m : Mem) : wpM E 44 5 rd c_stage_Shape_1_1 K t m = wpM E 44 5 rd (.seq (.ops [⟨(some 2), .assign (.const (.bool false)), none⟩]) c_stage_Shape_1_0) K t m := rfl

@[go_sem] theorem some44 : (E.fn 44).isSome = true := by kernel_rfl
set_option maxRecDepth 100000 in
theorem fn_stage_Shape_1 : FnIs E 44 5 [.tmp 2] c_stage_Shape_1_1 := ⟨by kernel_rfl, by kernel_rfl⟩

/-! sheaf/stage.Days$1 -/
abbrev F_stage_Days_1 : FuncId := 47
def c_stage_Days_1_0 : MC := (.seq (.ops [⟨(some 7), .move (.tmp 4), none⟩,
    ⟨(some 8), .fieldAddr 46 (.tmp 1) 0, none⟩,
    ⟨(some 9), .load 3 (.tmp 8), none⟩,
    ⟨(some 10), .binOp .geq 3 (.tmp 7) (.tmp 9) 3, none⟩,
    ⟨(some 11), .move (.tmp 10), none⟩,
    ⟨(some 12), .move (.tmp 4), (some (some 11, true))⟩,
    ⟨(some 13), .fieldAddr 46 (.tmp 1) 1, (some (some 11, true))⟩,
    ⟨(some 14), .load 3 (.tmp 13), (some (some 11, true))⟩,
    ⟨(some 15), .binOp .leq 3 (.tmp 12) (.tmp 14) 3, (some (some 11, true))⟩,
    ⟨(some 16), .pick (.tmp 11) (.tmp 15) (.const (.bool false)), none⟩,
    ⟨(some 3), .assign (.tmp 16), none⟩]) .ret)
@[go_sem] theorem c_stage_Days_1_0_at (rd : Option Nat) (K : Post3) (t : Fr) (m : Mem) : wpM E 47 17 rd c_stage_Days_1_0 K t m = wpM E 47 17 rd (.seq (.ops [⟨(some 7), .move (.tmp 4), none⟩,
    ⟨(some 8), .fieldAddr 46 (.tmp 1) 0, none⟩,
    ⟨(some 9), .load 3 (.tmp 8), none⟩,
    ⟨(some 10), .binOp .geq 3 (.tmp 7) (.tmp 9) 3, none⟩,
    ⟨(some 11), .move (.tmp 10), none⟩,
    ⟨(some 12), .move (.tmp 4), (some (some 11, true))⟩,
    ⟨(some 13), .fieldAddr 46 (.tmp 1) 1, (some (some 11, true))⟩,
    ⟨(some 14), .load 3 (.tmp 13), (some (some 11, true))⟩,
    ⟨(some 15), .binOp .leq 3 (.tmp 12) (.tmp 14) 3, (some (some 11, true))⟩,
    ⟨(some 16), .pick (.tmp 11) (.tmp 15) (.const (.bool false)), none⟩,
    ⟨(some 3), .assign (.tmp 16), none⟩]) .ret) K t m := rfl

def c_stage_Days_1_1 : MC := (.seq (.ops [⟨(some 5), .move (.tmp 0), none⟩,
    ⟨(some 6), .call ⟨.value (.func 32), #[(.tmp 5), (.const (.int .i64 3))], #[22, 3]⟩, none⟩,
    ⟨(some 4), .assign (.tmp 6), none⟩]) c_stage_Days_1_0)
@[go_sem] theorem c_stage_Days_1_1_at (rd : Option Nat) (K : Post3) (t : Fr) (m : Mem) : wpM E 47 17 rd c_stage_Days_1_1 K t m = wpM E 47 17 rd (.seq (.ops [⟨(some 5), .move (.tmp 0), none⟩,
    ⟨(some 6), .call ⟨.value (.func 32), #[(.tmp 5), (.const (.int .i64 3))], #[22, 3]⟩, none⟩,
    ⟨(some 4), .assign (.tmp 6), none⟩]) c_stage_Days_1_0) K t m := rfl

def c_stage_Days_1_2 : MC := (.seq (.ops [⟨(some 3), .assign (.const (.bool false)), none⟩]) c_stage_Days_1_1)
@[go_sem] theorem c_stage_Days_1_2_at (rd : Option Nat) (K : Post3) (t : Fr) (m : Mem) : wpM E 47 17 rd c_stage_Days_1_2 K t m = wpM E 47 17 rd (.seq (.ops [⟨(some 3), .assign (.const (.bool false)), none⟩]) c_stage_Days_1_1) K t m := rfl

@[go_sem] theorem some47 : (E.fn 47).isSome = true := by kernel_rfl
set_option maxRecDepth 100000 in
theorem fn_stage_Days_1 : FnIs E 47 17 [.tmp 3] c_stage_Days_1_2 := ⟨by kernel_rfl, by kernel_rfl⟩

/-! sheaf/stage.Accounts$1 -/
abbrev F_stage_Accounts_1 : FuncId := 48
def c_stage_Accounts_1_0 : MC := (.seq (.ops [⟨(some 5), .move (.tmp 0), none⟩,
    ⟨(some 6), .move (.tmp 1), none⟩,
    ⟨(some 7), .call ⟨.value (.func 32), #[(.tmp 6), (.const (.int .i64 1))], #[22, 3]⟩, none⟩,
    ⟨(some 8), .buildSlice 22 1 #[(0, (.tmp 7))], none⟩,
    ⟨(some 9), .call ⟨.builtin .append, #[(.tmp 5), (.tmp 8)], #[22, 22]⟩, none⟩,
    ⟨(some 4), .assign (.tmp 9), none⟩]) .ret)
@[go_sem] theorem c_stage_Accounts_1_0_at (rd : Option Nat) (K : Post3) (t : Fr) (m : Mem) : wpM E 48 10 rd c_stage_Accounts_1_0 K t m = wpM E 48 10 rd (.seq (.ops [⟨(some 5), .move (.tmp 0), none⟩,
    ⟨(some 6), .move (.tmp 1), none⟩,
    ⟨(some 7), .call ⟨.value (.func 32), #[(.tmp 6), (.const (.int .i64 1))], #[22, 3]⟩, none⟩,
    ⟨(some 8), .buildSlice 22 1 #[(0, (.tmp 7))], none⟩,
    ⟨(some 9), .call ⟨.builtin .append, #[(.tmp 5), (.tmp 8)], #[22, 22]⟩, none⟩,
    ⟨(some 4), .assign (.tmp 9), none⟩]) .ret) K t m := rfl

def c_stage_Accounts_1_1 : MC := (.seq (.ops [⟨(some 4), .assign (.const (.slice none 0 0)), none⟩]) c_stage_Accounts_1_0)
@[go_sem] theorem c_stage_Accounts_1_1_at (rd : Option Nat) (K : Post3) (t : Fr) (m : Mem) : wpM E 48 10 rd c_stage_Accounts_1_1 K t m = wpM E 48 10 rd (.seq (.ops [⟨(some 4), .assign (.const (.slice none 0 0)), none⟩]) c_stage_Accounts_1_0) K t m := rfl

@[go_sem] theorem some48 : (E.fn 48).isSome = true := by kernel_rfl
set_option maxRecDepth 100000 in
theorem fn_stage_Accounts_1 : FnIs E 48 10 [.tmp 4] c_stage_Accounts_1_1 := ⟨by kernel_rfl, by kernel_rfl⟩

/-! sheaf/stage.found$1 -/
abbrev F_stage_found_1 : FuncId := 59
def c_stage_found_1_0 : MC := (.seq (.ops [⟨(some 8), .assign (.tmp 16), none⟩]) (.ops [⟨(some 9), .assign (.tmp 17), none⟩]))
@[go_sem] theorem c_stage_found_1_0_at (rd : Option Nat) (K : Post3) (t : Fr) (m : Mem) : wpM E 59 44 rd c_stage_found_1_0 K t m = wpM E 59 44 rd (.seq (.ops [⟨(some 8), .assign (.tmp 16), none⟩]) (.ops [⟨(some 9), .assign (.tmp 17), none⟩])) K t m := rfl

def c_stage_found_1_1 : MC := (.cond (.tmp 30) (.ops [⟨(some 10), .assign (.const (.int .i64 0)), none⟩]) .skip)
@[go_sem] theorem c_stage_found_1_1_at (rd : Option Nat) (K : Post3) (t : Fr) (m : Mem) : wpM E 59 44 rd c_stage_found_1_1 K t m = wpM E 59 44 rd (.cond (.tmp 30) (.ops [⟨(some 10), .assign (.const (.int .i64 0)), none⟩]) .skip) K t m := rfl

def c_stage_found_1_2 : MC := (.seq (.ops [⟨(some 31), .load 3 (.tmp 1), none⟩,
    ⟨(some 32), .binOp .eql 3 (.tmp 31) (.const (.int .i64 5)) 3, none⟩,
    ⟨(some 33), .move (.tmp 32), none⟩,
    ⟨(some 34), .move (.tmp 8), (some (some 33, true))⟩,
    ⟨(some 35), .load 3 (.tmp 1), (some (some 33, true))⟩,
    ⟨(some 36), .call ⟨.value (.func 32), #[(.tmp 34), (.tmp 35)], #[22, 3]⟩, (some (some 33, true))⟩,
    ⟨(some 37), .binOp .eql 3 (.tmp 36) (.const (.int .i64 0)) 3, (some (some 33, true))⟩,
    ⟨(some 38), .pick (.tmp 33) (.tmp 37) (.const (.bool false)), none⟩,
    ⟨(some 30), .assign (.tmp 38), none⟩]) c_stage_found_1_1)
@[go_sem] theorem c_stage_found_1_2_at (rd : Option Nat) (K : Post3) (t : Fr) (m : Mem) : wpM E 59 44 rd c_stage_found_1_2 K t m = wpM E 59 44 rd (.seq (.ops [⟨(some 31), .load 3 (.tmp 1), none⟩,
    ⟨(some 32), .binOp .eql 3 (.tmp 31) (.const (.int .i64 5)) 3, none⟩,
    ⟨(some 33), .move (.tmp 32), none⟩,
    ⟨(some 34), .move (.tmp 8), (some (some 33, true))⟩,
    ⟨(some 35), .load 3 (.tmp 1), (some (some 33, true))⟩,
    ⟨(some 36), .call ⟨.value (.func 32), #[(.tmp 34), (.tmp 35)], #[22, 3]⟩, (some (some 33, true))⟩,
    ⟨(some 37), .binOp .eql 3 (.tmp 36) (.const (.int .i64 0)) 3, (some (some 33, true))⟩,
    ⟨(some 38), .pick (.tmp 33) (.tmp 37) (.const (.bool false)), none⟩,
    ⟨(some 30), .assign (.tmp 38), none⟩]) c_stage_found_1_1) K t m := rfl

def c_stage_found_1_3 : MC := (.cond (.tmp 21) (.ops [⟨(some 24), .load 68 (.tmp 5), none⟩,
    ⟨(some 25), .move (.tmp 8), none⟩,
    ⟨(some 26), .move (.tmp 9), none⟩,
    ⟨(some 27), .nilCheck (.tmp 26), none⟩,
    ⟨(some 28), .load 22 (.tmp 27), none⟩,
    ⟨(some 29), .call ⟨.value (.tmp 24), #[(.tmp 25), (.tmp 28)], #[22, 22]⟩, none⟩,
    ⟨(some 8), .assign (.tmp 29), none⟩,
    ⟨(some 10), .assign (.const (.int .i64 0)), none⟩]) c_stage_found_1_2)
@[go_sem] theorem c_stage_found_1_3_at (rd : Option Nat) (K : Post3) (t : Fr) (m : Mem) : wpM E 59 44 rd c_stage_found_1_3 K t m = wpM E 59 44 rd (.cond (.tmp 21) (.ops [⟨(some 24), .load 68 (.tmp 5), none⟩,
    ⟨(some 25), .move (.tmp 8), none⟩,
    ⟨(some 26), .move (.tmp 9), none⟩,
    ⟨(some 27), .nilCheck (.tmp 26), none⟩,
    ⟨(some 28), .load 22 (.tmp 27), none⟩,
    ⟨(some 29), .call ⟨.value (.tmp 24), #[(.tmp 25), (.tmp 28)], #[22, 22]⟩, none⟩,
    ⟨(some 8), .assign (.tmp 29), none⟩,
    ⟨(some 10), .assign (.const (.int .i64 0)), none⟩]) c_stage_found_1_2) K t m := rfl

def c_stage_found_1_4 : MC := (.seq (.ops [⟨(some 22), .move (.tmp 9), none⟩,
    ⟨(some 23), .binOp .neq 90 (.tmp 22) (.const (.pointer none)) 90, none⟩,
    ⟨(some 21), .assign (.tmp 23), none⟩]) c_stage_found_1_3)
@[go_sem] theorem c_stage_found_1_4_at (rd : Option Nat) (K : Post3) (t : Fr) (m : Mem) : wpM E 59 44 rd c_stage_found_1_4 K t m = wpM E 59 44 rd (.seq (.ops [⟨(some 22), .move (.tmp 9), none⟩,
    ⟨(some 23), .binOp .neq 90 (.tmp 22) (.const (.pointer none)) 90, none⟩,
    ⟨(some 21), .assign (.tmp 23), none⟩]) c_stage_found_1_3) K t m := rfl

def c_stage_found_1_5 : MC := (.block 2 c_stage_found_1_4)
@[go_sem] theorem c_stage_found_1_5_at (rd : Option Nat) (K : Post3) (t : Fr) (m : Mem) : wpM E 59 44 rd c_stage_found_1_5 K t m = wpM E 59 44 rd (.block 2 c_stage_found_1_4) K t m := rfl

def c_stage_found_1_6 : MC := (.cond (.tmp 43) .ret .skip)
@[go_sem] theorem c_stage_found_1_6_at (rd : Option Nat) (K : Post3) (t : Fr) (m : Mem) : wpM E 59 44 rd c_stage_found_1_6 K t m = wpM E 59 44 rd (.cond (.tmp 43) .ret .skip) K t m := rfl

def c_stage_found_1_7 : MC := (.seq (.ops [⟨(some 39), .load 41 (.tmp 6), none⟩,
    ⟨(some 40), .move (.tmp 8), none⟩,
    ⟨(some 41), .move (.tmp 10), none⟩,
    ⟨(some 42), .call ⟨.value (.tmp 39), #[(.tmp 40), (.tmp 41)], #[22, 3]⟩, none⟩,
    ⟨(some 43), .unOp .not 4 (.tmp 42), none⟩]) c_stage_found_1_6)
@[go_sem] theorem c_stage_found_1_7_at (rd : Option Nat) (K : Post3) (t : Fr) (m : Mem) : wpM E 59 44 rd c_stage_found_1_7 K t m = wpM E 59 44 rd (.seq (.ops [⟨(some 39), .load 41 (.tmp 6), none⟩,
    ⟨(some 40), .move (.tmp 8), none⟩,
    ⟨(some 41), .move (.tmp 10), none⟩,
    ⟨(some 42), .call ⟨.value (.tmp 39), #[(.tmp 40), (.tmp 41)], #[22, 3]⟩, none⟩,
    ⟨(some 43), .unOp .not 4 (.tmp 42), none⟩]) c_stage_found_1_6) K t m := rfl

def c_stage_found_1_8 : MC := (.seq c_stage_found_1_5 c_stage_found_1_7)
@[go_sem] theorem c_stage_found_1_8_at (rd : Option Nat) (K : Post3) (t : Fr) (m : Mem) : wpM E 59 44 rd c_stage_found_1_8 K t m = wpM E 59 44 rd (.seq c_stage_found_1_5 c_stage_found_1_7) K t m := rfl

def c_stage_found_1_9 : MC := (.seq (.ops [⟨(some 20), .load 3 (.tmp 4), none⟩,
    ⟨(some 10), .assign (.tmp 20), none⟩]) c_stage_found_1_8)
@[go_sem] theorem c_stage_found_1_9_at (rd : Option Nat) (K : Post3) (t : Fr) (m : Mem) : wpM E 59 44 rd c_stage_found_1_9 K t m = wpM E 59 44 rd (.seq (.ops [⟨(some 20), .load 3 (.tmp 4), none⟩,
    ⟨(some 10), .assign (.tmp 20), none⟩]) c_stage_found_1_8) K t m := rfl

def c_stage_found_1_10 : MC := (.seq (.ops [⟨(some 18), .move (.tmp 8), none⟩,
    ⟨(some 19), .call ⟨.value (.func 33), #[(.tmp 18)], #[22]⟩, none⟩,
    ⟨(some 8), .assign (.tmp 19), none⟩]) c_stage_found_1_9)
@[go_sem] theorem c_stage_found_1_10_at (rd : Option Nat) (K : Post3) (t : Fr) (m : Mem) : wpM E 59 44 rd c_stage_found_1_10 K t m = wpM E 59 44 rd (.seq (.ops [⟨(some 18), .move (.tmp 8), none⟩,
    ⟨(some 19), .call ⟨.value (.func 33), #[(.tmp 18)], #[22]⟩, none⟩,
    ⟨(some 8), .assign (.tmp 19), none⟩]) c_stage_found_1_9) K t m := rfl

def c_stage_found_1_11 : MC := (.block 1 c_stage_found_1_10)
@[go_sem] theorem c_stage_found_1_11_at (rd : Option Nat) (K : Post3) (t : Fr) (m : Mem) : wpM E 59 44 rd c_stage_found_1_11 K t m = wpM E 59 44 rd (.block 1 c_stage_found_1_10) K t m := rfl

theorem asg_stage_found_1_0 : compile E 59 44 (asgAt E 59 0) = some c_stage_found_1_0 := by kernel_rfl

theorem body_stage_found_1_0 : compile E 59 44 (bodyAt E 59 0) = some c_stage_found_1_11 := by kernel_rfl

def c_stage_found_1_12 : MC := (.range (.tmp 15) #[16, 17] (asgAt E 59 0) (bodyAt E 59 0))
theorem c_stage_found_1_12_at (rd : Option Nat) (K : Post3) (t : Fr) (m : Mem) : wpM E 59 44 rd c_stage_found_1_12 K t m = wpM E 59 44 rd (.range (.tmp 15) #[16, 17] (asgAt E 59 0) (bodyAt E 59 0)) K t m := rfl

def c_stage_found_1_13 : MC := (.block 0 c_stage_found_1_12)
@[go_sem] theorem c_stage_found_1_13_at (rd : Option Nat) (K : Post3) (t : Fr) (m : Mem) : wpM E 59 44 rd c_stage_found_1_13 K t m = wpM E 59 44 rd (.block 0 c_stage_found_1_12) K t m := rfl

def c_stage_found_1_14 : MC := (.seq (.ops [⟨(some 12), .load 30 (.tmp 2), none⟩,
    ⟨(some 13), .load 33 (.tmp 3), none⟩,
    ⟨(some 14), .move (.tmp 7), none⟩,
    ⟨(some 15), .call ⟨.value (.func 61), #[(.tmp 12), (.tmp 13), (.tmp 14)], #[30, 33, 86]⟩, none⟩]) c_stage_found_1_13)
@[go_sem] theorem c_stage_found_1_14_at (rd : Option Nat) (K : Post3) (t : Fr) (m : Mem) : wpM E 59 44 rd c_stage_found_1_14 K t m = wpM E 59 44 rd (.seq (.ops [⟨(some 12), .load 30 (.tmp 2), none⟩,
    ⟨(some 13), .load 33 (.tmp 3), none⟩,
    ⟨(some 14), .move (.tmp 7), none⟩,
    ⟨(some 15), .call ⟨.value (.func 61), #[(.tmp 12), (.tmp 13), (.tmp 14)], #[30, 33, 86]⟩, none⟩]) c_stage_found_1_13) K t m := rfl

def c_stage_found_1_15 : MC := (.seq (.ops [⟨(some 11), .makeFunc (.func 60) #[] #[(.tmp 1)], none⟩,
    ⟨(some 7), .assign (.tmp 11), none⟩]) c_stage_found_1_14)
@[go_sem] theorem c_stage_found_1_15_at (rd : Option Nat) (K : Post3) (t : Fr) (m : Mem) : wpM E 59 44 rd c_stage_found_1_15 K t m = wpM E 59 44 rd (.seq (.ops [⟨(some 11), .makeFunc (.func 60) #[] #[(.tmp 1)], none⟩,
    ⟨(some 7), .assign (.tmp 11), none⟩]) c_stage_found_1_14) K t m := rfl

def c_stage_found_1_16 : MC := (.seq (.ops [⟨(some 6), .box 41 (.tmp 0), none⟩]) c_stage_found_1_15)
@[go_sem] theorem c_stage_found_1_16_at (rd : Option Nat) (K : Post3) (t : Fr) (m : Mem) : wpM E 59 44 rd c_stage_found_1_16 K t m = wpM E 59 44 rd (.seq (.ops [⟨(some 6), .box 41 (.tmp 0), none⟩]) c_stage_found_1_15) K t m := rfl

@[go_sem] theorem some59 : (E.fn 59).isSome = true := by kernel_rfl
set_option maxRecDepth 100000 in
theorem fn_stage_found_1 : FnIs E 59 44 [] c_stage_found_1_16 := ⟨by kernel_rfl, by kernel_rfl⟩

/-! sheaf/stage.found$1$1 -/
abbrev F_stage_found_1_1 : FuncId := 60
def c_stage_found_1_1_0 : MC := (.seq (.ops [⟨(some 6), .move (.tmp 0), none⟩,
    ⟨(some 7), .load 3 (.tmp 2), none⟩,
    ⟨(some 8), .call ⟨.value (.func 32), #[(.tmp 6), (.tmp 7)], #[22, 3]⟩, none⟩,
    ⟨(some 9), .move (.tmp 1), none⟩,
    ⟨(some 10), .call ⟨.value (.func 32), #[(.tmp 9), (.const (.int .i64 0))], #[22, 3]⟩, none⟩,
    ⟨(some 11), .call ⟨.value (.func 55), #[(.tmp 8), (.tmp 10)], #[3, 3]⟩, none⟩,
    ⟨(some 5), .assign (.tmp 11), none⟩]) .ret)
@[go_sem] theorem c_stage_found_1_1_0_at (rd : Option Nat) (K : Post3) (t : Fr) (m : Mem) : wpM E 60 12 rd c_stage_found_1_1_0 K t m = wpM E 60 12 rd (.seq (.ops [⟨(some 6), .move (.tmp 0), none⟩,
    ⟨(some 7), .load 3 (.tmp 2), none⟩,
    ⟨(some 8), .call ⟨.value (.func 32), #[(.tmp 6), (.tmp 7)], #[22, 3]⟩, none⟩,
    ⟨(some 9), .move (.tmp 1), none⟩,
    ⟨(some 10), .call ⟨.value (.func 32), #[(.tmp 9), (.const (.int .i64 0))], #[22, 3]⟩, none⟩,
    ⟨(some 11), .call ⟨.value (.func 55), #[(.tmp 8), (.tmp 10)], #[3, 3]⟩, none⟩,
    ⟨(some 5), .assign (.tmp 11), none⟩]) .ret) K t m := rfl

def c_stage_found_1_1_1 : MC := (.seq (.ops [⟨(some 5), .assign (.const (.int .i64 0)), none⟩]) c_stage_found_1_1_0)
@[go_sem] theorem c_stage_found_1_1_1_at (rd : Option Nat) (K : Post3) (t : Fr) (m : Mem) : wpM E 60 12 rd c_stage_found_1_1_1 K t m = wpM E 60 12 rd (.seq (.ops [⟨(some 5), .assign (.const (.int .i64 0)), none⟩]) c_stage_found_1_1_0) K t m := rfl

@[go_sem] theorem some60 : (E.fn 60).isSome = true := by kernel_rfl
set_option maxRecDepth 100000 in
theorem fn_stage_found_1_1 : FnIs E 60 12 [.tmp 5] c_stage_found_1_1_1 := ⟨by kernel_rfl, by kernel_rfl⟩

/-! sheaf/stage.each$1 -/
abbrev F_stage_each_1 : FuncId := 62
def c_stage_each_1_0 : MC := (.cond (.tmp 12) (.ops [⟨(some 6), .assign (.const (.int .i64 0)), none⟩]) .skip)
@[go_sem] theorem c_stage_each_1_0_at (rd : Option Nat) (K : Post3) (t : Fr) (m : Mem) : wpM E 62 19 rd c_stage_each_1_0 K t m = wpM E 62 19 rd (.cond (.tmp 12) (.ops [⟨(some 6), .assign (.const (.int .i64 0)), none⟩]) .skip) K t m := rfl

def c_stage_each_1_1 : MC := (.seq (.ops [⟨(some 10), .load 39 (.tmp 3), none⟩,
    ⟨(some 11), .move (.tmp 5), none⟩,
    ⟨(some 12), .call ⟨.value (.tmp 10), #[(.tmp 11)], #[22]⟩, none⟩]) c_stage_each_1_0)
@[go_sem] theorem c_stage_each_1_1_at (rd : Option Nat) (K : Post3) (t : Fr) (m : Mem) : wpM E 62 19 rd c_stage_each_1_1 K t m = wpM E 62 19 rd (.seq (.ops [⟨(some 10), .load 39 (.tmp 3), none⟩,
    ⟨(some 11), .move (.tmp 5), none⟩,
    ⟨(some 12), .call ⟨.value (.tmp 10), #[(.tmp 11)], #[22]⟩, none⟩]) c_stage_each_1_0) K t m := rfl

def c_stage_each_1_2 : MC := (.cond (.tmp 18) .ret .skip)
@[go_sem] theorem c_stage_each_1_2_at (rd : Option Nat) (K : Post3) (t : Fr) (m : Mem) : wpM E 62 19 rd c_stage_each_1_2 K t m = wpM E 62 19 rd (.cond (.tmp 18) .ret .skip) K t m := rfl

def c_stage_each_1_3 : MC := (.seq (.draw [(0, [], ⟨(some 13), .load 41 (.tmp 4), none⟩),
    (1, [], ⟨(some 14), .move (.tmp 5), none⟩),
    (2, [0], ⟨(some 15), .call ⟨.value (.func 33), #[(.tmp 14)], #[22]⟩, none⟩),
    (3, [], ⟨(some 16), .move (.tmp 6), none⟩),
    (4, [], ⟨(some 17), .call ⟨.value (.tmp 13), #[(.tmp 15), (.tmp 16)], #[22, 3]⟩, none⟩),
    (5, [], ⟨(some 18), .unOp .not 4 (.tmp 17), none⟩)]) c_stage_each_1_2)
@[go_sem] theorem c_stage_each_1_3_at (rd : Option Nat) (K : Post3) (t : Fr) (m : Mem) : wpM E 62 19 rd c_stage_each_1_3 K t m = wpM E 62 19 rd (.seq (.draw [(0, [], ⟨(some 13), .load 41 (.tmp 4), none⟩),
    (1, [], ⟨(some 14), .move (.tmp 5), none⟩),
    (2, [0], ⟨(some 15), .call ⟨.value (.func 33), #[(.tmp 14)], #[22]⟩, none⟩),
    (3, [], ⟨(some 16), .move (.tmp 6), none⟩),
    (4, [], ⟨(some 17), .call ⟨.value (.tmp 13), #[(.tmp 15), (.tmp 16)], #[22, 3]⟩, none⟩),
    (5, [], ⟨(some 18), .unOp .not 4 (.tmp 17), none⟩)]) c_stage_each_1_2) K t m := rfl

def c_stage_each_1_4 : MC := (.seq c_stage_each_1_1 c_stage_each_1_3)
@[go_sem] theorem c_stage_each_1_4_at (rd : Option Nat) (K : Post3) (t : Fr) (m : Mem) : wpM E 62 19 rd c_stage_each_1_4 K t m = wpM E 62 19 rd (.seq c_stage_each_1_1 c_stage_each_1_3) K t m := rfl

def c_stage_each_1_5 : MC := (.seq (.ops [⟨(some 9), .load 3 (.tmp 2), none⟩,
    ⟨(some 6), .assign (.tmp 9), none⟩]) c_stage_each_1_4)
@[go_sem] theorem c_stage_each_1_5_at (rd : Option Nat) (K : Post3) (t : Fr) (m : Mem) : wpM E 62 19 rd c_stage_each_1_5 K t m = wpM E 62 19 rd (.seq (.ops [⟨(some 9), .load 3 (.tmp 2), none⟩,
    ⟨(some 6), .assign (.tmp 9), none⟩]) c_stage_each_1_4) K t m := rfl

def c_stage_each_1_6 : MC := (.block 1 c_stage_each_1_5)
@[go_sem] theorem c_stage_each_1_6_at (rd : Option Nat) (K : Post3) (t : Fr) (m : Mem) : wpM E 62 19 rd c_stage_each_1_6 K t m = wpM E 62 19 rd (.block 1 c_stage_each_1_5) K t m := rfl

theorem asg_stage_each_1_0 : compile E 62 19 (asgAt E 62 0) = some (.ops [⟨(some 5), .assign (.tmp 8), none⟩]) := by kernel_rfl

theorem body_stage_each_1_0 : compile E 62 19 (bodyAt E 62 0) = some c_stage_each_1_6 := by kernel_rfl

def c_stage_each_1_7 : MC := (.range (.tmp 7) #[8] (asgAt E 62 0) (bodyAt E 62 0))
theorem c_stage_each_1_7_at (rd : Option Nat) (K : Post3) (t : Fr) (m : Mem) : wpM E 62 19 rd c_stage_each_1_7 K t m = wpM E 62 19 rd (.range (.tmp 7) #[8] (asgAt E 62 0) (bodyAt E 62 0)) K t m := rfl

def c_stage_each_1_8 : MC := (.block 0 c_stage_each_1_7)
@[go_sem] theorem c_stage_each_1_8_at (rd : Option Nat) (K : Post3) (t : Fr) (m : Mem) : wpM E 62 19 rd c_stage_each_1_8 K t m = wpM E 62 19 rd (.block 0 c_stage_each_1_7) K t m := rfl

def c_stage_each_1_9 : MC := (.seq (.ops [⟨(some 7), .load 30 (.tmp 1), none⟩]) c_stage_each_1_8)
@[go_sem] theorem c_stage_each_1_9_at (rd : Option Nat) (K : Post3) (t : Fr) (m : Mem) : wpM E 62 19 rd c_stage_each_1_9 K t m = wpM E 62 19 rd (.seq (.ops [⟨(some 7), .load 30 (.tmp 1), none⟩]) c_stage_each_1_8) K t m := rfl

def c_stage_each_1_10 : MC := (.seq (.ops [⟨(some 4), .box 41 (.tmp 0), none⟩]) c_stage_each_1_9)
@[go_sem] theorem c_stage_each_1_10_at (rd : Option Nat) (K : Post3) (t : Fr) (m : Mem) : wpM E 62 19 rd c_stage_each_1_10 K t m = wpM E 62 19 rd (.seq (.ops [⟨(some 4), .box 41 (.tmp 0), none⟩]) c_stage_each_1_9) K t m := rfl

@[go_sem] theorem some62 : (E.fn 62).isSome = true := by kernel_rfl
set_option maxRecDepth 100000 in
theorem fn_stage_each_1 : FnIs E 62 19 [] c_stage_each_1_10 := ⟨by kernel_rfl, by kernel_rfl⟩

end
end Go.Proofs.Ytpabllcacdopdaa.W
