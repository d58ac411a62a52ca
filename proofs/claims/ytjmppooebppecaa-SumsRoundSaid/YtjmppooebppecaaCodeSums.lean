/-
  Compact code, printed by a program of mine (wip/dev/AbsPrint.lean).
-/
import Derived.Test.YtjmppooebppecaaTypes
set_option linter.unusedVariables false
namespace Go.Proofs.Ytjmppooebppecaa.W
open Go.Abs
noncomputable section

/-! sheaf/sums.Total -/
abbrev F_sums_Total : FuncId := 27
def c_sums_Total_0 : MC := (.seq (.ops [⟨(some 7), .makeFunc (.func 44) #[] #[(.tmp 3), (.tmp 5), (.tmp 4)], none⟩,
    ⟨(some 6), .assign (.tmp 7), none⟩]) .ret)
@[go_sem] theorem c_sums_Total_0_at (rd : Option Nat) (K : Post3) (t : Fr) (m : Mem) : wpM E 27 8 rd c_sums_Total_0 K t m = wpM E 27 8 rd (.seq (.ops [⟨(some 7), .makeFunc (.func 44) #[] #[(.tmp 3), (.tmp 5), (.tmp 4)], none⟩,
    ⟨(some 6), .assign (.tmp 7), none⟩]) .ret) K t m := rfl

def c_sums_Total_1 : MC := (.seq (.ops [⟨(some 3), .box 54 (.tmp 0), none⟩,
    ⟨(some 4), .box 3 (.tmp 1), none⟩,
    ⟨(some 5), .box 22 (.tmp 2), none⟩,
    ⟨(some 6), .assign (.const .nilFunc), none⟩]) c_sums_Total_0)
@[go_sem] theorem c_sums_Total_1_at (rd : Option Nat) (K : Post3) (t : Fr) (m : Mem) : wpM E 27 8 rd c_sums_Total_1 K t m = wpM E 27 8 rd (.seq (.ops [⟨(some 3), .box 54 (.tmp 0), none⟩,
    ⟨(some 4), .box 3 (.tmp 1), none⟩,
    ⟨(some 5), .box 22 (.tmp 2), none⟩,
    ⟨(some 6), .assign (.const .nilFunc), none⟩]) c_sums_Total_0) K t m := rfl

@[go_sem] theorem some27 : (E.fn 27).isSome = true := by kernel_rfl
set_option maxRecDepth 100000 in
theorem fn_sums_Total : FnIs E 27 8 [.tmp 6] c_sums_Total_1 := ⟨by kernel_rfl, by kernel_rfl⟩

/-! sheaf/sums.Round -/
abbrev F_sums_Round : FuncId := 32
def c_sums_Round_0 : MC := (.seq (.ops [⟨(some 3), .makeFunc (.func 55) #[] #[(.tmp 1)], none⟩,
    ⟨(some 2), .assign (.tmp 3), none⟩]) .ret)
@[go_sem] theorem c_sums_Round_0_at (rd : Option Nat) (K : Post3) (t : Fr) (m : Mem) : wpM E 32 4 rd c_sums_Round_0 K t m = wpM E 32 4 rd (.seq (.ops [⟨(some 3), .makeFunc (.func 55) #[] #[(.tmp 1)], none⟩,
    ⟨(some 2), .assign (.tmp 3), none⟩]) .ret) K t m := rfl

def c_sums_Round_1 : MC := (.seq (.ops [⟨(some 1), .box 54 (.tmp 0), none⟩,
    ⟨(some 2), .assign (.const .nilFunc), none⟩]) c_sums_Round_0)
@[go_sem] theorem c_sums_Round_1_at (rd : Option Nat) (K : Post3) (t : Fr) (m : Mem) : wpM E 32 4 rd c_sums_Round_1 K t m = wpM E 32 4 rd (.seq (.ops [⟨(some 1), .box 54 (.tmp 0), none⟩,
    ⟨(some 2), .assign (.const .nilFunc), none⟩]) c_sums_Round_0) K t m := rfl

@[go_sem] theorem some32 : (E.fn 32).isSome = true := by kernel_rfl
set_option maxRecDepth 100000 in
theorem fn_sums_Round : FnIs E 32 4 [.tmp 2] c_sums_Round_1 := ⟨by kernel_rfl, by kernel_rfl⟩

/-! sheaf/sums.Total$1 -/
abbrev F_sums_Total_1 : FuncId := 44
def c_sums_Total_1_0 : MC := (.cond (.tmp 26) .ret .skip)
@[go_sem] theorem c_sums_Total_1_0_at (rd : Option Nat) (K : Post3) (t : Fr) (m : Mem) : wpM E 44 35 rd c_sums_Total_1_0 K t m = wpM E 44 35 rd (.cond (.tmp 26) .ret .skip) K t m := rfl

def c_sums_Total_1_1 : MC := (.seq (.ops [⟨(some 24), .load 35 (.tmp 7), none⟩,
    ⟨(some 25), .call ⟨.value (.tmp 24), #[], #[]⟩, none⟩,
    ⟨(some 26), .unOp .not 4 (.tmp 25), none⟩]) c_sums_Total_1_0)
@[go_sem] theorem c_sums_Total_1_1_at (rd : Option Nat) (K : Post3) (t : Fr) (m : Mem) : wpM E 44 35 rd c_sums_Total_1_1 K t m = wpM E 44 35 rd (.seq (.ops [⟨(some 24), .load 35 (.tmp 7), none⟩,
    ⟨(some 25), .call ⟨.value (.tmp 24), #[], #[]⟩, none⟩,
    ⟨(some 26), .unOp .not 4 (.tmp 25), none⟩]) c_sums_Total_1_0) K t m := rfl

def c_sums_Total_1_2 : MC := (.seq c_sums_Total_1_1 (.ops [⟨(some 27), .move (.tmp 9), none⟩,
    ⟨(some 28), .build 71 #[], none⟩,
    ⟨none, .store 22 (.tmp 5) (.tmp 27), none⟩,
    ⟨none, .store 71 (.tmp 6) (.tmp 28), none⟩]))
@[go_sem] theorem c_sums_Total_1_2_at (rd : Option Nat) (K : Post3) (t : Fr) (m : Mem) : wpM E 44 35 rd c_sums_Total_1_2 K t m = wpM E 44 35 rd (.seq c_sums_Total_1_1 (.ops [⟨(some 27), .move (.tmp 9), none⟩,
    ⟨(some 28), .build 71 #[], none⟩,
    ⟨none, .store 22 (.tmp 5) (.tmp 27), none⟩,
    ⟨none, .store 71 (.tmp 6) (.tmp 28), none⟩])) K t m := rfl

def c_sums_Total_1_3 : MC := (.cond (.tmp 23) c_sums_Total_1_2 .skip)
@[go_sem] theorem c_sums_Total_1_3_at (rd : Option Nat) (K : Post3) (t : Fr) (m : Mem) : wpM E 44 35 rd c_sums_Total_1_3 K t m = wpM E 44 35 rd (.cond (.tmp 23) c_sums_Total_1_2 .skip) K t m := rfl

def c_sums_Total_1_4 : MC := (.seq (.ops [⟨(some 16), .load 22 (.tmp 5), none⟩,
    ⟨(some 17), .binOp .eql 22 (.tmp 16) (.const (.slice none 0 0)) 22, none⟩,
    ⟨(some 18), .move (.tmp 17), none⟩,
    ⟨(some 19), .load 22 (.tmp 5), (some (some 18, false))⟩,
    ⟨(some 20), .move (.tmp 9), (some (some 18, false))⟩,
    ⟨(some 21), .call ⟨.value (.func 48), #[(.tmp 19), (.tmp 20)], #[22, 22]⟩, (some (some 18, false))⟩,
    ⟨(some 22), .unOp .not 4 (.tmp 21), (some (some 18, false))⟩,
    ⟨(some 23), .pick (.tmp 18) (.const (.bool true)) (.tmp 22), none⟩]) c_sums_Total_1_3)
@[go_sem] theorem c_sums_Total_1_4_at (rd : Option Nat) (K : Post3) (t : Fr) (m : Mem) : wpM E 44 35 rd c_sums_Total_1_4 K t m = wpM E 44 35 rd (.seq (.ops [⟨(some 16), .load 22 (.tmp 5), none⟩,
    ⟨(some 17), .binOp .eql 22 (.tmp 16) (.const (.slice none 0 0)) 22, none⟩,
    ⟨(some 18), .move (.tmp 17), none⟩,
    ⟨(some 19), .load 22 (.tmp 5), (some (some 18, false))⟩,
    ⟨(some 20), .move (.tmp 9), (some (some 18, false))⟩,
    ⟨(some 21), .call ⟨.value (.func 48), #[(.tmp 19), (.tmp 20)], #[22, 22]⟩, (some (some 18, false))⟩,
    ⟨(some 22), .unOp .not 4 (.tmp 21), (some (some 18, false))⟩,
    ⟨(some 23), .pick (.tmp 18) (.const (.bool true)) (.tmp 22), none⟩]) c_sums_Total_1_3) K t m := rfl

def c_sums_Total_1_5 : MC := (.seq (.ops [⟨(some 13), .move (.tmp 8), none⟩,
    ⟨(some 14), .load 22 (.tmp 2), none⟩,
    ⟨(some 15), .call ⟨.value (.func 47), #[(.tmp 13), (.tmp 14)], #[22, 22]⟩, none⟩,
    ⟨(some 9), .assign (.tmp 15), none⟩]) c_sums_Total_1_4)
@[go_sem] theorem c_sums_Total_1_5_at (rd : Option Nat) (K : Post3) (t : Fr) (m : Mem) : wpM E 44 35 rd c_sums_Total_1_5 K t m = wpM E 44 35 rd (.seq (.ops [⟨(some 13), .move (.tmp 8), none⟩,
    ⟨(some 14), .load 22 (.tmp 2), none⟩,
    ⟨(some 15), .call ⟨.value (.func 47), #[(.tmp 13), (.tmp 14)], #[22, 22]⟩, none⟩,
    ⟨(some 9), .assign (.tmp 15), none⟩]) c_sums_Total_1_4) K t m := rfl

def c_sums_Total_1_6 : MC := (.seq c_sums_Total_1_5 (.ops [⟨(some 29), .move (.tmp 8), none⟩,
    ⟨(some 30), .load 3 (.tmp 3), none⟩,
    ⟨(some 31), .call ⟨.value (.func 49), #[(.tmp 29), (.tmp 30)], #[22, 3]⟩, none⟩,
    ⟨(some 32), .call ⟨.value (.func 36), #[(.tmp 6), (.tmp 31)], #[71, 3]⟩, none⟩]))
@[go_sem] theorem c_sums_Total_1_6_at (rd : Option Nat) (K : Post3) (t : Fr) (m : Mem) : wpM E 44 35 rd c_sums_Total_1_6 K t m = wpM E 44 35 rd (.seq c_sums_Total_1_5 (.ops [⟨(some 29), .move (.tmp 8), none⟩,
    ⟨(some 30), .load 3 (.tmp 3), none⟩,
    ⟨(some 31), .call ⟨.value (.func 49), #[(.tmp 29), (.tmp 30)], #[22, 3]⟩, none⟩,
    ⟨(some 32), .call ⟨.value (.func 36), #[(.tmp 6), (.tmp 31)], #[71, 3]⟩, none⟩])) K t m := rfl

def c_sums_Total_1_7 : MC := (.block 1 c_sums_Total_1_6)
@[go_sem] theorem c_sums_Total_1_7_at (rd : Option Nat) (K : Post3) (t : Fr) (m : Mem) : wpM E 44 35 rd c_sums_Total_1_7 K t m = wpM E 44 35 rd (.block 1 c_sums_Total_1_6) K t m := rfl

theorem asg_sums_Total_1_0 : compile E 44 35 (asgAt E 44 0) = some (.ops [⟨(some 8), .assign (.tmp 12), none⟩]) := by kernel_rfl

theorem body_sums_Total_1_0 : compile E 44 35 (bodyAt E 44 0) = some c_sums_Total_1_7 := by kernel_rfl

def c_sums_Total_1_8 : MC := (.range (.tmp 11) #[12] (asgAt E 44 0) (bodyAt E 44 0))
theorem c_sums_Total_1_8_at (rd : Option Nat) (K : Post3) (t : Fr) (m : Mem) : wpM E 44 35 rd c_sums_Total_1_8 K t m = wpM E 44 35 rd (.range (.tmp 11) #[12] (asgAt E 44 0) (bodyAt E 44 0)) K t m := rfl

def c_sums_Total_1_9 : MC := (.block 0 c_sums_Total_1_8)
@[go_sem] theorem c_sums_Total_1_9_at (rd : Option Nat) (K : Post3) (t : Fr) (m : Mem) : wpM E 44 35 rd c_sums_Total_1_9 K t m = wpM E 44 35 rd (.block 0 c_sums_Total_1_8) K t m := rfl

def c_sums_Total_1_10 : MC := (.seq (.ops [⟨(some 11), .load 54 (.tmp 1), none⟩]) c_sums_Total_1_9)
@[go_sem] theorem c_sums_Total_1_10_at (rd : Option Nat) (K : Post3) (t : Fr) (m : Mem) : wpM E 44 35 rd c_sums_Total_1_10 K t m = wpM E 44 35 rd (.seq (.ops [⟨(some 11), .load 54 (.tmp 1), none⟩]) c_sums_Total_1_9) K t m := rfl

def c_sums_Total_1_11 : MC := (.seq c_sums_Total_1_10 (.ops [⟨(some 33), .load 35 (.tmp 7), none⟩,
    ⟨(some 34), .call ⟨.value (.tmp 33), #[], #[]⟩, none⟩]))
@[go_sem] theorem c_sums_Total_1_11_at (rd : Option Nat) (K : Post3) (t : Fr) (m : Mem) : wpM E 44 35 rd c_sums_Total_1_11 K t m = wpM E 44 35 rd (.seq c_sums_Total_1_10 (.ops [⟨(some 33), .load 35 (.tmp 7), none⟩,
    ⟨(some 34), .call ⟨.value (.tmp 33), #[], #[]⟩, none⟩])) K t m := rfl

def c_sums_Total_1_12 : MC := (.seq (.ops [⟨(some 10), .makeFunc (.func 45) #[] #[(.tmp 5), (.tmp 6), (.tmp 4)], none⟩,
    ⟨(some 7), .alloc 35, none⟩,
    ⟨none, .store 35 (.tmp 7) (.tmp 10), none⟩]) c_sums_Total_1_11)
@[go_sem] theorem c_sums_Total_1_12_at (rd : Option Nat) (K : Post3) (t : Fr) (m : Mem) : wpM E 44 35 rd c_sums_Total_1_12 K t m = wpM E 44 35 rd (.seq (.ops [⟨(some 10), .makeFunc (.func 45) #[] #[(.tmp 5), (.tmp 6), (.tmp 4)], none⟩,
    ⟨(some 7), .alloc 35, none⟩,
    ⟨none, .store 35 (.tmp 7) (.tmp 10), none⟩]) c_sums_Total_1_11) K t m := rfl

def c_sums_Total_1_13 : MC := (.seq (.ops [⟨(some 6), .alloc 71, none⟩]) c_sums_Total_1_12)
@[go_sem] theorem c_sums_Total_1_13_at (rd : Option Nat) (K : Post3) (t : Fr) (m : Mem) : wpM E 44 35 rd c_sums_Total_1_13 K t m = wpM E 44 35 rd (.seq (.ops [⟨(some 6), .alloc 71, none⟩]) c_sums_Total_1_12) K t m := rfl

def c_sums_Total_1_14 : MC := (.seq (.ops [⟨(some 5), .alloc 22, none⟩]) c_sums_Total_1_13)
@[go_sem] theorem c_sums_Total_1_14_at (rd : Option Nat) (K : Post3) (t : Fr) (m : Mem) : wpM E 44 35 rd c_sums_Total_1_14 K t m = wpM E 44 35 rd (.seq (.ops [⟨(some 5), .alloc 22, none⟩]) c_sums_Total_1_13) K t m := rfl

def c_sums_Total_1_15 : MC := (.seq (.ops [⟨(some 4), .box 81 (.tmp 0), none⟩]) c_sums_Total_1_14)
@[go_sem] theorem c_sums_Total_1_15_at (rd : Option Nat) (K : Post3) (t : Fr) (m : Mem) : wpM E 44 35 rd c_sums_Total_1_15 K t m = wpM E 44 35 rd (.seq (.ops [⟨(some 4), .box 81 (.tmp 0), none⟩]) c_sums_Total_1_14) K t m := rfl

@[go_sem] theorem some44 : (E.fn 44).isSome = true := by kernel_rfl
set_option maxRecDepth 100000 in
theorem fn_sums_Total_1 : FnIs E 44 35 [] c_sums_Total_1_15 := ⟨by kernel_rfl, by kernel_rfl⟩

/-! sheaf/sums.Total$1$1 -/
abbrev F_sums_Total_1_1 : FuncId := 45
def c_sums_Total_1_1_0 : MC := (.seq (.ops [⟨(some 3), .assign (.const (.bool true)), none⟩]) .ret)
@[go_sem] theorem c_sums_Total_1_1_0_at (rd : Option Nat) (K : Post3) (t : Fr) (m : Mem) : wpM E 45 22 rd c_sums_Total_1_1_0 K t m = wpM E 45 22 rd (.seq (.ops [⟨(some 3), .assign (.const (.bool true)), none⟩]) .ret) K t m := rfl

def c_sums_Total_1_1_1 : MC := (.cond (.tmp 7) c_sums_Total_1_1_0 .skip)
@[go_sem] theorem c_sums_Total_1_1_1_at (rd : Option Nat) (K : Post3) (t : Fr) (m : Mem) : wpM E 45 22 rd c_sums_Total_1_1_1 K t m = wpM E 45 22 rd (.cond (.tmp 7) c_sums_Total_1_1_0 .skip) K t m := rfl

def c_sums_Total_1_1_2 : MC := (.seq (.ops [⟨(some 6), .load 22 (.tmp 0), none⟩,
    ⟨(some 7), .binOp .eql 22 (.tmp 6) (.const (.slice none 0 0)) 22, none⟩]) c_sums_Total_1_1_1)
@[go_sem] theorem c_sums_Total_1_1_2_at (rd : Option Nat) (K : Post3) (t : Fr) (m : Mem) : wpM E 45 22 rd c_sums_Total_1_1_2 K t m = wpM E 45 22 rd (.seq (.ops [⟨(some 6), .load 22 (.tmp 0), none⟩,
    ⟨(some 7), .binOp .eql 22 (.tmp 6) (.const (.slice none 0 0)) 22, none⟩]) c_sums_Total_1_1_1) K t m := rfl

def c_sums_Total_1_1_3 : MC := (.seq (.ops [⟨(some 3), .assign (.const (.bool false)), none⟩]) .ret)
@[go_sem] theorem c_sums_Total_1_1_3_at (rd : Option Nat) (K : Post3) (t : Fr) (m : Mem) : wpM E 45 22 rd c_sums_Total_1_1_3 K t m = wpM E 45 22 rd (.seq (.ops [⟨(some 3), .assign (.const (.bool false)), none⟩]) .ret) K t m := rfl

def c_sums_Total_1_1_4 : MC := (.seq (.ops [⟨(some 14), .load 81 (.tmp 2), none⟩,
    ⟨(some 15), .call ⟨.value (.tmp 14), #[(.const (.slice none 0 0)), (.const (.bool false))], #[22, 4]⟩, none⟩]) c_sums_Total_1_1_3)
@[go_sem] theorem c_sums_Total_1_1_4_at (rd : Option Nat) (K : Post3) (t : Fr) (m : Mem) : wpM E 45 22 rd c_sums_Total_1_1_4 K t m = wpM E 45 22 rd (.seq (.ops [⟨(some 14), .load 81 (.tmp 2), none⟩,
    ⟨(some 15), .call ⟨.value (.tmp 14), #[(.const (.slice none 0 0)), (.const (.bool false))], #[22, 4]⟩, none⟩]) c_sums_Total_1_1_3) K t m := rfl

def c_sums_Total_1_1_5 : MC := (.cond (.tmp 13) c_sums_Total_1_1_4 .skip)
@[go_sem] theorem c_sums_Total_1_1_5_at (rd : Option Nat) (K : Post3) (t : Fr) (m : Mem) : wpM E 45 22 rd c_sums_Total_1_1_5 K t m = wpM E 45 22 rd (.cond (.tmp 13) c_sums_Total_1_1_4 .skip) K t m := rfl

def c_sums_Total_1_1_6 : MC := (.seq (.ops [⟨(some 12), .move (.tmp 5), none⟩,
    ⟨(some 13), .unOp .not 4 (.tmp 12), none⟩]) c_sums_Total_1_1_5)
@[go_sem] theorem c_sums_Total_1_1_6_at (rd : Option Nat) (K : Post3) (t : Fr) (m : Mem) : wpM E 45 22 rd c_sums_Total_1_1_6 K t m = wpM E 45 22 rd (.seq (.ops [⟨(some 12), .move (.tmp 5), none⟩,
    ⟨(some 13), .unOp .not 4 (.tmp 12), none⟩]) c_sums_Total_1_1_5) K t m := rfl

def c_sums_Total_1_1_7 : MC := (.seq (.draw [(0, [], ⟨(some 16), .load 81 (.tmp 2), none⟩),
    (1, [], ⟨(some 17), .load 22 (.tmp 0), none⟩),
    (2, [], ⟨(some 18), .move (.tmp 4), none⟩),
    (3, [], ⟨(some 19), .buildSlice 22 1 #[(0, (.tmp 18))], none⟩),
    (4, [0], ⟨(some 20), .call ⟨.builtin .append, #[(.tmp 17), (.tmp 19)], #[22, 22]⟩, none⟩),
    (5, [], ⟨(some 21), .call ⟨.value (.tmp 16), #[(.tmp 20), (.const (.bool true))], #[22, 4]⟩, none⟩),
    (6, [], ⟨(some 3), .assign (.tmp 21), none⟩)]) .ret)
@[go_sem] theorem c_sums_Total_1_1_7_at (rd : Option Nat) (K : Post3) (t : Fr) (m : Mem) : wpM E 45 22 rd c_sums_Total_1_1_7 K t m = wpM E 45 22 rd (.seq (.draw [(0, [], ⟨(some 16), .load 81 (.tmp 2), none⟩),
    (1, [], ⟨(some 17), .load 22 (.tmp 0), none⟩),
    (2, [], ⟨(some 18), .move (.tmp 4), none⟩),
    (3, [], ⟨(some 19), .buildSlice 22 1 #[(0, (.tmp 18))], none⟩),
    (4, [0], ⟨(some 20), .call ⟨.builtin .append, #[(.tmp 17), (.tmp 19)], #[22, 22]⟩, none⟩),
    (5, [], ⟨(some 21), .call ⟨.value (.tmp 16), #[(.tmp 20), (.const (.bool true))], #[22, 4]⟩, none⟩),
    (6, [], ⟨(some 3), .assign (.tmp 21), none⟩)]) .ret) K t m := rfl

def c_sums_Total_1_1_8 : MC := (.seq c_sums_Total_1_1_6 c_sums_Total_1_1_7)
@[go_sem] theorem c_sums_Total_1_1_8_at (rd : Option Nat) (K : Post3) (t : Fr) (m : Mem) : wpM E 45 22 rd c_sums_Total_1_1_8 K t m = wpM E 45 22 rd (.seq c_sums_Total_1_1_6 c_sums_Total_1_1_7) K t m := rfl

def c_sums_Total_1_1_9 : MC := (.seq (.ops [⟨(some 9), .call ⟨.value (.func 46), #[(.tmp 1)], #[71]⟩, none⟩,
    ⟨(some 8), .move (.tmp 9), none⟩,
    ⟨(some 10), .extract (.tmp 8) 0, none⟩,
    ⟨(some 11), .extract (.tmp 8) 1, none⟩,
    ⟨(some 4), .assign (.tmp 10), none⟩,
    ⟨(some 5), .assign (.tmp 11), none⟩]) c_sums_Total_1_1_8)
@[go_sem] theorem c_sums_Total_1_1_9_at (rd : Option Nat) (K : Post3) (t : Fr) (m : Mem) : wpM E 45 22 rd c_sums_Total_1_1_9 K t m = wpM E 45 22 rd (.seq (.ops [⟨(some 9), .call ⟨.value (.func 46), #[(.tmp 1)], #[71]⟩, none⟩,
    ⟨(some 8), .move (.tmp 9), none⟩,
    ⟨(some 10), .extract (.tmp 8) 0, none⟩,
    ⟨(some 11), .extract (.tmp 8) 1, none⟩,
    ⟨(some 4), .assign (.tmp 10), none⟩,
    ⟨(some 5), .assign (.tmp 11), none⟩]) c_sums_Total_1_1_8) K t m := rfl

def c_sums_Total_1_1_10 : MC := (.seq c_sums_Total_1_1_2 c_sums_Total_1_1_9)
@[go_sem] theorem c_sums_Total_1_1_10_at (rd : Option Nat) (K : Post3) (t : Fr) (m : Mem) : wpM E 45 22 rd c_sums_Total_1_1_10 K t m = wpM E 45 22 rd (.seq c_sums_Total_1_1_2 c_sums_Total_1_1_9) K t m := rfl

def c_sums_Total_1_1_11 : MC := (.seq (.ops [⟨(some 3), .assign (.const (.bool false)), none⟩]) c_sums_Total_1_1_10)
@[go_sem] theorem c_sums_Total_1_1_11_at (rd : Option Nat) (K : Post3) (t : Fr) (m : Mem) : wpM E 45 22 rd c_sums_Total_1_1_11 K t m = wpM E 45 22 rd (.seq (.ops [⟨(some 3), .assign (.const (.bool false)), none⟩]) c_sums_Total_1_1_10) K t m := rfl

@[go_sem] theorem some45 : (E.fn 45).isSome = true := by kernel_rfl
set_option maxRecDepth 100000 in
theorem fn_sums_Total_1_1 : FnIs E 45 22 [.tmp 3] c_sums_Total_1_1_11 := ⟨by kernel_rfl, by kernel_rfl⟩

/-! sheaf/sums.columns -/
abbrev F_sums_columns : FuncId := 47
def c_sums_columns_0 : MC := (.cond (.tmp 15) .skip (.exit 0))
@[go_sem] theorem c_sums_columns_0_at (rd : Option Nat) (K : Post3) (t : Fr) (m : Mem) : wpM E 47 26 rd c_sums_columns_0 K t m = wpM E 47 26 rd (.cond (.tmp 15) .skip (.exit 0)) K t m := rfl

def c_sums_columns_1 : MC := (.seq (.ops [⟨(some 16), .indexAddr 22 (.tmp 12) (.tmp 14), none⟩,
    ⟨(some 17), .load 3 (.tmp 16), none⟩,
    ⟨(some 7), .assign (.tmp 17), none⟩]) (.ops [⟨(some 18), .move (.tmp 5), none⟩,
    ⟨(some 19), .move (.tmp 0), none⟩,
    ⟨(some 20), .move (.tmp 7), none⟩,
    ⟨(some 21), .call ⟨.value (.func 49), #[(.tmp 19), (.tmp 20)], #[22, 3]⟩, none⟩,
    ⟨(some 22), .buildSlice 22 1 #[(0, (.tmp 21))], none⟩,
    ⟨(some 23), .call ⟨.builtin .append, #[(.tmp 18), (.tmp 22)], #[22, 22]⟩, none⟩,
    ⟨(some 5), .assign (.tmp 23), none⟩]))
@[go_sem] theorem c_sums_columns_1_at (rd : Option Nat) (K : Post3) (t : Fr) (m : Mem) : wpM E 47 26 rd c_sums_columns_1 K t m = wpM E 47 26 rd (.seq (.ops [⟨(some 16), .indexAddr 22 (.tmp 12) (.tmp 14), none⟩,
    ⟨(some 17), .load 3 (.tmp 16), none⟩,
    ⟨(some 7), .assign (.tmp 17), none⟩]) (.ops [⟨(some 18), .move (.tmp 5), none⟩,
    ⟨(some 19), .move (.tmp 0), none⟩,
    ⟨(some 20), .move (.tmp 7), none⟩,
    ⟨(some 21), .call ⟨.value (.func 49), #[(.tmp 19), (.tmp 20)], #[22, 3]⟩, none⟩,
    ⟨(some 22), .buildSlice 22 1 #[(0, (.tmp 21))], none⟩,
    ⟨(some 23), .call ⟨.builtin .append, #[(.tmp 18), (.tmp 22)], #[22, 22]⟩, none⟩,
    ⟨(some 5), .assign (.tmp 23), none⟩])) K t m := rfl

def c_sums_columns_2 : MC := (.block 1 c_sums_columns_1)
@[go_sem] theorem c_sums_columns_2_at (rd : Option Nat) (K : Post3) (t : Fr) (m : Mem) : wpM E 47 26 rd c_sums_columns_2 K t m = wpM E 47 26 rd (.block 1 c_sums_columns_1) K t m := rfl

def c_sums_columns_3 : MC := (.seq c_sums_columns_2 (.ops [⟨(some 24), .binOp .add 3 (.tmp 14) (.const (.int .i64 1)) 3, none⟩,
    ⟨(some 14), .move (.tmp 24), none⟩]))
@[go_sem] theorem c_sums_columns_3_at (rd : Option Nat) (K : Post3) (t : Fr) (m : Mem) : wpM E 47 26 rd c_sums_columns_3 K t m = wpM E 47 26 rd (.seq c_sums_columns_2 (.ops [⟨(some 24), .binOp .add 3 (.tmp 14) (.const (.int .i64 1)) 3, none⟩,
    ⟨(some 14), .move (.tmp 24), none⟩])) K t m := rfl

def c_sums_columns_4 : MC := (.seq c_sums_columns_0 c_sums_columns_3)
@[go_sem] theorem c_sums_columns_4_at (rd : Option Nat) (K : Post3) (t : Fr) (m : Mem) : wpM E 47 26 rd c_sums_columns_4 K t m = wpM E 47 26 rd (.seq c_sums_columns_0 c_sums_columns_3) K t m := rfl

def c_sums_columns_5 : MC := (.seq (.ops [⟨(some 15), .binOp .lss 3 (.tmp 14) (.tmp 13) 3, none⟩]) c_sums_columns_4)
@[go_sem] theorem c_sums_columns_5_at (rd : Option Nat) (K : Post3) (t : Fr) (m : Mem) : wpM E 47 26 rd c_sums_columns_5 K t m = wpM E 47 26 rd (.seq (.ops [⟨(some 15), .binOp .lss 3 (.tmp 14) (.tmp 13) 3, none⟩]) c_sums_columns_4) K t m := rfl

def c_sums_columns_6 : MC := (.loop c_sums_columns_5)
theorem c_sums_columns_6_at (rd : Option Nat) (K : Post3) (t : Fr) (m : Mem) : wpM E 47 26 rd c_sums_columns_6 K t m = wpM E 47 26 rd (.loop c_sums_columns_5) K t m := rfl

def c_sums_columns_7 : MC := (.block 0 c_sums_columns_6)
theorem c_sums_columns_7_at (rd : Option Nat) (K : Post3) (t : Fr) (m : Mem) : wpM E 47 26 rd c_sums_columns_7 K t m = wpM E 47 26 rd (.block 0 c_sums_columns_6) K t m := rfl

def c_sums_columns_8 : MC := (.seq (.ops [⟨(some 12), .move (.tmp 1), none⟩,
    ⟨(some 13), .call ⟨.builtin .len, #[(.tmp 12)], #[22]⟩, none⟩,
    ⟨(some 14), .move (.const (.int .i64 0)), none⟩]) c_sums_columns_7)
@[go_sem] theorem c_sums_columns_8_at (rd : Option Nat) (K : Post3) (t : Fr) (m : Mem) : wpM E 47 26 rd c_sums_columns_8 K t m = wpM E 47 26 rd (.seq (.ops [⟨(some 12), .move (.tmp 1), none⟩,
    ⟨(some 13), .call ⟨.builtin .len, #[(.tmp 12)], #[22]⟩, none⟩,
    ⟨(some 14), .move (.const (.int .i64 0)), none⟩]) c_sums_columns_7) K t m := rfl

def c_sums_columns_9 : MC := (.seq (.ops [⟨(some 25), .move (.tmp 5), none⟩,
    ⟨(some 4), .assign (.tmp 25), none⟩]) .ret)
@[go_sem] theorem c_sums_columns_9_at (rd : Option Nat) (K : Post3) (t : Fr) (m : Mem) : wpM E 47 26 rd c_sums_columns_9 K t m = wpM E 47 26 rd (.seq (.ops [⟨(some 25), .move (.tmp 5), none⟩,
    ⟨(some 4), .assign (.tmp 25), none⟩]) .ret) K t m := rfl

def c_sums_columns_10 : MC := (.seq c_sums_columns_8 c_sums_columns_9)
@[go_sem] theorem c_sums_columns_10_at (rd : Option Nat) (K : Post3) (t : Fr) (m : Mem) : wpM E 47 26 rd c_sums_columns_10 K t m = wpM E 47 26 rd (.seq c_sums_columns_8 c_sums_columns_9) K t m := rfl

def c_sums_columns_11 : MC := (.seq (.ops [⟨(some 8), .move (.tmp 1), none⟩,
    ⟨(some 9), .call ⟨.builtin .len, #[(.tmp 8)], #[22]⟩, none⟩,
    ⟨(some 10), .binOp .add 3 (.tmp 9) (.const (.int .i64 1)) 3, none⟩,
    ⟨(some 11), .makeSlice 22 (.const (.int .i64 0)) (.tmp 10), none⟩,
    ⟨(some 5), .assign (.tmp 11), none⟩]) c_sums_columns_10)
@[go_sem] theorem c_sums_columns_11_at (rd : Option Nat) (K : Post3) (t : Fr) (m : Mem) : wpM E 47 26 rd c_sums_columns_11 K t m = wpM E 47 26 rd (.seq (.ops [⟨(some 8), .move (.tmp 1), none⟩,
    ⟨(some 9), .call ⟨.builtin .len, #[(.tmp 8)], #[22]⟩, none⟩,
    ⟨(some 10), .binOp .add 3 (.tmp 9) (.const (.int .i64 1)) 3, none⟩,
    ⟨(some 11), .makeSlice 22 (.const (.int .i64 0)) (.tmp 10), none⟩,
    ⟨(some 5), .assign (.tmp 11), none⟩]) c_sums_columns_10) K t m := rfl

def c_sums_columns_12 : MC := (.seq (.ops [⟨(some 4), .assign (.const (.slice none 0 0)), none⟩]) c_sums_columns_11)
@[go_sem] theorem c_sums_columns_12_at (rd : Option Nat) (K : Post3) (t : Fr) (m : Mem) : wpM E 47 26 rd c_sums_columns_12 K t m = wpM E 47 26 rd (.seq (.ops [⟨(some 4), .assign (.const (.slice none 0 0)), none⟩]) c_sums_columns_11) K t m := rfl

@[go_sem] theorem some47 : (E.fn 47).isSome = true := by kernel_rfl
set_option maxRecDepth 100000 in
theorem fn_sums_columns : FnIs E 47 26 [.tmp 4] c_sums_columns_12 := ⟨by kernel_rfl, by kernel_rfl⟩

/-! sheaf/sums.at -/
abbrev F_sums_at : FuncId := 49
def c_sums_at_0 : MC := (.seq (.ops [⟨(some 4), .assign (.const (.int .i64 0)), none⟩]) .ret)
@[go_sem] theorem c_sums_at_0_at (rd : Option Nat) (K : Post3) (t : Fr) (m : Mem) : wpM E 49 17 rd c_sums_at_0 K t m = wpM E 49 17 rd (.seq (.ops [⟨(some 4), .assign (.const (.int .i64 0)), none⟩]) .ret) K t m := rfl

def c_sums_at_1 : MC := (.cond (.tmp 12) c_sums_at_0 .skip)
@[go_sem] theorem c_sums_at_1_at (rd : Option Nat) (K : Post3) (t : Fr) (m : Mem) : wpM E 49 17 rd c_sums_at_1 K t m = wpM E 49 17 rd (.cond (.tmp 12) c_sums_at_0 .skip) K t m := rfl

def c_sums_at_2 : MC := (.seq (.ops [⟨(some 5), .move (.tmp 1), none⟩,
    ⟨(some 6), .binOp .lss 3 (.tmp 5) (.const (.int .i64 0)) 3, none⟩,
    ⟨(some 7), .move (.tmp 6), none⟩,
    ⟨(some 8), .move (.tmp 1), (some (some 7, false))⟩,
    ⟨(some 9), .move (.tmp 0), (some (some 7, false))⟩,
    ⟨(some 10), .call ⟨.builtin .len, #[(.tmp 9)], #[22]⟩, (some (some 7, false))⟩,
    ⟨(some 11), .binOp .geq 3 (.tmp 8) (.tmp 10) 3, (some (some 7, false))⟩,
    ⟨(some 12), .pick (.tmp 7) (.const (.bool true)) (.tmp 11), none⟩]) c_sums_at_1)
@[go_sem] theorem c_sums_at_2_at (rd : Option Nat) (K : Post3) (t : Fr) (m : Mem) : wpM E 49 17 rd c_sums_at_2 K t m = wpM E 49 17 rd (.seq (.ops [⟨(some 5), .move (.tmp 1), none⟩,
    ⟨(some 6), .binOp .lss 3 (.tmp 5) (.const (.int .i64 0)) 3, none⟩,
    ⟨(some 7), .move (.tmp 6), none⟩,
    ⟨(some 8), .move (.tmp 1), (some (some 7, false))⟩,
    ⟨(some 9), .move (.tmp 0), (some (some 7, false))⟩,
    ⟨(some 10), .call ⟨.builtin .len, #[(.tmp 9)], #[22]⟩, (some (some 7, false))⟩,
    ⟨(some 11), .binOp .geq 3 (.tmp 8) (.tmp 10) 3, (some (some 7, false))⟩,
    ⟨(some 12), .pick (.tmp 7) (.const (.bool true)) (.tmp 11), none⟩]) c_sums_at_1) K t m := rfl

def c_sums_at_3 : MC := (.seq (.ops [⟨(some 13), .move (.tmp 0), none⟩,
    ⟨(some 14), .move (.tmp 1), none⟩,
    ⟨(some 15), .indexAddr 22 (.tmp 13) (.tmp 14), none⟩,
    ⟨(some 16), .load 3 (.tmp 15), none⟩,
    ⟨(some 4), .assign (.tmp 16), none⟩]) .ret)
@[go_sem] theorem c_sums_at_3_at (rd : Option Nat) (K : Post3) (t : Fr) (m : Mem) : wpM E 49 17 rd c_sums_at_3 K t m = wpM E 49 17 rd (.seq (.ops [⟨(some 13), .move (.tmp 0), none⟩,
    ⟨(some 14), .move (.tmp 1), none⟩,
    ⟨(some 15), .indexAddr 22 (.tmp 13) (.tmp 14), none⟩,
    ⟨(some 16), .load 3 (.tmp 15), none⟩,
    ⟨(some 4), .assign (.tmp 16), none⟩]) .ret) K t m := rfl

def c_sums_at_4 : MC := (.seq c_sums_at_2 c_sums_at_3)
@[go_sem] theorem c_sums_at_4_at (rd : Option Nat) (K : Post3) (t : Fr) (m : Mem) : wpM E 49 17 rd c_sums_at_4 K t m = wpM E 49 17 rd (.seq c_sums_at_2 c_sums_at_3) K t m := rfl

def c_sums_at_5 : MC := (.seq (.ops [⟨(some 4), .assign (.const (.int .i64 0)), none⟩]) c_sums_at_4)
@[go_sem] theorem c_sums_at_5_at (rd : Option Nat) (K : Post3) (t : Fr) (m : Mem) : wpM E 49 17 rd c_sums_at_5 K t m = wpM E 49 17 rd (.seq (.ops [⟨(some 4), .assign (.const (.int .i64 0)), none⟩]) c_sums_at_4) K t m := rfl

@[go_sem] theorem some49 : (E.fn 49).isSome = true := by kernel_rfl
set_option maxRecDepth 100000 in
theorem fn_sums_at : FnIs E 49 17 [.tmp 4] c_sums_at_5 := ⟨by kernel_rfl, by kernel_rfl⟩

/-! sheaf/sums.Round$1 -/
abbrev F_sums_Round_1 : FuncId := 55
def c_sums_Round_1_0 : MC := (.cond (.tmp 25) .ret .skip)
@[go_sem] theorem c_sums_Round_1_0_at (rd : Option Nat) (K : Post3) (t : Fr) (m : Mem) : wpM E 55 53 rd c_sums_Round_1_0 K t m = wpM E 55 53 rd (.cond (.tmp 25) .ret .skip) K t m := rfl

def c_sums_Round_1_1 : MC := (.seq (.ops [⟨(some 23), .load 35 (.tmp 5), none⟩,
    ⟨(some 24), .call ⟨.value (.tmp 23), #[], #[]⟩, none⟩,
    ⟨(some 25), .unOp .not 4 (.tmp 24), none⟩]) c_sums_Round_1_0)
@[go_sem] theorem c_sums_Round_1_1_at (rd : Option Nat) (K : Post3) (t : Fr) (m : Mem) : wpM E 55 53 rd c_sums_Round_1_1 K t m = wpM E 55 53 rd (.seq (.ops [⟨(some 23), .load 35 (.tmp 5), none⟩,
    ⟨(some 24), .call ⟨.value (.tmp 23), #[], #[]⟩, none⟩,
    ⟨(some 25), .unOp .not 4 (.tmp 24), none⟩]) c_sums_Round_1_0) K t m := rfl

def c_sums_Round_1_2 : MC := (.seq c_sums_Round_1_1 (.ops [⟨(some 26), .move (.tmp 7), none⟩,
    ⟨(some 27), .build 92 #[(0, (.tmp 26))], none⟩,
    ⟨(some 28), .box 92 (.tmp 27), none⟩,
    ⟨none, .store 90 (.tmp 3) (.tmp 28), none⟩]))
@[go_sem] theorem c_sums_Round_1_2_at (rd : Option Nat) (K : Post3) (t : Fr) (m : Mem) : wpM E 55 53 rd c_sums_Round_1_2 K t m = wpM E 55 53 rd (.seq c_sums_Round_1_1 (.ops [⟨(some 26), .move (.tmp 7), none⟩,
    ⟨(some 27), .build 92 #[(0, (.tmp 26))], none⟩,
    ⟨(some 28), .box 92 (.tmp 27), none⟩,
    ⟨none, .store 90 (.tmp 3) (.tmp 28), none⟩])) K t m := rfl

def c_sums_Round_1_3 : MC := (.cond (.tmp 22) c_sums_Round_1_2 .skip)
@[go_sem] theorem c_sums_Round_1_3_at (rd : Option Nat) (K : Post3) (t : Fr) (m : Mem) : wpM E 55 53 rd c_sums_Round_1_3 K t m = wpM E 55 53 rd (.cond (.tmp 22) c_sums_Round_1_2 .skip) K t m := rfl

def c_sums_Round_1_4 : MC := (.seq (.ops [⟨(some 13), .load 90 (.tmp 3), none⟩,
    ⟨(some 14), .binOp .eql 90 (.tmp 13) (.const (.pointer none)) 90, none⟩,
    ⟨(some 15), .move (.tmp 14), none⟩,
    ⟨(some 16), .load 90 (.tmp 3), (some (some 15, false))⟩,
    ⟨(some 17), .nilCheck (.tmp 16), (some (some 15, false))⟩,
    ⟨(some 18), .fieldAddr 92 (.tmp 17) 0, (some (some 15, false))⟩,
    ⟨(some 19), .load 3 (.tmp 18), (some (some 15, false))⟩,
    ⟨(some 20), .move (.tmp 7), (some (some 15, false))⟩,
    ⟨(some 21), .binOp .neq 3 (.tmp 19) (.tmp 20) 3, (some (some 15, false))⟩,
    ⟨(some 22), .pick (.tmp 15) (.const (.bool true)) (.tmp 21), none⟩]) c_sums_Round_1_3)
@[go_sem] theorem c_sums_Round_1_4_at (rd : Option Nat) (K : Post3) (t : Fr) (m : Mem) : wpM E 55 53 rd c_sums_Round_1_4 K t m = wpM E 55 53 rd (.seq (.ops [⟨(some 13), .load 90 (.tmp 3), none⟩,
    ⟨(some 14), .binOp .eql 90 (.tmp 13) (.const (.pointer none)) 90, none⟩,
    ⟨(some 15), .move (.tmp 14), none⟩,
    ⟨(some 16), .load 90 (.tmp 3), (some (some 15, false))⟩,
    ⟨(some 17), .nilCheck (.tmp 16), (some (some 15, false))⟩,
    ⟨(some 18), .fieldAddr 92 (.tmp 17) 0, (some (some 15, false))⟩,
    ⟨(some 19), .load 3 (.tmp 18), (some (some 15, false))⟩,
    ⟨(some 20), .move (.tmp 7), (some (some 15, false))⟩,
    ⟨(some 21), .binOp .neq 3 (.tmp 19) (.tmp 20) 3, (some (some 15, false))⟩,
    ⟨(some 22), .pick (.tmp 15) (.const (.bool true)) (.tmp 21), none⟩]) c_sums_Round_1_3) K t m := rfl

def c_sums_Round_1_5 : MC := (.seq (.ops [⟨(some 11), .move (.tmp 6), none⟩,
    ⟨(some 12), .call ⟨.value (.func 49), #[(.tmp 11), (.const (.int .i64 1))], #[22, 3]⟩, none⟩,
    ⟨(some 7), .assign (.tmp 12), none⟩]) c_sums_Round_1_4)
@[go_sem] theorem c_sums_Round_1_5_at (rd : Option Nat) (K : Post3) (t : Fr) (m : Mem) : wpM E 55 53 rd c_sums_Round_1_5 K t m = wpM E 55 53 rd (.seq (.ops [⟨(some 11), .move (.tmp 6), none⟩,
    ⟨(some 12), .call ⟨.value (.func 49), #[(.tmp 11), (.const (.int .i64 1))], #[22, 3]⟩, none⟩,
    ⟨(some 7), .assign (.tmp 12), none⟩]) c_sums_Round_1_4) K t m := rfl

def c_sums_Round_1_6 : MC := (.seq (.draw [(0, [], ⟨(some 34), .load 90 (.tmp 3), none⟩),
    (1, [], ⟨(some 35), .nilCheck (.tmp 34), none⟩),
    (2, [], ⟨(some 36), .fieldAddr 92 (.tmp 35) 2, none⟩),
    (3, [], ⟨(some 37), .move (.tmp 6), none⟩),
    (4, [0], ⟨(some 38), .call ⟨.value (.func 49), #[(.tmp 37), (.const (.int .i64 4))], #[22, 3]⟩, none⟩),
    (5, [], ⟨(some 39), .call ⟨.value (.func 36), #[(.tmp 36), (.tmp 38)], #[71, 3]⟩, none⟩)]) (.draw [(0, [], ⟨(some 40), .load 90 (.tmp 3), none⟩),
    (1, [], ⟨(some 41), .nilCheck (.tmp 40), none⟩),
    (2, [], ⟨(some 42), .fieldAddr 92 (.tmp 41) 3, none⟩),
    (3, [], ⟨(some 43), .move (.tmp 6), none⟩),
    (4, [0], ⟨(some 44), .call ⟨.value (.func 49), #[(.tmp 43), (.const (.int .i64 9))], #[22, 3]⟩, none⟩),
    (5, [], ⟨(some 45), .call ⟨.value (.func 36), #[(.tmp 42), (.tmp 44)], #[71, 3]⟩, none⟩)]))
@[go_sem] theorem c_sums_Round_1_6_at (rd : Option Nat) (K : Post3) (t : Fr) (m : Mem) : wpM E 55 53 rd c_sums_Round_1_6 K t m = wpM E 55 53 rd (.seq (.draw [(0, [], ⟨(some 34), .load 90 (.tmp 3), none⟩),
    (1, [], ⟨(some 35), .nilCheck (.tmp 34), none⟩),
    (2, [], ⟨(some 36), .fieldAddr 92 (.tmp 35) 2, none⟩),
    (3, [], ⟨(some 37), .move (.tmp 6), none⟩),
    (4, [0], ⟨(some 38), .call ⟨.value (.func 49), #[(.tmp 37), (.const (.int .i64 4))], #[22, 3]⟩, none⟩),
    (5, [], ⟨(some 39), .call ⟨.value (.func 36), #[(.tmp 36), (.tmp 38)], #[71, 3]⟩, none⟩)]) (.draw [(0, [], ⟨(some 40), .load 90 (.tmp 3), none⟩),
    (1, [], ⟨(some 41), .nilCheck (.tmp 40), none⟩),
    (2, [], ⟨(some 42), .fieldAddr 92 (.tmp 41) 3, none⟩),
    (3, [], ⟨(some 43), .move (.tmp 6), none⟩),
    (4, [0], ⟨(some 44), .call ⟨.value (.func 49), #[(.tmp 43), (.const (.int .i64 9))], #[22, 3]⟩, none⟩),
    (5, [], ⟨(some 45), .call ⟨.value (.func 36), #[(.tmp 42), (.tmp 44)], #[71, 3]⟩, none⟩)])) K t m := rfl

def c_sums_Round_1_7 : MC := (.seq (.draw [(0, [], ⟨(some 29), .load 90 (.tmp 3), none⟩),
    (1, [], ⟨(some 30), .move (.tmp 6), none⟩),
    (2, [0], ⟨(some 31), .call ⟨.value (.func 49), #[(.tmp 30), (.const (.int .i64 7))], #[22, 3]⟩, none⟩),
    (3, [], ⟨(some 32), .nilCheck (.tmp 29), none⟩),
    (4, [], ⟨(some 33), .fieldAddr 92 (.tmp 32) 1, none⟩),
    (5, [], ⟨none, .store 3 (.tmp 33) (.tmp 31), none⟩)]) c_sums_Round_1_6)
@[go_sem] theorem c_sums_Round_1_7_at (rd : Option Nat) (K : Post3) (t : Fr) (m : Mem) : wpM E 55 53 rd c_sums_Round_1_7 K t m = wpM E 55 53 rd (.seq (.draw [(0, [], ⟨(some 29), .load 90 (.tmp 3), none⟩),
    (1, [], ⟨(some 30), .move (.tmp 6), none⟩),
    (2, [0], ⟨(some 31), .call ⟨.value (.func 49), #[(.tmp 30), (.const (.int .i64 7))], #[22, 3]⟩, none⟩),
    (3, [], ⟨(some 32), .nilCheck (.tmp 29), none⟩),
    (4, [], ⟨(some 33), .fieldAddr 92 (.tmp 32) 1, none⟩),
    (5, [], ⟨none, .store 3 (.tmp 33) (.tmp 31), none⟩)]) c_sums_Round_1_6) K t m := rfl

def c_sums_Round_1_8 : MC := (.seq c_sums_Round_1_5 c_sums_Round_1_7)
@[go_sem] theorem c_sums_Round_1_8_at (rd : Option Nat) (K : Post3) (t : Fr) (m : Mem) : wpM E 55 53 rd c_sums_Round_1_8 K t m = wpM E 55 53 rd (.seq c_sums_Round_1_5 c_sums_Round_1_7) K t m := rfl

def c_sums_Round_1_9 : MC := (.block 1 c_sums_Round_1_8)
@[go_sem] theorem c_sums_Round_1_9_at (rd : Option Nat) (K : Post3) (t : Fr) (m : Mem) : wpM E 55 53 rd c_sums_Round_1_9 K t m = wpM E 55 53 rd (.block 1 c_sums_Round_1_8) K t m := rfl

theorem asg_sums_Round_1_0 : compile E 55 53 (asgAt E 55 0) = some (.ops [⟨(some 6), .assign (.tmp 10), none⟩]) := by kernel_rfl

theorem body_sums_Round_1_0 : compile E 55 53 (bodyAt E 55 0) = some c_sums_Round_1_9 := by kernel_rfl

def c_sums_Round_1_10 : MC := (.range (.tmp 9) #[10] (asgAt E 55 0) (bodyAt E 55 0))
theorem c_sums_Round_1_10_at (rd : Option Nat) (K : Post3) (t : Fr) (m : Mem) : wpM E 55 53 rd c_sums_Round_1_10 K t m = wpM E 55 53 rd (.range (.tmp 9) #[10] (asgAt E 55 0) (bodyAt E 55 0)) K t m := rfl

def c_sums_Round_1_11 : MC := (.block 0 c_sums_Round_1_10)
@[go_sem] theorem c_sums_Round_1_11_at (rd : Option Nat) (K : Post3) (t : Fr) (m : Mem) : wpM E 55 53 rd c_sums_Round_1_11 K t m = wpM E 55 53 rd (.block 0 c_sums_Round_1_10) K t m := rfl

def c_sums_Round_1_12 : MC := (.seq (.ops [⟨(some 9), .load 54 (.tmp 1), none⟩]) c_sums_Round_1_11)
@[go_sem] theorem c_sums_Round_1_12_at (rd : Option Nat) (K : Post3) (t : Fr) (m : Mem) : wpM E 55 53 rd c_sums_Round_1_12 K t m = wpM E 55 53 rd (.seq (.ops [⟨(some 9), .load 54 (.tmp 1), none⟩]) c_sums_Round_1_11) K t m := rfl

def c_sums_Round_1_13 : MC := (.cond (.tmp 50) (.ops [⟨(some 51), .load 89 (.tmp 2), none⟩,
    ⟨(some 52), .call ⟨.value (.tmp 51), #[(.const (.slice none 0 0)), (.const (.int .i64 3))], #[22, 62]⟩, none⟩]) .skip)
@[go_sem] theorem c_sums_Round_1_13_at (rd : Option Nat) (K : Post3) (t : Fr) (m : Mem) : wpM E 55 53 rd c_sums_Round_1_13 K t m = wpM E 55 53 rd (.cond (.tmp 50) (.ops [⟨(some 51), .load 89 (.tmp 2), none⟩,
    ⟨(some 52), .call ⟨.value (.tmp 51), #[(.const (.slice none 0 0)), (.const (.int .i64 3))], #[22, 62]⟩, none⟩]) .skip) K t m := rfl

def c_sums_Round_1_14 : MC := (.seq (.ops [⟨(some 46), .load 35 (.tmp 5), none⟩,
    ⟨(some 47), .call ⟨.value (.tmp 46), #[], #[]⟩, none⟩,
    ⟨(some 48), .move (.tmp 47), none⟩,
    ⟨(some 49), .load 4 (.tmp 4), (some (some 48, true))⟩,
    ⟨(some 50), .pick (.tmp 48) (.tmp 49) (.const (.bool false)), none⟩]) c_sums_Round_1_13)
@[go_sem] theorem c_sums_Round_1_14_at (rd : Option Nat) (K : Post3) (t : Fr) (m : Mem) : wpM E 55 53 rd c_sums_Round_1_14 K t m = wpM E 55 53 rd (.seq (.ops [⟨(some 46), .load 35 (.tmp 5), none⟩,
    ⟨(some 47), .call ⟨.value (.tmp 46), #[], #[]⟩, none⟩,
    ⟨(some 48), .move (.tmp 47), none⟩,
    ⟨(some 49), .load 4 (.tmp 4), (some (some 48, true))⟩,
    ⟨(some 50), .pick (.tmp 48) (.tmp 49) (.const (.bool false)), none⟩]) c_sums_Round_1_13) K t m := rfl

def c_sums_Round_1_15 : MC := (.seq c_sums_Round_1_12 c_sums_Round_1_14)
@[go_sem] theorem c_sums_Round_1_15_at (rd : Option Nat) (K : Post3) (t : Fr) (m : Mem) : wpM E 55 53 rd c_sums_Round_1_15 K t m = wpM E 55 53 rd (.seq c_sums_Round_1_12 c_sums_Round_1_14) K t m := rfl

def c_sums_Round_1_16 : MC := (.seq (.ops [⟨(some 8), .makeFunc (.func 56) #[] #[(.tmp 3), (.tmp 2), (.tmp 4)], none⟩,
    ⟨(some 5), .alloc 35, none⟩,
    ⟨none, .store 35 (.tmp 5) (.tmp 8), none⟩]) c_sums_Round_1_15)
@[go_sem] theorem c_sums_Round_1_16_at (rd : Option Nat) (K : Post3) (t : Fr) (m : Mem) : wpM E 55 53 rd c_sums_Round_1_16 K t m = wpM E 55 53 rd (.seq (.ops [⟨(some 8), .makeFunc (.func 56) #[] #[(.tmp 3), (.tmp 2), (.tmp 4)], none⟩,
    ⟨(some 5), .alloc 35, none⟩,
    ⟨none, .store 35 (.tmp 5) (.tmp 8), none⟩]) c_sums_Round_1_15) K t m := rfl

def c_sums_Round_1_17 : MC := (.seq (.ops [⟨(some 4), .alloc 4, none⟩,
    ⟨none, .store 4 (.tmp 4) (.const (.bool false)), none⟩]) c_sums_Round_1_16)
@[go_sem] theorem c_sums_Round_1_17_at (rd : Option Nat) (K : Post3) (t : Fr) (m : Mem) : wpM E 55 53 rd c_sums_Round_1_17 K t m = wpM E 55 53 rd (.seq (.ops [⟨(some 4), .alloc 4, none⟩,
    ⟨none, .store 4 (.tmp 4) (.const (.bool false)), none⟩]) c_sums_Round_1_16) K t m := rfl

def c_sums_Round_1_18 : MC := (.seq (.ops [⟨(some 3), .alloc 90, none⟩]) c_sums_Round_1_17)
@[go_sem] theorem c_sums_Round_1_18_at (rd : Option Nat) (K : Post3) (t : Fr) (m : Mem) : wpM E 55 53 rd c_sums_Round_1_18 K t m = wpM E 55 53 rd (.seq (.ops [⟨(some 3), .alloc 90, none⟩]) c_sums_Round_1_17) K t m := rfl

def c_sums_Round_1_19 : MC := (.seq (.ops [⟨(some 2), .box 89 (.tmp 0), none⟩]) c_sums_Round_1_18)
@[go_sem] theorem c_sums_Round_1_19_at (rd : Option Nat) (K : Post3) (t : Fr) (m : Mem) : wpM E 55 53 rd c_sums_Round_1_19 K t m = wpM E 55 53 rd (.seq (.ops [⟨(some 2), .box 89 (.tmp 0), none⟩]) c_sums_Round_1_18) K t m := rfl

@[go_sem] theorem some55 : (E.fn 55).isSome = true := by kernel_rfl
set_option maxRecDepth 100000 in
theorem fn_sums_Round_1 : FnIs E 55 53 [] c_sums_Round_1_19 := ⟨by kernel_rfl, by kernel_rfl⟩

/-! sheaf/sums.Round$1$1 -/
abbrev F_sums_Round_1_1 : FuncId := 56
def c_sums_Round_1_1_0 : MC := (.seq (.ops [⟨(some 3), .assign (.const (.bool true)), none⟩]) .ret)
@[go_sem] theorem c_sums_Round_1_1_0_at (rd : Option Nat) (K : Post3) (t : Fr) (m : Mem) : wpM E 56 46 rd c_sums_Round_1_1_0 K t m = wpM E 56 46 rd (.seq (.ops [⟨(some 3), .assign (.const (.bool true)), none⟩]) .ret) K t m := rfl

def c_sums_Round_1_1_1 : MC := (.cond (.tmp 7) c_sums_Round_1_1_0 .skip)
@[go_sem] theorem c_sums_Round_1_1_1_at (rd : Option Nat) (K : Post3) (t : Fr) (m : Mem) : wpM E 56 46 rd c_sums_Round_1_1_1 K t m = wpM E 56 46 rd (.cond (.tmp 7) c_sums_Round_1_1_0 .skip) K t m := rfl

def c_sums_Round_1_1_2 : MC := (.seq (.ops [⟨(some 6), .load 90 (.tmp 0), none⟩,
    ⟨(some 7), .binOp .eql 90 (.tmp 6) (.const (.pointer none)) 90, none⟩]) c_sums_Round_1_1_1)
@[go_sem] theorem c_sums_Round_1_1_2_at (rd : Option Nat) (K : Post3) (t : Fr) (m : Mem) : wpM E 56 46 rd c_sums_Round_1_1_2 K t m = wpM E 56 46 rd (.seq (.ops [⟨(some 6), .load 90 (.tmp 0), none⟩,
    ⟨(some 7), .binOp .eql 90 (.tmp 6) (.const (.pointer none)) 90, none⟩]) c_sums_Round_1_1_1) K t m := rfl

def c_sums_Round_1_1_3 : MC := (.seq (.ops [⟨(some 3), .assign (.const (.bool false)), none⟩]) .ret)
@[go_sem] theorem c_sums_Round_1_1_3_at (rd : Option Nat) (K : Post3) (t : Fr) (m : Mem) : wpM E 56 46 rd c_sums_Round_1_1_3 K t m = wpM E 56 46 rd (.seq (.ops [⟨(some 3), .assign (.const (.bool false)), none⟩]) .ret) K t m := rfl

def c_sums_Round_1_1_4 : MC := (.seq (.ops [⟨(some 14), .load 89 (.tmp 1), none⟩,
    ⟨(some 15), .call ⟨.value (.tmp 14), #[(.const (.slice none 0 0)), (.const (.int .i64 4))], #[22, 62]⟩, none⟩]) c_sums_Round_1_1_3)
@[go_sem] theorem c_sums_Round_1_1_4_at (rd : Option Nat) (K : Post3) (t : Fr) (m : Mem) : wpM E 56 46 rd c_sums_Round_1_1_4 K t m = wpM E 56 46 rd (.seq (.ops [⟨(some 14), .load 89 (.tmp 1), none⟩,
    ⟨(some 15), .call ⟨.value (.tmp 14), #[(.const (.slice none 0 0)), (.const (.int .i64 4))], #[22, 62]⟩, none⟩]) c_sums_Round_1_1_3) K t m := rfl

def c_sums_Round_1_1_5 : MC := (.cond (.tmp 13) c_sums_Round_1_1_4 .skip)
@[go_sem] theorem c_sums_Round_1_1_5_at (rd : Option Nat) (K : Post3) (t : Fr) (m : Mem) : wpM E 56 46 rd c_sums_Round_1_1_5 K t m = wpM E 56 46 rd (.cond (.tmp 13) c_sums_Round_1_1_4 .skip) K t m := rfl

def c_sums_Round_1_1_6 : MC := (.seq (.ops [⟨(some 8), .load 90 (.tmp 0), none⟩,
    ⟨(some 9), .nilCheck (.tmp 8), none⟩,
    ⟨(some 10), .fieldAddr 92 (.tmp 9) 2, none⟩,
    ⟨(some 11), .call ⟨.value (.func 37), #[(.tmp 10)], #[71]⟩, none⟩,
    ⟨(some 12), .build 27 #[], none⟩,
    ⟨(some 13), .binOp .neq 27 (.tmp 11) (.tmp 12) 27, none⟩]) c_sums_Round_1_1_5)
@[go_sem] theorem c_sums_Round_1_1_6_at (rd : Option Nat) (K : Post3) (t : Fr) (m : Mem) : wpM E 56 46 rd c_sums_Round_1_1_6 K t m = wpM E 56 46 rd (.seq (.ops [⟨(some 8), .load 90 (.tmp 0), none⟩,
    ⟨(some 9), .nilCheck (.tmp 8), none⟩,
    ⟨(some 10), .fieldAddr 92 (.tmp 9) 2, none⟩,
    ⟨(some 11), .call ⟨.value (.func 37), #[(.tmp 10)], #[71]⟩, none⟩,
    ⟨(some 12), .build 27 #[], none⟩,
    ⟨(some 13), .binOp .neq 27 (.tmp 11) (.tmp 12) 27, none⟩]) c_sums_Round_1_1_5) K t m := rfl

def c_sums_Round_1_1_7 : MC := (.seq (.ops [⟨(some 3), .assign (.const (.bool true)), none⟩]) .ret)
@[go_sem] theorem c_sums_Round_1_1_7_at (rd : Option Nat) (K : Post3) (t : Fr) (m : Mem) : wpM E 56 46 rd c_sums_Round_1_1_7 K t m = wpM E 56 46 rd (.seq (.ops [⟨(some 3), .assign (.const (.bool true)), none⟩]) .ret) K t m := rfl

def c_sums_Round_1_1_8 : MC := (.cond (.tmp 33) c_sums_Round_1_1_7 .skip)
@[go_sem] theorem c_sums_Round_1_1_8_at (rd : Option Nat) (K : Post3) (t : Fr) (m : Mem) : wpM E 56 46 rd c_sums_Round_1_1_8 K t m = wpM E 56 46 rd (.cond (.tmp 33) c_sums_Round_1_1_7 .skip) K t m := rfl

def c_sums_Round_1_1_9 : MC := (.seq (.ops [⟨(some 29), .load 4 (.tmp 2), none⟩,
    ⟨(some 30), .move (.tmp 29), none⟩,
    ⟨(some 31), .move (.tmp 4), (some (some 30, false))⟩,
    ⟨(some 32), .binOp .eql 3 (.tmp 31) (.const (.int .i64 0)) 3, (some (some 30, false))⟩,
    ⟨(some 33), .pick (.tmp 30) (.const (.bool true)) (.tmp 32), none⟩]) c_sums_Round_1_1_8)
@[go_sem] theorem c_sums_Round_1_1_9_at (rd : Option Nat) (K : Post3) (t : Fr) (m : Mem) : wpM E 56 46 rd c_sums_Round_1_1_9 K t m = wpM E 56 46 rd (.seq (.ops [⟨(some 29), .load 4 (.tmp 2), none⟩,
    ⟨(some 30), .move (.tmp 29), none⟩,
    ⟨(some 31), .move (.tmp 4), (some (some 30, false))⟩,
    ⟨(some 32), .binOp .eql 3 (.tmp 31) (.const (.int .i64 0)) 3, (some (some 30, false))⟩,
    ⟨(some 33), .pick (.tmp 30) (.const (.bool true)) (.tmp 32), none⟩]) c_sums_Round_1_1_8) K t m := rfl

def c_sums_Round_1_1_10 : MC := (.seq (.ops [⟨(some 34), .load 89 (.tmp 1), none⟩,
    ⟨(some 35), .load 90 (.tmp 0), none⟩,
    ⟨(some 36), .nilCheck (.tmp 35), none⟩,
    ⟨(some 37), .fieldAddr 92 (.tmp 36) 0, none⟩,
    ⟨(some 38), .load 3 (.tmp 37), none⟩,
    ⟨(some 39), .load 90 (.tmp 0), none⟩,
    ⟨(some 40), .nilCheck (.tmp 39), none⟩,
    ⟨(some 41), .fieldAddr 92 (.tmp 40) 1, none⟩,
    ⟨(some 42), .load 3 (.tmp 41), none⟩,
    ⟨(some 43), .move (.tmp 4), none⟩,
    ⟨(some 44), .buildSlice 22 4 #[(0, (.tmp 38)), (1, (.tmp 42)), (2, (.const (.int .i64 9999))), (3, (.tmp 43))], none⟩,
    ⟨(some 45), .call ⟨.value (.tmp 34), #[(.tmp 44), (.const (.int .i64 0))], #[22, 62]⟩, none⟩,
    ⟨(some 3), .assign (.tmp 45), none⟩]) .ret)
@[go_sem] theorem c_sums_Round_1_1_10_at (rd : Option Nat) (K : Post3) (t : Fr) (m : Mem) : wpM E 56 46 rd c_sums_Round_1_1_10 K t m = wpM E 56 46 rd (.seq (.ops [⟨(some 34), .load 89 (.tmp 1), none⟩,
    ⟨(some 35), .load 90 (.tmp 0), none⟩,
    ⟨(some 36), .nilCheck (.tmp 35), none⟩,
    ⟨(some 37), .fieldAddr 92 (.tmp 36) 0, none⟩,
    ⟨(some 38), .load 3 (.tmp 37), none⟩,
    ⟨(some 39), .load 90 (.tmp 0), none⟩,
    ⟨(some 40), .nilCheck (.tmp 39), none⟩,
    ⟨(some 41), .fieldAddr 92 (.tmp 40) 1, none⟩,
    ⟨(some 42), .load 3 (.tmp 41), none⟩,
    ⟨(some 43), .move (.tmp 4), none⟩,
    ⟨(some 44), .buildSlice 22 4 #[(0, (.tmp 38)), (1, (.tmp 42)), (2, (.const (.int .i64 9999))), (3, (.tmp 43))], none⟩,
    ⟨(some 45), .call ⟨.value (.tmp 34), #[(.tmp 44), (.const (.int .i64 0))], #[22, 62]⟩, none⟩,
    ⟨(some 3), .assign (.tmp 45), none⟩]) .ret) K t m := rfl

def c_sums_Round_1_1_11 : MC := (.seq c_sums_Round_1_1_9 c_sums_Round_1_1_10)
@[go_sem] theorem c_sums_Round_1_1_11_at (rd : Option Nat) (K : Post3) (t : Fr) (m : Mem) : wpM E 56 46 rd c_sums_Round_1_1_11 K t m = wpM E 56 46 rd (.seq c_sums_Round_1_1_9 c_sums_Round_1_1_10) K t m := rfl

def c_sums_Round_1_1_12 : MC := (.seq (.ops [⟨(some 24), .load 4 (.tmp 2), none⟩,
    ⟨(some 25), .move (.tmp 24), none⟩,
    ⟨(some 26), .move (.tmp 5), (some (some 25, false))⟩,
    ⟨(some 27), .unOp .not 4 (.tmp 26), (some (some 25, false))⟩,
    ⟨(some 28), .pick (.tmp 25) (.const (.bool true)) (.tmp 27), none⟩,
    ⟨none, .store 4 (.tmp 2) (.tmp 28), none⟩]) c_sums_Round_1_1_11)
@[go_sem] theorem c_sums_Round_1_1_12_at (rd : Option Nat) (K : Post3) (t : Fr) (m : Mem) : wpM E 56 46 rd c_sums_Round_1_1_12 K t m = wpM E 56 46 rd (.seq (.ops [⟨(some 24), .load 4 (.tmp 2), none⟩,
    ⟨(some 25), .move (.tmp 24), none⟩,
    ⟨(some 26), .move (.tmp 5), (some (some 25, false))⟩,
    ⟨(some 27), .unOp .not 4 (.tmp 26), (some (some 25, false))⟩,
    ⟨(some 28), .pick (.tmp 25) (.const (.bool true)) (.tmp 27), none⟩,
    ⟨none, .store 4 (.tmp 2) (.tmp 28), none⟩]) c_sums_Round_1_1_11) K t m := rfl

def c_sums_Round_1_1_13 : MC := (.seq (.ops [⟨(some 17), .load 90 (.tmp 0), none⟩,
    ⟨(some 18), .nilCheck (.tmp 17), none⟩,
    ⟨(some 19), .fieldAddr 92 (.tmp 18) 3, none⟩,
    ⟨(some 20), .call ⟨.value (.func 37), #[(.tmp 19)], #[71]⟩, none⟩,
    ⟨(some 21), .call ⟨.value (.func 57), #[(.tmp 20)], #[27]⟩, none⟩,
    ⟨(some 16), .move (.tmp 21), none⟩,
    ⟨(some 22), .extract (.tmp 16) 0, none⟩,
    ⟨(some 23), .extract (.tmp 16) 1, none⟩,
    ⟨(some 4), .assign (.tmp 22), none⟩,
    ⟨(some 5), .assign (.tmp 23), none⟩]) c_sums_Round_1_1_12)
@[go_sem] theorem c_sums_Round_1_1_13_at (rd : Option Nat) (K : Post3) (t : Fr) (m : Mem) : wpM E 56 46 rd c_sums_Round_1_1_13 K t m = wpM E 56 46 rd (.seq (.ops [⟨(some 17), .load 90 (.tmp 0), none⟩,
    ⟨(some 18), .nilCheck (.tmp 17), none⟩,
    ⟨(some 19), .fieldAddr 92 (.tmp 18) 3, none⟩,
    ⟨(some 20), .call ⟨.value (.func 37), #[(.tmp 19)], #[71]⟩, none⟩,
    ⟨(some 21), .call ⟨.value (.func 57), #[(.tmp 20)], #[27]⟩, none⟩,
    ⟨(some 16), .move (.tmp 21), none⟩,
    ⟨(some 22), .extract (.tmp 16) 0, none⟩,
    ⟨(some 23), .extract (.tmp 16) 1, none⟩,
    ⟨(some 4), .assign (.tmp 22), none⟩,
    ⟨(some 5), .assign (.tmp 23), none⟩]) c_sums_Round_1_1_12) K t m := rfl

def c_sums_Round_1_1_14 : MC := (.seq c_sums_Round_1_1_6 c_sums_Round_1_1_13)
@[go_sem] theorem c_sums_Round_1_1_14_at (rd : Option Nat) (K : Post3) (t : Fr) (m : Mem) : wpM E 56 46 rd c_sums_Round_1_1_14 K t m = wpM E 56 46 rd (.seq c_sums_Round_1_1_6 c_sums_Round_1_1_13) K t m := rfl

def c_sums_Round_1_1_15 : MC := (.seq c_sums_Round_1_1_2 c_sums_Round_1_1_14)
@[go_sem] theorem c_sums_Round_1_1_15_at (rd : Option Nat) (K : Post3) (t : Fr) (m : Mem) : wpM E 56 46 rd c_sums_Round_1_1_15 K t m = wpM E 56 46 rd (.seq c_sums_Round_1_1_2 c_sums_Round_1_1_14) K t m := rfl

def c_sums_Round_1_1_16 : MC := (.seq (.ops [⟨(some 3), .assign (.const (.bool false)), none⟩]) c_sums_Round_1_1_15)
@[go_sem] theorem c_sums_Round_1_1_16_at (rd : Option Nat) (K : Post3) (t : Fr) (m : Mem) : wpM E 56 46 rd c_sums_Round_1_1_16 K t m = wpM E 56 46 rd (.seq (.ops [⟨(some 3), .assign (.const (.bool false)), none⟩]) c_sums_Round_1_1_15) K t m := rfl

@[go_sem] theorem some56 : (E.fn 56).isSome = true := by kernel_rfl
set_option maxRecDepth 100000 in
theorem fn_sums_Round_1_1 : FnIs E 56 46 [.tmp 3] c_sums_Round_1_1_16 := ⟨by kernel_rfl, by kernel_rfl⟩

/-! sheaf/sums.opposite -/
abbrev F_sums_opposite : FuncId := 57
def c_sums_opposite_0 : MC := (.seq (.draw [(0, [], ⟨(some 4), .fieldAddr 27 (.tmp 1) 0, none⟩),
    (1, [], ⟨(some 5), .load 2 (.tmp 4), none⟩),
    (2, [], ⟨(some 6), .unOp .xor 2 (.tmp 5), none⟩),
    (3, [], ⟨(some 7), .fieldAddr 27 (.tmp 1) 1, none⟩),
    (4, [], ⟨(some 8), .load 25 (.tmp 7), none⟩),
    (5, [], ⟨(some 9), .unOp .xor 25 (.tmp 8), none⟩),
    (6, [], ⟨(some 10), .build 27 #[(0, (.tmp 6)), (1, (.tmp 9))], none⟩),
    (7, [1, 4], ⟨(some 11), .call ⟨.value (.func 16), #[(.const (.int .i64 1))], #[3]⟩, none⟩),
    (8, [], ⟨(some 12), .call ⟨.value (.func 31), #[(.tmp 10), (.tmp 11)], #[27, 27]⟩, none⟩),
    (9, [], ⟨(some 13), .call ⟨.value (.func 17), #[(.tmp 12)], #[27]⟩, none⟩),
    (10, [], ⟨(some 14), .extract (.tmp 13) 0, none⟩),
    (11, [], ⟨(some 15), .extract (.tmp 13) 1, none⟩),
    (12, [], ⟨(some 2), .assign (.tmp 14), none⟩),
    (13, [], ⟨(some 3), .assign (.tmp 15), none⟩)]) .ret)
@[go_sem] theorem c_sums_opposite_0_at (rd : Option Nat) (K : Post3) (t : Fr) (m : Mem) : wpM E 57 16 rd c_sums_opposite_0 K t m = wpM E 57 16 rd (.seq (.draw [(0, [], ⟨(some 4), .fieldAddr 27 (.tmp 1) 0, none⟩),
    (1, [], ⟨(some 5), .load 2 (.tmp 4), none⟩),
    (2, [], ⟨(some 6), .unOp .xor 2 (.tmp 5), none⟩),
    (3, [], ⟨(some 7), .fieldAddr 27 (.tmp 1) 1, none⟩),
    (4, [], ⟨(some 8), .load 25 (.tmp 7), none⟩),
    (5, [], ⟨(some 9), .unOp .xor 25 (.tmp 8), none⟩),
    (6, [], ⟨(some 10), .build 27 #[(0, (.tmp 6)), (1, (.tmp 9))], none⟩),
    (7, [1, 4], ⟨(some 11), .call ⟨.value (.func 16), #[(.const (.int .i64 1))], #[3]⟩, none⟩),
    (8, [], ⟨(some 12), .call ⟨.value (.func 31), #[(.tmp 10), (.tmp 11)], #[27, 27]⟩, none⟩),
    (9, [], ⟨(some 13), .call ⟨.value (.func 17), #[(.tmp 12)], #[27]⟩, none⟩),
    (10, [], ⟨(some 14), .extract (.tmp 13) 0, none⟩),
    (11, [], ⟨(some 15), .extract (.tmp 13) 1, none⟩),
    (12, [], ⟨(some 2), .assign (.tmp 14), none⟩),
    (13, [], ⟨(some 3), .assign (.tmp 15), none⟩)]) .ret) K t m := rfl

def c_sums_opposite_1 : MC := (.seq (.ops [⟨(some 1), .box 27 (.tmp 0), none⟩,
    ⟨(some 2), .assign (.const (.int .i64 0)), none⟩,
    ⟨(some 3), .assign (.const (.bool false)), none⟩]) c_sums_opposite_0)
@[go_sem] theorem c_sums_opposite_1_at (rd : Option Nat) (K : Post3) (t : Fr) (m : Mem) : wpM E 57 16 rd c_sums_opposite_1 K t m = wpM E 57 16 rd (.seq (.ops [⟨(some 1), .box 27 (.tmp 0), none⟩,
    ⟨(some 2), .assign (.const (.int .i64 0)), none⟩,
    ⟨(some 3), .assign (.const (.bool false)), none⟩]) c_sums_opposite_0) K t m := rfl

@[go_sem] theorem some57 : (E.fn 57).isSome = true := by kernel_rfl
set_option maxRecDepth 100000 in
theorem fn_sums_opposite : FnIs E 57 16 [.tmp 2, .tmp 3] c_sums_opposite_1 := ⟨by kernel_rfl, by kernel_rfl⟩

end
end Go.Proofs.Ytjmppooebppecaa.W
