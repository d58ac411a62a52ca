/-
  Compact code, printed by a program of mine (wip/dev/AbsPrint.lean).
-/
import Derived.Test.YtgbpgkfmmhlkoaaTypes
set_option linter.unusedVariables false
namespace Go.Proofs.Ytgbpgkfmmhlkoaa.W
open Go.Abs
noncomputable section

abbrev F_check_Whole : FuncId := 15
def c_check_Whole_0 : MC := (.seq (.ops [⟨none, .store 4 (.tmp 4) (.const (.bool false)), none⟩]) .ret)
@[go_sem] theorem c_check_Whole_0_at (rd : Option Nat) (K : Post3) (t : Fr) (m : Mem) : wpM E 15 20 rd c_check_Whole_0 K t m = wpM E 15 20 rd (.seq (.ops [⟨none, .store 4 (.tmp 4) (.const (.bool false)), none⟩]) .ret) K t m := rfl

def c_check_Whole_1 : MC := (.cond (.tmp 18) c_check_Whole_0 .skip)
@[go_sem] theorem c_check_Whole_1_at (rd : Option Nat) (K : Post3) (t : Fr) (m : Mem) : wpM E 15 20 rd c_check_Whole_1 K t m = wpM E 15 20 rd (.cond (.tmp 18) c_check_Whole_0 .skip) K t m := rfl

def c_check_Whole_2 : MC := (.seq (.ops [⟨(some 9), .load 3 (.tmp 2), none⟩,
    ⟨(some 10), .move (.tmp 6), none⟩,
    ⟨(some 11), .call ⟨.value (.func 14), #[(.tmp 9), (.tmp 10)], #[3, 23]⟩, none⟩,
    ⟨(some 12), .unOp .not 4 (.tmp 11), none⟩,
    ⟨(some 13), .move (.tmp 12), none⟩,
    ⟨(some 14), .load 3 (.tmp 2), (some (some 13, false))⟩,
    ⟨(some 15), .load 23 (.tmp 5), (some (some 13, false))⟩,
    ⟨(some 16), .move (.tmp 6), (some (some 13, false))⟩,
    ⟨(some 17), .call ⟨.value (.func 18), #[(.tmp 14), (.tmp 15), (.tmp 16)], #[3, 23, 23]⟩, (some (some 13, false))⟩,
    ⟨(some 18), .pick (.tmp 13) (.const (.bool true)) (.tmp 17), none⟩]) c_check_Whole_1)
@[go_sem] theorem c_check_Whole_2_at (rd : Option Nat) (K : Post3) (t : Fr) (m : Mem) : wpM E 15 20 rd c_check_Whole_2 K t m = wpM E 15 20 rd (.seq (.ops [⟨(some 9), .load 3 (.tmp 2), none⟩,
    ⟨(some 10), .move (.tmp 6), none⟩,
    ⟨(some 11), .call ⟨.value (.func 14), #[(.tmp 9), (.tmp 10)], #[3, 23]⟩, none⟩,
    ⟨(some 12), .unOp .not 4 (.tmp 11), none⟩,
    ⟨(some 13), .move (.tmp 12), none⟩,
    ⟨(some 14), .load 3 (.tmp 2), (some (some 13, false))⟩,
    ⟨(some 15), .load 23 (.tmp 5), (some (some 13, false))⟩,
    ⟨(some 16), .move (.tmp 6), (some (some 13, false))⟩,
    ⟨(some 17), .call ⟨.value (.func 18), #[(.tmp 14), (.tmp 15), (.tmp 16)], #[3, 23, 23]⟩, (some (some 13, false))⟩,
    ⟨(some 18), .pick (.tmp 13) (.const (.bool true)) (.tmp 17), none⟩]) c_check_Whole_1) K t m := rfl

def c_check_Whole_3 : MC := (.seq c_check_Whole_2 (.ops [⟨(some 19), .move (.tmp 6), none⟩,
    ⟨none, .store 23 (.tmp 5) (.tmp 19), none⟩]))
@[go_sem] theorem c_check_Whole_3_at (rd : Option Nat) (K : Post3) (t : Fr) (m : Mem) : wpM E 15 20 rd c_check_Whole_3 K t m = wpM E 15 20 rd (.seq c_check_Whole_2 (.ops [⟨(some 19), .move (.tmp 6), none⟩,
    ⟨none, .store 23 (.tmp 5) (.tmp 19), none⟩])) K t m := rfl

def c_check_Whole_4 : MC := (.block 1 c_check_Whole_3)
@[go_sem] theorem c_check_Whole_4_at (rd : Option Nat) (K : Post3) (t : Fr) (m : Mem) : wpM E 15 20 rd c_check_Whole_4 K t m = wpM E 15 20 rd (.block 1 c_check_Whole_3) K t m := rfl

theorem asg_check_Whole_0 : compile E 15 20 (asgAt E 15 0) = some (.ops [⟨(some 6), .assign (.tmp 8), none⟩]) := by kernel_rfl

theorem body_check_Whole_0 : compile E 15 20 (bodyAt E 15 0) = some c_check_Whole_4 := by kernel_rfl

def c_check_Whole_5 : MC := (.range (.tmp 7) #[8] (asgAt E 15 0) (bodyAt E 15 0))
theorem c_check_Whole_5_at (rd : Option Nat) (K : Post3) (t : Fr) (m : Mem) : wpM E 15 20 rd c_check_Whole_5 K t m = wpM E 15 20 rd (.range (.tmp 7) #[8] (asgAt E 15 0) (bodyAt E 15 0)) K t m := rfl

def c_check_Whole_6 : MC := (.block 0 c_check_Whole_5)
@[go_sem] theorem c_check_Whole_6_at (rd : Option Nat) (K : Post3) (t : Fr) (m : Mem) : wpM E 15 20 rd c_check_Whole_6 K t m = wpM E 15 20 rd (.block 0 c_check_Whole_5) K t m := rfl

def c_check_Whole_7 : MC := (.seq (.ops [⟨(some 7), .move (.tmp 1), none⟩]) c_check_Whole_6)
@[go_sem] theorem c_check_Whole_7_at (rd : Option Nat) (K : Post3) (t : Fr) (m : Mem) : wpM E 15 20 rd c_check_Whole_7 K t m = wpM E 15 20 rd (.seq (.ops [⟨(some 7), .move (.tmp 1), none⟩]) c_check_Whole_6) K t m := rfl

def c_check_Whole_8 : MC := (.seq (.ops [⟨none, .store 4 (.tmp 4) (.const (.bool true)), none⟩]) .ret)
@[go_sem] theorem c_check_Whole_8_at (rd : Option Nat) (K : Post3) (t : Fr) (m : Mem) : wpM E 15 20 rd c_check_Whole_8 K t m = wpM E 15 20 rd (.seq (.ops [⟨none, .store 4 (.tmp 4) (.const (.bool true)), none⟩]) .ret) K t m := rfl

def c_check_Whole_9 : MC := (.seq c_check_Whole_7 c_check_Whole_8)
@[go_sem] theorem c_check_Whole_9_at (rd : Option Nat) (K : Post3) (t : Fr) (m : Mem) : wpM E 15 20 rd c_check_Whole_9 K t m = wpM E 15 20 rd (.seq c_check_Whole_7 c_check_Whole_8) K t m := rfl

def c_check_Whole_10 : MC := (.seq (.ops [⟨(some 5), .alloc 23, none⟩]) c_check_Whole_9)
@[go_sem] theorem c_check_Whole_10_at (rd : Option Nat) (K : Post3) (t : Fr) (m : Mem) : wpM E 15 20 rd c_check_Whole_10 K t m = wpM E 15 20 rd (.seq (.ops [⟨(some 5), .alloc 23, none⟩]) c_check_Whole_9) K t m := rfl

def c_check_Whole_11 : MC := (.seq (.ops [⟨(some 2), .box 3 (.tmp 0), none⟩,
    ⟨(some 4), .alloc 4, none⟩]) c_check_Whole_10)
@[go_sem] theorem c_check_Whole_11_at (rd : Option Nat) (K : Post3) (t : Fr) (m : Mem) : wpM E 15 20 rd c_check_Whole_11 K t m = wpM E 15 20 rd (.seq (.ops [⟨(some 2), .box 3 (.tmp 0), none⟩,
    ⟨(some 4), .alloc 4, none⟩]) c_check_Whole_10) K t m := rfl

@[go_sem] theorem some15 : (E.fn 15).isSome = true := by kernel_rfl
set_option maxRecDepth 100000 in
theorem fn_check_Whole : FnIs E 15 20 [.cell 4 4] c_check_Whole_11 := ⟨by kernel_rfl, by kernel_rfl⟩

/-! sheaf/sheafref16.Good -/

abbrev F_sheaflaw16_CheckWhole : FuncId := 5
def c_sheaflaw16_CheckWhole_0 : MC := (.cond (.tmp 23) .skip (.exit 0))
@[go_sem] theorem c_sheaflaw16_CheckWhole_0_at (rd : Option Nat) (K : Post3) (t : Fr) (m : Mem) : wpM E 5 59 rd c_sheaflaw16_CheckWhole_0 K t m = wpM E 5 59 rd (.cond (.tmp 23) .skip (.exit 0)) K t m := rfl

def c_sheaflaw16_CheckWhole_1 : MC := (.seq (.ops [⟨(some 8), .assign (.const (.bool false)), none⟩]) (.exit 0))
@[go_sem] theorem c_sheaflaw16_CheckWhole_1_at (rd : Option Nat) (K : Post3) (t : Fr) (m : Mem) : wpM E 5 59 rd c_sheaflaw16_CheckWhole_1 K t m = wpM E 5 59 rd (.seq (.ops [⟨(some 8), .assign (.const (.bool false)), none⟩]) (.exit 0)) K t m := rfl

def c_sheaflaw16_CheckWhole_2 : MC := (.cond (.tmp 46) c_sheaflaw16_CheckWhole_1 .skip)
@[go_sem] theorem c_sheaflaw16_CheckWhole_2_at (rd : Option Nat) (K : Post3) (t : Fr) (m : Mem) : wpM E 5 59 rd c_sheaflaw16_CheckWhole_2 K t m = wpM E 5 59 rd (.cond (.tmp 46) c_sheaflaw16_CheckWhole_1 .skip) K t m := rfl

def c_sheaflaw16_CheckWhole_3 : MC := (.seq (.ops [⟨(some 29), .move (.tmp 0), none⟩,
    ⟨(some 30), .move (.tmp 11), none⟩,
    ⟨(some 31), .call ⟨.value (.func 14), #[(.tmp 29), (.tmp 30)], #[3, 23]⟩, none⟩,
    ⟨(some 32), .unOp .not 4 (.tmp 31), none⟩,
    ⟨(some 33), .move (.tmp 32), none⟩,
    ⟨(some 34), .move (.tmp 10), (some (some 33, false))⟩,
    ⟨(some 35), .binOp .gtr 3 (.tmp 34) (.const (.int .i64 0)) 3, (some (some 33, false))⟩,
    ⟨(some 36), .move (.tmp 35), (some (some 33, false))⟩,
    ⟨(some 37), .move (.tmp 0), (some (some 36, true))⟩,
    ⟨(some 38), .load 28 (.tmp 5), (some (some 36, true))⟩,
    ⟨(some 39), .move (.tmp 10), (some (some 36, true))⟩,
    ⟨(some 40), .binOp .sub 3 (.tmp 39) (.const (.int .i64 1)) 3, (some (some 36, true))⟩,
    ⟨(some 41), .indexAddr 28 (.tmp 38) (.tmp 40), (some (some 36, true))⟩,
    ⟨(some 42), .load 23 (.tmp 41), (some (some 36, true))⟩,
    ⟨(some 43), .move (.tmp 11), (some (some 36, true))⟩,
    ⟨(some 44), .call ⟨.value (.func 18), #[(.tmp 37), (.tmp 42), (.tmp 43)], #[3, 23, 23]⟩, (some (some 36, true))⟩,
    ⟨(some 45), .pick (.tmp 36) (.tmp 44) (.const (.bool false)), (some (some 33, false))⟩,
    ⟨(some 46), .pick (.tmp 33) (.const (.bool true)) (.tmp 45), none⟩]) c_sheaflaw16_CheckWhole_2)
@[go_sem] theorem c_sheaflaw16_CheckWhole_3_at (rd : Option Nat) (K : Post3) (t : Fr) (m : Mem) : wpM E 5 59 rd c_sheaflaw16_CheckWhole_3 K t m = wpM E 5 59 rd (.seq (.ops [⟨(some 29), .move (.tmp 0), none⟩,
    ⟨(some 30), .move (.tmp 11), none⟩,
    ⟨(some 31), .call ⟨.value (.func 14), #[(.tmp 29), (.tmp 30)], #[3, 23]⟩, none⟩,
    ⟨(some 32), .unOp .not 4 (.tmp 31), none⟩,
    ⟨(some 33), .move (.tmp 32), none⟩,
    ⟨(some 34), .move (.tmp 10), (some (some 33, false))⟩,
    ⟨(some 35), .binOp .gtr 3 (.tmp 34) (.const (.int .i64 0)) 3, (some (some 33, false))⟩,
    ⟨(some 36), .move (.tmp 35), (some (some 33, false))⟩,
    ⟨(some 37), .move (.tmp 0), (some (some 36, true))⟩,
    ⟨(some 38), .load 28 (.tmp 5), (some (some 36, true))⟩,
    ⟨(some 39), .move (.tmp 10), (some (some 36, true))⟩,
    ⟨(some 40), .binOp .sub 3 (.tmp 39) (.const (.int .i64 1)) 3, (some (some 36, true))⟩,
    ⟨(some 41), .indexAddr 28 (.tmp 38) (.tmp 40), (some (some 36, true))⟩,
    ⟨(some 42), .load 23 (.tmp 41), (some (some 36, true))⟩,
    ⟨(some 43), .move (.tmp 11), (some (some 36, true))⟩,
    ⟨(some 44), .call ⟨.value (.func 18), #[(.tmp 37), (.tmp 42), (.tmp 43)], #[3, 23, 23]⟩, (some (some 36, true))⟩,
    ⟨(some 45), .pick (.tmp 36) (.tmp 44) (.const (.bool false)), (some (some 33, false))⟩,
    ⟨(some 46), .pick (.tmp 33) (.const (.bool true)) (.tmp 45), none⟩]) c_sheaflaw16_CheckWhole_2) K t m := rfl

def c_sheaflaw16_CheckWhole_4 : MC := (.seq (.ops [⟨(some 27), .move (.tmp 9), none⟩,
    ⟨(some 28), .binOp .add 3 (.tmp 27) (.const (.int .i64 1)) 3, none⟩,
    ⟨(some 9), .assign (.tmp 28), none⟩]) c_sheaflaw16_CheckWhole_3)
@[go_sem] theorem c_sheaflaw16_CheckWhole_4_at (rd : Option Nat) (K : Post3) (t : Fr) (m : Mem) : wpM E 5 59 rd c_sheaflaw16_CheckWhole_4 K t m = wpM E 5 59 rd (.seq (.ops [⟨(some 27), .move (.tmp 9), none⟩,
    ⟨(some 28), .binOp .add 3 (.tmp 27) (.const (.int .i64 1)) 3, none⟩,
    ⟨(some 9), .assign (.tmp 28), none⟩]) c_sheaflaw16_CheckWhole_3) K t m := rfl

def c_sheaflaw16_CheckWhole_5 : MC := (.seq (.ops [⟨(some 24), .move (.tmp 22), none⟩,
    ⟨(some 25), .indexAddr 28 (.tmp 20) (.tmp 22), none⟩,
    ⟨(some 26), .load 23 (.tmp 25), none⟩,
    ⟨(some 10), .assign (.tmp 24), none⟩,
    ⟨(some 11), .assign (.tmp 26), none⟩]) c_sheaflaw16_CheckWhole_4)
@[go_sem] theorem c_sheaflaw16_CheckWhole_5_at (rd : Option Nat) (K : Post3) (t : Fr) (m : Mem) : wpM E 5 59 rd c_sheaflaw16_CheckWhole_5 K t m = wpM E 5 59 rd (.seq (.ops [⟨(some 24), .move (.tmp 22), none⟩,
    ⟨(some 25), .indexAddr 28 (.tmp 20) (.tmp 22), none⟩,
    ⟨(some 26), .load 23 (.tmp 25), none⟩,
    ⟨(some 10), .assign (.tmp 24), none⟩,
    ⟨(some 11), .assign (.tmp 26), none⟩]) c_sheaflaw16_CheckWhole_4) K t m := rfl

def c_sheaflaw16_CheckWhole_6 : MC := (.block 1 c_sheaflaw16_CheckWhole_5)
@[go_sem] theorem c_sheaflaw16_CheckWhole_6_at (rd : Option Nat) (K : Post3) (t : Fr) (m : Mem) : wpM E 5 59 rd c_sheaflaw16_CheckWhole_6 K t m = wpM E 5 59 rd (.block 1 c_sheaflaw16_CheckWhole_5) K t m := rfl

def c_sheaflaw16_CheckWhole_7 : MC := (.seq c_sheaflaw16_CheckWhole_6 (.ops [⟨(some 47), .binOp .add 3 (.tmp 22) (.const (.int .i64 1)) 3, none⟩,
    ⟨(some 22), .move (.tmp 47), none⟩]))
@[go_sem] theorem c_sheaflaw16_CheckWhole_7_at (rd : Option Nat) (K : Post3) (t : Fr) (m : Mem) : wpM E 5 59 rd c_sheaflaw16_CheckWhole_7 K t m = wpM E 5 59 rd (.seq c_sheaflaw16_CheckWhole_6 (.ops [⟨(some 47), .binOp .add 3 (.tmp 22) (.const (.int .i64 1)) 3, none⟩,
    ⟨(some 22), .move (.tmp 47), none⟩])) K t m := rfl

def c_sheaflaw16_CheckWhole_8 : MC := (.seq c_sheaflaw16_CheckWhole_0 c_sheaflaw16_CheckWhole_7)
@[go_sem] theorem c_sheaflaw16_CheckWhole_8_at (rd : Option Nat) (K : Post3) (t : Fr) (m : Mem) : wpM E 5 59 rd c_sheaflaw16_CheckWhole_8 K t m = wpM E 5 59 rd (.seq c_sheaflaw16_CheckWhole_0 c_sheaflaw16_CheckWhole_7) K t m := rfl

def c_sheaflaw16_CheckWhole_9 : MC := (.seq (.ops [⟨(some 23), .binOp .lss 3 (.tmp 22) (.tmp 21) 3, none⟩]) c_sheaflaw16_CheckWhole_8)
@[go_sem] theorem c_sheaflaw16_CheckWhole_9_at (rd : Option Nat) (K : Post3) (t : Fr) (m : Mem) : wpM E 5 59 rd c_sheaflaw16_CheckWhole_9 K t m = wpM E 5 59 rd (.seq (.ops [⟨(some 23), .binOp .lss 3 (.tmp 22) (.tmp 21) 3, none⟩]) c_sheaflaw16_CheckWhole_8) K t m := rfl

def c_sheaflaw16_CheckWhole_10 : MC := (.loop c_sheaflaw16_CheckWhole_9)
theorem c_sheaflaw16_CheckWhole_10_at (rd : Option Nat) (K : Post3) (t : Fr) (m : Mem) : wpM E 5 59 rd c_sheaflaw16_CheckWhole_10 K t m = wpM E 5 59 rd (.loop c_sheaflaw16_CheckWhole_9) K t m := rfl

def c_sheaflaw16_CheckWhole_11 : MC := (.block 0 c_sheaflaw16_CheckWhole_10)
theorem c_sheaflaw16_CheckWhole_11_at (rd : Option Nat) (K : Post3) (t : Fr) (m : Mem) : wpM E 5 59 rd c_sheaflaw16_CheckWhole_11 K t m = wpM E 5 59 rd (.block 0 c_sheaflaw16_CheckWhole_10) K t m := rfl

def c_sheaflaw16_CheckWhole_12 : MC := (.seq (.ops [⟨(some 20), .load 28 (.tmp 5), none⟩,
    ⟨(some 21), .call ⟨.builtin .len, #[(.tmp 20)], #[28]⟩, none⟩,
    ⟨(some 22), .move (.const (.int .i64 0)), none⟩]) c_sheaflaw16_CheckWhole_11)
@[go_sem] theorem c_sheaflaw16_CheckWhole_12_at (rd : Option Nat) (K : Post3) (t : Fr) (m : Mem) : wpM E 5 59 rd c_sheaflaw16_CheckWhole_12 K t m = wpM E 5 59 rd (.seq (.ops [⟨(some 20), .load 28 (.tmp 5), none⟩,
    ⟨(some 21), .call ⟨.builtin .len, #[(.tmp 20)], #[28]⟩, none⟩,
    ⟨(some 22), .move (.const (.int .i64 0)), none⟩]) c_sheaflaw16_CheckWhole_11) K t m := rfl

def c_sheaflaw16_CheckWhole_13 : MC := (.seq (.ops [⟨(some 48), .move (.tmp 7), none⟩,
    ⟨(some 49), .move (.tmp 8), none⟩,
    ⟨(some 50), .binOp .eql 4 (.tmp 48) (.tmp 49) 4, none⟩,
    ⟨(some 51), .move (.tmp 50), none⟩,
    ⟨(some 52), .load 3 (.tmp 6), (some (some 51, true))⟩,
    ⟨(some 53), .move (.tmp 9), (some (some 51, true))⟩,
    ⟨(some 54), .binOp .eql 3 (.tmp 52) (.tmp 53) 3, (some (some 51, true))⟩,
    ⟨(some 55), .pick (.tmp 51) (.tmp 54) (.const (.bool false)), none⟩,
    ⟨(some 56), .move (.tmp 55), none⟩,
    ⟨(some 57), .call ⟨.value (.func 3), #[], #[]⟩, (some (some 56, true))⟩,
    ⟨(some 58), .pick (.tmp 56) (.tmp 57) (.const (.bool false)), none⟩,
    ⟨(some 4), .assign (.tmp 58), none⟩]) .ret)
@[go_sem] theorem c_sheaflaw16_CheckWhole_13_at (rd : Option Nat) (K : Post3) (t : Fr) (m : Mem) : wpM E 5 59 rd c_sheaflaw16_CheckWhole_13 K t m = wpM E 5 59 rd (.seq (.ops [⟨(some 48), .move (.tmp 7), none⟩,
    ⟨(some 49), .move (.tmp 8), none⟩,
    ⟨(some 50), .binOp .eql 4 (.tmp 48) (.tmp 49) 4, none⟩,
    ⟨(some 51), .move (.tmp 50), none⟩,
    ⟨(some 52), .load 3 (.tmp 6), (some (some 51, true))⟩,
    ⟨(some 53), .move (.tmp 9), (some (some 51, true))⟩,
    ⟨(some 54), .binOp .eql 3 (.tmp 52) (.tmp 53) 3, (some (some 51, true))⟩,
    ⟨(some 55), .pick (.tmp 51) (.tmp 54) (.const (.bool false)), none⟩,
    ⟨(some 56), .move (.tmp 55), none⟩,
    ⟨(some 57), .call ⟨.value (.func 3), #[], #[]⟩, (some (some 56, true))⟩,
    ⟨(some 58), .pick (.tmp 56) (.tmp 57) (.const (.bool false)), none⟩,
    ⟨(some 4), .assign (.tmp 58), none⟩]) .ret) K t m := rfl

def c_sheaflaw16_CheckWhole_14 : MC := (.seq c_sheaflaw16_CheckWhole_12 c_sheaflaw16_CheckWhole_13)
@[go_sem] theorem c_sheaflaw16_CheckWhole_14_at (rd : Option Nat) (K : Post3) (t : Fr) (m : Mem) : wpM E 5 59 rd c_sheaflaw16_CheckWhole_14 K t m = wpM E 5 59 rd (.seq c_sheaflaw16_CheckWhole_12 c_sheaflaw16_CheckWhole_13) K t m := rfl

def c_sheaflaw16_CheckWhole_15 : MC := (.seq (.ops [⟨(some 8), .assign (.const (.bool true)), none⟩,
    ⟨(some 9), .assign (.const (.int .i64 0)), none⟩]) c_sheaflaw16_CheckWhole_14)
@[go_sem] theorem c_sheaflaw16_CheckWhole_15_at (rd : Option Nat) (K : Post3) (t : Fr) (m : Mem) : wpM E 5 59 rd c_sheaflaw16_CheckWhole_15 K t m = wpM E 5 59 rd (.seq (.ops [⟨(some 8), .assign (.const (.bool true)), none⟩,
    ⟨(some 9), .assign (.const (.int .i64 0)), none⟩]) c_sheaflaw16_CheckWhole_14) K t m := rfl

def c_sheaflaw16_CheckWhole_16 : MC := (.seq (.ops [⟨(some 17), .move (.tmp 0), none⟩,
    ⟨(some 18), .makeFunc (.func 20) #[] #[(.tmp 5), (.tmp 6)], none⟩,
    ⟨(some 19), .call ⟨.value (.func 15), #[(.tmp 17), (.tmp 18)], #[3, 26]⟩, none⟩,
    ⟨(some 7), .assign (.tmp 19), none⟩]) c_sheaflaw16_CheckWhole_15)
@[go_sem] theorem c_sheaflaw16_CheckWhole_16_at (rd : Option Nat) (K : Post3) (t : Fr) (m : Mem) : wpM E 5 59 rd c_sheaflaw16_CheckWhole_16 K t m = wpM E 5 59 rd (.seq (.ops [⟨(some 17), .move (.tmp 0), none⟩,
    ⟨(some 18), .makeFunc (.func 20) #[] #[(.tmp 5), (.tmp 6)], none⟩,
    ⟨(some 19), .call ⟨.value (.func 15), #[(.tmp 17), (.tmp 18)], #[3, 26]⟩, none⟩,
    ⟨(some 7), .assign (.tmp 19), none⟩]) c_sheaflaw16_CheckWhole_15) K t m := rfl

def c_sheaflaw16_CheckWhole_17 : MC := (.seq (.ops [⟨(some 6), .alloc 3, none⟩,
    ⟨none, .store 3 (.tmp 6) (.const (.int .i64 0)), none⟩]) c_sheaflaw16_CheckWhole_16)
@[go_sem] theorem c_sheaflaw16_CheckWhole_17_at (rd : Option Nat) (K : Post3) (t : Fr) (m : Mem) : wpM E 5 59 rd c_sheaflaw16_CheckWhole_17 K t m = wpM E 5 59 rd (.seq (.ops [⟨(some 6), .alloc 3, none⟩,
    ⟨none, .store 3 (.tmp 6) (.const (.int .i64 0)), none⟩]) c_sheaflaw16_CheckWhole_16) K t m := rfl

def c_sheaflaw16_CheckWhole_18 : MC := (.seq (.ops [⟨(some 12), .move (.tmp 1), none⟩,
    ⟨(some 13), .move (.tmp 1), none⟩,
    ⟨(some 14), .call ⟨.builtin .len, #[(.tmp 13)], #[28]⟩, none⟩,
    ⟨(some 15), .call ⟨.builtin .min, #[(.tmp 14), (.const (.int .i64 20))], #[3, 3]⟩, none⟩,
    ⟨(some 16), .slice 28 (.tmp 12) none (some (.tmp 15)) none, none⟩,
    ⟨(some 5), .alloc 28, none⟩,
    ⟨none, .store 28 (.tmp 5) (.tmp 16), none⟩]) c_sheaflaw16_CheckWhole_17)
@[go_sem] theorem c_sheaflaw16_CheckWhole_18_at (rd : Option Nat) (K : Post3) (t : Fr) (m : Mem) : wpM E 5 59 rd c_sheaflaw16_CheckWhole_18 K t m = wpM E 5 59 rd (.seq (.ops [⟨(some 12), .move (.tmp 1), none⟩,
    ⟨(some 13), .move (.tmp 1), none⟩,
    ⟨(some 14), .call ⟨.builtin .len, #[(.tmp 13)], #[28]⟩, none⟩,
    ⟨(some 15), .call ⟨.builtin .min, #[(.tmp 14), (.const (.int .i64 20))], #[3, 3]⟩, none⟩,
    ⟨(some 16), .slice 28 (.tmp 12) none (some (.tmp 15)) none, none⟩,
    ⟨(some 5), .alloc 28, none⟩,
    ⟨none, .store 28 (.tmp 5) (.tmp 16), none⟩]) c_sheaflaw16_CheckWhole_17) K t m := rfl

def c_sheaflaw16_CheckWhole_19 : MC := (.seq (.ops [⟨(some 4), .assign (.const (.bool false)), none⟩]) c_sheaflaw16_CheckWhole_18)
@[go_sem] theorem c_sheaflaw16_CheckWhole_19_at (rd : Option Nat) (K : Post3) (t : Fr) (m : Mem) : wpM E 5 59 rd c_sheaflaw16_CheckWhole_19 K t m = wpM E 5 59 rd (.seq (.ops [⟨(some 4), .assign (.const (.bool false)), none⟩]) c_sheaflaw16_CheckWhole_18) K t m := rfl

@[go_sem] theorem some5 : (E.fn 5).isSome = true := by kernel_rfl
set_option maxRecDepth 100000 in
theorem fn_sheaflaw16_CheckWhole : FnIs E 5 59 [.tmp 4] c_sheaflaw16_CheckWhole_19 := ⟨by kernel_rfl, by kernel_rfl⟩

/-! sheaf/sheaflaw16.CheckEdges -/

abbrev F_sheaflaw16_CheckWhole_1 : FuncId := 20
def c_sheaflaw16_CheckWhole_1_0 : MC := (.cond (.tmp 9) .skip (.exit 0))
@[go_sem] theorem c_sheaflaw16_CheckWhole_1_0_at (rd : Option Nat) (K : Post3) (t : Fr) (m : Mem) : wpM E 20 19 rd c_sheaflaw16_CheckWhole_1_0 K t m = wpM E 20 19 rd (.cond (.tmp 9) .skip (.exit 0)) K t m := rfl

def c_sheaflaw16_CheckWhole_1_1 : MC := (.cond (.tmp 17) .ret .skip)
@[go_sem] theorem c_sheaflaw16_CheckWhole_1_1_at (rd : Option Nat) (K : Post3) (t : Fr) (m : Mem) : wpM E 20 19 rd c_sheaflaw16_CheckWhole_1_1 K t m = wpM E 20 19 rd (.cond (.tmp 17) .ret .skip) K t m := rfl

def c_sheaflaw16_CheckWhole_1_2 : MC := (.seq (.ops [⟨(some 14), .move (.tmp 0), none⟩,
    ⟨(some 15), .move (.tmp 5), none⟩,
    ⟨(some 16), .call ⟨.value (.tmp 14), #[(.tmp 15)], #[23]⟩, none⟩,
    ⟨(some 17), .unOp .not 4 (.tmp 16), none⟩]) c_sheaflaw16_CheckWhole_1_1)
@[go_sem] theorem c_sheaflaw16_CheckWhole_1_2_at (rd : Option Nat) (K : Post3) (t : Fr) (m : Mem) : wpM E 20 19 rd c_sheaflaw16_CheckWhole_1_2 K t m = wpM E 20 19 rd (.seq (.ops [⟨(some 14), .move (.tmp 0), none⟩,
    ⟨(some 15), .move (.tmp 5), none⟩,
    ⟨(some 16), .call ⟨.value (.tmp 14), #[(.tmp 15)], #[23]⟩, none⟩,
    ⟨(some 17), .unOp .not 4 (.tmp 16), none⟩]) c_sheaflaw16_CheckWhole_1_1) K t m := rfl

def c_sheaflaw16_CheckWhole_1_3 : MC := (.seq (.ops [⟨(some 12), .load 3 (.tmp 2), none⟩,
    ⟨(some 13), .binOp .add 3 (.tmp 12) (.const (.int .i64 1)) 3, none⟩,
    ⟨none, .store 3 (.tmp 2) (.tmp 13), none⟩]) c_sheaflaw16_CheckWhole_1_2)
@[go_sem] theorem c_sheaflaw16_CheckWhole_1_3_at (rd : Option Nat) (K : Post3) (t : Fr) (m : Mem) : wpM E 20 19 rd c_sheaflaw16_CheckWhole_1_3 K t m = wpM E 20 19 rd (.seq (.ops [⟨(some 12), .load 3 (.tmp 2), none⟩,
    ⟨(some 13), .binOp .add 3 (.tmp 12) (.const (.int .i64 1)) 3, none⟩,
    ⟨none, .store 3 (.tmp 2) (.tmp 13), none⟩]) c_sheaflaw16_CheckWhole_1_2) K t m := rfl

def c_sheaflaw16_CheckWhole_1_4 : MC := (.seq (.ops [⟨(some 10), .indexAddr 28 (.tmp 6) (.tmp 8), none⟩,
    ⟨(some 11), .load 23 (.tmp 10), none⟩,
    ⟨(some 5), .assign (.tmp 11), none⟩]) c_sheaflaw16_CheckWhole_1_3)
@[go_sem] theorem c_sheaflaw16_CheckWhole_1_4_at (rd : Option Nat) (K : Post3) (t : Fr) (m : Mem) : wpM E 20 19 rd c_sheaflaw16_CheckWhole_1_4 K t m = wpM E 20 19 rd (.seq (.ops [⟨(some 10), .indexAddr 28 (.tmp 6) (.tmp 8), none⟩,
    ⟨(some 11), .load 23 (.tmp 10), none⟩,
    ⟨(some 5), .assign (.tmp 11), none⟩]) c_sheaflaw16_CheckWhole_1_3) K t m := rfl

def c_sheaflaw16_CheckWhole_1_5 : MC := (.block 1 c_sheaflaw16_CheckWhole_1_4)
@[go_sem] theorem c_sheaflaw16_CheckWhole_1_5_at (rd : Option Nat) (K : Post3) (t : Fr) (m : Mem) : wpM E 20 19 rd c_sheaflaw16_CheckWhole_1_5 K t m = wpM E 20 19 rd (.block 1 c_sheaflaw16_CheckWhole_1_4) K t m := rfl

def c_sheaflaw16_CheckWhole_1_6 : MC := (.seq c_sheaflaw16_CheckWhole_1_5 (.ops [⟨(some 18), .binOp .add 3 (.tmp 8) (.const (.int .i64 1)) 3, none⟩,
    ⟨(some 8), .move (.tmp 18), none⟩]))
@[go_sem] theorem c_sheaflaw16_CheckWhole_1_6_at (rd : Option Nat) (K : Post3) (t : Fr) (m : Mem) : wpM E 20 19 rd c_sheaflaw16_CheckWhole_1_6 K t m = wpM E 20 19 rd (.seq c_sheaflaw16_CheckWhole_1_5 (.ops [⟨(some 18), .binOp .add 3 (.tmp 8) (.const (.int .i64 1)) 3, none⟩,
    ⟨(some 8), .move (.tmp 18), none⟩])) K t m := rfl

def c_sheaflaw16_CheckWhole_1_7 : MC := (.seq c_sheaflaw16_CheckWhole_1_0 c_sheaflaw16_CheckWhole_1_6)
@[go_sem] theorem c_sheaflaw16_CheckWhole_1_7_at (rd : Option Nat) (K : Post3) (t : Fr) (m : Mem) : wpM E 20 19 rd c_sheaflaw16_CheckWhole_1_7 K t m = wpM E 20 19 rd (.seq c_sheaflaw16_CheckWhole_1_0 c_sheaflaw16_CheckWhole_1_6) K t m := rfl

def c_sheaflaw16_CheckWhole_1_8 : MC := (.seq (.ops [⟨(some 9), .binOp .lss 3 (.tmp 8) (.tmp 7) 3, none⟩]) c_sheaflaw16_CheckWhole_1_7)
@[go_sem] theorem c_sheaflaw16_CheckWhole_1_8_at (rd : Option Nat) (K : Post3) (t : Fr) (m : Mem) : wpM E 20 19 rd c_sheaflaw16_CheckWhole_1_8 K t m = wpM E 20 19 rd (.seq (.ops [⟨(some 9), .binOp .lss 3 (.tmp 8) (.tmp 7) 3, none⟩]) c_sheaflaw16_CheckWhole_1_7) K t m := rfl

def c_sheaflaw16_CheckWhole_1_9 : MC := (.loop c_sheaflaw16_CheckWhole_1_8)
theorem c_sheaflaw16_CheckWhole_1_9_at (rd : Option Nat) (K : Post3) (t : Fr) (m : Mem) : wpM E 20 19 rd c_sheaflaw16_CheckWhole_1_9 K t m = wpM E 20 19 rd (.loop c_sheaflaw16_CheckWhole_1_8) K t m := rfl

def c_sheaflaw16_CheckWhole_1_10 : MC := (.block 0 c_sheaflaw16_CheckWhole_1_9)
theorem c_sheaflaw16_CheckWhole_1_10_at (rd : Option Nat) (K : Post3) (t : Fr) (m : Mem) : wpM E 20 19 rd c_sheaflaw16_CheckWhole_1_10 K t m = wpM E 20 19 rd (.block 0 c_sheaflaw16_CheckWhole_1_9) K t m := rfl

def c_sheaflaw16_CheckWhole_1_11 : MC := (.seq (.ops [⟨(some 6), .load 28 (.tmp 1), none⟩,
    ⟨(some 7), .call ⟨.builtin .len, #[(.tmp 6)], #[28]⟩, none⟩,
    ⟨(some 8), .move (.const (.int .i64 0)), none⟩]) c_sheaflaw16_CheckWhole_1_10)
@[go_sem] theorem c_sheaflaw16_CheckWhole_1_11_at (rd : Option Nat) (K : Post3) (t : Fr) (m : Mem) : wpM E 20 19 rd c_sheaflaw16_CheckWhole_1_11 K t m = wpM E 20 19 rd (.seq (.ops [⟨(some 6), .load 28 (.tmp 1), none⟩,
    ⟨(some 7), .call ⟨.builtin .len, #[(.tmp 6)], #[28]⟩, none⟩,
    ⟨(some 8), .move (.const (.int .i64 0)), none⟩]) c_sheaflaw16_CheckWhole_1_10) K t m := rfl

@[go_sem] theorem some20 : (E.fn 20).isSome = true := by kernel_rfl
set_option maxRecDepth 100000 in
theorem fn_sheaflaw16_CheckWhole_1 : FnIs E 20 19 [] c_sheaflaw16_CheckWhole_1_11 := ⟨by kernel_rfl, by kernel_rfl⟩

end

end Go.Proofs.Ytgbpgkfmmhlkoaa.W
