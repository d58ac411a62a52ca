/-
  Compact code, printed by a program of mine (wip/dev/AbsPrint.lean).
-/
import Derived.Test.YtgbpgkfmmhlkoaaTypes
set_option linter.unusedVariables false
namespace Go.Proofs.Ytgbpgkfmmhlkoaa.W
open Go.Abs
noncomputable section

/-! sheaf/sheaflaw10.FlowGroups -/
abbrev F_sheaflaw10_FlowGroups : FuncId := 8
def c_sheaflaw10_FlowGroups_0 : MC := (.cond (.tmp 31) .skip (.exit 0))
@[go_sem] theorem c_sheaflaw10_FlowGroups_0_at (rd : Option Nat) (K : Post3) (t : Fr) (m : Mem) : wpM E 8 133 rd c_sheaflaw10_FlowGroups_0 K t m = wpM E 8 133 rd (.cond (.tmp 31) .skip (.exit 0)) K t m := rfl

def c_sheaflaw10_FlowGroups_1 : MC := (.seq (.ops [⟨(some 4), .assign (.const (.bool false)), none⟩]) .ret)
@[go_sem] theorem c_sheaflaw10_FlowGroups_1_at (rd : Option Nat) (K : Post3) (t : Fr) (m : Mem) : wpM E 8 133 rd c_sheaflaw10_FlowGroups_1 K t m = wpM E 8 133 rd (.seq (.ops [⟨(some 4), .assign (.const (.bool false)), none⟩]) .ret) K t m := rfl

def c_sheaflaw10_FlowGroups_2 : MC := (.cond (.tmp 64) c_sheaflaw10_FlowGroups_1 .skip)
@[go_sem] theorem c_sheaflaw10_FlowGroups_2_at (rd : Option Nat) (K : Post3) (t : Fr) (m : Mem) : wpM E 8 133 rd c_sheaflaw10_FlowGroups_2 K t m = wpM E 8 133 rd (.cond (.tmp 64) c_sheaflaw10_FlowGroups_1 .skip) K t m := rfl

def c_sheaflaw10_FlowGroups_3 : MC := (.seq (.ops [⟨(some 35), .move (.tmp 11), none⟩,
    ⟨(some 36), .call ⟨.builtin .len, #[(.tmp 35)], #[23]⟩, none⟩,
    ⟨(some 37), .binOp .lss 3 (.tmp 36) (.const (.int .i64 1)) 3, none⟩,
    ⟨(some 38), .move (.tmp 37), none⟩,
    ⟨(some 39), .move (.tmp 10), (some (some 38, false))⟩,
    ⟨(some 40), .binOp .gtr 3 (.tmp 39) (.const (.int .i64 0)) 3, (some (some 38, false))⟩,
    ⟨(some 41), .move (.tmp 40), (some (some 38, false))⟩,
    ⟨(some 42), .move (.tmp 8), (some (some 41, true))⟩,
    ⟨(some 43), .move (.tmp 10), (some (some 41, true))⟩,
    ⟨(some 44), .binOp .sub 3 (.tmp 43) (.const (.int .i64 1)) 3, (some (some 41, true))⟩,
    ⟨(some 45), .indexAddr 28 (.tmp 42) (.tmp 44), (some (some 41, true))⟩,
    ⟨(some 46), .load 23 (.tmp 45), (some (some 41, true))⟩,
    ⟨(some 47), .call ⟨.builtin .len, #[(.tmp 46)], #[23]⟩, (some (some 41, true))⟩,
    ⟨(some 48), .binOp .gtr 3 (.tmp 47) (.const (.int .i64 0)) 3, (some (some 41, true))⟩,
    ⟨(some 49), .pick (.tmp 41) (.tmp 48) (.const (.bool false)), (some (some 38, false))⟩,
    ⟨(some 50), .move (.tmp 49), (some (some 38, false))⟩,
    ⟨(some 51), .move (.tmp 7), (some (some 50, true))⟩,
    ⟨(some 52), .move (.tmp 8), (some (some 50, true))⟩,
    ⟨(some 53), .move (.tmp 10), (some (some 50, true))⟩,
    ⟨(some 54), .binOp .sub 3 (.tmp 53) (.const (.int .i64 1)) 3, (some (some 50, true))⟩,
    ⟨(some 55), .indexAddr 28 (.tmp 52) (.tmp 54), (some (some 50, true))⟩,
    ⟨(some 56), .load 23 (.tmp 55), (some (some 50, true))⟩,
    ⟨(some 57), .indexAddr 23 (.tmp 56) (.const (.int .i64 0)), (some (some 50, true))⟩,
    ⟨(some 58), .load 3 (.tmp 57), (some (some 50, true))⟩,
    ⟨(some 59), .move (.tmp 11), (some (some 50, true))⟩,
    ⟨(some 60), .indexAddr 23 (.tmp 59) (.const (.int .i64 0)), (some (some 50, true))⟩,
    ⟨(some 61), .load 3 (.tmp 60), (some (some 50, true))⟩,
    ⟨(some 62), .call ⟨.value (.tmp 51), #[(.tmp 58), (.tmp 61)], #[3, 3]⟩, (some (some 50, true))⟩,
    ⟨(some 63), .pick (.tmp 50) (.tmp 62) (.const (.bool false)), (some (some 38, false))⟩,
    ⟨(some 64), .pick (.tmp 38) (.const (.bool true)) (.tmp 63), none⟩]) c_sheaflaw10_FlowGroups_2)
@[go_sem] theorem c_sheaflaw10_FlowGroups_3_at (rd : Option Nat) (K : Post3) (t : Fr) (m : Mem) : wpM E 8 133 rd c_sheaflaw10_FlowGroups_3 K t m = wpM E 8 133 rd (.seq (.ops [⟨(some 35), .move (.tmp 11), none⟩,
    ⟨(some 36), .call ⟨.builtin .len, #[(.tmp 35)], #[23]⟩, none⟩,
    ⟨(some 37), .binOp .lss 3 (.tmp 36) (.const (.int .i64 1)) 3, none⟩,
    ⟨(some 38), .move (.tmp 37), none⟩,
    ⟨(some 39), .move (.tmp 10), (some (some 38, false))⟩,
    ⟨(some 40), .binOp .gtr 3 (.tmp 39) (.const (.int .i64 0)) 3, (some (some 38, false))⟩,
    ⟨(some 41), .move (.tmp 40), (some (some 38, false))⟩,
    ⟨(some 42), .move (.tmp 8), (some (some 41, true))⟩,
    ⟨(some 43), .move (.tmp 10), (some (some 41, true))⟩,
    ⟨(some 44), .binOp .sub 3 (.tmp 43) (.const (.int .i64 1)) 3, (some (some 41, true))⟩,
    ⟨(some 45), .indexAddr 28 (.tmp 42) (.tmp 44), (some (some 41, true))⟩,
    ⟨(some 46), .load 23 (.tmp 45), (some (some 41, true))⟩,
    ⟨(some 47), .call ⟨.builtin .len, #[(.tmp 46)], #[23]⟩, (some (some 41, true))⟩,
    ⟨(some 48), .binOp .gtr 3 (.tmp 47) (.const (.int .i64 0)) 3, (some (some 41, true))⟩,
    ⟨(some 49), .pick (.tmp 41) (.tmp 48) (.const (.bool false)), (some (some 38, false))⟩,
    ⟨(some 50), .move (.tmp 49), (some (some 38, false))⟩,
    ⟨(some 51), .move (.tmp 7), (some (some 50, true))⟩,
    ⟨(some 52), .move (.tmp 8), (some (some 50, true))⟩,
    ⟨(some 53), .move (.tmp 10), (some (some 50, true))⟩,
    ⟨(some 54), .binOp .sub 3 (.tmp 53) (.const (.int .i64 1)) 3, (some (some 50, true))⟩,
    ⟨(some 55), .indexAddr 28 (.tmp 52) (.tmp 54), (some (some 50, true))⟩,
    ⟨(some 56), .load 23 (.tmp 55), (some (some 50, true))⟩,
    ⟨(some 57), .indexAddr 23 (.tmp 56) (.const (.int .i64 0)), (some (some 50, true))⟩,
    ⟨(some 58), .load 3 (.tmp 57), (some (some 50, true))⟩,
    ⟨(some 59), .move (.tmp 11), (some (some 50, true))⟩,
    ⟨(some 60), .indexAddr 23 (.tmp 59) (.const (.int .i64 0)), (some (some 50, true))⟩,
    ⟨(some 61), .load 3 (.tmp 60), (some (some 50, true))⟩,
    ⟨(some 62), .call ⟨.value (.tmp 51), #[(.tmp 58), (.tmp 61)], #[3, 3]⟩, (some (some 50, true))⟩,
    ⟨(some 63), .pick (.tmp 50) (.tmp 62) (.const (.bool false)), (some (some 38, false))⟩,
    ⟨(some 64), .pick (.tmp 38) (.const (.bool true)) (.tmp 63), none⟩]) c_sheaflaw10_FlowGroups_2) K t m := rfl

def c_sheaflaw10_FlowGroups_4 : MC := (.cond (.tmp 68) .skip (.exit 2))
@[go_sem] theorem c_sheaflaw10_FlowGroups_4_at (rd : Option Nat) (K : Post3) (t : Fr) (m : Mem) : wpM E 8 133 rd c_sheaflaw10_FlowGroups_4 K t m = wpM E 8 133 rd (.cond (.tmp 68) .skip (.exit 2)) K t m := rfl

def c_sheaflaw10_FlowGroups_5 : MC := (.seq (.ops [⟨(some 4), .assign (.const (.bool false)), none⟩]) .ret)
@[go_sem] theorem c_sheaflaw10_FlowGroups_5_at (rd : Option Nat) (K : Post3) (t : Fr) (m : Mem) : wpM E 8 133 rd c_sheaflaw10_FlowGroups_5 K t m = wpM E 8 133 rd (.seq (.ops [⟨(some 4), .assign (.const (.bool false)), none⟩]) .ret) K t m := rfl

def c_sheaflaw10_FlowGroups_6 : MC := (.cond (.tmp 77) c_sheaflaw10_FlowGroups_5 .skip)
@[go_sem] theorem c_sheaflaw10_FlowGroups_6_at (rd : Option Nat) (K : Post3) (t : Fr) (m : Mem) : wpM E 8 133 rd c_sheaflaw10_FlowGroups_6 K t m = wpM E 8 133 rd (.cond (.tmp 77) c_sheaflaw10_FlowGroups_5 .skip) K t m := rfl

def c_sheaflaw10_FlowGroups_7 : MC := (.seq (.ops [⟨(some 71), .move (.tmp 7), none⟩,
    ⟨(some 72), .move (.tmp 11), none⟩,
    ⟨(some 73), .indexAddr 23 (.tmp 72) (.const (.int .i64 0)), none⟩,
    ⟨(some 74), .load 3 (.tmp 73), none⟩,
    ⟨(some 75), .move (.tmp 13), none⟩,
    ⟨(some 76), .call ⟨.value (.tmp 71), #[(.tmp 74), (.tmp 75)], #[3, 3]⟩, none⟩,
    ⟨(some 77), .unOp .not 4 (.tmp 76), none⟩]) c_sheaflaw10_FlowGroups_6)
@[go_sem] theorem c_sheaflaw10_FlowGroups_7_at (rd : Option Nat) (K : Post3) (t : Fr) (m : Mem) : wpM E 8 133 rd c_sheaflaw10_FlowGroups_7 K t m = wpM E 8 133 rd (.seq (.ops [⟨(some 71), .move (.tmp 7), none⟩,
    ⟨(some 72), .move (.tmp 11), none⟩,
    ⟨(some 73), .indexAddr 23 (.tmp 72) (.const (.int .i64 0)), none⟩,
    ⟨(some 74), .load 3 (.tmp 73), none⟩,
    ⟨(some 75), .move (.tmp 13), none⟩,
    ⟨(some 76), .call ⟨.value (.tmp 71), #[(.tmp 74), (.tmp 75)], #[3, 3]⟩, none⟩,
    ⟨(some 77), .unOp .not 4 (.tmp 76), none⟩]) c_sheaflaw10_FlowGroups_6) K t m := rfl

def c_sheaflaw10_FlowGroups_8 : MC := (.seq (.ops [⟨(some 69), .indexAddr 23 (.tmp 65) (.tmp 67), none⟩,
    ⟨(some 70), .load 3 (.tmp 69), none⟩,
    ⟨(some 13), .assign (.tmp 70), none⟩]) c_sheaflaw10_FlowGroups_7)
@[go_sem] theorem c_sheaflaw10_FlowGroups_8_at (rd : Option Nat) (K : Post3) (t : Fr) (m : Mem) : wpM E 8 133 rd c_sheaflaw10_FlowGroups_8 K t m = wpM E 8 133 rd (.seq (.ops [⟨(some 69), .indexAddr 23 (.tmp 65) (.tmp 67), none⟩,
    ⟨(some 70), .load 3 (.tmp 69), none⟩,
    ⟨(some 13), .assign (.tmp 70), none⟩]) c_sheaflaw10_FlowGroups_7) K t m := rfl

def c_sheaflaw10_FlowGroups_9 : MC := (.block 3 c_sheaflaw10_FlowGroups_8)
@[go_sem] theorem c_sheaflaw10_FlowGroups_9_at (rd : Option Nat) (K : Post3) (t : Fr) (m : Mem) : wpM E 8 133 rd c_sheaflaw10_FlowGroups_9 K t m = wpM E 8 133 rd (.block 3 c_sheaflaw10_FlowGroups_8) K t m := rfl

def c_sheaflaw10_FlowGroups_10 : MC := (.seq c_sheaflaw10_FlowGroups_9 (.ops [⟨(some 78), .binOp .add 3 (.tmp 67) (.const (.int .i64 1)) 3, none⟩,
    ⟨(some 67), .move (.tmp 78), none⟩]))
@[go_sem] theorem c_sheaflaw10_FlowGroups_10_at (rd : Option Nat) (K : Post3) (t : Fr) (m : Mem) : wpM E 8 133 rd c_sheaflaw10_FlowGroups_10 K t m = wpM E 8 133 rd (.seq c_sheaflaw10_FlowGroups_9 (.ops [⟨(some 78), .binOp .add 3 (.tmp 67) (.const (.int .i64 1)) 3, none⟩,
    ⟨(some 67), .move (.tmp 78), none⟩])) K t m := rfl

def c_sheaflaw10_FlowGroups_11 : MC := (.seq c_sheaflaw10_FlowGroups_4 c_sheaflaw10_FlowGroups_10)
@[go_sem] theorem c_sheaflaw10_FlowGroups_11_at (rd : Option Nat) (K : Post3) (t : Fr) (m : Mem) : wpM E 8 133 rd c_sheaflaw10_FlowGroups_11 K t m = wpM E 8 133 rd (.seq c_sheaflaw10_FlowGroups_4 c_sheaflaw10_FlowGroups_10) K t m := rfl

def c_sheaflaw10_FlowGroups_12 : MC := (.seq (.ops [⟨(some 68), .binOp .lss 3 (.tmp 67) (.tmp 66) 3, none⟩]) c_sheaflaw10_FlowGroups_11)
@[go_sem] theorem c_sheaflaw10_FlowGroups_12_at (rd : Option Nat) (K : Post3) (t : Fr) (m : Mem) : wpM E 8 133 rd c_sheaflaw10_FlowGroups_12 K t m = wpM E 8 133 rd (.seq (.ops [⟨(some 68), .binOp .lss 3 (.tmp 67) (.tmp 66) 3, none⟩]) c_sheaflaw10_FlowGroups_11) K t m := rfl

def c_sheaflaw10_FlowGroups_13 : MC := (.loop c_sheaflaw10_FlowGroups_12)
theorem c_sheaflaw10_FlowGroups_13_at (rd : Option Nat) (K : Post3) (t : Fr) (m : Mem) : wpM E 8 133 rd c_sheaflaw10_FlowGroups_13 K t m = wpM E 8 133 rd (.loop c_sheaflaw10_FlowGroups_12) K t m := rfl

def c_sheaflaw10_FlowGroups_14 : MC := (.block 2 c_sheaflaw10_FlowGroups_13)
theorem c_sheaflaw10_FlowGroups_14_at (rd : Option Nat) (K : Post3) (t : Fr) (m : Mem) : wpM E 8 133 rd c_sheaflaw10_FlowGroups_14 K t m = wpM E 8 133 rd (.block 2 c_sheaflaw10_FlowGroups_13) K t m := rfl

def c_sheaflaw10_FlowGroups_15 : MC := (.seq (.ops [⟨(some 65), .move (.tmp 11), none⟩,
    ⟨(some 66), .call ⟨.builtin .len, #[(.tmp 65)], #[23]⟩, none⟩,
    ⟨(some 67), .move (.const (.int .i64 0)), none⟩]) c_sheaflaw10_FlowGroups_14)
@[go_sem] theorem c_sheaflaw10_FlowGroups_15_at (rd : Option Nat) (K : Post3) (t : Fr) (m : Mem) : wpM E 8 133 rd c_sheaflaw10_FlowGroups_15 K t m = wpM E 8 133 rd (.seq (.ops [⟨(some 65), .move (.tmp 11), none⟩,
    ⟨(some 66), .call ⟨.builtin .len, #[(.tmp 65)], #[23]⟩, none⟩,
    ⟨(some 67), .move (.const (.int .i64 0)), none⟩]) c_sheaflaw10_FlowGroups_14) K t m := rfl

def c_sheaflaw10_FlowGroups_16 : MC := (.seq c_sheaflaw10_FlowGroups_15 (.ops [⟨(some 79), .move (.tmp 9), none⟩,
    ⟨(some 80), .move (.tmp 11), none⟩,
    ⟨(some 81), .call ⟨.builtin .append, #[(.tmp 79), (.tmp 80)], #[23, 23]⟩, none⟩,
    ⟨(some 9), .assign (.tmp 81), none⟩]))
@[go_sem] theorem c_sheaflaw10_FlowGroups_16_at (rd : Option Nat) (K : Post3) (t : Fr) (m : Mem) : wpM E 8 133 rd c_sheaflaw10_FlowGroups_16 K t m = wpM E 8 133 rd (.seq c_sheaflaw10_FlowGroups_15 (.ops [⟨(some 79), .move (.tmp 9), none⟩,
    ⟨(some 80), .move (.tmp 11), none⟩,
    ⟨(some 81), .call ⟨.builtin .append, #[(.tmp 79), (.tmp 80)], #[23, 23]⟩, none⟩,
    ⟨(some 9), .assign (.tmp 81), none⟩])) K t m := rfl

def c_sheaflaw10_FlowGroups_17 : MC := (.seq c_sheaflaw10_FlowGroups_3 c_sheaflaw10_FlowGroups_16)
@[go_sem] theorem c_sheaflaw10_FlowGroups_17_at (rd : Option Nat) (K : Post3) (t : Fr) (m : Mem) : wpM E 8 133 rd c_sheaflaw10_FlowGroups_17 K t m = wpM E 8 133 rd (.seq c_sheaflaw10_FlowGroups_3 c_sheaflaw10_FlowGroups_16) K t m := rfl

def c_sheaflaw10_FlowGroups_18 : MC := (.seq (.ops [⟨(some 32), .move (.tmp 30), none⟩,
    ⟨(some 33), .indexAddr 28 (.tmp 28) (.tmp 30), none⟩,
    ⟨(some 34), .load 23 (.tmp 33), none⟩,
    ⟨(some 10), .assign (.tmp 32), none⟩,
    ⟨(some 11), .assign (.tmp 34), none⟩]) c_sheaflaw10_FlowGroups_17)
@[go_sem] theorem c_sheaflaw10_FlowGroups_18_at (rd : Option Nat) (K : Post3) (t : Fr) (m : Mem) : wpM E 8 133 rd c_sheaflaw10_FlowGroups_18 K t m = wpM E 8 133 rd (.seq (.ops [⟨(some 32), .move (.tmp 30), none⟩,
    ⟨(some 33), .indexAddr 28 (.tmp 28) (.tmp 30), none⟩,
    ⟨(some 34), .load 23 (.tmp 33), none⟩,
    ⟨(some 10), .assign (.tmp 32), none⟩,
    ⟨(some 11), .assign (.tmp 34), none⟩]) c_sheaflaw10_FlowGroups_17) K t m := rfl

def c_sheaflaw10_FlowGroups_19 : MC := (.block 1 c_sheaflaw10_FlowGroups_18)
@[go_sem] theorem c_sheaflaw10_FlowGroups_19_at (rd : Option Nat) (K : Post3) (t : Fr) (m : Mem) : wpM E 8 133 rd c_sheaflaw10_FlowGroups_19 K t m = wpM E 8 133 rd (.block 1 c_sheaflaw10_FlowGroups_18) K t m := rfl

def c_sheaflaw10_FlowGroups_20 : MC := (.seq c_sheaflaw10_FlowGroups_19 (.ops [⟨(some 82), .binOp .add 3 (.tmp 30) (.const (.int .i64 1)) 3, none⟩,
    ⟨(some 30), .move (.tmp 82), none⟩]))
@[go_sem] theorem c_sheaflaw10_FlowGroups_20_at (rd : Option Nat) (K : Post3) (t : Fr) (m : Mem) : wpM E 8 133 rd c_sheaflaw10_FlowGroups_20 K t m = wpM E 8 133 rd (.seq c_sheaflaw10_FlowGroups_19 (.ops [⟨(some 82), .binOp .add 3 (.tmp 30) (.const (.int .i64 1)) 3, none⟩,
    ⟨(some 30), .move (.tmp 82), none⟩])) K t m := rfl

def c_sheaflaw10_FlowGroups_21 : MC := (.seq c_sheaflaw10_FlowGroups_0 c_sheaflaw10_FlowGroups_20)
@[go_sem] theorem c_sheaflaw10_FlowGroups_21_at (rd : Option Nat) (K : Post3) (t : Fr) (m : Mem) : wpM E 8 133 rd c_sheaflaw10_FlowGroups_21 K t m = wpM E 8 133 rd (.seq c_sheaflaw10_FlowGroups_0 c_sheaflaw10_FlowGroups_20) K t m := rfl

def c_sheaflaw10_FlowGroups_22 : MC := (.seq (.ops [⟨(some 31), .binOp .lss 3 (.tmp 30) (.tmp 29) 3, none⟩]) c_sheaflaw10_FlowGroups_21)
@[go_sem] theorem c_sheaflaw10_FlowGroups_22_at (rd : Option Nat) (K : Post3) (t : Fr) (m : Mem) : wpM E 8 133 rd c_sheaflaw10_FlowGroups_22 K t m = wpM E 8 133 rd (.seq (.ops [⟨(some 31), .binOp .lss 3 (.tmp 30) (.tmp 29) 3, none⟩]) c_sheaflaw10_FlowGroups_21) K t m := rfl

def c_sheaflaw10_FlowGroups_23 : MC := (.loop c_sheaflaw10_FlowGroups_22)
theorem c_sheaflaw10_FlowGroups_23_at (rd : Option Nat) (K : Post3) (t : Fr) (m : Mem) : wpM E 8 133 rd c_sheaflaw10_FlowGroups_23 K t m = wpM E 8 133 rd (.loop c_sheaflaw10_FlowGroups_22) K t m := rfl

def c_sheaflaw10_FlowGroups_24 : MC := (.block 0 c_sheaflaw10_FlowGroups_23)
theorem c_sheaflaw10_FlowGroups_24_at (rd : Option Nat) (K : Post3) (t : Fr) (m : Mem) : wpM E 8 133 rd c_sheaflaw10_FlowGroups_24 K t m = wpM E 8 133 rd (.block 0 c_sheaflaw10_FlowGroups_23) K t m := rfl

def c_sheaflaw10_FlowGroups_25 : MC := (.seq (.ops [⟨(some 28), .move (.tmp 8), none⟩,
    ⟨(some 29), .call ⟨.builtin .len, #[(.tmp 28)], #[28]⟩, none⟩,
    ⟨(some 30), .move (.const (.int .i64 0)), none⟩]) c_sheaflaw10_FlowGroups_24)
@[go_sem] theorem c_sheaflaw10_FlowGroups_25_at (rd : Option Nat) (K : Post3) (t : Fr) (m : Mem) : wpM E 8 133 rd c_sheaflaw10_FlowGroups_25 K t m = wpM E 8 133 rd (.seq (.ops [⟨(some 28), .move (.tmp 8), none⟩,
    ⟨(some 29), .call ⟨.builtin .len, #[(.tmp 28)], #[28]⟩, none⟩,
    ⟨(some 30), .move (.const (.int .i64 0)), none⟩]) c_sheaflaw10_FlowGroups_24) K t m := rfl

def c_sheaflaw10_FlowGroups_26 : MC := (.seq (.ops [⟨(some 4), .assign (.const (.bool false)), none⟩]) .ret)
@[go_sem] theorem c_sheaflaw10_FlowGroups_26_at (rd : Option Nat) (K : Post3) (t : Fr) (m : Mem) : wpM E 8 133 rd c_sheaflaw10_FlowGroups_26 K t m = wpM E 8 133 rd (.seq (.ops [⟨(some 4), .assign (.const (.bool false)), none⟩]) .ret) K t m := rfl

def c_sheaflaw10_FlowGroups_27 : MC := (.cond (.tmp 86) c_sheaflaw10_FlowGroups_26 .skip)
@[go_sem] theorem c_sheaflaw10_FlowGroups_27_at (rd : Option Nat) (K : Post3) (t : Fr) (m : Mem) : wpM E 8 133 rd c_sheaflaw10_FlowGroups_27 K t m = wpM E 8 133 rd (.cond (.tmp 86) c_sheaflaw10_FlowGroups_26 .skip) K t m := rfl

def c_sheaflaw10_FlowGroups_28 : MC := (.seq (.ops [⟨(some 83), .move (.tmp 9), none⟩,
    ⟨(some 84), .move (.tmp 5), none⟩,
    ⟨(some 85), .call ⟨.value (.func 26), #[(.tmp 83), (.tmp 84)], #[23, 23]⟩, none⟩,
    ⟨(some 86), .unOp .not 4 (.tmp 85), none⟩]) c_sheaflaw10_FlowGroups_27)
@[go_sem] theorem c_sheaflaw10_FlowGroups_28_at (rd : Option Nat) (K : Post3) (t : Fr) (m : Mem) : wpM E 8 133 rd c_sheaflaw10_FlowGroups_28 K t m = wpM E 8 133 rd (.seq (.ops [⟨(some 83), .move (.tmp 9), none⟩,
    ⟨(some 84), .move (.tmp 5), none⟩,
    ⟨(some 85), .call ⟨.value (.func 26), #[(.tmp 83), (.tmp 84)], #[23, 23]⟩, none⟩,
    ⟨(some 86), .unOp .not 4 (.tmp 85), none⟩]) c_sheaflaw10_FlowGroups_27) K t m := rfl

def c_sheaflaw10_FlowGroups_29 : MC := (.cond (.tmp 90) .skip (.exit 4))
@[go_sem] theorem c_sheaflaw10_FlowGroups_29_at (rd : Option Nat) (K : Post3) (t : Fr) (m : Mem) : wpM E 8 133 rd c_sheaflaw10_FlowGroups_29 K t m = wpM E 8 133 rd (.cond (.tmp 90) .skip (.exit 4)) K t m := rfl

def c_sheaflaw10_FlowGroups_30 : MC := (.seq (.ops [⟨(some 92), .move (.tmp 8), none⟩,
    ⟨(some 93), .move (.tmp 14), none⟩,
    ⟨(some 94), .move (.tmp 8), none⟩,
    ⟨(some 95), .move (.tmp 14), none⟩,
    ⟨(some 96), .indexAddr 28 (.tmp 94) (.tmp 95), none⟩,
    ⟨(some 97), .load 23 (.tmp 96), none⟩,
    ⟨(some 98), .buildSlice 23 1 #[(0, (.const (.int .i64 (-7))))], none⟩,
    ⟨(some 99), .call ⟨.builtin .append, #[(.tmp 97), (.tmp 98)], #[23, 23]⟩, none⟩,
    ⟨(some 100), .indexAddr 28 (.tmp 92) (.tmp 93), none⟩,
    ⟨none, .store 23 (.tmp 100) (.tmp 99), none⟩]) (.ops [⟨(some 101), .move (.tmp 8), none⟩,
    ⟨(some 102), .move (.tmp 14), none⟩,
    ⟨(some 103), .indexAddr 28 (.tmp 101) (.tmp 102), none⟩,
    ⟨(some 104), .load 23 (.tmp 103), none⟩,
    ⟨(some 105), .move (.tmp 8), none⟩,
    ⟨(some 106), .move (.tmp 14), none⟩,
    ⟨(some 107), .indexAddr 28 (.tmp 105) (.tmp 106), none⟩,
    ⟨(some 108), .load 23 (.tmp 107), none⟩,
    ⟨(some 109), .indexAddr 23 (.tmp 108) (.const (.int .i64 0)), none⟩,
    ⟨(some 110), .load 3 (.tmp 109), none⟩,
    ⟨(some 111), .binOp .xor 3 (.tmp 110) (.const (.int .i64 1)) 3, none⟩,
    ⟨(some 112), .indexAddr 23 (.tmp 104) (.const (.int .i64 0)), none⟩,
    ⟨none, .store 3 (.tmp 112) (.tmp 111), none⟩]))
@[go_sem] theorem c_sheaflaw10_FlowGroups_30_at (rd : Option Nat) (K : Post3) (t : Fr) (m : Mem) : wpM E 8 133 rd c_sheaflaw10_FlowGroups_30 K t m = wpM E 8 133 rd (.seq (.ops [⟨(some 92), .move (.tmp 8), none⟩,
    ⟨(some 93), .move (.tmp 14), none⟩,
    ⟨(some 94), .move (.tmp 8), none⟩,
    ⟨(some 95), .move (.tmp 14), none⟩,
    ⟨(some 96), .indexAddr 28 (.tmp 94) (.tmp 95), none⟩,
    ⟨(some 97), .load 23 (.tmp 96), none⟩,
    ⟨(some 98), .buildSlice 23 1 #[(0, (.const (.int .i64 (-7))))], none⟩,
    ⟨(some 99), .call ⟨.builtin .append, #[(.tmp 97), (.tmp 98)], #[23, 23]⟩, none⟩,
    ⟨(some 100), .indexAddr 28 (.tmp 92) (.tmp 93), none⟩,
    ⟨none, .store 23 (.tmp 100) (.tmp 99), none⟩]) (.ops [⟨(some 101), .move (.tmp 8), none⟩,
    ⟨(some 102), .move (.tmp 14), none⟩,
    ⟨(some 103), .indexAddr 28 (.tmp 101) (.tmp 102), none⟩,
    ⟨(some 104), .load 23 (.tmp 103), none⟩,
    ⟨(some 105), .move (.tmp 8), none⟩,
    ⟨(some 106), .move (.tmp 14), none⟩,
    ⟨(some 107), .indexAddr 28 (.tmp 105) (.tmp 106), none⟩,
    ⟨(some 108), .load 23 (.tmp 107), none⟩,
    ⟨(some 109), .indexAddr 23 (.tmp 108) (.const (.int .i64 0)), none⟩,
    ⟨(some 110), .load 3 (.tmp 109), none⟩,
    ⟨(some 111), .binOp .xor 3 (.tmp 110) (.const (.int .i64 1)) 3, none⟩,
    ⟨(some 112), .indexAddr 23 (.tmp 104) (.const (.int .i64 0)), none⟩,
    ⟨none, .store 3 (.tmp 112) (.tmp 111), none⟩])) K t m := rfl

def c_sheaflaw10_FlowGroups_31 : MC := (.seq (.ops [⟨(some 91), .move (.tmp 89), none⟩,
    ⟨(some 14), .assign (.tmp 91), none⟩]) c_sheaflaw10_FlowGroups_30)
@[go_sem] theorem c_sheaflaw10_FlowGroups_31_at (rd : Option Nat) (K : Post3) (t : Fr) (m : Mem) : wpM E 8 133 rd c_sheaflaw10_FlowGroups_31 K t m = wpM E 8 133 rd (.seq (.ops [⟨(some 91), .move (.tmp 89), none⟩,
    ⟨(some 14), .assign (.tmp 91), none⟩]) c_sheaflaw10_FlowGroups_30) K t m := rfl

def c_sheaflaw10_FlowGroups_32 : MC := (.block 5 c_sheaflaw10_FlowGroups_31)
@[go_sem] theorem c_sheaflaw10_FlowGroups_32_at (rd : Option Nat) (K : Post3) (t : Fr) (m : Mem) : wpM E 8 133 rd c_sheaflaw10_FlowGroups_32 K t m = wpM E 8 133 rd (.block 5 c_sheaflaw10_FlowGroups_31) K t m := rfl

def c_sheaflaw10_FlowGroups_33 : MC := (.seq c_sheaflaw10_FlowGroups_32 (.ops [⟨(some 113), .binOp .add 3 (.tmp 89) (.const (.int .i64 1)) 3, none⟩,
    ⟨(some 89), .move (.tmp 113), none⟩]))
@[go_sem] theorem c_sheaflaw10_FlowGroups_33_at (rd : Option Nat) (K : Post3) (t : Fr) (m : Mem) : wpM E 8 133 rd c_sheaflaw10_FlowGroups_33 K t m = wpM E 8 133 rd (.seq c_sheaflaw10_FlowGroups_32 (.ops [⟨(some 113), .binOp .add 3 (.tmp 89) (.const (.int .i64 1)) 3, none⟩,
    ⟨(some 89), .move (.tmp 113), none⟩])) K t m := rfl

def c_sheaflaw10_FlowGroups_34 : MC := (.seq c_sheaflaw10_FlowGroups_29 c_sheaflaw10_FlowGroups_33)
@[go_sem] theorem c_sheaflaw10_FlowGroups_34_at (rd : Option Nat) (K : Post3) (t : Fr) (m : Mem) : wpM E 8 133 rd c_sheaflaw10_FlowGroups_34 K t m = wpM E 8 133 rd (.seq c_sheaflaw10_FlowGroups_29 c_sheaflaw10_FlowGroups_33) K t m := rfl

def c_sheaflaw10_FlowGroups_35 : MC := (.seq (.ops [⟨(some 90), .binOp .lss 3 (.tmp 89) (.tmp 88) 3, none⟩]) c_sheaflaw10_FlowGroups_34)
@[go_sem] theorem c_sheaflaw10_FlowGroups_35_at (rd : Option Nat) (K : Post3) (t : Fr) (m : Mem) : wpM E 8 133 rd c_sheaflaw10_FlowGroups_35 K t m = wpM E 8 133 rd (.seq (.ops [⟨(some 90), .binOp .lss 3 (.tmp 89) (.tmp 88) 3, none⟩]) c_sheaflaw10_FlowGroups_34) K t m := rfl

def c_sheaflaw10_FlowGroups_36 : MC := (.loop c_sheaflaw10_FlowGroups_35)
theorem c_sheaflaw10_FlowGroups_36_at (rd : Option Nat) (K : Post3) (t : Fr) (m : Mem) : wpM E 8 133 rd c_sheaflaw10_FlowGroups_36 K t m = wpM E 8 133 rd (.loop c_sheaflaw10_FlowGroups_35) K t m := rfl

def c_sheaflaw10_FlowGroups_37 : MC := (.block 4 c_sheaflaw10_FlowGroups_36)
theorem c_sheaflaw10_FlowGroups_37_at (rd : Option Nat) (K : Post3) (t : Fr) (m : Mem) : wpM E 8 133 rd c_sheaflaw10_FlowGroups_37 K t m = wpM E 8 133 rd (.block 4 c_sheaflaw10_FlowGroups_36) K t m := rfl

def c_sheaflaw10_FlowGroups_38 : MC := (.seq (.ops [⟨(some 87), .move (.tmp 8), none⟩,
    ⟨(some 88), .call ⟨.builtin .len, #[(.tmp 87)], #[28]⟩, none⟩,
    ⟨(some 89), .move (.const (.int .i64 0)), none⟩]) c_sheaflaw10_FlowGroups_37)
@[go_sem] theorem c_sheaflaw10_FlowGroups_38_at (rd : Option Nat) (K : Post3) (t : Fr) (m : Mem) : wpM E 8 133 rd c_sheaflaw10_FlowGroups_38 K t m = wpM E 8 133 rd (.seq (.ops [⟨(some 87), .move (.tmp 8), none⟩,
    ⟨(some 88), .call ⟨.builtin .len, #[(.tmp 87)], #[28]⟩, none⟩,
    ⟨(some 89), .move (.const (.int .i64 0)), none⟩]) c_sheaflaw10_FlowGroups_37) K t m := rfl

def c_sheaflaw10_FlowGroups_39 : MC := (.seq (.ops [⟨(some 114), .move (.tmp 5), none⟩,
    ⟨(some 115), .call ⟨.value (.func 24), #[(.tmp 114)], #[23]⟩, none⟩,
    ⟨(some 116), .move (.tmp 7), none⟩,
    ⟨(some 117), .call ⟨.value (.func 23), #[(.tmp 115), (.tmp 116)], #[38, 34]⟩, none⟩,
    ⟨(some 118), .call ⟨.value (.func 22), #[(.tmp 117)], #[26]⟩, none⟩,
    ⟨(some 119), .call ⟨.builtin .len, #[(.tmp 118)], #[28]⟩, none⟩,
    ⟨(some 120), .move (.tmp 8), none⟩,
    ⟨(some 121), .call ⟨.builtin .len, #[(.tmp 120)], #[28]⟩, none⟩,
    ⟨(some 122), .binOp .eql 3 (.tmp 119) (.tmp 121) 3, none⟩,
    ⟨(some 123), .move (.tmp 122), none⟩,
    ⟨(some 124), .move (.tmp 5), (some (some 123, true))⟩,
    ⟨(some 125), .call ⟨.value (.func 24), #[(.tmp 124)], #[23]⟩, (some (some 123, true))⟩,
    ⟨(some 126), .call ⟨.value (.func 29), #[(.tmp 125)], #[38]⟩, (some (some 123, true))⟩,
    ⟨(some 127), .move (.tmp 5), (some (some 123, true))⟩,
    ⟨(some 128), .call ⟨.value (.func 26), #[(.tmp 126), (.tmp 127)], #[23, 23]⟩, (some (some 123, true))⟩,
    ⟨(some 129), .pick (.tmp 123) (.tmp 128) (.const (.bool false)), none⟩,
    ⟨(some 130), .move (.tmp 129), none⟩,
    ⟨(some 131), .call ⟨.value (.func 7), #[], #[]⟩, (some (some 130, true))⟩,
    ⟨(some 132), .pick (.tmp 130) (.tmp 131) (.const (.bool false)), none⟩,
    ⟨(some 4), .assign (.tmp 132), none⟩]) .ret)
@[go_sem] theorem c_sheaflaw10_FlowGroups_39_at (rd : Option Nat) (K : Post3) (t : Fr) (m : Mem) : wpM E 8 133 rd c_sheaflaw10_FlowGroups_39 K t m = wpM E 8 133 rd (.seq (.ops [⟨(some 114), .move (.tmp 5), none⟩,
    ⟨(some 115), .call ⟨.value (.func 24), #[(.tmp 114)], #[23]⟩, none⟩,
    ⟨(some 116), .move (.tmp 7), none⟩,
    ⟨(some 117), .call ⟨.value (.func 23), #[(.tmp 115), (.tmp 116)], #[38, 34]⟩, none⟩,
    ⟨(some 118), .call ⟨.value (.func 22), #[(.tmp 117)], #[26]⟩, none⟩,
    ⟨(some 119), .call ⟨.builtin .len, #[(.tmp 118)], #[28]⟩, none⟩,
    ⟨(some 120), .move (.tmp 8), none⟩,
    ⟨(some 121), .call ⟨.builtin .len, #[(.tmp 120)], #[28]⟩, none⟩,
    ⟨(some 122), .binOp .eql 3 (.tmp 119) (.tmp 121) 3, none⟩,
    ⟨(some 123), .move (.tmp 122), none⟩,
    ⟨(some 124), .move (.tmp 5), (some (some 123, true))⟩,
    ⟨(some 125), .call ⟨.value (.func 24), #[(.tmp 124)], #[23]⟩, (some (some 123, true))⟩,
    ⟨(some 126), .call ⟨.value (.func 29), #[(.tmp 125)], #[38]⟩, (some (some 123, true))⟩,
    ⟨(some 127), .move (.tmp 5), (some (some 123, true))⟩,
    ⟨(some 128), .call ⟨.value (.func 26), #[(.tmp 126), (.tmp 127)], #[23, 23]⟩, (some (some 123, true))⟩,
    ⟨(some 129), .pick (.tmp 123) (.tmp 128) (.const (.bool false)), none⟩,
    ⟨(some 130), .move (.tmp 129), none⟩,
    ⟨(some 131), .call ⟨.value (.func 7), #[], #[]⟩, (some (some 130, true))⟩,
    ⟨(some 132), .pick (.tmp 130) (.tmp 131) (.const (.bool false)), none⟩,
    ⟨(some 4), .assign (.tmp 132), none⟩]) .ret) K t m := rfl

def c_sheaflaw10_FlowGroups_40 : MC := (.seq c_sheaflaw10_FlowGroups_38 c_sheaflaw10_FlowGroups_39)
@[go_sem] theorem c_sheaflaw10_FlowGroups_40_at (rd : Option Nat) (K : Post3) (t : Fr) (m : Mem) : wpM E 8 133 rd c_sheaflaw10_FlowGroups_40 K t m = wpM E 8 133 rd (.seq c_sheaflaw10_FlowGroups_38 c_sheaflaw10_FlowGroups_39) K t m := rfl

def c_sheaflaw10_FlowGroups_41 : MC := (.seq c_sheaflaw10_FlowGroups_28 c_sheaflaw10_FlowGroups_40)
@[go_sem] theorem c_sheaflaw10_FlowGroups_41_at (rd : Option Nat) (K : Post3) (t : Fr) (m : Mem) : wpM E 8 133 rd c_sheaflaw10_FlowGroups_41 K t m = wpM E 8 133 rd (.seq c_sheaflaw10_FlowGroups_28 c_sheaflaw10_FlowGroups_40) K t m := rfl

def c_sheaflaw10_FlowGroups_42 : MC := (.seq c_sheaflaw10_FlowGroups_25 c_sheaflaw10_FlowGroups_41)
@[go_sem] theorem c_sheaflaw10_FlowGroups_42_at (rd : Option Nat) (K : Post3) (t : Fr) (m : Mem) : wpM E 8 133 rd c_sheaflaw10_FlowGroups_42 K t m = wpM E 8 133 rd (.seq c_sheaflaw10_FlowGroups_25 c_sheaflaw10_FlowGroups_41) K t m := rfl

def c_sheaflaw10_FlowGroups_43 : MC := (.seq (.ops [⟨(some 9), .assign (.const (.slice none 0 0)), none⟩]) c_sheaflaw10_FlowGroups_42)
@[go_sem] theorem c_sheaflaw10_FlowGroups_43_at (rd : Option Nat) (K : Post3) (t : Fr) (m : Mem) : wpM E 8 133 rd c_sheaflaw10_FlowGroups_43 K t m = wpM E 8 133 rd (.seq (.ops [⟨(some 9), .assign (.const (.slice none 0 0)), none⟩]) c_sheaflaw10_FlowGroups_42) K t m := rfl

def c_sheaflaw10_FlowGroups_44 : MC := (.seq (.ops [⟨(some 23), .move (.tmp 5), none⟩,
    ⟨(some 24), .call ⟨.value (.func 24), #[(.tmp 23)], #[23]⟩, none⟩,
    ⟨(some 25), .move (.tmp 7), none⟩,
    ⟨(some 26), .call ⟨.value (.func 23), #[(.tmp 24), (.tmp 25)], #[38, 34]⟩, none⟩,
    ⟨(some 27), .call ⟨.value (.func 22), #[(.tmp 26)], #[26]⟩, none⟩,
    ⟨(some 8), .assign (.tmp 27), none⟩]) c_sheaflaw10_FlowGroups_43)
@[go_sem] theorem c_sheaflaw10_FlowGroups_44_at (rd : Option Nat) (K : Post3) (t : Fr) (m : Mem) : wpM E 8 133 rd c_sheaflaw10_FlowGroups_44 K t m = wpM E 8 133 rd (.seq (.ops [⟨(some 23), .move (.tmp 5), none⟩,
    ⟨(some 24), .call ⟨.value (.func 24), #[(.tmp 23)], #[23]⟩, none⟩,
    ⟨(some 25), .move (.tmp 7), none⟩,
    ⟨(some 26), .call ⟨.value (.func 23), #[(.tmp 24), (.tmp 25)], #[38, 34]⟩, none⟩,
    ⟨(some 27), .call ⟨.value (.func 22), #[(.tmp 26)], #[26]⟩, none⟩,
    ⟨(some 8), .assign (.tmp 27), none⟩]) c_sheaflaw10_FlowGroups_43) K t m := rfl

def c_sheaflaw10_FlowGroups_45 : MC := (.seq (.ops [⟨(some 22), .makeFunc (.func 28) #[] #[(.tmp 6)], none⟩,
    ⟨(some 7), .assign (.tmp 22), none⟩]) c_sheaflaw10_FlowGroups_44)
@[go_sem] theorem c_sheaflaw10_FlowGroups_45_at (rd : Option Nat) (K : Post3) (t : Fr) (m : Mem) : wpM E 8 133 rd c_sheaflaw10_FlowGroups_45 K t m = wpM E 8 133 rd (.seq (.ops [⟨(some 22), .makeFunc (.func 28) #[] #[(.tmp 6)], none⟩,
    ⟨(some 7), .assign (.tmp 22), none⟩]) c_sheaflaw10_FlowGroups_44) K t m := rfl

def c_sheaflaw10_FlowGroups_46 : MC := (.seq (.ops [⟨(some 20), .move (.tmp 1), none⟩,
    ⟨(some 21), .call ⟨.value (.func 21), #[(.tmp 20), (.const (.int .i64 1)), (.const (.int .i64 4))], #[3, 3, 3]⟩, none⟩,
    ⟨(some 6), .alloc 3, none⟩,
    ⟨none, .store 3 (.tmp 6) (.tmp 21), none⟩]) c_sheaflaw10_FlowGroups_45)
@[go_sem] theorem c_sheaflaw10_FlowGroups_46_at (rd : Option Nat) (K : Post3) (t : Fr) (m : Mem) : wpM E 8 133 rd c_sheaflaw10_FlowGroups_46 K t m = wpM E 8 133 rd (.seq (.ops [⟨(some 20), .move (.tmp 1), none⟩,
    ⟨(some 21), .call ⟨.value (.func 21), #[(.tmp 20), (.const (.int .i64 1)), (.const (.int .i64 4))], #[3, 3, 3]⟩, none⟩,
    ⟨(some 6), .alloc 3, none⟩,
    ⟨none, .store 3 (.tmp 6) (.tmp 21), none⟩]) c_sheaflaw10_FlowGroups_45) K t m := rfl

def c_sheaflaw10_FlowGroups_47 : MC := (.seq (.ops [⟨(some 15), .move (.tmp 0), none⟩,
    ⟨(some 16), .move (.tmp 0), none⟩,
    ⟨(some 17), .call ⟨.builtin .len, #[(.tmp 16)], #[23]⟩, none⟩,
    ⟨(some 18), .call ⟨.builtin .min, #[(.tmp 17), (.const (.int .i64 40))], #[3, 3]⟩, none⟩,
    ⟨(some 19), .slice 23 (.tmp 15) none (some (.tmp 18)) none, none⟩,
    ⟨(some 5), .assign (.tmp 19), none⟩]) c_sheaflaw10_FlowGroups_46)
@[go_sem] theorem c_sheaflaw10_FlowGroups_47_at (rd : Option Nat) (K : Post3) (t : Fr) (m : Mem) : wpM E 8 133 rd c_sheaflaw10_FlowGroups_47 K t m = wpM E 8 133 rd (.seq (.ops [⟨(some 15), .move (.tmp 0), none⟩,
    ⟨(some 16), .move (.tmp 0), none⟩,
    ⟨(some 17), .call ⟨.builtin .len, #[(.tmp 16)], #[23]⟩, none⟩,
    ⟨(some 18), .call ⟨.builtin .min, #[(.tmp 17), (.const (.int .i64 40))], #[3, 3]⟩, none⟩,
    ⟨(some 19), .slice 23 (.tmp 15) none (some (.tmp 18)) none, none⟩,
    ⟨(some 5), .assign (.tmp 19), none⟩]) c_sheaflaw10_FlowGroups_46) K t m := rfl

def c_sheaflaw10_FlowGroups_48 : MC := (.seq (.ops [⟨(some 4), .assign (.const (.bool false)), none⟩]) c_sheaflaw10_FlowGroups_47)
@[go_sem] theorem c_sheaflaw10_FlowGroups_48_at (rd : Option Nat) (K : Post3) (t : Fr) (m : Mem) : wpM E 8 133 rd c_sheaflaw10_FlowGroups_48 K t m = wpM E 8 133 rd (.seq (.ops [⟨(some 4), .assign (.const (.bool false)), none⟩]) c_sheaflaw10_FlowGroups_47) K t m := rfl

@[go_sem] theorem some8 : (E.fn 8).isSome = true := by kernel_rfl
set_option maxRecDepth 100000 in
theorem fn_sheaflaw10_FlowGroups : FnIs E 8 133 [.tmp 4] c_sheaflaw10_FlowGroups_48 := ⟨by kernel_rfl, by kernel_rfl⟩

/-! sheaf/sheaflaw10.FlowJoins -/
abbrev F_sheaflaw10_FlowJoins : FuncId := 9
def c_sheaflaw10_FlowJoins_0 : MC := (.cond (.tmp 24) .skip (.exit 0))
@[go_sem] theorem c_sheaflaw10_FlowJoins_0_at (rd : Option Nat) (K : Post3) (t : Fr) (m : Mem) : wpM E 9 104 rd c_sheaflaw10_FlowJoins_0 K t m = wpM E 9 104 rd (.cond (.tmp 24) .skip (.exit 0)) K t m := rfl

def c_sheaflaw10_FlowJoins_1 : MC := (.seq (.ops [⟨(some 17), .move (.tmp 9), none⟩,
    ⟨(some 18), .move (.tmp 0), none⟩,
    ⟨(some 19), .call ⟨.builtin .len, #[(.tmp 18)], #[23]⟩, none⟩,
    ⟨(some 20), .binOp .lss 3 (.tmp 17) (.tmp 19) 3, none⟩,
    ⟨(some 21), .move (.tmp 20), none⟩,
    ⟨(some 22), .move (.tmp 9), (some (some 21, true))⟩,
    ⟨(some 23), .binOp .lss 3 (.tmp 22) (.const (.int .i64 25)) 3, (some (some 21, true))⟩,
    ⟨(some 24), .pick (.tmp 21) (.tmp 23) (.const (.bool false)), none⟩]) c_sheaflaw10_FlowJoins_0)
@[go_sem] theorem c_sheaflaw10_FlowJoins_1_at (rd : Option Nat) (K : Post3) (t : Fr) (m : Mem) : wpM E 9 104 rd c_sheaflaw10_FlowJoins_1 K t m = wpM E 9 104 rd (.seq (.ops [⟨(some 17), .move (.tmp 9), none⟩,
    ⟨(some 18), .move (.tmp 0), none⟩,
    ⟨(some 19), .call ⟨.builtin .len, #[(.tmp 18)], #[23]⟩, none⟩,
    ⟨(some 20), .binOp .lss 3 (.tmp 17) (.tmp 19) 3, none⟩,
    ⟨(some 21), .move (.tmp 20), none⟩,
    ⟨(some 22), .move (.tmp 9), (some (some 21, true))⟩,
    ⟨(some 23), .binOp .lss 3 (.tmp 22) (.const (.int .i64 25)) 3, (some (some 21, true))⟩,
    ⟨(some 24), .pick (.tmp 21) (.tmp 23) (.const (.bool false)), none⟩]) c_sheaflaw10_FlowJoins_0) K t m := rfl

def c_sheaflaw10_FlowJoins_2 : MC := (.seq (.ops [⟨(some 27), .move (.tmp 7), none⟩,
    ⟨(some 28), .move (.tmp 0), none⟩,
    ⟨(some 29), .move (.tmp 9), none⟩,
    ⟨(some 30), .indexAddr 23 (.tmp 28) (.tmp 29), none⟩,
    ⟨(some 31), .load 3 (.tmp 30), none⟩,
    ⟨(some 32), .call ⟨.value (.func 21), #[(.tmp 31), (.const (.int .i64 0)), (.const (.int .i64 3))], #[3, 3, 3]⟩, none⟩,
    ⟨(some 33), .binOp .add 3 (.tmp 27) (.tmp 32) 3, none⟩,
    ⟨(some 7), .assign (.tmp 33), none⟩]) (.ops [⟨(some 34), .move (.tmp 5), none⟩,
    ⟨(some 35), .move (.tmp 7), none⟩,
    ⟨(some 36), .buildSlice 23 1 #[(0, (.tmp 35))], none⟩,
    ⟨(some 37), .call ⟨.builtin .append, #[(.tmp 34), (.tmp 36)], #[23, 23]⟩, none⟩,
    ⟨(some 5), .assign (.tmp 37), none⟩]))
@[go_sem] theorem c_sheaflaw10_FlowJoins_2_at (rd : Option Nat) (K : Post3) (t : Fr) (m : Mem) : wpM E 9 104 rd c_sheaflaw10_FlowJoins_2 K t m = wpM E 9 104 rd (.seq (.ops [⟨(some 27), .move (.tmp 7), none⟩,
    ⟨(some 28), .move (.tmp 0), none⟩,
    ⟨(some 29), .move (.tmp 9), none⟩,
    ⟨(some 30), .indexAddr 23 (.tmp 28) (.tmp 29), none⟩,
    ⟨(some 31), .load 3 (.tmp 30), none⟩,
    ⟨(some 32), .call ⟨.value (.func 21), #[(.tmp 31), (.const (.int .i64 0)), (.const (.int .i64 3))], #[3, 3, 3]⟩, none⟩,
    ⟨(some 33), .binOp .add 3 (.tmp 27) (.tmp 32) 3, none⟩,
    ⟨(some 7), .assign (.tmp 33), none⟩]) (.ops [⟨(some 34), .move (.tmp 5), none⟩,
    ⟨(some 35), .move (.tmp 7), none⟩,
    ⟨(some 36), .buildSlice 23 1 #[(0, (.tmp 35))], none⟩,
    ⟨(some 37), .call ⟨.builtin .append, #[(.tmp 34), (.tmp 36)], #[23, 23]⟩, none⟩,
    ⟨(some 5), .assign (.tmp 37), none⟩])) K t m := rfl

def c_sheaflaw10_FlowJoins_3 : MC := (.block 1 c_sheaflaw10_FlowJoins_2)
@[go_sem] theorem c_sheaflaw10_FlowJoins_3_at (rd : Option Nat) (K : Post3) (t : Fr) (m : Mem) : wpM E 9 104 rd c_sheaflaw10_FlowJoins_3 K t m = wpM E 9 104 rd (.block 1 c_sheaflaw10_FlowJoins_2) K t m := rfl

def c_sheaflaw10_FlowJoins_4 : MC := (.seq c_sheaflaw10_FlowJoins_3 (.ops [⟨(some 25), .move (.tmp 9), none⟩,
    ⟨(some 26), .binOp .add 3 (.tmp 25) (.const (.int .i64 1)) 3, none⟩,
    ⟨(some 9), .assign (.tmp 26), none⟩]))
@[go_sem] theorem c_sheaflaw10_FlowJoins_4_at (rd : Option Nat) (K : Post3) (t : Fr) (m : Mem) : wpM E 9 104 rd c_sheaflaw10_FlowJoins_4 K t m = wpM E 9 104 rd (.seq c_sheaflaw10_FlowJoins_3 (.ops [⟨(some 25), .move (.tmp 9), none⟩,
    ⟨(some 26), .binOp .add 3 (.tmp 25) (.const (.int .i64 1)) 3, none⟩,
    ⟨(some 9), .assign (.tmp 26), none⟩])) K t m := rfl

def c_sheaflaw10_FlowJoins_5 : MC := (.seq c_sheaflaw10_FlowJoins_1 c_sheaflaw10_FlowJoins_4)
@[go_sem] theorem c_sheaflaw10_FlowJoins_5_at (rd : Option Nat) (K : Post3) (t : Fr) (m : Mem) : wpM E 9 104 rd c_sheaflaw10_FlowJoins_5 K t m = wpM E 9 104 rd (.seq c_sheaflaw10_FlowJoins_1 c_sheaflaw10_FlowJoins_4) K t m := rfl

def c_sheaflaw10_FlowJoins_6 : MC := (.loop c_sheaflaw10_FlowJoins_5)
theorem c_sheaflaw10_FlowJoins_6_at (rd : Option Nat) (K : Post3) (t : Fr) (m : Mem) : wpM E 9 104 rd c_sheaflaw10_FlowJoins_6 K t m = wpM E 9 104 rd (.loop c_sheaflaw10_FlowJoins_5) K t m := rfl

def c_sheaflaw10_FlowJoins_7 : MC := (.block 0 c_sheaflaw10_FlowJoins_6)
theorem c_sheaflaw10_FlowJoins_7_at (rd : Option Nat) (K : Post3) (t : Fr) (m : Mem) : wpM E 9 104 rd c_sheaflaw10_FlowJoins_7 K t m = wpM E 9 104 rd (.block 0 c_sheaflaw10_FlowJoins_6) K t m := rfl

def c_sheaflaw10_FlowJoins_8 : MC := (.seq (.ops [⟨(some 9), .assign (.const (.int .i64 0)), none⟩]) c_sheaflaw10_FlowJoins_7)
@[go_sem] theorem c_sheaflaw10_FlowJoins_8_at (rd : Option Nat) (K : Post3) (t : Fr) (m : Mem) : wpM E 9 104 rd c_sheaflaw10_FlowJoins_8 K t m = wpM E 9 104 rd (.seq (.ops [⟨(some 9), .assign (.const (.int .i64 0)), none⟩]) c_sheaflaw10_FlowJoins_7) K t m := rfl

def c_sheaflaw10_FlowJoins_9 : MC := (.cond (.tmp 45) .skip (.exit 2))
@[go_sem] theorem c_sheaflaw10_FlowJoins_9_at (rd : Option Nat) (K : Post3) (t : Fr) (m : Mem) : wpM E 9 104 rd c_sheaflaw10_FlowJoins_9 K t m = wpM E 9 104 rd (.cond (.tmp 45) .skip (.exit 2)) K t m := rfl

def c_sheaflaw10_FlowJoins_10 : MC := (.seq (.ops [⟨(some 38), .move (.tmp 10), none⟩,
    ⟨(some 39), .move (.tmp 1), none⟩,
    ⟨(some 40), .call ⟨.builtin .len, #[(.tmp 39)], #[23]⟩, none⟩,
    ⟨(some 41), .binOp .lss 3 (.tmp 38) (.tmp 40) 3, none⟩,
    ⟨(some 42), .move (.tmp 41), none⟩,
    ⟨(some 43), .move (.tmp 10), (some (some 42, true))⟩,
    ⟨(some 44), .binOp .lss 3 (.tmp 43) (.const (.int .i64 25)) 3, (some (some 42, true))⟩,
    ⟨(some 45), .pick (.tmp 42) (.tmp 44) (.const (.bool false)), none⟩]) c_sheaflaw10_FlowJoins_9)
@[go_sem] theorem c_sheaflaw10_FlowJoins_10_at (rd : Option Nat) (K : Post3) (t : Fr) (m : Mem) : wpM E 9 104 rd c_sheaflaw10_FlowJoins_10 K t m = wpM E 9 104 rd (.seq (.ops [⟨(some 38), .move (.tmp 10), none⟩,
    ⟨(some 39), .move (.tmp 1), none⟩,
    ⟨(some 40), .call ⟨.builtin .len, #[(.tmp 39)], #[23]⟩, none⟩,
    ⟨(some 41), .binOp .lss 3 (.tmp 38) (.tmp 40) 3, none⟩,
    ⟨(some 42), .move (.tmp 41), none⟩,
    ⟨(some 43), .move (.tmp 10), (some (some 42, true))⟩,
    ⟨(some 44), .binOp .lss 3 (.tmp 43) (.const (.int .i64 25)) 3, (some (some 42, true))⟩,
    ⟨(some 45), .pick (.tmp 42) (.tmp 44) (.const (.bool false)), none⟩]) c_sheaflaw10_FlowJoins_9) K t m := rfl

def c_sheaflaw10_FlowJoins_11 : MC := (.seq (.ops [⟨(some 48), .move (.tmp 8), none⟩,
    ⟨(some 49), .move (.tmp 1), none⟩,
    ⟨(some 50), .move (.tmp 10), none⟩,
    ⟨(some 51), .indexAddr 23 (.tmp 49) (.tmp 50), none⟩,
    ⟨(some 52), .load 3 (.tmp 51), none⟩,
    ⟨(some 53), .call ⟨.value (.func 21), #[(.tmp 52), (.const (.int .i64 1)), (.const (.int .i64 3))], #[3, 3, 3]⟩, none⟩,
    ⟨(some 54), .binOp .add 3 (.tmp 48) (.tmp 53) 3, none⟩,
    ⟨(some 8), .assign (.tmp 54), none⟩]) (.ops [⟨(some 55), .move (.tmp 6), none⟩,
    ⟨(some 56), .move (.tmp 8), none⟩,
    ⟨(some 57), .buildSlice 23 1 #[(0, (.tmp 56))], none⟩,
    ⟨(some 58), .call ⟨.builtin .append, #[(.tmp 55), (.tmp 57)], #[23, 23]⟩, none⟩,
    ⟨(some 6), .assign (.tmp 58), none⟩]))
@[go_sem] theorem c_sheaflaw10_FlowJoins_11_at (rd : Option Nat) (K : Post3) (t : Fr) (m : Mem) : wpM E 9 104 rd c_sheaflaw10_FlowJoins_11 K t m = wpM E 9 104 rd (.seq (.ops [⟨(some 48), .move (.tmp 8), none⟩,
    ⟨(some 49), .move (.tmp 1), none⟩,
    ⟨(some 50), .move (.tmp 10), none⟩,
    ⟨(some 51), .indexAddr 23 (.tmp 49) (.tmp 50), none⟩,
    ⟨(some 52), .load 3 (.tmp 51), none⟩,
    ⟨(some 53), .call ⟨.value (.func 21), #[(.tmp 52), (.const (.int .i64 1)), (.const (.int .i64 3))], #[3, 3, 3]⟩, none⟩,
    ⟨(some 54), .binOp .add 3 (.tmp 48) (.tmp 53) 3, none⟩,
    ⟨(some 8), .assign (.tmp 54), none⟩]) (.ops [⟨(some 55), .move (.tmp 6), none⟩,
    ⟨(some 56), .move (.tmp 8), none⟩,
    ⟨(some 57), .buildSlice 23 1 #[(0, (.tmp 56))], none⟩,
    ⟨(some 58), .call ⟨.builtin .append, #[(.tmp 55), (.tmp 57)], #[23, 23]⟩, none⟩,
    ⟨(some 6), .assign (.tmp 58), none⟩])) K t m := rfl

def c_sheaflaw10_FlowJoins_12 : MC := (.block 3 c_sheaflaw10_FlowJoins_11)
@[go_sem] theorem c_sheaflaw10_FlowJoins_12_at (rd : Option Nat) (K : Post3) (t : Fr) (m : Mem) : wpM E 9 104 rd c_sheaflaw10_FlowJoins_12 K t m = wpM E 9 104 rd (.block 3 c_sheaflaw10_FlowJoins_11) K t m := rfl

def c_sheaflaw10_FlowJoins_13 : MC := (.seq c_sheaflaw10_FlowJoins_12 (.ops [⟨(some 46), .move (.tmp 10), none⟩,
    ⟨(some 47), .binOp .add 3 (.tmp 46) (.const (.int .i64 1)) 3, none⟩,
    ⟨(some 10), .assign (.tmp 47), none⟩]))
@[go_sem] theorem c_sheaflaw10_FlowJoins_13_at (rd : Option Nat) (K : Post3) (t : Fr) (m : Mem) : wpM E 9 104 rd c_sheaflaw10_FlowJoins_13 K t m = wpM E 9 104 rd (.seq c_sheaflaw10_FlowJoins_12 (.ops [⟨(some 46), .move (.tmp 10), none⟩,
    ⟨(some 47), .binOp .add 3 (.tmp 46) (.const (.int .i64 1)) 3, none⟩,
    ⟨(some 10), .assign (.tmp 47), none⟩])) K t m := rfl

def c_sheaflaw10_FlowJoins_14 : MC := (.seq c_sheaflaw10_FlowJoins_10 c_sheaflaw10_FlowJoins_13)
@[go_sem] theorem c_sheaflaw10_FlowJoins_14_at (rd : Option Nat) (K : Post3) (t : Fr) (m : Mem) : wpM E 9 104 rd c_sheaflaw10_FlowJoins_14 K t m = wpM E 9 104 rd (.seq c_sheaflaw10_FlowJoins_10 c_sheaflaw10_FlowJoins_13) K t m := rfl

def c_sheaflaw10_FlowJoins_15 : MC := (.loop c_sheaflaw10_FlowJoins_14)
theorem c_sheaflaw10_FlowJoins_15_at (rd : Option Nat) (K : Post3) (t : Fr) (m : Mem) : wpM E 9 104 rd c_sheaflaw10_FlowJoins_15 K t m = wpM E 9 104 rd (.loop c_sheaflaw10_FlowJoins_14) K t m := rfl

def c_sheaflaw10_FlowJoins_16 : MC := (.block 2 c_sheaflaw10_FlowJoins_15)
theorem c_sheaflaw10_FlowJoins_16_at (rd : Option Nat) (K : Post3) (t : Fr) (m : Mem) : wpM E 9 104 rd c_sheaflaw10_FlowJoins_16 K t m = wpM E 9 104 rd (.block 2 c_sheaflaw10_FlowJoins_15) K t m := rfl

def c_sheaflaw10_FlowJoins_17 : MC := (.seq (.ops [⟨(some 10), .assign (.const (.int .i64 0)), none⟩]) c_sheaflaw10_FlowJoins_16)
@[go_sem] theorem c_sheaflaw10_FlowJoins_17_at (rd : Option Nat) (K : Post3) (t : Fr) (m : Mem) : wpM E 9 104 rd c_sheaflaw10_FlowJoins_17 K t m = wpM E 9 104 rd (.seq (.ops [⟨(some 10), .assign (.const (.int .i64 0)), none⟩]) c_sheaflaw10_FlowJoins_16) K t m := rfl

def c_sheaflaw10_FlowJoins_18 : MC := (.seq (.ops [⟨(some 4), .assign (.const (.bool false)), none⟩]) .ret)
@[go_sem] theorem c_sheaflaw10_FlowJoins_18_at (rd : Option Nat) (K : Post3) (t : Fr) (m : Mem) : wpM E 9 104 rd c_sheaflaw10_FlowJoins_18 K t m = wpM E 9 104 rd (.seq (.ops [⟨(some 4), .assign (.const (.bool false)), none⟩]) .ret) K t m := rfl

def c_sheaflaw10_FlowJoins_19 : MC := (.cond (.tmp 67) c_sheaflaw10_FlowJoins_18 .skip)
@[go_sem] theorem c_sheaflaw10_FlowJoins_19_at (rd : Option Nat) (K : Post3) (t : Fr) (m : Mem) : wpM E 9 104 rd c_sheaflaw10_FlowJoins_19 K t m = wpM E 9 104 rd (.cond (.tmp 67) c_sheaflaw10_FlowJoins_18 .skip) K t m := rfl

def c_sheaflaw10_FlowJoins_20 : MC := (.seq (.ops [⟨(some 62), .move (.tmp 11), none⟩,
    ⟨(some 63), .call ⟨.builtin .len, #[(.tmp 62)], #[23]⟩, none⟩,
    ⟨(some 64), .move (.tmp 5), none⟩,
    ⟨(some 65), .call ⟨.builtin .len, #[(.tmp 64)], #[23]⟩, none⟩,
    ⟨(some 66), .binOp .mul 3 (.const (.int .i64 2)) (.tmp 65) 3, none⟩,
    ⟨(some 67), .binOp .neq 3 (.tmp 63) (.tmp 66) 3, none⟩]) c_sheaflaw10_FlowJoins_19)
@[go_sem] theorem c_sheaflaw10_FlowJoins_20_at (rd : Option Nat) (K : Post3) (t : Fr) (m : Mem) : wpM E 9 104 rd c_sheaflaw10_FlowJoins_20 K t m = wpM E 9 104 rd (.seq (.ops [⟨(some 62), .move (.tmp 11), none⟩,
    ⟨(some 63), .call ⟨.builtin .len, #[(.tmp 62)], #[23]⟩, none⟩,
    ⟨(some 64), .move (.tmp 5), none⟩,
    ⟨(some 65), .call ⟨.builtin .len, #[(.tmp 64)], #[23]⟩, none⟩,
    ⟨(some 66), .binOp .mul 3 (.const (.int .i64 2)) (.tmp 65) 3, none⟩,
    ⟨(some 67), .binOp .neq 3 (.tmp 63) (.tmp 66) 3, none⟩]) c_sheaflaw10_FlowJoins_19) K t m := rfl

def c_sheaflaw10_FlowJoins_21 : MC := (.cond (.tmp 71) .skip (.exit 4))
@[go_sem] theorem c_sheaflaw10_FlowJoins_21_at (rd : Option Nat) (K : Post3) (t : Fr) (m : Mem) : wpM E 9 104 rd c_sheaflaw10_FlowJoins_21 K t m = wpM E 9 104 rd (.cond (.tmp 71) .skip (.exit 4)) K t m := rfl

def c_sheaflaw10_FlowJoins_22 : MC := (.cond (.tmp 78) .skip (.exit 6))
@[go_sem] theorem c_sheaflaw10_FlowJoins_22_at (rd : Option Nat) (K : Post3) (t : Fr) (m : Mem) : wpM E 9 104 rd c_sheaflaw10_FlowJoins_22 K t m = wpM E 9 104 rd (.cond (.tmp 78) .skip (.exit 6)) K t m := rfl

def c_sheaflaw10_FlowJoins_23 : MC := (.cond (.tmp 83) (.ops [⟨(some 14), .assign (.const (.int .i64 1)), none⟩]) .skip)
@[go_sem] theorem c_sheaflaw10_FlowJoins_23_at (rd : Option Nat) (K : Post3) (t : Fr) (m : Mem) : wpM E 9 104 rd c_sheaflaw10_FlowJoins_23 K t m = wpM E 9 104 rd (.cond (.tmp 83) (.ops [⟨(some 14), .assign (.const (.int .i64 1)), none⟩]) .skip) K t m := rfl

def c_sheaflaw10_FlowJoins_24 : MC := (.seq (.ops [⟨(some 81), .move (.tmp 16), none⟩,
    ⟨(some 82), .move (.tmp 13), none⟩,
    ⟨(some 83), .binOp .eql 3 (.tmp 81) (.tmp 82) 3, none⟩]) c_sheaflaw10_FlowJoins_23)
@[go_sem] theorem c_sheaflaw10_FlowJoins_24_at (rd : Option Nat) (K : Post3) (t : Fr) (m : Mem) : wpM E 9 104 rd c_sheaflaw10_FlowJoins_24 K t m = wpM E 9 104 rd (.seq (.ops [⟨(some 81), .move (.tmp 16), none⟩,
    ⟨(some 82), .move (.tmp 13), none⟩,
    ⟨(some 83), .binOp .eql 3 (.tmp 81) (.tmp 82) 3, none⟩]) c_sheaflaw10_FlowJoins_23) K t m := rfl

def c_sheaflaw10_FlowJoins_25 : MC := (.seq (.ops [⟨(some 79), .indexAddr 23 (.tmp 75) (.tmp 77), none⟩,
    ⟨(some 80), .load 3 (.tmp 79), none⟩,
    ⟨(some 16), .assign (.tmp 80), none⟩]) c_sheaflaw10_FlowJoins_24)
@[go_sem] theorem c_sheaflaw10_FlowJoins_25_at (rd : Option Nat) (K : Post3) (t : Fr) (m : Mem) : wpM E 9 104 rd c_sheaflaw10_FlowJoins_25 K t m = wpM E 9 104 rd (.seq (.ops [⟨(some 79), .indexAddr 23 (.tmp 75) (.tmp 77), none⟩,
    ⟨(some 80), .load 3 (.tmp 79), none⟩,
    ⟨(some 16), .assign (.tmp 80), none⟩]) c_sheaflaw10_FlowJoins_24) K t m := rfl

def c_sheaflaw10_FlowJoins_26 : MC := (.block 7 c_sheaflaw10_FlowJoins_25)
@[go_sem] theorem c_sheaflaw10_FlowJoins_26_at (rd : Option Nat) (K : Post3) (t : Fr) (m : Mem) : wpM E 9 104 rd c_sheaflaw10_FlowJoins_26 K t m = wpM E 9 104 rd (.block 7 c_sheaflaw10_FlowJoins_25) K t m := rfl

def c_sheaflaw10_FlowJoins_27 : MC := (.seq c_sheaflaw10_FlowJoins_26 (.ops [⟨(some 84), .binOp .add 3 (.tmp 77) (.const (.int .i64 1)) 3, none⟩,
    ⟨(some 77), .move (.tmp 84), none⟩]))
@[go_sem] theorem c_sheaflaw10_FlowJoins_27_at (rd : Option Nat) (K : Post3) (t : Fr) (m : Mem) : wpM E 9 104 rd c_sheaflaw10_FlowJoins_27 K t m = wpM E 9 104 rd (.seq c_sheaflaw10_FlowJoins_26 (.ops [⟨(some 84), .binOp .add 3 (.tmp 77) (.const (.int .i64 1)) 3, none⟩,
    ⟨(some 77), .move (.tmp 84), none⟩])) K t m := rfl

def c_sheaflaw10_FlowJoins_28 : MC := (.seq c_sheaflaw10_FlowJoins_22 c_sheaflaw10_FlowJoins_27)
@[go_sem] theorem c_sheaflaw10_FlowJoins_28_at (rd : Option Nat) (K : Post3) (t : Fr) (m : Mem) : wpM E 9 104 rd c_sheaflaw10_FlowJoins_28 K t m = wpM E 9 104 rd (.seq c_sheaflaw10_FlowJoins_22 c_sheaflaw10_FlowJoins_27) K t m := rfl

def c_sheaflaw10_FlowJoins_29 : MC := (.seq (.ops [⟨(some 78), .binOp .lss 3 (.tmp 77) (.tmp 76) 3, none⟩]) c_sheaflaw10_FlowJoins_28)
@[go_sem] theorem c_sheaflaw10_FlowJoins_29_at (rd : Option Nat) (K : Post3) (t : Fr) (m : Mem) : wpM E 9 104 rd c_sheaflaw10_FlowJoins_29 K t m = wpM E 9 104 rd (.seq (.ops [⟨(some 78), .binOp .lss 3 (.tmp 77) (.tmp 76) 3, none⟩]) c_sheaflaw10_FlowJoins_28) K t m := rfl

def c_sheaflaw10_FlowJoins_30 : MC := (.loop c_sheaflaw10_FlowJoins_29)
theorem c_sheaflaw10_FlowJoins_30_at (rd : Option Nat) (K : Post3) (t : Fr) (m : Mem) : wpM E 9 104 rd c_sheaflaw10_FlowJoins_30 K t m = wpM E 9 104 rd (.loop c_sheaflaw10_FlowJoins_29) K t m := rfl

def c_sheaflaw10_FlowJoins_31 : MC := (.block 6 c_sheaflaw10_FlowJoins_30)
theorem c_sheaflaw10_FlowJoins_31_at (rd : Option Nat) (K : Post3) (t : Fr) (m : Mem) : wpM E 9 104 rd c_sheaflaw10_FlowJoins_31 K t m = wpM E 9 104 rd (.block 6 c_sheaflaw10_FlowJoins_30) K t m := rfl

def c_sheaflaw10_FlowJoins_32 : MC := (.seq (.ops [⟨(some 75), .move (.tmp 6), none⟩,
    ⟨(some 76), .call ⟨.builtin .len, #[(.tmp 75)], #[23]⟩, none⟩,
    ⟨(some 77), .move (.const (.int .i64 0)), none⟩]) c_sheaflaw10_FlowJoins_31)
@[go_sem] theorem c_sheaflaw10_FlowJoins_32_at (rd : Option Nat) (K : Post3) (t : Fr) (m : Mem) : wpM E 9 104 rd c_sheaflaw10_FlowJoins_32 K t m = wpM E 9 104 rd (.seq (.ops [⟨(some 75), .move (.tmp 6), none⟩,
    ⟨(some 76), .call ⟨.builtin .len, #[(.tmp 75)], #[23]⟩, none⟩,
    ⟨(some 77), .move (.const (.int .i64 0)), none⟩]) c_sheaflaw10_FlowJoins_31) K t m := rfl

def c_sheaflaw10_FlowJoins_33 : MC := (.seq (.ops [⟨(some 4), .assign (.const (.bool false)), none⟩]) .ret)
@[go_sem] theorem c_sheaflaw10_FlowJoins_33_at (rd : Option Nat) (K : Post3) (t : Fr) (m : Mem) : wpM E 9 104 rd c_sheaflaw10_FlowJoins_33 K t m = wpM E 9 104 rd (.seq (.ops [⟨(some 4), .assign (.const (.bool false)), none⟩]) .ret) K t m := rfl

def c_sheaflaw10_FlowJoins_34 : MC := (.cond (.tmp 101) c_sheaflaw10_FlowJoins_33 .skip)
@[go_sem] theorem c_sheaflaw10_FlowJoins_34_at (rd : Option Nat) (K : Post3) (t : Fr) (m : Mem) : wpM E 9 104 rd c_sheaflaw10_FlowJoins_34 K t m = wpM E 9 104 rd (.cond (.tmp 101) c_sheaflaw10_FlowJoins_33 .skip) K t m := rfl

def c_sheaflaw10_FlowJoins_35 : MC := (.seq (.ops [⟨(some 85), .move (.tmp 11), none⟩,
    ⟨(some 86), .move (.tmp 12), none⟩,
    ⟨(some 87), .binOp .mul 3 (.const (.int .i64 2)) (.tmp 86) 3, none⟩,
    ⟨(some 88), .indexAddr 23 (.tmp 85) (.tmp 87), none⟩,
    ⟨(some 89), .load 3 (.tmp 88), none⟩,
    ⟨(some 90), .move (.tmp 13), none⟩,
    ⟨(some 91), .binOp .neq 3 (.tmp 89) (.tmp 90) 3, none⟩,
    ⟨(some 92), .move (.tmp 91), none⟩,
    ⟨(some 93), .move (.tmp 11), (some (some 92, false))⟩,
    ⟨(some 94), .move (.tmp 12), (some (some 92, false))⟩,
    ⟨(some 95), .binOp .mul 3 (.const (.int .i64 2)) (.tmp 94) 3, (some (some 92, false))⟩,
    ⟨(some 96), .binOp .add 3 (.tmp 95) (.const (.int .i64 1)) 3, (some (some 92, false))⟩,
    ⟨(some 97), .indexAddr 23 (.tmp 93) (.tmp 96), (some (some 92, false))⟩,
    ⟨(some 98), .load 3 (.tmp 97), (some (some 92, false))⟩,
    ⟨(some 99), .move (.tmp 14), (some (some 92, false))⟩,
    ⟨(some 100), .binOp .neq 3 (.tmp 98) (.tmp 99) 3, (some (some 92, false))⟩,
    ⟨(some 101), .pick (.tmp 92) (.const (.bool true)) (.tmp 100), none⟩]) c_sheaflaw10_FlowJoins_34)
@[go_sem] theorem c_sheaflaw10_FlowJoins_35_at (rd : Option Nat) (K : Post3) (t : Fr) (m : Mem) : wpM E 9 104 rd c_sheaflaw10_FlowJoins_35 K t m = wpM E 9 104 rd (.seq (.ops [⟨(some 85), .move (.tmp 11), none⟩,
    ⟨(some 86), .move (.tmp 12), none⟩,
    ⟨(some 87), .binOp .mul 3 (.const (.int .i64 2)) (.tmp 86) 3, none⟩,
    ⟨(some 88), .indexAddr 23 (.tmp 85) (.tmp 87), none⟩,
    ⟨(some 89), .load 3 (.tmp 88), none⟩,
    ⟨(some 90), .move (.tmp 13), none⟩,
    ⟨(some 91), .binOp .neq 3 (.tmp 89) (.tmp 90) 3, none⟩,
    ⟨(some 92), .move (.tmp 91), none⟩,
    ⟨(some 93), .move (.tmp 11), (some (some 92, false))⟩,
    ⟨(some 94), .move (.tmp 12), (some (some 92, false))⟩,
    ⟨(some 95), .binOp .mul 3 (.const (.int .i64 2)) (.tmp 94) 3, (some (some 92, false))⟩,
    ⟨(some 96), .binOp .add 3 (.tmp 95) (.const (.int .i64 1)) 3, (some (some 92, false))⟩,
    ⟨(some 97), .indexAddr 23 (.tmp 93) (.tmp 96), (some (some 92, false))⟩,
    ⟨(some 98), .load 3 (.tmp 97), (some (some 92, false))⟩,
    ⟨(some 99), .move (.tmp 14), (some (some 92, false))⟩,
    ⟨(some 100), .binOp .neq 3 (.tmp 98) (.tmp 99) 3, (some (some 92, false))⟩,
    ⟨(some 101), .pick (.tmp 92) (.const (.bool true)) (.tmp 100), none⟩]) c_sheaflaw10_FlowJoins_34) K t m := rfl

def c_sheaflaw10_FlowJoins_36 : MC := (.seq c_sheaflaw10_FlowJoins_32 c_sheaflaw10_FlowJoins_35)
@[go_sem] theorem c_sheaflaw10_FlowJoins_36_at (rd : Option Nat) (K : Post3) (t : Fr) (m : Mem) : wpM E 9 104 rd c_sheaflaw10_FlowJoins_36 K t m = wpM E 9 104 rd (.seq c_sheaflaw10_FlowJoins_32 c_sheaflaw10_FlowJoins_35) K t m := rfl

def c_sheaflaw10_FlowJoins_37 : MC := (.seq (.ops [⟨(some 14), .assign (.const (.int .i64 0)), none⟩]) c_sheaflaw10_FlowJoins_36)
@[go_sem] theorem c_sheaflaw10_FlowJoins_37_at (rd : Option Nat) (K : Post3) (t : Fr) (m : Mem) : wpM E 9 104 rd c_sheaflaw10_FlowJoins_37 K t m = wpM E 9 104 rd (.seq (.ops [⟨(some 14), .assign (.const (.int .i64 0)), none⟩]) c_sheaflaw10_FlowJoins_36) K t m := rfl

def c_sheaflaw10_FlowJoins_38 : MC := (.seq (.ops [⟨(some 72), .move (.tmp 70), none⟩,
    ⟨(some 73), .indexAddr 23 (.tmp 68) (.tmp 70), none⟩,
    ⟨(some 74), .load 3 (.tmp 73), none⟩,
    ⟨(some 12), .assign (.tmp 72), none⟩,
    ⟨(some 13), .assign (.tmp 74), none⟩]) c_sheaflaw10_FlowJoins_37)
@[go_sem] theorem c_sheaflaw10_FlowJoins_38_at (rd : Option Nat) (K : Post3) (t : Fr) (m : Mem) : wpM E 9 104 rd c_sheaflaw10_FlowJoins_38 K t m = wpM E 9 104 rd (.seq (.ops [⟨(some 72), .move (.tmp 70), none⟩,
    ⟨(some 73), .indexAddr 23 (.tmp 68) (.tmp 70), none⟩,
    ⟨(some 74), .load 3 (.tmp 73), none⟩,
    ⟨(some 12), .assign (.tmp 72), none⟩,
    ⟨(some 13), .assign (.tmp 74), none⟩]) c_sheaflaw10_FlowJoins_37) K t m := rfl

def c_sheaflaw10_FlowJoins_39 : MC := (.block 5 c_sheaflaw10_FlowJoins_38)
@[go_sem] theorem c_sheaflaw10_FlowJoins_39_at (rd : Option Nat) (K : Post3) (t : Fr) (m : Mem) : wpM E 9 104 rd c_sheaflaw10_FlowJoins_39 K t m = wpM E 9 104 rd (.block 5 c_sheaflaw10_FlowJoins_38) K t m := rfl

def c_sheaflaw10_FlowJoins_40 : MC := (.seq c_sheaflaw10_FlowJoins_39 (.ops [⟨(some 102), .binOp .add 3 (.tmp 70) (.const (.int .i64 1)) 3, none⟩,
    ⟨(some 70), .move (.tmp 102), none⟩]))
@[go_sem] theorem c_sheaflaw10_FlowJoins_40_at (rd : Option Nat) (K : Post3) (t : Fr) (m : Mem) : wpM E 9 104 rd c_sheaflaw10_FlowJoins_40 K t m = wpM E 9 104 rd (.seq c_sheaflaw10_FlowJoins_39 (.ops [⟨(some 102), .binOp .add 3 (.tmp 70) (.const (.int .i64 1)) 3, none⟩,
    ⟨(some 70), .move (.tmp 102), none⟩])) K t m := rfl

def c_sheaflaw10_FlowJoins_41 : MC := (.seq c_sheaflaw10_FlowJoins_21 c_sheaflaw10_FlowJoins_40)
@[go_sem] theorem c_sheaflaw10_FlowJoins_41_at (rd : Option Nat) (K : Post3) (t : Fr) (m : Mem) : wpM E 9 104 rd c_sheaflaw10_FlowJoins_41 K t m = wpM E 9 104 rd (.seq c_sheaflaw10_FlowJoins_21 c_sheaflaw10_FlowJoins_40) K t m := rfl

def c_sheaflaw10_FlowJoins_42 : MC := (.seq (.ops [⟨(some 71), .binOp .lss 3 (.tmp 70) (.tmp 69) 3, none⟩]) c_sheaflaw10_FlowJoins_41)
@[go_sem] theorem c_sheaflaw10_FlowJoins_42_at (rd : Option Nat) (K : Post3) (t : Fr) (m : Mem) : wpM E 9 104 rd c_sheaflaw10_FlowJoins_42 K t m = wpM E 9 104 rd (.seq (.ops [⟨(some 71), .binOp .lss 3 (.tmp 70) (.tmp 69) 3, none⟩]) c_sheaflaw10_FlowJoins_41) K t m := rfl

def c_sheaflaw10_FlowJoins_43 : MC := (.loop c_sheaflaw10_FlowJoins_42)
theorem c_sheaflaw10_FlowJoins_43_at (rd : Option Nat) (K : Post3) (t : Fr) (m : Mem) : wpM E 9 104 rd c_sheaflaw10_FlowJoins_43 K t m = wpM E 9 104 rd (.loop c_sheaflaw10_FlowJoins_42) K t m := rfl

def c_sheaflaw10_FlowJoins_44 : MC := (.block 4 c_sheaflaw10_FlowJoins_43)
theorem c_sheaflaw10_FlowJoins_44_at (rd : Option Nat) (K : Post3) (t : Fr) (m : Mem) : wpM E 9 104 rd c_sheaflaw10_FlowJoins_44 K t m = wpM E 9 104 rd (.block 4 c_sheaflaw10_FlowJoins_43) K t m := rfl

def c_sheaflaw10_FlowJoins_45 : MC := (.seq (.ops [⟨(some 68), .move (.tmp 5), none⟩,
    ⟨(some 69), .call ⟨.builtin .len, #[(.tmp 68)], #[23]⟩, none⟩,
    ⟨(some 70), .move (.const (.int .i64 0)), none⟩]) c_sheaflaw10_FlowJoins_44)
@[go_sem] theorem c_sheaflaw10_FlowJoins_45_at (rd : Option Nat) (K : Post3) (t : Fr) (m : Mem) : wpM E 9 104 rd c_sheaflaw10_FlowJoins_45 K t m = wpM E 9 104 rd (.seq (.ops [⟨(some 68), .move (.tmp 5), none⟩,
    ⟨(some 69), .call ⟨.builtin .len, #[(.tmp 68)], #[23]⟩, none⟩,
    ⟨(some 70), .move (.const (.int .i64 0)), none⟩]) c_sheaflaw10_FlowJoins_44) K t m := rfl

def c_sheaflaw10_FlowJoins_46 : MC := (.seq (.ops [⟨(some 103), .call ⟨.value (.func 7), #[], #[]⟩, none⟩,
    ⟨(some 4), .assign (.tmp 103), none⟩]) .ret)
@[go_sem] theorem c_sheaflaw10_FlowJoins_46_at (rd : Option Nat) (K : Post3) (t : Fr) (m : Mem) : wpM E 9 104 rd c_sheaflaw10_FlowJoins_46 K t m = wpM E 9 104 rd (.seq (.ops [⟨(some 103), .call ⟨.value (.func 7), #[], #[]⟩, none⟩,
    ⟨(some 4), .assign (.tmp 103), none⟩]) .ret) K t m := rfl

def c_sheaflaw10_FlowJoins_47 : MC := (.seq c_sheaflaw10_FlowJoins_45 c_sheaflaw10_FlowJoins_46)
@[go_sem] theorem c_sheaflaw10_FlowJoins_47_at (rd : Option Nat) (K : Post3) (t : Fr) (m : Mem) : wpM E 9 104 rd c_sheaflaw10_FlowJoins_47 K t m = wpM E 9 104 rd (.seq c_sheaflaw10_FlowJoins_45 c_sheaflaw10_FlowJoins_46) K t m := rfl

def c_sheaflaw10_FlowJoins_48 : MC := (.seq c_sheaflaw10_FlowJoins_20 c_sheaflaw10_FlowJoins_47)
@[go_sem] theorem c_sheaflaw10_FlowJoins_48_at (rd : Option Nat) (K : Post3) (t : Fr) (m : Mem) : wpM E 9 104 rd c_sheaflaw10_FlowJoins_48 K t m = wpM E 9 104 rd (.seq c_sheaflaw10_FlowJoins_20 c_sheaflaw10_FlowJoins_47) K t m := rfl

def c_sheaflaw10_FlowJoins_49 : MC := (.seq (.ops [⟨(some 59), .move (.tmp 5), none⟩,
    ⟨(some 60), .move (.tmp 6), none⟩,
    ⟨(some 61), .call ⟨.value (.func 27), #[(.tmp 59), (.tmp 60)], #[23, 23]⟩, none⟩,
    ⟨(some 11), .assign (.tmp 61), none⟩]) c_sheaflaw10_FlowJoins_48)
@[go_sem] theorem c_sheaflaw10_FlowJoins_49_at (rd : Option Nat) (K : Post3) (t : Fr) (m : Mem) : wpM E 9 104 rd c_sheaflaw10_FlowJoins_49 K t m = wpM E 9 104 rd (.seq (.ops [⟨(some 59), .move (.tmp 5), none⟩,
    ⟨(some 60), .move (.tmp 6), none⟩,
    ⟨(some 61), .call ⟨.value (.func 27), #[(.tmp 59), (.tmp 60)], #[23, 23]⟩, none⟩,
    ⟨(some 11), .assign (.tmp 61), none⟩]) c_sheaflaw10_FlowJoins_48) K t m := rfl

def c_sheaflaw10_FlowJoins_50 : MC := (.seq c_sheaflaw10_FlowJoins_17 c_sheaflaw10_FlowJoins_49)
@[go_sem] theorem c_sheaflaw10_FlowJoins_50_at (rd : Option Nat) (K : Post3) (t : Fr) (m : Mem) : wpM E 9 104 rd c_sheaflaw10_FlowJoins_50 K t m = wpM E 9 104 rd (.seq c_sheaflaw10_FlowJoins_17 c_sheaflaw10_FlowJoins_49) K t m := rfl

def c_sheaflaw10_FlowJoins_51 : MC := (.seq c_sheaflaw10_FlowJoins_8 c_sheaflaw10_FlowJoins_50)
@[go_sem] theorem c_sheaflaw10_FlowJoins_51_at (rd : Option Nat) (K : Post3) (t : Fr) (m : Mem) : wpM E 9 104 rd c_sheaflaw10_FlowJoins_51 K t m = wpM E 9 104 rd (.seq c_sheaflaw10_FlowJoins_8 c_sheaflaw10_FlowJoins_50) K t m := rfl

def c_sheaflaw10_FlowJoins_52 : MC := (.seq (.ops [⟨(some 7), .assign (.const (.int .i64 0)), none⟩,
    ⟨(some 8), .assign (.const (.int .i64 0)), none⟩]) c_sheaflaw10_FlowJoins_51)
@[go_sem] theorem c_sheaflaw10_FlowJoins_52_at (rd : Option Nat) (K : Post3) (t : Fr) (m : Mem) : wpM E 9 104 rd c_sheaflaw10_FlowJoins_52 K t m = wpM E 9 104 rd (.seq (.ops [⟨(some 7), .assign (.const (.int .i64 0)), none⟩,
    ⟨(some 8), .assign (.const (.int .i64 0)), none⟩]) c_sheaflaw10_FlowJoins_51) K t m := rfl

def c_sheaflaw10_FlowJoins_53 : MC := (.seq (.ops [⟨(some 5), .assign (.const (.slice none 0 0)), none⟩,
    ⟨(some 6), .assign (.const (.slice none 0 0)), none⟩]) c_sheaflaw10_FlowJoins_52)
@[go_sem] theorem c_sheaflaw10_FlowJoins_53_at (rd : Option Nat) (K : Post3) (t : Fr) (m : Mem) : wpM E 9 104 rd c_sheaflaw10_FlowJoins_53 K t m = wpM E 9 104 rd (.seq (.ops [⟨(some 5), .assign (.const (.slice none 0 0)), none⟩,
    ⟨(some 6), .assign (.const (.slice none 0 0)), none⟩]) c_sheaflaw10_FlowJoins_52) K t m := rfl

def c_sheaflaw10_FlowJoins_54 : MC := (.seq (.ops [⟨(some 4), .assign (.const (.bool false)), none⟩]) c_sheaflaw10_FlowJoins_53)
@[go_sem] theorem c_sheaflaw10_FlowJoins_54_at (rd : Option Nat) (K : Post3) (t : Fr) (m : Mem) : wpM E 9 104 rd c_sheaflaw10_FlowJoins_54 K t m = wpM E 9 104 rd (.seq (.ops [⟨(some 4), .assign (.const (.bool false)), none⟩]) c_sheaflaw10_FlowJoins_53) K t m := rfl

@[go_sem] theorem some9 : (E.fn 9).isSome = true := by kernel_rfl
set_option maxRecDepth 100000 in
theorem fn_sheaflaw10_FlowJoins : FnIs E 9 104 [.tmp 4] c_sheaflaw10_FlowJoins_54 := ⟨by kernel_rfl, by kernel_rfl⟩

/-! sheaf/sheaflaw10.FlowCursor -/
abbrev F_sheaflaw10_FlowCursor : FuncId := 10
def c_sheaflaw10_FlowCursor_0 : MC := (.cond (.tmp 28) .skip (.exit 0))
@[go_sem] theorem c_sheaflaw10_FlowCursor_0_at (rd : Option Nat) (K : Post3) (t : Fr) (m : Mem) : wpM E 10 138 rd c_sheaflaw10_FlowCursor_0 K t m = wpM E 10 138 rd (.cond (.tmp 28) .skip (.exit 0)) K t m := rfl

def c_sheaflaw10_FlowCursor_1 : MC := (.seq (.ops [⟨(some 21), .move (.tmp 7), none⟩,
    ⟨(some 22), .move (.tmp 0), none⟩,
    ⟨(some 23), .call ⟨.builtin .len, #[(.tmp 22)], #[23]⟩, none⟩,
    ⟨(some 24), .binOp .lss 3 (.tmp 21) (.tmp 23) 3, none⟩,
    ⟨(some 25), .move (.tmp 24), none⟩,
    ⟨(some 26), .move (.tmp 7), (some (some 25, true))⟩,
    ⟨(some 27), .binOp .lss 3 (.tmp 26) (.const (.int .i64 20)) 3, (some (some 25, true))⟩,
    ⟨(some 28), .pick (.tmp 25) (.tmp 27) (.const (.bool false)), none⟩]) c_sheaflaw10_FlowCursor_0)
@[go_sem] theorem c_sheaflaw10_FlowCursor_1_at (rd : Option Nat) (K : Post3) (t : Fr) (m : Mem) : wpM E 10 138 rd c_sheaflaw10_FlowCursor_1 K t m = wpM E 10 138 rd (.seq (.ops [⟨(some 21), .move (.tmp 7), none⟩,
    ⟨(some 22), .move (.tmp 0), none⟩,
    ⟨(some 23), .call ⟨.builtin .len, #[(.tmp 22)], #[23]⟩, none⟩,
    ⟨(some 24), .binOp .lss 3 (.tmp 21) (.tmp 23) 3, none⟩,
    ⟨(some 25), .move (.tmp 24), none⟩,
    ⟨(some 26), .move (.tmp 7), (some (some 25, true))⟩,
    ⟨(some 27), .binOp .lss 3 (.tmp 26) (.const (.int .i64 20)) 3, (some (some 25, true))⟩,
    ⟨(some 28), .pick (.tmp 25) (.tmp 27) (.const (.bool false)), none⟩]) c_sheaflaw10_FlowCursor_0) K t m := rfl

def c_sheaflaw10_FlowCursor_2 : MC := (.seq (.ops [⟨(some 31), .move (.tmp 6), none⟩,
    ⟨(some 32), .move (.tmp 0), none⟩,
    ⟨(some 33), .move (.tmp 7), none⟩,
    ⟨(some 34), .indexAddr 23 (.tmp 32) (.tmp 33), none⟩,
    ⟨(some 35), .load 3 (.tmp 34), none⟩,
    ⟨(some 36), .call ⟨.value (.func 21), #[(.tmp 35), (.const (.int .i64 1)), (.const (.int .i64 3))], #[3, 3, 3]⟩, none⟩,
    ⟨(some 37), .binOp .add 3 (.tmp 31) (.tmp 36) 3, none⟩,
    ⟨(some 6), .assign (.tmp 37), none⟩]) (.ops [⟨(some 38), .move (.tmp 5), none⟩,
    ⟨(some 39), .move (.tmp 6), none⟩,
    ⟨(some 40), .buildSlice 23 1 #[(0, (.tmp 39))], none⟩,
    ⟨(some 41), .call ⟨.builtin .append, #[(.tmp 38), (.tmp 40)], #[23, 23]⟩, none⟩,
    ⟨(some 5), .assign (.tmp 41), none⟩]))
@[go_sem] theorem c_sheaflaw10_FlowCursor_2_at (rd : Option Nat) (K : Post3) (t : Fr) (m : Mem) : wpM E 10 138 rd c_sheaflaw10_FlowCursor_2 K t m = wpM E 10 138 rd (.seq (.ops [⟨(some 31), .move (.tmp 6), none⟩,
    ⟨(some 32), .move (.tmp 0), none⟩,
    ⟨(some 33), .move (.tmp 7), none⟩,
    ⟨(some 34), .indexAddr 23 (.tmp 32) (.tmp 33), none⟩,
    ⟨(some 35), .load 3 (.tmp 34), none⟩,
    ⟨(some 36), .call ⟨.value (.func 21), #[(.tmp 35), (.const (.int .i64 1)), (.const (.int .i64 3))], #[3, 3, 3]⟩, none⟩,
    ⟨(some 37), .binOp .add 3 (.tmp 31) (.tmp 36) 3, none⟩,
    ⟨(some 6), .assign (.tmp 37), none⟩]) (.ops [⟨(some 38), .move (.tmp 5), none⟩,
    ⟨(some 39), .move (.tmp 6), none⟩,
    ⟨(some 40), .buildSlice 23 1 #[(0, (.tmp 39))], none⟩,
    ⟨(some 41), .call ⟨.builtin .append, #[(.tmp 38), (.tmp 40)], #[23, 23]⟩, none⟩,
    ⟨(some 5), .assign (.tmp 41), none⟩])) K t m := rfl

def c_sheaflaw10_FlowCursor_3 : MC := (.block 1 c_sheaflaw10_FlowCursor_2)
@[go_sem] theorem c_sheaflaw10_FlowCursor_3_at (rd : Option Nat) (K : Post3) (t : Fr) (m : Mem) : wpM E 10 138 rd c_sheaflaw10_FlowCursor_3 K t m = wpM E 10 138 rd (.block 1 c_sheaflaw10_FlowCursor_2) K t m := rfl

def c_sheaflaw10_FlowCursor_4 : MC := (.seq c_sheaflaw10_FlowCursor_3 (.ops [⟨(some 29), .move (.tmp 7), none⟩,
    ⟨(some 30), .binOp .add 3 (.tmp 29) (.const (.int .i64 1)) 3, none⟩,
    ⟨(some 7), .assign (.tmp 30), none⟩]))
@[go_sem] theorem c_sheaflaw10_FlowCursor_4_at (rd : Option Nat) (K : Post3) (t : Fr) (m : Mem) : wpM E 10 138 rd c_sheaflaw10_FlowCursor_4 K t m = wpM E 10 138 rd (.seq c_sheaflaw10_FlowCursor_3 (.ops [⟨(some 29), .move (.tmp 7), none⟩,
    ⟨(some 30), .binOp .add 3 (.tmp 29) (.const (.int .i64 1)) 3, none⟩,
    ⟨(some 7), .assign (.tmp 30), none⟩])) K t m := rfl

def c_sheaflaw10_FlowCursor_5 : MC := (.seq c_sheaflaw10_FlowCursor_1 c_sheaflaw10_FlowCursor_4)
@[go_sem] theorem c_sheaflaw10_FlowCursor_5_at (rd : Option Nat) (K : Post3) (t : Fr) (m : Mem) : wpM E 10 138 rd c_sheaflaw10_FlowCursor_5 K t m = wpM E 10 138 rd (.seq c_sheaflaw10_FlowCursor_1 c_sheaflaw10_FlowCursor_4) K t m := rfl

def c_sheaflaw10_FlowCursor_6 : MC := (.loop c_sheaflaw10_FlowCursor_5)
theorem c_sheaflaw10_FlowCursor_6_at (rd : Option Nat) (K : Post3) (t : Fr) (m : Mem) : wpM E 10 138 rd c_sheaflaw10_FlowCursor_6 K t m = wpM E 10 138 rd (.loop c_sheaflaw10_FlowCursor_5) K t m := rfl

def c_sheaflaw10_FlowCursor_7 : MC := (.block 0 c_sheaflaw10_FlowCursor_6)
theorem c_sheaflaw10_FlowCursor_7_at (rd : Option Nat) (K : Post3) (t : Fr) (m : Mem) : wpM E 10 138 rd c_sheaflaw10_FlowCursor_7 K t m = wpM E 10 138 rd (.block 0 c_sheaflaw10_FlowCursor_6) K t m := rfl

def c_sheaflaw10_FlowCursor_8 : MC := (.seq (.ops [⟨(some 7), .assign (.const (.int .i64 0)), none⟩]) c_sheaflaw10_FlowCursor_7)
@[go_sem] theorem c_sheaflaw10_FlowCursor_8_at (rd : Option Nat) (K : Post3) (t : Fr) (m : Mem) : wpM E 10 138 rd c_sheaflaw10_FlowCursor_8 K t m = wpM E 10 138 rd (.seq (.ops [⟨(some 7), .assign (.const (.int .i64 0)), none⟩]) c_sheaflaw10_FlowCursor_7) K t m := rfl

def c_sheaflaw10_FlowCursor_9 : MC := (.seq (.ops [⟨none, .store 4 (.tmp 4) (.const (.bool false)), none⟩]) .ret)
@[go_sem] theorem c_sheaflaw10_FlowCursor_9_at (rd : Option Nat) (K : Post3) (t : Fr) (m : Mem) : wpM E 10 138 rd c_sheaflaw10_FlowCursor_9 K t m = wpM E 10 138 rd (.seq (.ops [⟨none, .store 4 (.tmp 4) (.const (.bool false)), none⟩]) .ret) K t m := rfl

def c_sheaflaw10_FlowCursor_10 : MC := (.cond (.tmp 45) c_sheaflaw10_FlowCursor_9 .skip)
@[go_sem] theorem c_sheaflaw10_FlowCursor_10_at (rd : Option Nat) (K : Post3) (t : Fr) (m : Mem) : wpM E 10 138 rd c_sheaflaw10_FlowCursor_10 K t m = wpM E 10 138 rd (.cond (.tmp 45) c_sheaflaw10_FlowCursor_9 .skip) K t m := rfl

def c_sheaflaw10_FlowCursor_11 : MC := (.seq (.ops [⟨(some 44), .move (.tmp 8), none⟩,
    ⟨(some 45), .binOp .eql 44 (.tmp 44) (.const .nilFunc) 44, none⟩]) c_sheaflaw10_FlowCursor_10)
@[go_sem] theorem c_sheaflaw10_FlowCursor_11_at (rd : Option Nat) (K : Post3) (t : Fr) (m : Mem) : wpM E 10 138 rd c_sheaflaw10_FlowCursor_11 K t m = wpM E 10 138 rd (.seq (.ops [⟨(some 44), .move (.tmp 8), none⟩,
    ⟨(some 45), .binOp .eql 44 (.tmp 44) (.const .nilFunc) 44, none⟩]) c_sheaflaw10_FlowCursor_10) K t m := rfl

def c_sheaflaw10_FlowCursor_12 : MC := (.cond (.tmp 49) .skip (.exit 2))
@[go_sem] theorem c_sheaflaw10_FlowCursor_12_at (rd : Option Nat) (K : Post3) (t : Fr) (m : Mem) : wpM E 10 138 rd c_sheaflaw10_FlowCursor_12 K t m = wpM E 10 138 rd (.cond (.tmp 49) .skip (.exit 2)) K t m := rfl

def c_sheaflaw10_FlowCursor_13 : MC := (.seq (.ops [⟨none, .store 4 (.tmp 4) (.const (.bool false)), none⟩]) .ret)
@[go_sem] theorem c_sheaflaw10_FlowCursor_13_at (rd : Option Nat) (K : Post3) (t : Fr) (m : Mem) : wpM E 10 138 rd c_sheaflaw10_FlowCursor_13 K t m = wpM E 10 138 rd (.seq (.ops [⟨none, .store 4 (.tmp 4) (.const (.bool false)), none⟩]) .ret) K t m := rfl

def c_sheaflaw10_FlowCursor_14 : MC := (.cond (.tmp 65) c_sheaflaw10_FlowCursor_13 .skip)
@[go_sem] theorem c_sheaflaw10_FlowCursor_14_at (rd : Option Nat) (K : Post3) (t : Fr) (m : Mem) : wpM E 10 138 rd c_sheaflaw10_FlowCursor_14 K t m = wpM E 10 138 rd (.cond (.tmp 65) c_sheaflaw10_FlowCursor_13 .skip) K t m := rfl

def c_sheaflaw10_FlowCursor_15 : MC := (.seq (.ops [⟨(some 56), .move (.tmp 11), none⟩,
    ⟨(some 57), .unOp .not 4 (.tmp 56), none⟩,
    ⟨(some 58), .move (.tmp 57), none⟩,
    ⟨(some 59), .move (.tmp 10), (some (some 58, false))⟩,
    ⟨(some 60), .move (.tmp 5), (some (some 58, false))⟩,
    ⟨(some 61), .move (.tmp 9), (some (some 58, false))⟩,
    ⟨(some 62), .indexAddr 23 (.tmp 60) (.tmp 61), (some (some 58, false))⟩,
    ⟨(some 63), .load 3 (.tmp 62), (some (some 58, false))⟩,
    ⟨(some 64), .binOp .neq 3 (.tmp 59) (.tmp 63) 3, (some (some 58, false))⟩,
    ⟨(some 65), .pick (.tmp 58) (.const (.bool true)) (.tmp 64), none⟩]) c_sheaflaw10_FlowCursor_14)
@[go_sem] theorem c_sheaflaw10_FlowCursor_15_at (rd : Option Nat) (K : Post3) (t : Fr) (m : Mem) : wpM E 10 138 rd c_sheaflaw10_FlowCursor_15 K t m = wpM E 10 138 rd (.seq (.ops [⟨(some 56), .move (.tmp 11), none⟩,
    ⟨(some 57), .unOp .not 4 (.tmp 56), none⟩,
    ⟨(some 58), .move (.tmp 57), none⟩,
    ⟨(some 59), .move (.tmp 10), (some (some 58, false))⟩,
    ⟨(some 60), .move (.tmp 5), (some (some 58, false))⟩,
    ⟨(some 61), .move (.tmp 9), (some (some 58, false))⟩,
    ⟨(some 62), .indexAddr 23 (.tmp 60) (.tmp 61), (some (some 58, false))⟩,
    ⟨(some 63), .load 3 (.tmp 62), (some (some 58, false))⟩,
    ⟨(some 64), .binOp .neq 3 (.tmp 59) (.tmp 63) 3, (some (some 58, false))⟩,
    ⟨(some 65), .pick (.tmp 58) (.const (.bool true)) (.tmp 64), none⟩]) c_sheaflaw10_FlowCursor_14) K t m := rfl

def c_sheaflaw10_FlowCursor_16 : MC := (.seq (.ops [⟨(some 52), .move (.tmp 8), none⟩,
    ⟨(some 53), .call ⟨.value (.tmp 52), #[], #[]⟩, none⟩,
    ⟨(some 51), .move (.tmp 53), none⟩,
    ⟨(some 54), .extract (.tmp 51) 0, none⟩,
    ⟨(some 55), .extract (.tmp 51) 1, none⟩,
    ⟨(some 10), .assign (.tmp 54), none⟩,
    ⟨(some 11), .assign (.tmp 55), none⟩]) c_sheaflaw10_FlowCursor_15)
@[go_sem] theorem c_sheaflaw10_FlowCursor_16_at (rd : Option Nat) (K : Post3) (t : Fr) (m : Mem) : wpM E 10 138 rd c_sheaflaw10_FlowCursor_16 K t m = wpM E 10 138 rd (.seq (.ops [⟨(some 52), .move (.tmp 8), none⟩,
    ⟨(some 53), .call ⟨.value (.tmp 52), #[], #[]⟩, none⟩,
    ⟨(some 51), .move (.tmp 53), none⟩,
    ⟨(some 54), .extract (.tmp 51) 0, none⟩,
    ⟨(some 55), .extract (.tmp 51) 1, none⟩,
    ⟨(some 10), .assign (.tmp 54), none⟩,
    ⟨(some 11), .assign (.tmp 55), none⟩]) c_sheaflaw10_FlowCursor_15) K t m := rfl

def c_sheaflaw10_FlowCursor_17 : MC := (.seq (.ops [⟨(some 50), .move (.tmp 48), none⟩,
    ⟨(some 9), .assign (.tmp 50), none⟩]) c_sheaflaw10_FlowCursor_16)
@[go_sem] theorem c_sheaflaw10_FlowCursor_17_at (rd : Option Nat) (K : Post3) (t : Fr) (m : Mem) : wpM E 10 138 rd c_sheaflaw10_FlowCursor_17 K t m = wpM E 10 138 rd (.seq (.ops [⟨(some 50), .move (.tmp 48), none⟩,
    ⟨(some 9), .assign (.tmp 50), none⟩]) c_sheaflaw10_FlowCursor_16) K t m := rfl

def c_sheaflaw10_FlowCursor_18 : MC := (.block 3 c_sheaflaw10_FlowCursor_17)
@[go_sem] theorem c_sheaflaw10_FlowCursor_18_at (rd : Option Nat) (K : Post3) (t : Fr) (m : Mem) : wpM E 10 138 rd c_sheaflaw10_FlowCursor_18 K t m = wpM E 10 138 rd (.block 3 c_sheaflaw10_FlowCursor_17) K t m := rfl

def c_sheaflaw10_FlowCursor_19 : MC := (.seq c_sheaflaw10_FlowCursor_18 (.ops [⟨(some 66), .binOp .add 3 (.tmp 48) (.const (.int .i64 1)) 3, none⟩,
    ⟨(some 48), .move (.tmp 66), none⟩]))
@[go_sem] theorem c_sheaflaw10_FlowCursor_19_at (rd : Option Nat) (K : Post3) (t : Fr) (m : Mem) : wpM E 10 138 rd c_sheaflaw10_FlowCursor_19 K t m = wpM E 10 138 rd (.seq c_sheaflaw10_FlowCursor_18 (.ops [⟨(some 66), .binOp .add 3 (.tmp 48) (.const (.int .i64 1)) 3, none⟩,
    ⟨(some 48), .move (.tmp 66), none⟩])) K t m := rfl

def c_sheaflaw10_FlowCursor_20 : MC := (.seq c_sheaflaw10_FlowCursor_12 c_sheaflaw10_FlowCursor_19)
@[go_sem] theorem c_sheaflaw10_FlowCursor_20_at (rd : Option Nat) (K : Post3) (t : Fr) (m : Mem) : wpM E 10 138 rd c_sheaflaw10_FlowCursor_20 K t m = wpM E 10 138 rd (.seq c_sheaflaw10_FlowCursor_12 c_sheaflaw10_FlowCursor_19) K t m := rfl

def c_sheaflaw10_FlowCursor_21 : MC := (.seq (.ops [⟨(some 49), .binOp .lss 3 (.tmp 48) (.tmp 47) 3, none⟩]) c_sheaflaw10_FlowCursor_20)
@[go_sem] theorem c_sheaflaw10_FlowCursor_21_at (rd : Option Nat) (K : Post3) (t : Fr) (m : Mem) : wpM E 10 138 rd c_sheaflaw10_FlowCursor_21 K t m = wpM E 10 138 rd (.seq (.ops [⟨(some 49), .binOp .lss 3 (.tmp 48) (.tmp 47) 3, none⟩]) c_sheaflaw10_FlowCursor_20) K t m := rfl

def c_sheaflaw10_FlowCursor_22 : MC := (.loop c_sheaflaw10_FlowCursor_21)
theorem c_sheaflaw10_FlowCursor_22_at (rd : Option Nat) (K : Post3) (t : Fr) (m : Mem) : wpM E 10 138 rd c_sheaflaw10_FlowCursor_22 K t m = wpM E 10 138 rd (.loop c_sheaflaw10_FlowCursor_21) K t m := rfl

def c_sheaflaw10_FlowCursor_23 : MC := (.block 2 c_sheaflaw10_FlowCursor_22)
theorem c_sheaflaw10_FlowCursor_23_at (rd : Option Nat) (K : Post3) (t : Fr) (m : Mem) : wpM E 10 138 rd c_sheaflaw10_FlowCursor_23 K t m = wpM E 10 138 rd (.block 2 c_sheaflaw10_FlowCursor_22) K t m := rfl

def c_sheaflaw10_FlowCursor_24 : MC := (.seq (.ops [⟨(some 46), .move (.tmp 5), none⟩,
    ⟨(some 47), .call ⟨.builtin .len, #[(.tmp 46)], #[23]⟩, none⟩,
    ⟨(some 48), .move (.const (.int .i64 0)), none⟩]) c_sheaflaw10_FlowCursor_23)
@[go_sem] theorem c_sheaflaw10_FlowCursor_24_at (rd : Option Nat) (K : Post3) (t : Fr) (m : Mem) : wpM E 10 138 rd c_sheaflaw10_FlowCursor_24 K t m = wpM E 10 138 rd (.seq (.ops [⟨(some 46), .move (.tmp 5), none⟩,
    ⟨(some 47), .call ⟨.builtin .len, #[(.tmp 46)], #[23]⟩, none⟩,
    ⟨(some 48), .move (.const (.int .i64 0)), none⟩]) c_sheaflaw10_FlowCursor_23) K t m := rfl

def c_sheaflaw10_FlowCursor_25 : MC := (.seq (.ops [⟨none, .store 4 (.tmp 4) (.const (.bool false)), none⟩]) .ret)
@[go_sem] theorem c_sheaflaw10_FlowCursor_25_at (rd : Option Nat) (K : Post3) (t : Fr) (m : Mem) : wpM E 10 138 rd c_sheaflaw10_FlowCursor_25 K t m = wpM E 10 138 rd (.seq (.ops [⟨none, .store 4 (.tmp 4) (.const (.bool false)), none⟩]) .ret) K t m := rfl

def c_sheaflaw10_FlowCursor_26 : MC := (.cond (.tmp 89) c_sheaflaw10_FlowCursor_25 .skip)
@[go_sem] theorem c_sheaflaw10_FlowCursor_26_at (rd : Option Nat) (K : Post3) (t : Fr) (m : Mem) : wpM E 10 138 rd c_sheaflaw10_FlowCursor_26 K t m = wpM E 10 138 rd (.cond (.tmp 89) c_sheaflaw10_FlowCursor_25 .skip) K t m := rfl

def c_sheaflaw10_FlowCursor_27 : MC := (.seq (.ops [⟨(some 88), .move (.tmp 18), none⟩,
    ⟨(some 89), .binOp .eql 48 (.tmp 88) (.const .nilFunc) 48, none⟩]) c_sheaflaw10_FlowCursor_26)
@[go_sem] theorem c_sheaflaw10_FlowCursor_27_at (rd : Option Nat) (K : Post3) (t : Fr) (m : Mem) : wpM E 10 138 rd c_sheaflaw10_FlowCursor_27 K t m = wpM E 10 138 rd (.seq (.ops [⟨(some 88), .move (.tmp 18), none⟩,
    ⟨(some 89), .binOp .eql 48 (.tmp 88) (.const .nilFunc) 48, none⟩]) c_sheaflaw10_FlowCursor_26) K t m := rfl

def c_sheaflaw10_FlowCursor_28 : MC := (.seq (.ops [⟨(some 19), .assign (.tmp 91), none⟩]) (.ops [⟨(some 20), .assign (.tmp 92), none⟩]))
@[go_sem] theorem c_sheaflaw10_FlowCursor_28_at (rd : Option Nat) (K : Post3) (t : Fr) (m : Mem) : wpM E 10 138 rd c_sheaflaw10_FlowCursor_28 K t m = wpM E 10 138 rd (.seq (.ops [⟨(some 19), .assign (.tmp 91), none⟩]) (.ops [⟨(some 20), .assign (.tmp 92), none⟩])) K t m := rfl

def c_sheaflaw10_FlowCursor_29 : MC := (.seq (.ops [⟨none, .store 4 (.tmp 4) (.const (.bool false)), none⟩]) .ret)
@[go_sem] theorem c_sheaflaw10_FlowCursor_29_at (rd : Option Nat) (K : Post3) (t : Fr) (m : Mem) : wpM E 10 138 rd c_sheaflaw10_FlowCursor_29 K t m = wpM E 10 138 rd (.seq (.ops [⟨none, .store 4 (.tmp 4) (.const (.bool false)), none⟩]) .ret) K t m := rfl

def c_sheaflaw10_FlowCursor_30 : MC := (.cond (.tmp 101) c_sheaflaw10_FlowCursor_29 .skip)
@[go_sem] theorem c_sheaflaw10_FlowCursor_30_at (rd : Option Nat) (K : Post3) (t : Fr) (m : Mem) : wpM E 10 138 rd c_sheaflaw10_FlowCursor_30 K t m = wpM E 10 138 rd (.cond (.tmp 101) c_sheaflaw10_FlowCursor_29 .skip) K t m := rfl

def c_sheaflaw10_FlowCursor_31 : MC := (.seq (.ops [⟨(some 93), .move (.tmp 20), none⟩,
    ⟨(some 94), .binOp .eql 51 (.tmp 93) (.const (.pointer none)) 51, none⟩,
    ⟨(some 95), .move (.tmp 94), none⟩,
    ⟨(some 96), .move (.tmp 20), (some (some 95, false))⟩,
    ⟨(some 97), .nilCheck (.tmp 96), (some (some 95, false))⟩,
    ⟨(some 98), .load 3 (.tmp 97), (some (some 95, false))⟩,
    ⟨(some 99), .move (.tmp 19), (some (some 95, false))⟩,
    ⟨(some 100), .binOp .neq 3 (.tmp 98) (.tmp 99) 3, (some (some 95, false))⟩,
    ⟨(some 101), .pick (.tmp 95) (.const (.bool true)) (.tmp 100), none⟩]) c_sheaflaw10_FlowCursor_30)
@[go_sem] theorem c_sheaflaw10_FlowCursor_31_at (rd : Option Nat) (K : Post3) (t : Fr) (m : Mem) : wpM E 10 138 rd c_sheaflaw10_FlowCursor_31 K t m = wpM E 10 138 rd (.seq (.ops [⟨(some 93), .move (.tmp 20), none⟩,
    ⟨(some 94), .binOp .eql 51 (.tmp 93) (.const (.pointer none)) 51, none⟩,
    ⟨(some 95), .move (.tmp 94), none⟩,
    ⟨(some 96), .move (.tmp 20), (some (some 95, false))⟩,
    ⟨(some 97), .nilCheck (.tmp 96), (some (some 95, false))⟩,
    ⟨(some 98), .load 3 (.tmp 97), (some (some 95, false))⟩,
    ⟨(some 99), .move (.tmp 19), (some (some 95, false))⟩,
    ⟨(some 100), .binOp .neq 3 (.tmp 98) (.tmp 99) 3, (some (some 95, false))⟩,
    ⟨(some 101), .pick (.tmp 95) (.const (.bool true)) (.tmp 100), none⟩]) c_sheaflaw10_FlowCursor_30) K t m := rfl

def c_sheaflaw10_FlowCursor_32 : MC := (.seq (.ops [⟨(some 102), .move (.tmp 20), none⟩,
    ⟨(some 103), .nilCheck (.tmp 102), none⟩,
    ⟨none, .store 3 (.tmp 103) (.const (.int .i64 (-1))), none⟩]) (.ops [⟨(some 104), .load 3 (.tmp 17), none⟩,
    ⟨(some 105), .binOp .add 3 (.tmp 104) (.const (.int .i64 1)) 3, none⟩,
    ⟨none, .store 3 (.tmp 17) (.tmp 105), none⟩]))
@[go_sem] theorem c_sheaflaw10_FlowCursor_32_at (rd : Option Nat) (K : Post3) (t : Fr) (m : Mem) : wpM E 10 138 rd c_sheaflaw10_FlowCursor_32 K t m = wpM E 10 138 rd (.seq (.ops [⟨(some 102), .move (.tmp 20), none⟩,
    ⟨(some 103), .nilCheck (.tmp 102), none⟩,
    ⟨none, .store 3 (.tmp 103) (.const (.int .i64 (-1))), none⟩]) (.ops [⟨(some 104), .load 3 (.tmp 17), none⟩,
    ⟨(some 105), .binOp .add 3 (.tmp 104) (.const (.int .i64 1)) 3, none⟩,
    ⟨none, .store 3 (.tmp 17) (.tmp 105), none⟩])) K t m := rfl

def c_sheaflaw10_FlowCursor_33 : MC := (.seq c_sheaflaw10_FlowCursor_31 c_sheaflaw10_FlowCursor_32)
@[go_sem] theorem c_sheaflaw10_FlowCursor_33_at (rd : Option Nat) (K : Post3) (t : Fr) (m : Mem) : wpM E 10 138 rd c_sheaflaw10_FlowCursor_33 K t m = wpM E 10 138 rd (.seq c_sheaflaw10_FlowCursor_31 c_sheaflaw10_FlowCursor_32) K t m := rfl

def c_sheaflaw10_FlowCursor_34 : MC := (.block 5 c_sheaflaw10_FlowCursor_33)
@[go_sem] theorem c_sheaflaw10_FlowCursor_34_at (rd : Option Nat) (K : Post3) (t : Fr) (m : Mem) : wpM E 10 138 rd c_sheaflaw10_FlowCursor_34 K t m = wpM E 10 138 rd (.block 5 c_sheaflaw10_FlowCursor_33) K t m := rfl

theorem asg_sheaflaw10_FlowCursor_0 : compile E 10 138 (asgAt E 10 0) = some c_sheaflaw10_FlowCursor_28 := by kernel_rfl

theorem body_sheaflaw10_FlowCursor_0 : compile E 10 138 (bodyAt E 10 0) = some c_sheaflaw10_FlowCursor_34 := by kernel_rfl

def c_sheaflaw10_FlowCursor_35 : MC := (.range (.tmp 90) #[91, 92] (asgAt E 10 0) (bodyAt E 10 0))
theorem c_sheaflaw10_FlowCursor_35_at (rd : Option Nat) (K : Post3) (t : Fr) (m : Mem) : wpM E 10 138 rd c_sheaflaw10_FlowCursor_35 K t m = wpM E 10 138 rd (.range (.tmp 90) #[91, 92] (asgAt E 10 0) (bodyAt E 10 0)) K t m := rfl

def c_sheaflaw10_FlowCursor_36 : MC := (.block 4 c_sheaflaw10_FlowCursor_35)
@[go_sem] theorem c_sheaflaw10_FlowCursor_36_at (rd : Option Nat) (K : Post3) (t : Fr) (m : Mem) : wpM E 10 138 rd c_sheaflaw10_FlowCursor_36 K t m = wpM E 10 138 rd (.block 4 c_sheaflaw10_FlowCursor_35) K t m := rfl

def c_sheaflaw10_FlowCursor_37 : MC := (.seq (.ops [⟨(some 90), .move (.tmp 18), none⟩]) c_sheaflaw10_FlowCursor_36)
@[go_sem] theorem c_sheaflaw10_FlowCursor_37_at (rd : Option Nat) (K : Post3) (t : Fr) (m : Mem) : wpM E 10 138 rd c_sheaflaw10_FlowCursor_37 K t m = wpM E 10 138 rd (.seq (.ops [⟨(some 90), .move (.tmp 18), none⟩]) c_sheaflaw10_FlowCursor_36) K t m := rfl

def c_sheaflaw10_FlowCursor_38 : MC := (.seq (.ops [⟨(some 106), .move (.tmp 13), none⟩,
    ⟨(some 107), .unOp .not 4 (.tmp 106), none⟩,
    ⟨(some 108), .move (.tmp 107), none⟩,
    ⟨(some 109), .move (.tmp 15), (some (some 108, true))⟩,
    ⟨(some 110), .unOp .not 4 (.tmp 109), (some (some 108, true))⟩,
    ⟨(some 111), .pick (.tmp 108) (.tmp 110) (.const (.bool false)), none⟩,
    ⟨(some 112), .move (.tmp 111), none⟩,
    ⟨(some 113), .load 3 (.tmp 17), (some (some 112, true))⟩,
    ⟨(some 114), .move (.tmp 16), (some (some 112, true))⟩,
    ⟨(some 115), .binOp .eql 3 (.tmp 113) (.tmp 114) 3, (some (some 112, true))⟩,
    ⟨(some 116), .pick (.tmp 112) (.tmp 115) (.const (.bool false)), none⟩,
    ⟨(some 117), .move (.tmp 116), none⟩,
    ⟨(some 118), .move (.tmp 5), (some (some 117, true))⟩,
    ⟨(some 119), .move (.tmp 5), (some (some 117, true))⟩,
    ⟨(some 120), .call ⟨.value (.func 27), #[(.tmp 118), (.tmp 119)], #[23, 23]⟩, (some (some 117, true))⟩,
    ⟨(some 121), .move (.tmp 5), (some (some 117, true))⟩,
    ⟨(some 122), .move (.tmp 5), (some (some 117, true))⟩,
    ⟨(some 123), .call ⟨.value (.func 27), #[(.tmp 121), (.tmp 122)], #[23, 23]⟩, (some (some 117, true))⟩,
    ⟨(some 124), .call ⟨.value (.func 26), #[(.tmp 120), (.tmp 123)], #[23, 23]⟩, (some (some 117, true))⟩,
    ⟨(some 125), .pick (.tmp 117) (.tmp 124) (.const (.bool false)), none⟩,
    ⟨(some 126), .move (.tmp 125), none⟩,
    ⟨(some 127), .move (.tmp 5), (some (some 126, true))⟩,
    ⟨(some 128), .call ⟨.value (.func 27), #[(.tmp 127), (.const (.slice none 0 0))], #[23, 23]⟩, (some (some 126, true))⟩,
    ⟨(some 129), .call ⟨.builtin .len, #[(.tmp 128)], #[23]⟩, (some (some 126, true))⟩,
    ⟨(some 130), .move (.tmp 5), (some (some 126, true))⟩,
    ⟨(some 131), .call ⟨.builtin .len, #[(.tmp 130)], #[23]⟩, (some (some 126, true))⟩,
    ⟨(some 132), .binOp .mul 3 (.const (.int .i64 2)) (.tmp 131) 3, (some (some 126, true))⟩,
    ⟨(some 133), .binOp .eql 3 (.tmp 129) (.tmp 132) 3, (some (some 126, true))⟩,
    ⟨(some 134), .pick (.tmp 126) (.tmp 133) (.const (.bool false)), none⟩,
    ⟨(some 135), .move (.tmp 134), none⟩,
    ⟨(some 136), .call ⟨.value (.func 7), #[], #[]⟩, (some (some 135, true))⟩,
    ⟨(some 137), .pick (.tmp 135) (.tmp 136) (.const (.bool false)), none⟩,
    ⟨none, .store 4 (.tmp 4) (.tmp 137), none⟩]) .ret)
@[go_sem] theorem c_sheaflaw10_FlowCursor_38_at (rd : Option Nat) (K : Post3) (t : Fr) (m : Mem) : wpM E 10 138 rd c_sheaflaw10_FlowCursor_38 K t m = wpM E 10 138 rd (.seq (.ops [⟨(some 106), .move (.tmp 13), none⟩,
    ⟨(some 107), .unOp .not 4 (.tmp 106), none⟩,
    ⟨(some 108), .move (.tmp 107), none⟩,
    ⟨(some 109), .move (.tmp 15), (some (some 108, true))⟩,
    ⟨(some 110), .unOp .not 4 (.tmp 109), (some (some 108, true))⟩,
    ⟨(some 111), .pick (.tmp 108) (.tmp 110) (.const (.bool false)), none⟩,
    ⟨(some 112), .move (.tmp 111), none⟩,
    ⟨(some 113), .load 3 (.tmp 17), (some (some 112, true))⟩,
    ⟨(some 114), .move (.tmp 16), (some (some 112, true))⟩,
    ⟨(some 115), .binOp .eql 3 (.tmp 113) (.tmp 114) 3, (some (some 112, true))⟩,
    ⟨(some 116), .pick (.tmp 112) (.tmp 115) (.const (.bool false)), none⟩,
    ⟨(some 117), .move (.tmp 116), none⟩,
    ⟨(some 118), .move (.tmp 5), (some (some 117, true))⟩,
    ⟨(some 119), .move (.tmp 5), (some (some 117, true))⟩,
    ⟨(some 120), .call ⟨.value (.func 27), #[(.tmp 118), (.tmp 119)], #[23, 23]⟩, (some (some 117, true))⟩,
    ⟨(some 121), .move (.tmp 5), (some (some 117, true))⟩,
    ⟨(some 122), .move (.tmp 5), (some (some 117, true))⟩,
    ⟨(some 123), .call ⟨.value (.func 27), #[(.tmp 121), (.tmp 122)], #[23, 23]⟩, (some (some 117, true))⟩,
    ⟨(some 124), .call ⟨.value (.func 26), #[(.tmp 120), (.tmp 123)], #[23, 23]⟩, (some (some 117, true))⟩,
    ⟨(some 125), .pick (.tmp 117) (.tmp 124) (.const (.bool false)), none⟩,
    ⟨(some 126), .move (.tmp 125), none⟩,
    ⟨(some 127), .move (.tmp 5), (some (some 126, true))⟩,
    ⟨(some 128), .call ⟨.value (.func 27), #[(.tmp 127), (.const (.slice none 0 0))], #[23, 23]⟩, (some (some 126, true))⟩,
    ⟨(some 129), .call ⟨.builtin .len, #[(.tmp 128)], #[23]⟩, (some (some 126, true))⟩,
    ⟨(some 130), .move (.tmp 5), (some (some 126, true))⟩,
    ⟨(some 131), .call ⟨.builtin .len, #[(.tmp 130)], #[23]⟩, (some (some 126, true))⟩,
    ⟨(some 132), .binOp .mul 3 (.const (.int .i64 2)) (.tmp 131) 3, (some (some 126, true))⟩,
    ⟨(some 133), .binOp .eql 3 (.tmp 129) (.tmp 132) 3, (some (some 126, true))⟩,
    ⟨(some 134), .pick (.tmp 126) (.tmp 133) (.const (.bool false)), none⟩,
    ⟨(some 135), .move (.tmp 134), none⟩,
    ⟨(some 136), .call ⟨.value (.func 7), #[], #[]⟩, (some (some 135, true))⟩,
    ⟨(some 137), .pick (.tmp 135) (.tmp 136) (.const (.bool false)), none⟩,
    ⟨none, .store 4 (.tmp 4) (.tmp 137), none⟩]) .ret) K t m := rfl

def c_sheaflaw10_FlowCursor_39 : MC := (.seq c_sheaflaw10_FlowCursor_37 c_sheaflaw10_FlowCursor_38)
@[go_sem] theorem c_sheaflaw10_FlowCursor_39_at (rd : Option Nat) (K : Post3) (t : Fr) (m : Mem) : wpM E 10 138 rd c_sheaflaw10_FlowCursor_39 K t m = wpM E 10 138 rd (.seq c_sheaflaw10_FlowCursor_37 c_sheaflaw10_FlowCursor_38) K t m := rfl

def c_sheaflaw10_FlowCursor_40 : MC := (.seq c_sheaflaw10_FlowCursor_27 c_sheaflaw10_FlowCursor_39)
@[go_sem] theorem c_sheaflaw10_FlowCursor_40_at (rd : Option Nat) (K : Post3) (t : Fr) (m : Mem) : wpM E 10 138 rd c_sheaflaw10_FlowCursor_40 K t m = wpM E 10 138 rd (.seq c_sheaflaw10_FlowCursor_27 c_sheaflaw10_FlowCursor_39) K t m := rfl

def c_sheaflaw10_FlowCursor_41 : MC := (.seq (.ops [⟨(some 81), .move (.tmp 5), none⟩,
    ⟨(some 82), .move (.tmp 16), none⟩,
    ⟨(some 83), .slice 23 (.tmp 81) none (some (.tmp 82)) none, none⟩,
    ⟨(some 84), .call ⟨.value (.func 24), #[(.tmp 83)], #[23]⟩, none⟩,
    ⟨(some 85), .move (.tmp 5), none⟩,
    ⟨(some 86), .call ⟨.value (.func 30), #[(.tmp 85)], #[23]⟩, none⟩,
    ⟨(some 87), .call ⟨.value (.func 31), #[(.tmp 84), (.tmp 86), (.func 32)], #[38, 44, 50]⟩, none⟩,
    ⟨(some 18), .assign (.tmp 87), none⟩]) c_sheaflaw10_FlowCursor_40)
@[go_sem] theorem c_sheaflaw10_FlowCursor_41_at (rd : Option Nat) (K : Post3) (t : Fr) (m : Mem) : wpM E 10 138 rd c_sheaflaw10_FlowCursor_41 K t m = wpM E 10 138 rd (.seq (.ops [⟨(some 81), .move (.tmp 5), none⟩,
    ⟨(some 82), .move (.tmp 16), none⟩,
    ⟨(some 83), .slice 23 (.tmp 81) none (some (.tmp 82)) none, none⟩,
    ⟨(some 84), .call ⟨.value (.func 24), #[(.tmp 83)], #[23]⟩, none⟩,
    ⟨(some 85), .move (.tmp 5), none⟩,
    ⟨(some 86), .call ⟨.value (.func 30), #[(.tmp 85)], #[23]⟩, none⟩,
    ⟨(some 87), .call ⟨.value (.func 31), #[(.tmp 84), (.tmp 86), (.func 32)], #[38, 44, 50]⟩, none⟩,
    ⟨(some 18), .assign (.tmp 87), none⟩]) c_sheaflaw10_FlowCursor_40) K t m := rfl

def c_sheaflaw10_FlowCursor_42 : MC := (.seq (.ops [⟨(some 17), .alloc 3, none⟩,
    ⟨none, .store 3 (.tmp 17) (.const (.int .i64 0)), none⟩]) c_sheaflaw10_FlowCursor_41)
@[go_sem] theorem c_sheaflaw10_FlowCursor_42_at (rd : Option Nat) (K : Post3) (t : Fr) (m : Mem) : wpM E 10 138 rd c_sheaflaw10_FlowCursor_42 K t m = wpM E 10 138 rd (.seq (.ops [⟨(some 17), .alloc 3, none⟩,
    ⟨none, .store 3 (.tmp 17) (.const (.int .i64 0)), none⟩]) c_sheaflaw10_FlowCursor_41) K t m := rfl

def c_sheaflaw10_FlowCursor_43 : MC := (.seq (.ops [⟨(some 77), .move (.tmp 1), none⟩,
    ⟨(some 78), .move (.tmp 5), none⟩,
    ⟨(some 79), .call ⟨.builtin .len, #[(.tmp 78)], #[23]⟩, none⟩,
    ⟨(some 80), .call ⟨.value (.func 21), #[(.tmp 77), (.const (.int .i64 0)), (.tmp 79)], #[3, 3, 3]⟩, none⟩,
    ⟨(some 16), .assign (.tmp 80), none⟩]) c_sheaflaw10_FlowCursor_42)
@[go_sem] theorem c_sheaflaw10_FlowCursor_43_at (rd : Option Nat) (K : Post3) (t : Fr) (m : Mem) : wpM E 10 138 rd c_sheaflaw10_FlowCursor_43 K t m = wpM E 10 138 rd (.seq (.ops [⟨(some 77), .move (.tmp 1), none⟩,
    ⟨(some 78), .move (.tmp 5), none⟩,
    ⟨(some 79), .call ⟨.builtin .len, #[(.tmp 78)], #[23]⟩, none⟩,
    ⟨(some 80), .call ⟨.value (.func 21), #[(.tmp 77), (.const (.int .i64 0)), (.tmp 79)], #[3, 3, 3]⟩, none⟩,
    ⟨(some 16), .assign (.tmp 80), none⟩]) c_sheaflaw10_FlowCursor_42) K t m := rfl

def c_sheaflaw10_FlowCursor_44 : MC := (.seq (.ops [⟨(some 73), .move (.tmp 8), none⟩,
    ⟨(some 74), .call ⟨.value (.tmp 73), #[], #[]⟩, none⟩,
    ⟨(some 72), .move (.tmp 74), none⟩,
    ⟨(some 75), .extract (.tmp 72) 0, none⟩,
    ⟨(some 76), .extract (.tmp 72) 1, none⟩,
    ⟨(some 14), .assign (.tmp 75), none⟩,
    ⟨(some 15), .assign (.tmp 76), none⟩]) c_sheaflaw10_FlowCursor_43)
@[go_sem] theorem c_sheaflaw10_FlowCursor_44_at (rd : Option Nat) (K : Post3) (t : Fr) (m : Mem) : wpM E 10 138 rd c_sheaflaw10_FlowCursor_44 K t m = wpM E 10 138 rd (.seq (.ops [⟨(some 73), .move (.tmp 8), none⟩,
    ⟨(some 74), .call ⟨.value (.tmp 73), #[], #[]⟩, none⟩,
    ⟨(some 72), .move (.tmp 74), none⟩,
    ⟨(some 75), .extract (.tmp 72) 0, none⟩,
    ⟨(some 76), .extract (.tmp 72) 1, none⟩,
    ⟨(some 14), .assign (.tmp 75), none⟩,
    ⟨(some 15), .assign (.tmp 76), none⟩]) c_sheaflaw10_FlowCursor_43) K t m := rfl

def c_sheaflaw10_FlowCursor_45 : MC := (.seq (.ops [⟨(some 68), .move (.tmp 8), none⟩,
    ⟨(some 69), .call ⟨.value (.tmp 68), #[], #[]⟩, none⟩,
    ⟨(some 67), .move (.tmp 69), none⟩,
    ⟨(some 70), .extract (.tmp 67) 0, none⟩,
    ⟨(some 71), .extract (.tmp 67) 1, none⟩,
    ⟨(some 12), .assign (.tmp 70), none⟩,
    ⟨(some 13), .assign (.tmp 71), none⟩]) c_sheaflaw10_FlowCursor_44)
@[go_sem] theorem c_sheaflaw10_FlowCursor_45_at (rd : Option Nat) (K : Post3) (t : Fr) (m : Mem) : wpM E 10 138 rd c_sheaflaw10_FlowCursor_45 K t m = wpM E 10 138 rd (.seq (.ops [⟨(some 68), .move (.tmp 8), none⟩,
    ⟨(some 69), .call ⟨.value (.tmp 68), #[], #[]⟩, none⟩,
    ⟨(some 67), .move (.tmp 69), none⟩,
    ⟨(some 70), .extract (.tmp 67) 0, none⟩,
    ⟨(some 71), .extract (.tmp 67) 1, none⟩,
    ⟨(some 12), .assign (.tmp 70), none⟩,
    ⟨(some 13), .assign (.tmp 71), none⟩]) c_sheaflaw10_FlowCursor_44) K t m := rfl

def c_sheaflaw10_FlowCursor_46 : MC := (.seq c_sheaflaw10_FlowCursor_24 c_sheaflaw10_FlowCursor_45)
@[go_sem] theorem c_sheaflaw10_FlowCursor_46_at (rd : Option Nat) (K : Post3) (t : Fr) (m : Mem) : wpM E 10 138 rd c_sheaflaw10_FlowCursor_46 K t m = wpM E 10 138 rd (.seq c_sheaflaw10_FlowCursor_24 c_sheaflaw10_FlowCursor_45) K t m := rfl

def c_sheaflaw10_FlowCursor_47 : MC := (.seq c_sheaflaw10_FlowCursor_11 c_sheaflaw10_FlowCursor_46)
@[go_sem] theorem c_sheaflaw10_FlowCursor_47_at (rd : Option Nat) (K : Post3) (t : Fr) (m : Mem) : wpM E 10 138 rd c_sheaflaw10_FlowCursor_47 K t m = wpM E 10 138 rd (.seq c_sheaflaw10_FlowCursor_11 c_sheaflaw10_FlowCursor_46) K t m := rfl

def c_sheaflaw10_FlowCursor_48 : MC := (.seq (.ops [⟨(some 42), .move (.tmp 5), none⟩,
    ⟨(some 43), .call ⟨.value (.func 30), #[(.tmp 42)], #[23]⟩, none⟩,
    ⟨(some 8), .assign (.tmp 43), none⟩]) c_sheaflaw10_FlowCursor_47)
@[go_sem] theorem c_sheaflaw10_FlowCursor_48_at (rd : Option Nat) (K : Post3) (t : Fr) (m : Mem) : wpM E 10 138 rd c_sheaflaw10_FlowCursor_48 K t m = wpM E 10 138 rd (.seq (.ops [⟨(some 42), .move (.tmp 5), none⟩,
    ⟨(some 43), .call ⟨.value (.func 30), #[(.tmp 42)], #[23]⟩, none⟩,
    ⟨(some 8), .assign (.tmp 43), none⟩]) c_sheaflaw10_FlowCursor_47) K t m := rfl

def c_sheaflaw10_FlowCursor_49 : MC := (.seq c_sheaflaw10_FlowCursor_8 c_sheaflaw10_FlowCursor_48)
@[go_sem] theorem c_sheaflaw10_FlowCursor_49_at (rd : Option Nat) (K : Post3) (t : Fr) (m : Mem) : wpM E 10 138 rd c_sheaflaw10_FlowCursor_49 K t m = wpM E 10 138 rd (.seq c_sheaflaw10_FlowCursor_8 c_sheaflaw10_FlowCursor_48) K t m := rfl

def c_sheaflaw10_FlowCursor_50 : MC := (.seq (.ops [⟨(some 6), .assign (.const (.int .i64 0)), none⟩]) c_sheaflaw10_FlowCursor_49)
@[go_sem] theorem c_sheaflaw10_FlowCursor_50_at (rd : Option Nat) (K : Post3) (t : Fr) (m : Mem) : wpM E 10 138 rd c_sheaflaw10_FlowCursor_50 K t m = wpM E 10 138 rd (.seq (.ops [⟨(some 6), .assign (.const (.int .i64 0)), none⟩]) c_sheaflaw10_FlowCursor_49) K t m := rfl

def c_sheaflaw10_FlowCursor_51 : MC := (.seq (.ops [⟨(some 5), .assign (.const (.slice none 0 0)), none⟩]) c_sheaflaw10_FlowCursor_50)
@[go_sem] theorem c_sheaflaw10_FlowCursor_51_at (rd : Option Nat) (K : Post3) (t : Fr) (m : Mem) : wpM E 10 138 rd c_sheaflaw10_FlowCursor_51 K t m = wpM E 10 138 rd (.seq (.ops [⟨(some 5), .assign (.const (.slice none 0 0)), none⟩]) c_sheaflaw10_FlowCursor_50) K t m := rfl

def c_sheaflaw10_FlowCursor_52 : MC := (.seq (.ops [⟨(some 4), .alloc 4, none⟩]) c_sheaflaw10_FlowCursor_51)
@[go_sem] theorem c_sheaflaw10_FlowCursor_52_at (rd : Option Nat) (K : Post3) (t : Fr) (m : Mem) : wpM E 10 138 rd c_sheaflaw10_FlowCursor_52 K t m = wpM E 10 138 rd (.seq (.ops [⟨(some 4), .alloc 4, none⟩]) c_sheaflaw10_FlowCursor_51) K t m := rfl

@[go_sem] theorem some10 : (E.fn 10).isSome = true := by kernel_rfl
set_option maxRecDepth 100000 in
theorem fn_sheaflaw10_FlowCursor : FnIs E 10 138 [.cell 4 4] c_sheaflaw10_FlowCursor_52 := ⟨by kernel_rfl, by kernel_rfl⟩

/-! sheaf/sheaflaw10.FlowBreaks -/
abbrev F_sheaflaw10_FlowBreaks : FuncId := 11
def c_sheaflaw10_FlowBreaks_0 : MC := (.seq (.ops [⟨none, .store 4 (.tmp 4) (.const (.bool false)), none⟩]) .ret)
@[go_sem] theorem c_sheaflaw10_FlowBreaks_0_at (rd : Option Nat) (K : Post3) (t : Fr) (m : Mem) : wpM E 11 107 rd c_sheaflaw10_FlowBreaks_0 K t m = wpM E 11 107 rd (.seq (.ops [⟨none, .store 4 (.tmp 4) (.const (.bool false)), none⟩]) .ret) K t m := rfl

def c_sheaflaw10_FlowBreaks_1 : MC := (.cond (.tmp 35) c_sheaflaw10_FlowBreaks_0 .skip)
@[go_sem] theorem c_sheaflaw10_FlowBreaks_1_at (rd : Option Nat) (K : Post3) (t : Fr) (m : Mem) : wpM E 11 107 rd c_sheaflaw10_FlowBreaks_1 K t m = wpM E 11 107 rd (.cond (.tmp 35) c_sheaflaw10_FlowBreaks_0 .skip) K t m := rfl

def c_sheaflaw10_FlowBreaks_2 : MC := (.seq (.ops [⟨(some 26), .load 3 (.tmp 6), none⟩,
    ⟨(some 27), .binOp .neq 3 (.tmp 26) (.const (.int .i64 0)) 3, none⟩,
    ⟨(some 28), .move (.tmp 27), none⟩,
    ⟨(some 29), .move (.tmp 7), (some (some 28, false))⟩,
    ⟨(some 30), .binOp .eql 38 (.tmp 29) (.const .nilFunc) 38, (some (some 28, false))⟩,
    ⟨(some 31), .pick (.tmp 28) (.const (.bool true)) (.tmp 30), none⟩,
    ⟨(some 32), .move (.tmp 31), none⟩,
    ⟨(some 33), .move (.tmp 8), (some (some 32, false))⟩,
    ⟨(some 34), .binOp .eql 26 (.tmp 33) (.const .nilFunc) 26, (some (some 32, false))⟩,
    ⟨(some 35), .pick (.tmp 32) (.const (.bool true)) (.tmp 34), none⟩]) c_sheaflaw10_FlowBreaks_1)
@[go_sem] theorem c_sheaflaw10_FlowBreaks_2_at (rd : Option Nat) (K : Post3) (t : Fr) (m : Mem) : wpM E 11 107 rd c_sheaflaw10_FlowBreaks_2 K t m = wpM E 11 107 rd (.seq (.ops [⟨(some 26), .load 3 (.tmp 6), none⟩,
    ⟨(some 27), .binOp .neq 3 (.tmp 26) (.const (.int .i64 0)) 3, none⟩,
    ⟨(some 28), .move (.tmp 27), none⟩,
    ⟨(some 29), .move (.tmp 7), (some (some 28, false))⟩,
    ⟨(some 30), .binOp .eql 38 (.tmp 29) (.const .nilFunc) 38, (some (some 28, false))⟩,
    ⟨(some 31), .pick (.tmp 28) (.const (.bool true)) (.tmp 30), none⟩,
    ⟨(some 32), .move (.tmp 31), none⟩,
    ⟨(some 33), .move (.tmp 8), (some (some 32, false))⟩,
    ⟨(some 34), .binOp .eql 26 (.tmp 33) (.const .nilFunc) 26, (some (some 32, false))⟩,
    ⟨(some 35), .pick (.tmp 32) (.const (.bool true)) (.tmp 34), none⟩]) c_sheaflaw10_FlowBreaks_1) K t m := rfl

def c_sheaflaw10_FlowBreaks_3 : MC := (.cond (.tmp 51) .skip (.exit 2))
@[go_sem] theorem c_sheaflaw10_FlowBreaks_3_at (rd : Option Nat) (K : Post3) (t : Fr) (m : Mem) : wpM E 11 107 rd c_sheaflaw10_FlowBreaks_3 K t m = wpM E 11 107 rd (.cond (.tmp 51) .skip (.exit 2)) K t m := rfl

def c_sheaflaw10_FlowBreaks_4 : MC := (.seq (.ops [⟨(some 40), .load 3 (.tmp 11), none⟩,
    ⟨(some 41), .load 23 (.tmp 5), none⟩,
    ⟨(some 42), .call ⟨.builtin .len, #[(.tmp 41)], #[23]⟩, none⟩,
    ⟨(some 43), .binOp .lss 3 (.tmp 40) (.tmp 42) 3, none⟩,
    ⟨(some 44), .move (.tmp 43), none⟩,
    ⟨(some 45), .load 23 (.tmp 5), (some (some 44, true))⟩,
    ⟨(some 46), .load 3 (.tmp 11), (some (some 44, true))⟩,
    ⟨(some 47), .indexAddr 23 (.tmp 45) (.tmp 46), (some (some 44, true))⟩,
    ⟨(some 48), .load 3 (.tmp 47), (some (some 44, true))⟩,
    ⟨(some 49), .binOp .and 3 (.tmp 48) (.const (.int .i64 1)) 3, (some (some 44, true))⟩,
    ⟨(some 50), .binOp .neq 3 (.tmp 49) (.const (.int .i64 0)) 3, (some (some 44, true))⟩,
    ⟨(some 51), .pick (.tmp 44) (.tmp 50) (.const (.bool false)), none⟩]) c_sheaflaw10_FlowBreaks_3)
@[go_sem] theorem c_sheaflaw10_FlowBreaks_4_at (rd : Option Nat) (K : Post3) (t : Fr) (m : Mem) : wpM E 11 107 rd c_sheaflaw10_FlowBreaks_4 K t m = wpM E 11 107 rd (.seq (.ops [⟨(some 40), .load 3 (.tmp 11), none⟩,
    ⟨(some 41), .load 23 (.tmp 5), none⟩,
    ⟨(some 42), .call ⟨.builtin .len, #[(.tmp 41)], #[23]⟩, none⟩,
    ⟨(some 43), .binOp .lss 3 (.tmp 40) (.tmp 42) 3, none⟩,
    ⟨(some 44), .move (.tmp 43), none⟩,
    ⟨(some 45), .load 23 (.tmp 5), (some (some 44, true))⟩,
    ⟨(some 46), .load 3 (.tmp 11), (some (some 44, true))⟩,
    ⟨(some 47), .indexAddr 23 (.tmp 45) (.tmp 46), (some (some 44, true))⟩,
    ⟨(some 48), .load 3 (.tmp 47), (some (some 44, true))⟩,
    ⟨(some 49), .binOp .and 3 (.tmp 48) (.const (.int .i64 1)) 3, (some (some 44, true))⟩,
    ⟨(some 50), .binOp .neq 3 (.tmp 49) (.const (.int .i64 0)) 3, (some (some 44, true))⟩,
    ⟨(some 51), .pick (.tmp 44) (.tmp 50) (.const (.bool false)), none⟩]) c_sheaflaw10_FlowBreaks_3) K t m := rfl

def c_sheaflaw10_FlowBreaks_5 : MC := (.block 3 (.ops [⟨(some 52), .load 3 (.tmp 11), none⟩,
    ⟨(some 53), .binOp .add 3 (.tmp 52) (.const (.int .i64 1)) 3, none⟩,
    ⟨none, .store 3 (.tmp 11) (.tmp 53), none⟩]))
@[go_sem] theorem c_sheaflaw10_FlowBreaks_5_at (rd : Option Nat) (K : Post3) (t : Fr) (m : Mem) : wpM E 11 107 rd c_sheaflaw10_FlowBreaks_5 K t m = wpM E 11 107 rd (.block 3 (.ops [⟨(some 52), .load 3 (.tmp 11), none⟩,
    ⟨(some 53), .binOp .add 3 (.tmp 52) (.const (.int .i64 1)) 3, none⟩,
    ⟨none, .store 3 (.tmp 11) (.tmp 53), none⟩])) K t m := rfl

def c_sheaflaw10_FlowBreaks_6 : MC := (.seq c_sheaflaw10_FlowBreaks_4 c_sheaflaw10_FlowBreaks_5)
@[go_sem] theorem c_sheaflaw10_FlowBreaks_6_at (rd : Option Nat) (K : Post3) (t : Fr) (m : Mem) : wpM E 11 107 rd c_sheaflaw10_FlowBreaks_6 K t m = wpM E 11 107 rd (.seq c_sheaflaw10_FlowBreaks_4 c_sheaflaw10_FlowBreaks_5) K t m := rfl

def c_sheaflaw10_FlowBreaks_7 : MC := (.loop c_sheaflaw10_FlowBreaks_6)
theorem c_sheaflaw10_FlowBreaks_7_at (rd : Option Nat) (K : Post3) (t : Fr) (m : Mem) : wpM E 11 107 rd c_sheaflaw10_FlowBreaks_7 K t m = wpM E 11 107 rd (.loop c_sheaflaw10_FlowBreaks_6) K t m := rfl

def c_sheaflaw10_FlowBreaks_8 : MC := (.block 2 c_sheaflaw10_FlowBreaks_7)
theorem c_sheaflaw10_FlowBreaks_8_at (rd : Option Nat) (K : Post3) (t : Fr) (m : Mem) : wpM E 11 107 rd c_sheaflaw10_FlowBreaks_8 K t m = wpM E 11 107 rd (.block 2 c_sheaflaw10_FlowBreaks_7) K t m := rfl

def c_sheaflaw10_FlowBreaks_9 : MC := (.seq (.ops [⟨none, .store 4 (.tmp 4) (.const (.bool false)), none⟩]) .ret)
@[go_sem] theorem c_sheaflaw10_FlowBreaks_9_at (rd : Option Nat) (K : Post3) (t : Fr) (m : Mem) : wpM E 11 107 rd c_sheaflaw10_FlowBreaks_9 K t m = wpM E 11 107 rd (.seq (.ops [⟨none, .store 4 (.tmp 4) (.const (.bool false)), none⟩]) .ret) K t m := rfl

def c_sheaflaw10_FlowBreaks_10 : MC := (.cond (.tmp 66) c_sheaflaw10_FlowBreaks_9 .skip)
@[go_sem] theorem c_sheaflaw10_FlowBreaks_10_at (rd : Option Nat) (K : Post3) (t : Fr) (m : Mem) : wpM E 11 107 rd c_sheaflaw10_FlowBreaks_10 K t m = wpM E 11 107 rd (.cond (.tmp 66) c_sheaflaw10_FlowBreaks_9 .skip) K t m := rfl

def c_sheaflaw10_FlowBreaks_11 : MC := (.seq (.ops [⟨(some 54), .load 3 (.tmp 11), none⟩,
    ⟨(some 55), .load 23 (.tmp 5), none⟩,
    ⟨(some 56), .call ⟨.builtin .len, #[(.tmp 55)], #[23]⟩, none⟩,
    ⟨(some 57), .binOp .geq 3 (.tmp 54) (.tmp 56) 3, none⟩,
    ⟨(some 58), .move (.tmp 57), none⟩,
    ⟨(some 59), .move (.tmp 12), (some (some 58, false))⟩,
    ⟨(some 60), .load 23 (.tmp 5), (some (some 58, false))⟩,
    ⟨(some 61), .load 3 (.tmp 11), (some (some 58, false))⟩,
    ⟨(some 62), .indexAddr 23 (.tmp 60) (.tmp 61), (some (some 58, false))⟩,
    ⟨(some 63), .load 3 (.tmp 62), (some (some 58, false))⟩,
    ⟨(some 64), .binOp .quo 3 (.tmp 63) (.const (.int .i64 2)) 3, (some (some 58, false))⟩,
    ⟨(some 65), .binOp .neq 3 (.tmp 59) (.tmp 64) 3, (some (some 58, false))⟩,
    ⟨(some 66), .pick (.tmp 58) (.const (.bool true)) (.tmp 65), none⟩]) c_sheaflaw10_FlowBreaks_10)
@[go_sem] theorem c_sheaflaw10_FlowBreaks_11_at (rd : Option Nat) (K : Post3) (t : Fr) (m : Mem) : wpM E 11 107 rd c_sheaflaw10_FlowBreaks_11 K t m = wpM E 11 107 rd (.seq (.ops [⟨(some 54), .load 3 (.tmp 11), none⟩,
    ⟨(some 55), .load 23 (.tmp 5), none⟩,
    ⟨(some 56), .call ⟨.builtin .len, #[(.tmp 55)], #[23]⟩, none⟩,
    ⟨(some 57), .binOp .geq 3 (.tmp 54) (.tmp 56) 3, none⟩,
    ⟨(some 58), .move (.tmp 57), none⟩,
    ⟨(some 59), .move (.tmp 12), (some (some 58, false))⟩,
    ⟨(some 60), .load 23 (.tmp 5), (some (some 58, false))⟩,
    ⟨(some 61), .load 3 (.tmp 11), (some (some 58, false))⟩,
    ⟨(some 62), .indexAddr 23 (.tmp 60) (.tmp 61), (some (some 58, false))⟩,
    ⟨(some 63), .load 3 (.tmp 62), (some (some 58, false))⟩,
    ⟨(some 64), .binOp .quo 3 (.tmp 63) (.const (.int .i64 2)) 3, (some (some 58, false))⟩,
    ⟨(some 65), .binOp .neq 3 (.tmp 59) (.tmp 64) 3, (some (some 58, false))⟩,
    ⟨(some 66), .pick (.tmp 58) (.const (.bool true)) (.tmp 65), none⟩]) c_sheaflaw10_FlowBreaks_10) K t m := rfl

def c_sheaflaw10_FlowBreaks_12 : MC := (.cond (.tmp 73) (.exit 0) .skip)
@[go_sem] theorem c_sheaflaw10_FlowBreaks_12_at (rd : Option Nat) (K : Post3) (t : Fr) (m : Mem) : wpM E 11 107 rd c_sheaflaw10_FlowBreaks_12 K t m = wpM E 11 107 rd (.cond (.tmp 73) (.exit 0) .skip) K t m := rfl

def c_sheaflaw10_FlowBreaks_13 : MC := (.seq (.ops [⟨(some 71), .load 3 (.tmp 10), none⟩,
    ⟨(some 72), .load 3 (.tmp 9), none⟩,
    ⟨(some 73), .binOp .eql 3 (.tmp 71) (.tmp 72) 3, none⟩]) c_sheaflaw10_FlowBreaks_12)
@[go_sem] theorem c_sheaflaw10_FlowBreaks_13_at (rd : Option Nat) (K : Post3) (t : Fr) (m : Mem) : wpM E 11 107 rd c_sheaflaw10_FlowBreaks_13 K t m = wpM E 11 107 rd (.seq (.ops [⟨(some 71), .load 3 (.tmp 10), none⟩,
    ⟨(some 72), .load 3 (.tmp 9), none⟩,
    ⟨(some 73), .binOp .eql 3 (.tmp 71) (.tmp 72) 3, none⟩]) c_sheaflaw10_FlowBreaks_12) K t m := rfl

def c_sheaflaw10_FlowBreaks_14 : MC := (.seq (.ops [⟨(some 69), .load 3 (.tmp 10), none⟩,
    ⟨(some 70), .binOp .add 3 (.tmp 69) (.const (.int .i64 1)) 3, none⟩,
    ⟨none, .store 3 (.tmp 10) (.tmp 70), none⟩]) c_sheaflaw10_FlowBreaks_13)
@[go_sem] theorem c_sheaflaw10_FlowBreaks_14_at (rd : Option Nat) (K : Post3) (t : Fr) (m : Mem) : wpM E 11 107 rd c_sheaflaw10_FlowBreaks_14 K t m = wpM E 11 107 rd (.seq (.ops [⟨(some 69), .load 3 (.tmp 10), none⟩,
    ⟨(some 70), .binOp .add 3 (.tmp 69) (.const (.int .i64 1)) 3, none⟩,
    ⟨none, .store 3 (.tmp 10) (.tmp 70), none⟩]) c_sheaflaw10_FlowBreaks_13) K t m := rfl

def c_sheaflaw10_FlowBreaks_15 : MC := (.seq (.ops [⟨(some 67), .load 3 (.tmp 11), none⟩,
    ⟨(some 68), .binOp .add 3 (.tmp 67) (.const (.int .i64 1)) 3, none⟩,
    ⟨none, .store 3 (.tmp 11) (.tmp 68), none⟩]) c_sheaflaw10_FlowBreaks_14)
@[go_sem] theorem c_sheaflaw10_FlowBreaks_15_at (rd : Option Nat) (K : Post3) (t : Fr) (m : Mem) : wpM E 11 107 rd c_sheaflaw10_FlowBreaks_15 K t m = wpM E 11 107 rd (.seq (.ops [⟨(some 67), .load 3 (.tmp 11), none⟩,
    ⟨(some 68), .binOp .add 3 (.tmp 67) (.const (.int .i64 1)) 3, none⟩,
    ⟨none, .store 3 (.tmp 11) (.tmp 68), none⟩]) c_sheaflaw10_FlowBreaks_14) K t m := rfl

def c_sheaflaw10_FlowBreaks_16 : MC := (.seq c_sheaflaw10_FlowBreaks_11 c_sheaflaw10_FlowBreaks_15)
@[go_sem] theorem c_sheaflaw10_FlowBreaks_16_at (rd : Option Nat) (K : Post3) (t : Fr) (m : Mem) : wpM E 11 107 rd c_sheaflaw10_FlowBreaks_16 K t m = wpM E 11 107 rd (.seq c_sheaflaw10_FlowBreaks_11 c_sheaflaw10_FlowBreaks_15) K t m := rfl

def c_sheaflaw10_FlowBreaks_17 : MC := (.seq c_sheaflaw10_FlowBreaks_8 c_sheaflaw10_FlowBreaks_16)
@[go_sem] theorem c_sheaflaw10_FlowBreaks_17_at (rd : Option Nat) (K : Post3) (t : Fr) (m : Mem) : wpM E 11 107 rd c_sheaflaw10_FlowBreaks_17 K t m = wpM E 11 107 rd (.seq c_sheaflaw10_FlowBreaks_8 c_sheaflaw10_FlowBreaks_16) K t m := rfl

def c_sheaflaw10_FlowBreaks_18 : MC := (.block 1 c_sheaflaw10_FlowBreaks_17)
@[go_sem] theorem c_sheaflaw10_FlowBreaks_18_at (rd : Option Nat) (K : Post3) (t : Fr) (m : Mem) : wpM E 11 107 rd c_sheaflaw10_FlowBreaks_18 K t m = wpM E 11 107 rd (.block 1 c_sheaflaw10_FlowBreaks_17) K t m := rfl

theorem asg_sheaflaw10_FlowBreaks_0 : compile E 11 107 (asgAt E 11 0) = some (.ops [⟨(some 12), .assign (.tmp 39), none⟩]) := by kernel_rfl

theorem body_sheaflaw10_FlowBreaks_0 : compile E 11 107 (bodyAt E 11 0) = some c_sheaflaw10_FlowBreaks_18 := by kernel_rfl

def c_sheaflaw10_FlowBreaks_19 : MC := (.range (.tmp 38) #[39] (asgAt E 11 0) (bodyAt E 11 0))
theorem c_sheaflaw10_FlowBreaks_19_at (rd : Option Nat) (K : Post3) (t : Fr) (m : Mem) : wpM E 11 107 rd c_sheaflaw10_FlowBreaks_19 K t m = wpM E 11 107 rd (.range (.tmp 38) #[39] (asgAt E 11 0) (bodyAt E 11 0)) K t m := rfl

def c_sheaflaw10_FlowBreaks_20 : MC := (.block 0 c_sheaflaw10_FlowBreaks_19)
@[go_sem] theorem c_sheaflaw10_FlowBreaks_20_at (rd : Option Nat) (K : Post3) (t : Fr) (m : Mem) : wpM E 11 107 rd c_sheaflaw10_FlowBreaks_20 K t m = wpM E 11 107 rd (.block 0 c_sheaflaw10_FlowBreaks_19) K t m := rfl

def c_sheaflaw10_FlowBreaks_21 : MC := (.seq (.ops [⟨(some 38), .move (.tmp 7), none⟩]) c_sheaflaw10_FlowBreaks_20)
@[go_sem] theorem c_sheaflaw10_FlowBreaks_21_at (rd : Option Nat) (K : Post3) (t : Fr) (m : Mem) : wpM E 11 107 rd c_sheaflaw10_FlowBreaks_21 K t m = wpM E 11 107 rd (.seq (.ops [⟨(some 38), .move (.tmp 7), none⟩]) c_sheaflaw10_FlowBreaks_20) K t m := rfl

def c_sheaflaw10_FlowBreaks_22 : MC := (.cond (.tmp 76) (.ops [⟨(some 77), .load 23 (.tmp 5), none⟩,
    ⟨(some 78), .call ⟨.builtin .len, #[(.tmp 77)], #[23]⟩, none⟩,
    ⟨none, .store 3 (.tmp 11) (.tmp 78), none⟩]) .skip)
@[go_sem] theorem c_sheaflaw10_FlowBreaks_22_at (rd : Option Nat) (K : Post3) (t : Fr) (m : Mem) : wpM E 11 107 rd c_sheaflaw10_FlowBreaks_22 K t m = wpM E 11 107 rd (.cond (.tmp 76) (.ops [⟨(some 77), .load 23 (.tmp 5), none⟩,
    ⟨(some 78), .call ⟨.builtin .len, #[(.tmp 77)], #[23]⟩, none⟩,
    ⟨none, .store 3 (.tmp 11) (.tmp 78), none⟩]) .skip) K t m := rfl

def c_sheaflaw10_FlowBreaks_23 : MC := (.seq (.ops [⟨(some 74), .load 3 (.tmp 10), none⟩,
    ⟨(some 75), .load 3 (.tmp 9), none⟩,
    ⟨(some 76), .binOp .lss 3 (.tmp 74) (.tmp 75) 3, none⟩]) c_sheaflaw10_FlowBreaks_22)
@[go_sem] theorem c_sheaflaw10_FlowBreaks_23_at (rd : Option Nat) (K : Post3) (t : Fr) (m : Mem) : wpM E 11 107 rd c_sheaflaw10_FlowBreaks_23 K t m = wpM E 11 107 rd (.seq (.ops [⟨(some 74), .load 3 (.tmp 10), none⟩,
    ⟨(some 75), .load 3 (.tmp 9), none⟩,
    ⟨(some 76), .binOp .lss 3 (.tmp 74) (.tmp 75) 3, none⟩]) c_sheaflaw10_FlowBreaks_22) K t m := rfl

def c_sheaflaw10_FlowBreaks_24 : MC := (.seq (.ops [⟨none, .store 4 (.tmp 4) (.const (.bool false)), none⟩]) .ret)
@[go_sem] theorem c_sheaflaw10_FlowBreaks_24_at (rd : Option Nat) (K : Post3) (t : Fr) (m : Mem) : wpM E 11 107 rd c_sheaflaw10_FlowBreaks_24 K t m = wpM E 11 107 rd (.seq (.ops [⟨none, .store 4 (.tmp 4) (.const (.bool false)), none⟩]) .ret) K t m := rfl

def c_sheaflaw10_FlowBreaks_25 : MC := (.cond (.tmp 81) c_sheaflaw10_FlowBreaks_24 .skip)
@[go_sem] theorem c_sheaflaw10_FlowBreaks_25_at (rd : Option Nat) (K : Post3) (t : Fr) (m : Mem) : wpM E 11 107 rd c_sheaflaw10_FlowBreaks_25 K t m = wpM E 11 107 rd (.cond (.tmp 81) c_sheaflaw10_FlowBreaks_24 .skip) K t m := rfl

def c_sheaflaw10_FlowBreaks_26 : MC := (.seq (.ops [⟨(some 79), .load 3 (.tmp 6), none⟩,
    ⟨(some 80), .load 3 (.tmp 11), none⟩,
    ⟨(some 81), .binOp .neq 3 (.tmp 79) (.tmp 80) 3, none⟩]) c_sheaflaw10_FlowBreaks_25)
@[go_sem] theorem c_sheaflaw10_FlowBreaks_26_at (rd : Option Nat) (K : Post3) (t : Fr) (m : Mem) : wpM E 11 107 rd c_sheaflaw10_FlowBreaks_26 K t m = wpM E 11 107 rd (.seq (.ops [⟨(some 79), .load 3 (.tmp 6), none⟩,
    ⟨(some 80), .load 3 (.tmp 11), none⟩,
    ⟨(some 81), .binOp .neq 3 (.tmp 79) (.tmp 80) 3, none⟩]) c_sheaflaw10_FlowBreaks_25) K t m := rfl

def c_sheaflaw10_FlowBreaks_27 : MC := (.seq (.ops [⟨none, .store 4 (.tmp 4) (.const (.bool false)), none⟩]) .ret)
@[go_sem] theorem c_sheaflaw10_FlowBreaks_27_at (rd : Option Nat) (K : Post3) (t : Fr) (m : Mem) : wpM E 11 107 rd c_sheaflaw10_FlowBreaks_27 K t m = wpM E 11 107 rd (.seq (.ops [⟨none, .store 4 (.tmp 4) (.const (.bool false)), none⟩]) .ret) K t m := rfl

def c_sheaflaw10_FlowBreaks_28 : MC := (.cond (.tmp 96) c_sheaflaw10_FlowBreaks_27 .skip)
@[go_sem] theorem c_sheaflaw10_FlowBreaks_28_at (rd : Option Nat) (K : Post3) (t : Fr) (m : Mem) : wpM E 11 107 rd c_sheaflaw10_FlowBreaks_28 K t m = wpM E 11 107 rd (.cond (.tmp 96) c_sheaflaw10_FlowBreaks_27 .skip) K t m := rfl

def c_sheaflaw10_FlowBreaks_29 : MC := (.seq (.ops [⟨(some 84), .move (.tmp 13), none⟩,
    ⟨(some 85), .call ⟨.builtin .len, #[(.tmp 84)], #[23]⟩, none⟩,
    ⟨(some 86), .binOp .lss 3 (.tmp 85) (.const (.int .i64 1)) 3, none⟩,
    ⟨(some 87), .move (.tmp 86), none⟩,
    ⟨(some 88), .load 3 (.tmp 6), (some (some 87, false))⟩,
    ⟨(some 89), .move (.tmp 13), (some (some 87, false))⟩,
    ⟨(some 90), .call ⟨.builtin .len, #[(.tmp 89)], #[23]⟩, (some (some 87, false))⟩,
    ⟨(some 91), .binOp .add 3 (.tmp 90) (.const (.int .i64 1)) 3, (some (some 87, false))⟩,
    ⟨(some 92), .load 23 (.tmp 5), (some (some 87, false))⟩,
    ⟨(some 93), .call ⟨.builtin .len, #[(.tmp 92)], #[23]⟩, (some (some 87, false))⟩,
    ⟨(some 94), .call ⟨.builtin .min, #[(.tmp 91), (.tmp 93)], #[3, 3]⟩, (some (some 87, false))⟩,
    ⟨(some 95), .binOp .neq 3 (.tmp 88) (.tmp 94) 3, (some (some 87, false))⟩,
    ⟨(some 96), .pick (.tmp 87) (.const (.bool true)) (.tmp 95), none⟩]) c_sheaflaw10_FlowBreaks_28)
@[go_sem] theorem c_sheaflaw10_FlowBreaks_29_at (rd : Option Nat) (K : Post3) (t : Fr) (m : Mem) : wpM E 11 107 rd c_sheaflaw10_FlowBreaks_29 K t m = wpM E 11 107 rd (.seq (.ops [⟨(some 84), .move (.tmp 13), none⟩,
    ⟨(some 85), .call ⟨.builtin .len, #[(.tmp 84)], #[23]⟩, none⟩,
    ⟨(some 86), .binOp .lss 3 (.tmp 85) (.const (.int .i64 1)) 3, none⟩,
    ⟨(some 87), .move (.tmp 86), none⟩,
    ⟨(some 88), .load 3 (.tmp 6), (some (some 87, false))⟩,
    ⟨(some 89), .move (.tmp 13), (some (some 87, false))⟩,
    ⟨(some 90), .call ⟨.builtin .len, #[(.tmp 89)], #[23]⟩, (some (some 87, false))⟩,
    ⟨(some 91), .binOp .add 3 (.tmp 90) (.const (.int .i64 1)) 3, (some (some 87, false))⟩,
    ⟨(some 92), .load 23 (.tmp 5), (some (some 87, false))⟩,
    ⟨(some 93), .call ⟨.builtin .len, #[(.tmp 92)], #[23]⟩, (some (some 87, false))⟩,
    ⟨(some 94), .call ⟨.builtin .min, #[(.tmp 91), (.tmp 93)], #[3, 3]⟩, (some (some 87, false))⟩,
    ⟨(some 95), .binOp .neq 3 (.tmp 88) (.tmp 94) 3, (some (some 87, false))⟩,
    ⟨(some 96), .pick (.tmp 87) (.const (.bool true)) (.tmp 95), none⟩]) c_sheaflaw10_FlowBreaks_28) K t m := rfl

def c_sheaflaw10_FlowBreaks_30 : MC := (.seq c_sheaflaw10_FlowBreaks_29 (.exit 4))
@[go_sem] theorem c_sheaflaw10_FlowBreaks_30_at (rd : Option Nat) (K : Post3) (t : Fr) (m : Mem) : wpM E 11 107 rd c_sheaflaw10_FlowBreaks_30 K t m = wpM E 11 107 rd (.seq c_sheaflaw10_FlowBreaks_29 (.exit 4)) K t m := rfl

def c_sheaflaw10_FlowBreaks_31 : MC := (.block 5 c_sheaflaw10_FlowBreaks_30)
@[go_sem] theorem c_sheaflaw10_FlowBreaks_31_at (rd : Option Nat) (K : Post3) (t : Fr) (m : Mem) : wpM E 11 107 rd c_sheaflaw10_FlowBreaks_31 K t m = wpM E 11 107 rd (.block 5 c_sheaflaw10_FlowBreaks_30) K t m := rfl

theorem asg_sheaflaw10_FlowBreaks_1 : compile E 11 107 (asgAt E 11 1) = some (.ops [⟨(some 13), .assign (.tmp 83), none⟩]) := by kernel_rfl

theorem body_sheaflaw10_FlowBreaks_1 : compile E 11 107 (bodyAt E 11 1) = some c_sheaflaw10_FlowBreaks_31 := by kernel_rfl

def c_sheaflaw10_FlowBreaks_32 : MC := (.range (.tmp 82) #[83] (asgAt E 11 1) (bodyAt E 11 1))
theorem c_sheaflaw10_FlowBreaks_32_at (rd : Option Nat) (K : Post3) (t : Fr) (m : Mem) : wpM E 11 107 rd c_sheaflaw10_FlowBreaks_32 K t m = wpM E 11 107 rd (.range (.tmp 82) #[83] (asgAt E 11 1) (bodyAt E 11 1)) K t m := rfl

def c_sheaflaw10_FlowBreaks_33 : MC := (.block 4 c_sheaflaw10_FlowBreaks_32)
@[go_sem] theorem c_sheaflaw10_FlowBreaks_33_at (rd : Option Nat) (K : Post3) (t : Fr) (m : Mem) : wpM E 11 107 rd c_sheaflaw10_FlowBreaks_33 K t m = wpM E 11 107 rd (.block 4 c_sheaflaw10_FlowBreaks_32) K t m := rfl

def c_sheaflaw10_FlowBreaks_34 : MC := (.seq (.ops [⟨(some 82), .move (.tmp 8), none⟩]) c_sheaflaw10_FlowBreaks_33)
@[go_sem] theorem c_sheaflaw10_FlowBreaks_34_at (rd : Option Nat) (K : Post3) (t : Fr) (m : Mem) : wpM E 11 107 rd c_sheaflaw10_FlowBreaks_34 K t m = wpM E 11 107 rd (.seq (.ops [⟨(some 82), .move (.tmp 8), none⟩]) c_sheaflaw10_FlowBreaks_33) K t m := rfl

def c_sheaflaw10_FlowBreaks_35 : MC := (.seq (.ops [⟨(some 97), .load 23 (.tmp 5), none⟩,
    ⟨(some 98), .call ⟨.builtin .len, #[(.tmp 97)], #[23]⟩, none⟩,
    ⟨(some 99), .binOp .gtr 3 (.tmp 98) (.const (.int .i64 0)) 3, none⟩,
    ⟨(some 100), .move (.tmp 99), none⟩,
    ⟨(some 101), .load 3 (.tmp 6), (some (some 100, false))⟩,
    ⟨(some 102), .binOp .eql 3 (.tmp 101) (.const (.int .i64 0)) 3, (some (some 100, false))⟩,
    ⟨(some 103), .pick (.tmp 100) (.const (.bool true)) (.tmp 102), none⟩,
    ⟨(some 104), .move (.tmp 103), none⟩,
    ⟨(some 105), .call ⟨.value (.func 7), #[], #[]⟩, (some (some 104, true))⟩,
    ⟨(some 106), .pick (.tmp 104) (.tmp 105) (.const (.bool false)), none⟩,
    ⟨none, .store 4 (.tmp 4) (.tmp 106), none⟩]) .ret)
@[go_sem] theorem c_sheaflaw10_FlowBreaks_35_at (rd : Option Nat) (K : Post3) (t : Fr) (m : Mem) : wpM E 11 107 rd c_sheaflaw10_FlowBreaks_35 K t m = wpM E 11 107 rd (.seq (.ops [⟨(some 97), .load 23 (.tmp 5), none⟩,
    ⟨(some 98), .call ⟨.builtin .len, #[(.tmp 97)], #[23]⟩, none⟩,
    ⟨(some 99), .binOp .gtr 3 (.tmp 98) (.const (.int .i64 0)) 3, none⟩,
    ⟨(some 100), .move (.tmp 99), none⟩,
    ⟨(some 101), .load 3 (.tmp 6), (some (some 100, false))⟩,
    ⟨(some 102), .binOp .eql 3 (.tmp 101) (.const (.int .i64 0)) 3, (some (some 100, false))⟩,
    ⟨(some 103), .pick (.tmp 100) (.const (.bool true)) (.tmp 102), none⟩,
    ⟨(some 104), .move (.tmp 103), none⟩,
    ⟨(some 105), .call ⟨.value (.func 7), #[], #[]⟩, (some (some 104, true))⟩,
    ⟨(some 106), .pick (.tmp 104) (.tmp 105) (.const (.bool false)), none⟩,
    ⟨none, .store 4 (.tmp 4) (.tmp 106), none⟩]) .ret) K t m := rfl

def c_sheaflaw10_FlowBreaks_36 : MC := (.seq c_sheaflaw10_FlowBreaks_34 c_sheaflaw10_FlowBreaks_35)
@[go_sem] theorem c_sheaflaw10_FlowBreaks_36_at (rd : Option Nat) (K : Post3) (t : Fr) (m : Mem) : wpM E 11 107 rd c_sheaflaw10_FlowBreaks_36 K t m = wpM E 11 107 rd (.seq c_sheaflaw10_FlowBreaks_34 c_sheaflaw10_FlowBreaks_35) K t m := rfl

def c_sheaflaw10_FlowBreaks_37 : MC := (.seq (.ops [⟨none, .store 3 (.tmp 6) (.const (.int .i64 0)), none⟩]) c_sheaflaw10_FlowBreaks_36)
@[go_sem] theorem c_sheaflaw10_FlowBreaks_37_at (rd : Option Nat) (K : Post3) (t : Fr) (m : Mem) : wpM E 11 107 rd c_sheaflaw10_FlowBreaks_37 K t m = wpM E 11 107 rd (.seq (.ops [⟨none, .store 3 (.tmp 6) (.const (.int .i64 0)), none⟩]) c_sheaflaw10_FlowBreaks_36) K t m := rfl

def c_sheaflaw10_FlowBreaks_38 : MC := (.seq c_sheaflaw10_FlowBreaks_26 c_sheaflaw10_FlowBreaks_37)
@[go_sem] theorem c_sheaflaw10_FlowBreaks_38_at (rd : Option Nat) (K : Post3) (t : Fr) (m : Mem) : wpM E 11 107 rd c_sheaflaw10_FlowBreaks_38 K t m = wpM E 11 107 rd (.seq c_sheaflaw10_FlowBreaks_26 c_sheaflaw10_FlowBreaks_37) K t m := rfl

def c_sheaflaw10_FlowBreaks_39 : MC := (.seq c_sheaflaw10_FlowBreaks_23 c_sheaflaw10_FlowBreaks_38)
@[go_sem] theorem c_sheaflaw10_FlowBreaks_39_at (rd : Option Nat) (K : Post3) (t : Fr) (m : Mem) : wpM E 11 107 rd c_sheaflaw10_FlowBreaks_39 K t m = wpM E 11 107 rd (.seq c_sheaflaw10_FlowBreaks_23 c_sheaflaw10_FlowBreaks_38) K t m := rfl

def c_sheaflaw10_FlowBreaks_40 : MC := (.seq c_sheaflaw10_FlowBreaks_21 c_sheaflaw10_FlowBreaks_39)
@[go_sem] theorem c_sheaflaw10_FlowBreaks_40_at (rd : Option Nat) (K : Post3) (t : Fr) (m : Mem) : wpM E 11 107 rd c_sheaflaw10_FlowBreaks_40 K t m = wpM E 11 107 rd (.seq c_sheaflaw10_FlowBreaks_21 c_sheaflaw10_FlowBreaks_39) K t m := rfl

def c_sheaflaw10_FlowBreaks_41 : MC := (.seq (.ops [⟨(some 10), .alloc 3, none⟩,
    ⟨(some 11), .alloc 3, none⟩,
    ⟨none, .store 3 (.tmp 10) (.const (.int .i64 0)), none⟩,
    ⟨none, .store 3 (.tmp 11) (.const (.int .i64 0)), none⟩]) c_sheaflaw10_FlowBreaks_40)
@[go_sem] theorem c_sheaflaw10_FlowBreaks_41_at (rd : Option Nat) (K : Post3) (t : Fr) (m : Mem) : wpM E 11 107 rd c_sheaflaw10_FlowBreaks_41 K t m = wpM E 11 107 rd (.seq (.ops [⟨(some 10), .alloc 3, none⟩,
    ⟨(some 11), .alloc 3, none⟩,
    ⟨none, .store 3 (.tmp 10) (.const (.int .i64 0)), none⟩,
    ⟨none, .store 3 (.tmp 11) (.const (.int .i64 0)), none⟩]) c_sheaflaw10_FlowBreaks_40) K t m := rfl

def c_sheaflaw10_FlowBreaks_42 : MC := (.seq (.ops [⟨(some 36), .move (.tmp 1), none⟩,
    ⟨(some 37), .call ⟨.value (.func 21), #[(.tmp 36), (.const (.int .i64 1)), (.const (.int .i64 5))], #[3, 3, 3]⟩, none⟩,
    ⟨(some 9), .alloc 3, none⟩,
    ⟨none, .store 3 (.tmp 9) (.tmp 37), none⟩]) c_sheaflaw10_FlowBreaks_41)
@[go_sem] theorem c_sheaflaw10_FlowBreaks_42_at (rd : Option Nat) (K : Post3) (t : Fr) (m : Mem) : wpM E 11 107 rd c_sheaflaw10_FlowBreaks_42 K t m = wpM E 11 107 rd (.seq (.ops [⟨(some 36), .move (.tmp 1), none⟩,
    ⟨(some 37), .call ⟨.value (.func 21), #[(.tmp 36), (.const (.int .i64 1)), (.const (.int .i64 5))], #[3, 3, 3]⟩, none⟩,
    ⟨(some 9), .alloc 3, none⟩,
    ⟨none, .store 3 (.tmp 9) (.tmp 37), none⟩]) c_sheaflaw10_FlowBreaks_41) K t m := rfl

def c_sheaflaw10_FlowBreaks_43 : MC := (.seq c_sheaflaw10_FlowBreaks_2 c_sheaflaw10_FlowBreaks_42)
@[go_sem] theorem c_sheaflaw10_FlowBreaks_43_at (rd : Option Nat) (K : Post3) (t : Fr) (m : Mem) : wpM E 11 107 rd c_sheaflaw10_FlowBreaks_43 K t m = wpM E 11 107 rd (.seq c_sheaflaw10_FlowBreaks_2 c_sheaflaw10_FlowBreaks_42) K t m := rfl

def c_sheaflaw10_FlowBreaks_44 : MC := (.seq (.ops [⟨(some 23), .load 23 (.tmp 5), none⟩,
    ⟨(some 24), .call ⟨.value (.func 35), #[(.tmp 23), (.tmp 6)], #[23, 51]⟩, none⟩,
    ⟨(some 25), .call ⟨.value (.func 23), #[(.tmp 24), (.func 25)], #[38, 34]⟩, none⟩,
    ⟨(some 8), .assign (.tmp 25), none⟩]) c_sheaflaw10_FlowBreaks_43)
@[go_sem] theorem c_sheaflaw10_FlowBreaks_44_at (rd : Option Nat) (K : Post3) (t : Fr) (m : Mem) : wpM E 11 107 rd c_sheaflaw10_FlowBreaks_44 K t m = wpM E 11 107 rd (.seq (.ops [⟨(some 23), .load 23 (.tmp 5), none⟩,
    ⟨(some 24), .call ⟨.value (.func 35), #[(.tmp 23), (.tmp 6)], #[23, 51]⟩, none⟩,
    ⟨(some 25), .call ⟨.value (.func 23), #[(.tmp 24), (.func 25)], #[38, 34]⟩, none⟩,
    ⟨(some 8), .assign (.tmp 25), none⟩]) c_sheaflaw10_FlowBreaks_43) K t m := rfl

def c_sheaflaw10_FlowBreaks_45 : MC := (.seq (.ops [⟨(some 19), .load 23 (.tmp 5), none⟩,
    ⟨(some 20), .call ⟨.value (.func 35), #[(.tmp 19), (.tmp 6)], #[23, 51]⟩, none⟩,
    ⟨(some 21), .call ⟨.value (.func 34), #[(.tmp 20), (.func 36)], #[38, 55]⟩, none⟩,
    ⟨(some 22), .call ⟨.value (.func 33), #[(.tmp 21), (.func 37)], #[38, 56]⟩, none⟩,
    ⟨(some 7), .assign (.tmp 22), none⟩]) c_sheaflaw10_FlowBreaks_44)
@[go_sem] theorem c_sheaflaw10_FlowBreaks_45_at (rd : Option Nat) (K : Post3) (t : Fr) (m : Mem) : wpM E 11 107 rd c_sheaflaw10_FlowBreaks_45 K t m = wpM E 11 107 rd (.seq (.ops [⟨(some 19), .load 23 (.tmp 5), none⟩,
    ⟨(some 20), .call ⟨.value (.func 35), #[(.tmp 19), (.tmp 6)], #[23, 51]⟩, none⟩,
    ⟨(some 21), .call ⟨.value (.func 34), #[(.tmp 20), (.func 36)], #[38, 55]⟩, none⟩,
    ⟨(some 22), .call ⟨.value (.func 33), #[(.tmp 21), (.func 37)], #[38, 56]⟩, none⟩,
    ⟨(some 7), .assign (.tmp 22), none⟩]) c_sheaflaw10_FlowBreaks_44) K t m := rfl

def c_sheaflaw10_FlowBreaks_46 : MC := (.seq (.ops [⟨(some 6), .alloc 3, none⟩,
    ⟨none, .store 3 (.tmp 6) (.const (.int .i64 0)), none⟩]) c_sheaflaw10_FlowBreaks_45)
@[go_sem] theorem c_sheaflaw10_FlowBreaks_46_at (rd : Option Nat) (K : Post3) (t : Fr) (m : Mem) : wpM E 11 107 rd c_sheaflaw10_FlowBreaks_46 K t m = wpM E 11 107 rd (.seq (.ops [⟨(some 6), .alloc 3, none⟩,
    ⟨none, .store 3 (.tmp 6) (.const (.int .i64 0)), none⟩]) c_sheaflaw10_FlowBreaks_45) K t m := rfl

def c_sheaflaw10_FlowBreaks_47 : MC := (.seq (.ops [⟨(some 14), .move (.tmp 0), none⟩,
    ⟨(some 15), .move (.tmp 0), none⟩,
    ⟨(some 16), .call ⟨.builtin .len, #[(.tmp 15)], #[23]⟩, none⟩,
    ⟨(some 17), .call ⟨.builtin .min, #[(.tmp 16), (.const (.int .i64 30))], #[3, 3]⟩, none⟩,
    ⟨(some 18), .slice 23 (.tmp 14) none (some (.tmp 17)) none, none⟩,
    ⟨(some 5), .alloc 23, none⟩,
    ⟨none, .store 23 (.tmp 5) (.tmp 18), none⟩]) c_sheaflaw10_FlowBreaks_46)
@[go_sem] theorem c_sheaflaw10_FlowBreaks_47_at (rd : Option Nat) (K : Post3) (t : Fr) (m : Mem) : wpM E 11 107 rd c_sheaflaw10_FlowBreaks_47 K t m = wpM E 11 107 rd (.seq (.ops [⟨(some 14), .move (.tmp 0), none⟩,
    ⟨(some 15), .move (.tmp 0), none⟩,
    ⟨(some 16), .call ⟨.builtin .len, #[(.tmp 15)], #[23]⟩, none⟩,
    ⟨(some 17), .call ⟨.builtin .min, #[(.tmp 16), (.const (.int .i64 30))], #[3, 3]⟩, none⟩,
    ⟨(some 18), .slice 23 (.tmp 14) none (some (.tmp 17)) none, none⟩,
    ⟨(some 5), .alloc 23, none⟩,
    ⟨none, .store 23 (.tmp 5) (.tmp 18), none⟩]) c_sheaflaw10_FlowBreaks_46) K t m := rfl

def c_sheaflaw10_FlowBreaks_48 : MC := (.seq (.ops [⟨(some 4), .alloc 4, none⟩]) c_sheaflaw10_FlowBreaks_47)
@[go_sem] theorem c_sheaflaw10_FlowBreaks_48_at (rd : Option Nat) (K : Post3) (t : Fr) (m : Mem) : wpM E 11 107 rd c_sheaflaw10_FlowBreaks_48 K t m = wpM E 11 107 rd (.seq (.ops [⟨(some 4), .alloc 4, none⟩]) c_sheaflaw10_FlowBreaks_47) K t m := rfl

@[go_sem] theorem some11 : (E.fn 11).isSome = true := by kernel_rfl
set_option maxRecDepth 100000 in
theorem fn_sheaflaw10_FlowBreaks : FnIs E 11 107 [.cell 4 4] c_sheaflaw10_FlowBreaks_48 := ⟨by kernel_rfl, by kernel_rfl⟩

/-! sheaf/sheaflaw10.FlowLists -/
abbrev F_sheaflaw10_FlowLists : FuncId := 12
def c_sheaflaw10_FlowLists_0 : MC := (.cond (.tmp 44) .skip (.exit 0))
@[go_sem] theorem c_sheaflaw10_FlowLists_0_at (rd : Option Nat) (K : Post3) (t : Fr) (m : Mem) : wpM E 12 107 rd c_sheaflaw10_FlowLists_0 K t m = wpM E 12 107 rd (.cond (.tmp 44) .skip (.exit 0)) K t m := rfl

def c_sheaflaw10_FlowLists_1 : MC := (.seq (.ops [⟨(some 6), .assign (.const (.bool false)), none⟩]) .ret)
@[go_sem] theorem c_sheaflaw10_FlowLists_1_at (rd : Option Nat) (K : Post3) (t : Fr) (m : Mem) : wpM E 12 107 rd c_sheaflaw10_FlowLists_1 K t m = wpM E 12 107 rd (.seq (.ops [⟨(some 6), .assign (.const (.bool false)), none⟩]) .ret) K t m := rfl

def c_sheaflaw10_FlowLists_2 : MC := (.cond (.tmp 64) c_sheaflaw10_FlowLists_1 .skip)
@[go_sem] theorem c_sheaflaw10_FlowLists_2_at (rd : Option Nat) (K : Post3) (t : Fr) (m : Mem) : wpM E 12 107 rd c_sheaflaw10_FlowLists_2 K t m = wpM E 12 107 rd (.cond (.tmp 64) c_sheaflaw10_FlowLists_1 .skip) K t m := rfl

def c_sheaflaw10_FlowLists_3 : MC := (.seq (.ops [⟨(some 48), .move (.tmp 16), none⟩,
    ⟨(some 49), .move (.tmp 11), none⟩,
    ⟨(some 50), .call ⟨.builtin .len, #[(.tmp 49)], #[57]⟩, none⟩,
    ⟨(some 51), .binOp .geq 3 (.tmp 48) (.tmp 50) 3, none⟩,
    ⟨(some 52), .move (.tmp 51), none⟩,
    ⟨(some 53), .move (.tmp 11), (some (some 52, false))⟩,
    ⟨(some 54), .move (.tmp 16), (some (some 52, false))⟩,
    ⟨(some 55), .indexAddr 57 (.tmp 53) (.tmp 54), (some (some 52, false))⟩,
    ⟨(some 56), .load 9 (.tmp 55), (some (some 52, false))⟩,
    ⟨(some 57), .move (.tmp 17), (some (some 52, false))⟩,
    ⟨(some 58), .load 3 (.tmp 4), (some (some 52, false))⟩,
    ⟨(some 59), .binOp .add 3 (.tmp 57) (.tmp 58) 3, (some (some 52, false))⟩,
    ⟨(some 60), .convert 3 5 (.tmp 59), (some (some 52, false))⟩,
    ⟨(some 61), .buildSlice 62 1 #[(0, (.tmp 60))], (some (some 52, false))⟩,
    ⟨(some 62), .convert 62 9 (.tmp 61), (some (some 52, false))⟩,
    ⟨(some 63), .binOp .neq 9 (.tmp 56) (.tmp 62) 9, (some (some 52, false))⟩,
    ⟨(some 64), .pick (.tmp 52) (.const (.bool true)) (.tmp 63), none⟩]) c_sheaflaw10_FlowLists_2)
@[go_sem] theorem c_sheaflaw10_FlowLists_3_at (rd : Option Nat) (K : Post3) (t : Fr) (m : Mem) : wpM E 12 107 rd c_sheaflaw10_FlowLists_3 K t m = wpM E 12 107 rd (.seq (.ops [⟨(some 48), .move (.tmp 16), none⟩,
    ⟨(some 49), .move (.tmp 11), none⟩,
    ⟨(some 50), .call ⟨.builtin .len, #[(.tmp 49)], #[57]⟩, none⟩,
    ⟨(some 51), .binOp .geq 3 (.tmp 48) (.tmp 50) 3, none⟩,
    ⟨(some 52), .move (.tmp 51), none⟩,
    ⟨(some 53), .move (.tmp 11), (some (some 52, false))⟩,
    ⟨(some 54), .move (.tmp 16), (some (some 52, false))⟩,
    ⟨(some 55), .indexAddr 57 (.tmp 53) (.tmp 54), (some (some 52, false))⟩,
    ⟨(some 56), .load 9 (.tmp 55), (some (some 52, false))⟩,
    ⟨(some 57), .move (.tmp 17), (some (some 52, false))⟩,
    ⟨(some 58), .load 3 (.tmp 4), (some (some 52, false))⟩,
    ⟨(some 59), .binOp .add 3 (.tmp 57) (.tmp 58) 3, (some (some 52, false))⟩,
    ⟨(some 60), .convert 3 5 (.tmp 59), (some (some 52, false))⟩,
    ⟨(some 61), .buildSlice 62 1 #[(0, (.tmp 60))], (some (some 52, false))⟩,
    ⟨(some 62), .convert 62 9 (.tmp 61), (some (some 52, false))⟩,
    ⟨(some 63), .binOp .neq 9 (.tmp 56) (.tmp 62) 9, (some (some 52, false))⟩,
    ⟨(some 64), .pick (.tmp 52) (.const (.bool true)) (.tmp 63), none⟩]) c_sheaflaw10_FlowLists_2) K t m := rfl

def c_sheaflaw10_FlowLists_4 : MC := (.cond (.tmp 68) (.ops [⟨(some 69), .move (.tmp 14), none⟩,
    ⟨(some 70), .move (.tmp 17), none⟩,
    ⟨(some 71), .buildSlice 23 1 #[(0, (.tmp 70))], none⟩,
    ⟨(some 72), .call ⟨.builtin .append, #[(.tmp 69), (.tmp 71)], #[23, 23]⟩, none⟩,
    ⟨(some 14), .assign (.tmp 72), none⟩]) .skip)
@[go_sem] theorem c_sheaflaw10_FlowLists_4_at (rd : Option Nat) (K : Post3) (t : Fr) (m : Mem) : wpM E 12 107 rd c_sheaflaw10_FlowLists_4 K t m = wpM E 12 107 rd (.cond (.tmp 68) (.ops [⟨(some 69), .move (.tmp 14), none⟩,
    ⟨(some 70), .move (.tmp 17), none⟩,
    ⟨(some 71), .buildSlice 23 1 #[(0, (.tmp 70))], none⟩,
    ⟨(some 72), .call ⟨.builtin .append, #[(.tmp 69), (.tmp 71)], #[23, 23]⟩, none⟩,
    ⟨(some 14), .assign (.tmp 72), none⟩]) .skip) K t m := rfl

def c_sheaflaw10_FlowLists_5 : MC := (.seq (.ops [⟨(some 65), .move (.tmp 17), none⟩,
    ⟨(some 66), .binOp .and 3 (.tmp 65) (.const (.int .i64 7)) 3, none⟩,
    ⟨(some 67), .load 3 (.tmp 9), none⟩,
    ⟨(some 68), .binOp .lss 3 (.tmp 66) (.tmp 67) 3, none⟩]) c_sheaflaw10_FlowLists_4)
@[go_sem] theorem c_sheaflaw10_FlowLists_5_at (rd : Option Nat) (K : Post3) (t : Fr) (m : Mem) : wpM E 12 107 rd c_sheaflaw10_FlowLists_5 K t m = wpM E 12 107 rd (.seq (.ops [⟨(some 65), .move (.tmp 17), none⟩,
    ⟨(some 66), .binOp .and 3 (.tmp 65) (.const (.int .i64 7)) 3, none⟩,
    ⟨(some 67), .load 3 (.tmp 9), none⟩,
    ⟨(some 68), .binOp .lss 3 (.tmp 66) (.tmp 67) 3, none⟩]) c_sheaflaw10_FlowLists_4) K t m := rfl

def c_sheaflaw10_FlowLists_6 : MC := (.seq c_sheaflaw10_FlowLists_5 (.ops [⟨(some 73), .move (.tmp 15), none⟩,
    ⟨(some 74), .binOp .mul 3 (.const (.int .i64 3)) (.tmp 73) 3, none⟩,
    ⟨(some 75), .move (.tmp 17), none⟩,
    ⟨(some 76), .binOp .add 3 (.tmp 74) (.tmp 75) 3, none⟩,
    ⟨(some 15), .assign (.tmp 76), none⟩]))
@[go_sem] theorem c_sheaflaw10_FlowLists_6_at (rd : Option Nat) (K : Post3) (t : Fr) (m : Mem) : wpM E 12 107 rd c_sheaflaw10_FlowLists_6 K t m = wpM E 12 107 rd (.seq c_sheaflaw10_FlowLists_5 (.ops [⟨(some 73), .move (.tmp 15), none⟩,
    ⟨(some 74), .binOp .mul 3 (.const (.int .i64 3)) (.tmp 73) 3, none⟩,
    ⟨(some 75), .move (.tmp 17), none⟩,
    ⟨(some 76), .binOp .add 3 (.tmp 74) (.tmp 75) 3, none⟩,
    ⟨(some 15), .assign (.tmp 76), none⟩])) K t m := rfl

def c_sheaflaw10_FlowLists_7 : MC := (.seq c_sheaflaw10_FlowLists_3 c_sheaflaw10_FlowLists_6)
@[go_sem] theorem c_sheaflaw10_FlowLists_7_at (rd : Option Nat) (K : Post3) (t : Fr) (m : Mem) : wpM E 12 107 rd c_sheaflaw10_FlowLists_7 K t m = wpM E 12 107 rd (.seq c_sheaflaw10_FlowLists_3 c_sheaflaw10_FlowLists_6) K t m := rfl

def c_sheaflaw10_FlowLists_8 : MC := (.seq (.ops [⟨(some 45), .move (.tmp 43), none⟩,
    ⟨(some 46), .indexAddr 23 (.tmp 41) (.tmp 43), none⟩,
    ⟨(some 47), .load 3 (.tmp 46), none⟩,
    ⟨(some 16), .assign (.tmp 45), none⟩,
    ⟨(some 17), .assign (.tmp 47), none⟩]) c_sheaflaw10_FlowLists_7)
@[go_sem] theorem c_sheaflaw10_FlowLists_8_at (rd : Option Nat) (K : Post3) (t : Fr) (m : Mem) : wpM E 12 107 rd c_sheaflaw10_FlowLists_8 K t m = wpM E 12 107 rd (.seq (.ops [⟨(some 45), .move (.tmp 43), none⟩,
    ⟨(some 46), .indexAddr 23 (.tmp 41) (.tmp 43), none⟩,
    ⟨(some 47), .load 3 (.tmp 46), none⟩,
    ⟨(some 16), .assign (.tmp 45), none⟩,
    ⟨(some 17), .assign (.tmp 47), none⟩]) c_sheaflaw10_FlowLists_7) K t m := rfl

def c_sheaflaw10_FlowLists_9 : MC := (.block 1 c_sheaflaw10_FlowLists_8)
@[go_sem] theorem c_sheaflaw10_FlowLists_9_at (rd : Option Nat) (K : Post3) (t : Fr) (m : Mem) : wpM E 12 107 rd c_sheaflaw10_FlowLists_9 K t m = wpM E 12 107 rd (.block 1 c_sheaflaw10_FlowLists_8) K t m := rfl

def c_sheaflaw10_FlowLists_10 : MC := (.seq c_sheaflaw10_FlowLists_9 (.ops [⟨(some 77), .binOp .add 3 (.tmp 43) (.const (.int .i64 1)) 3, none⟩,
    ⟨(some 43), .move (.tmp 77), none⟩]))
@[go_sem] theorem c_sheaflaw10_FlowLists_10_at (rd : Option Nat) (K : Post3) (t : Fr) (m : Mem) : wpM E 12 107 rd c_sheaflaw10_FlowLists_10 K t m = wpM E 12 107 rd (.seq c_sheaflaw10_FlowLists_9 (.ops [⟨(some 77), .binOp .add 3 (.tmp 43) (.const (.int .i64 1)) 3, none⟩,
    ⟨(some 43), .move (.tmp 77), none⟩])) K t m := rfl

def c_sheaflaw10_FlowLists_11 : MC := (.seq c_sheaflaw10_FlowLists_0 c_sheaflaw10_FlowLists_10)
@[go_sem] theorem c_sheaflaw10_FlowLists_11_at (rd : Option Nat) (K : Post3) (t : Fr) (m : Mem) : wpM E 12 107 rd c_sheaflaw10_FlowLists_11 K t m = wpM E 12 107 rd (.seq c_sheaflaw10_FlowLists_0 c_sheaflaw10_FlowLists_10) K t m := rfl

def c_sheaflaw10_FlowLists_12 : MC := (.seq (.ops [⟨(some 44), .binOp .lss 3 (.tmp 43) (.tmp 42) 3, none⟩]) c_sheaflaw10_FlowLists_11)
@[go_sem] theorem c_sheaflaw10_FlowLists_12_at (rd : Option Nat) (K : Post3) (t : Fr) (m : Mem) : wpM E 12 107 rd c_sheaflaw10_FlowLists_12 K t m = wpM E 12 107 rd (.seq (.ops [⟨(some 44), .binOp .lss 3 (.tmp 43) (.tmp 42) 3, none⟩]) c_sheaflaw10_FlowLists_11) K t m := rfl

def c_sheaflaw10_FlowLists_13 : MC := (.loop c_sheaflaw10_FlowLists_12)
theorem c_sheaflaw10_FlowLists_13_at (rd : Option Nat) (K : Post3) (t : Fr) (m : Mem) : wpM E 12 107 rd c_sheaflaw10_FlowLists_13 K t m = wpM E 12 107 rd (.loop c_sheaflaw10_FlowLists_12) K t m := rfl

def c_sheaflaw10_FlowLists_14 : MC := (.block 0 c_sheaflaw10_FlowLists_13)
theorem c_sheaflaw10_FlowLists_14_at (rd : Option Nat) (K : Post3) (t : Fr) (m : Mem) : wpM E 12 107 rd c_sheaflaw10_FlowLists_14 K t m = wpM E 12 107 rd (.block 0 c_sheaflaw10_FlowLists_13) K t m := rfl

def c_sheaflaw10_FlowLists_15 : MC := (.seq (.ops [⟨(some 41), .move (.tmp 7), none⟩,
    ⟨(some 42), .call ⟨.builtin .len, #[(.tmp 41)], #[23]⟩, none⟩,
    ⟨(some 43), .move (.const (.int .i64 0)), none⟩]) c_sheaflaw10_FlowLists_14)
@[go_sem] theorem c_sheaflaw10_FlowLists_15_at (rd : Option Nat) (K : Post3) (t : Fr) (m : Mem) : wpM E 12 107 rd c_sheaflaw10_FlowLists_15 K t m = wpM E 12 107 rd (.seq (.ops [⟨(some 41), .move (.tmp 7), none⟩,
    ⟨(some 42), .call ⟨.builtin .len, #[(.tmp 41)], #[23]⟩, none⟩,
    ⟨(some 43), .move (.const (.int .i64 0)), none⟩]) c_sheaflaw10_FlowLists_14) K t m := rfl

def c_sheaflaw10_FlowLists_16 : MC := (.seq (.ops [⟨(some 78), .move (.tmp 10), none⟩,
    ⟨(some 79), .move (.tmp 7), none⟩,
    ⟨(some 80), .call ⟨.value (.func 26), #[(.tmp 78), (.tmp 79)], #[23, 23]⟩, none⟩,
    ⟨(some 81), .move (.tmp 80), none⟩,
    ⟨(some 82), .move (.tmp 11), (some (some 81, true))⟩,
    ⟨(some 83), .call ⟨.builtin .len, #[(.tmp 82)], #[57]⟩, (some (some 81, true))⟩,
    ⟨(some 84), .move (.tmp 7), (some (some 81, true))⟩,
    ⟨(some 85), .call ⟨.builtin .len, #[(.tmp 84)], #[23]⟩, (some (some 81, true))⟩,
    ⟨(some 86), .binOp .eql 3 (.tmp 83) (.tmp 85) 3, (some (some 81, true))⟩,
    ⟨(some 87), .pick (.tmp 81) (.tmp 86) (.const (.bool false)), none⟩,
    ⟨(some 88), .move (.tmp 87), none⟩,
    ⟨(some 89), .move (.tmp 12), (some (some 88, true))⟩,
    ⟨(some 90), .move (.tmp 14), (some (some 88, true))⟩,
    ⟨(some 91), .call ⟨.value (.func 26), #[(.tmp 89), (.tmp 90)], #[23, 23]⟩, (some (some 88, true))⟩,
    ⟨(some 92), .pick (.tmp 88) (.tmp 91) (.const (.bool false)), none⟩,
    ⟨(some 93), .move (.tmp 92), none⟩,
    ⟨(some 94), .move (.tmp 13), (some (some 93, true))⟩,
    ⟨(some 95), .move (.tmp 15), (some (some 93, true))⟩,
    ⟨(some 96), .binOp .eql 3 (.tmp 94) (.tmp 95) 3, (some (some 93, true))⟩,
    ⟨(some 97), .pick (.tmp 93) (.tmp 96) (.const (.bool false)), none⟩,
    ⟨(some 98), .move (.tmp 97), none⟩,
    ⟨(some 99), .move (.tmp 8), (some (some 98, true))⟩,
    ⟨(some 100), .call ⟨.value (.func 29), #[(.tmp 99)], #[38]⟩, (some (some 98, true))⟩,
    ⟨(some 101), .move (.tmp 7), (some (some 98, true))⟩,
    ⟨(some 102), .call ⟨.value (.func 26), #[(.tmp 100), (.tmp 101)], #[23, 23]⟩, (some (some 98, true))⟩,
    ⟨(some 103), .pick (.tmp 98) (.tmp 102) (.const (.bool false)), none⟩,
    ⟨(some 104), .move (.tmp 103), none⟩,
    ⟨(some 105), .call ⟨.value (.func 7), #[], #[]⟩, (some (some 104, true))⟩,
    ⟨(some 106), .pick (.tmp 104) (.tmp 105) (.const (.bool false)), none⟩,
    ⟨(some 6), .assign (.tmp 106), none⟩]) .ret)
@[go_sem] theorem c_sheaflaw10_FlowLists_16_at (rd : Option Nat) (K : Post3) (t : Fr) (m : Mem) : wpM E 12 107 rd c_sheaflaw10_FlowLists_16 K t m = wpM E 12 107 rd (.seq (.ops [⟨(some 78), .move (.tmp 10), none⟩,
    ⟨(some 79), .move (.tmp 7), none⟩,
    ⟨(some 80), .call ⟨.value (.func 26), #[(.tmp 78), (.tmp 79)], #[23, 23]⟩, none⟩,
    ⟨(some 81), .move (.tmp 80), none⟩,
    ⟨(some 82), .move (.tmp 11), (some (some 81, true))⟩,
    ⟨(some 83), .call ⟨.builtin .len, #[(.tmp 82)], #[57]⟩, (some (some 81, true))⟩,
    ⟨(some 84), .move (.tmp 7), (some (some 81, true))⟩,
    ⟨(some 85), .call ⟨.builtin .len, #[(.tmp 84)], #[23]⟩, (some (some 81, true))⟩,
    ⟨(some 86), .binOp .eql 3 (.tmp 83) (.tmp 85) 3, (some (some 81, true))⟩,
    ⟨(some 87), .pick (.tmp 81) (.tmp 86) (.const (.bool false)), none⟩,
    ⟨(some 88), .move (.tmp 87), none⟩,
    ⟨(some 89), .move (.tmp 12), (some (some 88, true))⟩,
    ⟨(some 90), .move (.tmp 14), (some (some 88, true))⟩,
    ⟨(some 91), .call ⟨.value (.func 26), #[(.tmp 89), (.tmp 90)], #[23, 23]⟩, (some (some 88, true))⟩,
    ⟨(some 92), .pick (.tmp 88) (.tmp 91) (.const (.bool false)), none⟩,
    ⟨(some 93), .move (.tmp 92), none⟩,
    ⟨(some 94), .move (.tmp 13), (some (some 93, true))⟩,
    ⟨(some 95), .move (.tmp 15), (some (some 93, true))⟩,
    ⟨(some 96), .binOp .eql 3 (.tmp 94) (.tmp 95) 3, (some (some 93, true))⟩,
    ⟨(some 97), .pick (.tmp 93) (.tmp 96) (.const (.bool false)), none⟩,
    ⟨(some 98), .move (.tmp 97), none⟩,
    ⟨(some 99), .move (.tmp 8), (some (some 98, true))⟩,
    ⟨(some 100), .call ⟨.value (.func 29), #[(.tmp 99)], #[38]⟩, (some (some 98, true))⟩,
    ⟨(some 101), .move (.tmp 7), (some (some 98, true))⟩,
    ⟨(some 102), .call ⟨.value (.func 26), #[(.tmp 100), (.tmp 101)], #[23, 23]⟩, (some (some 98, true))⟩,
    ⟨(some 103), .pick (.tmp 98) (.tmp 102) (.const (.bool false)), none⟩,
    ⟨(some 104), .move (.tmp 103), none⟩,
    ⟨(some 105), .call ⟨.value (.func 7), #[], #[]⟩, (some (some 104, true))⟩,
    ⟨(some 106), .pick (.tmp 104) (.tmp 105) (.const (.bool false)), none⟩,
    ⟨(some 6), .assign (.tmp 106), none⟩]) .ret) K t m := rfl

def c_sheaflaw10_FlowLists_17 : MC := (.seq c_sheaflaw10_FlowLists_15 c_sheaflaw10_FlowLists_16)
@[go_sem] theorem c_sheaflaw10_FlowLists_17_at (rd : Option Nat) (K : Post3) (t : Fr) (m : Mem) : wpM E 12 107 rd c_sheaflaw10_FlowLists_17 K t m = wpM E 12 107 rd (.seq c_sheaflaw10_FlowLists_15 c_sheaflaw10_FlowLists_16) K t m := rfl

def c_sheaflaw10_FlowLists_18 : MC := (.seq (.ops [⟨(some 40), .load 3 (.tmp 4), none⟩,
    ⟨(some 15), .assign (.tmp 40), none⟩]) c_sheaflaw10_FlowLists_17)
@[go_sem] theorem c_sheaflaw10_FlowLists_18_at (rd : Option Nat) (K : Post3) (t : Fr) (m : Mem) : wpM E 12 107 rd c_sheaflaw10_FlowLists_18 K t m = wpM E 12 107 rd (.seq (.ops [⟨(some 40), .load 3 (.tmp 4), none⟩,
    ⟨(some 15), .assign (.tmp 40), none⟩]) c_sheaflaw10_FlowLists_17) K t m := rfl

def c_sheaflaw10_FlowLists_19 : MC := (.seq (.ops [⟨(some 14), .assign (.const (.slice none 0 0)), none⟩]) c_sheaflaw10_FlowLists_18)
@[go_sem] theorem c_sheaflaw10_FlowLists_19_at (rd : Option Nat) (K : Post3) (t : Fr) (m : Mem) : wpM E 12 107 rd c_sheaflaw10_FlowLists_19 K t m = wpM E 12 107 rd (.seq (.ops [⟨(some 14), .assign (.const (.slice none 0 0)), none⟩]) c_sheaflaw10_FlowLists_18) K t m := rfl

def c_sheaflaw10_FlowLists_20 : MC := (.seq (.ops [⟨(some 37), .move (.tmp 8), none⟩,
    ⟨(some 38), .load 3 (.tmp 4), none⟩,
    ⟨(some 39), .call ⟨.value (.func 42), #[(.tmp 37), (.tmp 38), (.func 43)], #[38, 3, 50]⟩, none⟩,
    ⟨(some 13), .assign (.tmp 39), none⟩]) c_sheaflaw10_FlowLists_19)
@[go_sem] theorem c_sheaflaw10_FlowLists_20_at (rd : Option Nat) (K : Post3) (t : Fr) (m : Mem) : wpM E 12 107 rd c_sheaflaw10_FlowLists_20 K t m = wpM E 12 107 rd (.seq (.ops [⟨(some 37), .move (.tmp 8), none⟩,
    ⟨(some 38), .load 3 (.tmp 4), none⟩,
    ⟨(some 39), .call ⟨.value (.func 42), #[(.tmp 37), (.tmp 38), (.func 43)], #[38, 3, 50]⟩, none⟩,
    ⟨(some 13), .assign (.tmp 39), none⟩]) c_sheaflaw10_FlowLists_19) K t m := rfl

def c_sheaflaw10_FlowLists_21 : MC := (.seq (.ops [⟨(some 33), .move (.tmp 8), none⟩,
    ⟨(some 34), .makeFunc (.func 41) #[] #[(.tmp 9)], none⟩,
    ⟨(some 35), .call ⟨.value (.func 34), #[(.tmp 33), (.tmp 34)], #[38, 55]⟩, none⟩,
    ⟨(some 36), .call ⟨.value (.func 29), #[(.tmp 35)], #[38]⟩, none⟩,
    ⟨(some 12), .assign (.tmp 36), none⟩]) c_sheaflaw10_FlowLists_20)
@[go_sem] theorem c_sheaflaw10_FlowLists_21_at (rd : Option Nat) (K : Post3) (t : Fr) (m : Mem) : wpM E 12 107 rd c_sheaflaw10_FlowLists_21 K t m = wpM E 12 107 rd (.seq (.ops [⟨(some 33), .move (.tmp 8), none⟩,
    ⟨(some 34), .makeFunc (.func 41) #[] #[(.tmp 9)], none⟩,
    ⟨(some 35), .call ⟨.value (.func 34), #[(.tmp 33), (.tmp 34)], #[38, 55]⟩, none⟩,
    ⟨(some 36), .call ⟨.value (.func 29), #[(.tmp 35)], #[38]⟩, none⟩,
    ⟨(some 12), .assign (.tmp 36), none⟩]) c_sheaflaw10_FlowLists_20) K t m := rfl

def c_sheaflaw10_FlowLists_22 : MC := (.seq (.ops [⟨(some 27), .move (.tmp 8), none⟩,
    ⟨(some 28), .call ⟨.value (.func 29), #[(.tmp 27)], #[38]⟩, none⟩,
    ⟨(some 29), .move (.tmp 8), none⟩,
    ⟨(some 30), .makeFunc (.func 40) #[] #[(.tmp 4)], none⟩,
    ⟨(some 31), .call ⟨.value (.func 39), #[(.tmp 29), (.tmp 30)], #[38, 63]⟩, none⟩,
    ⟨(some 32), .call ⟨.value (.func 38), #[(.tmp 31)], #[60]⟩, none⟩,
    ⟨(some 10), .assign (.tmp 28), none⟩,
    ⟨(some 11), .assign (.tmp 32), none⟩]) c_sheaflaw10_FlowLists_21)
@[go_sem] theorem c_sheaflaw10_FlowLists_22_at (rd : Option Nat) (K : Post3) (t : Fr) (m : Mem) : wpM E 12 107 rd c_sheaflaw10_FlowLists_22 K t m = wpM E 12 107 rd (.seq (.ops [⟨(some 27), .move (.tmp 8), none⟩,
    ⟨(some 28), .call ⟨.value (.func 29), #[(.tmp 27)], #[38]⟩, none⟩,
    ⟨(some 29), .move (.tmp 8), none⟩,
    ⟨(some 30), .makeFunc (.func 40) #[] #[(.tmp 4)], none⟩,
    ⟨(some 31), .call ⟨.value (.func 39), #[(.tmp 29), (.tmp 30)], #[38, 63]⟩, none⟩,
    ⟨(some 32), .call ⟨.value (.func 38), #[(.tmp 31)], #[60]⟩, none⟩,
    ⟨(some 10), .assign (.tmp 28), none⟩,
    ⟨(some 11), .assign (.tmp 32), none⟩]) c_sheaflaw10_FlowLists_21) K t m := rfl

def c_sheaflaw10_FlowLists_23 : MC := (.seq (.ops [⟨(some 25), .move (.tmp 2), none⟩,
    ⟨(some 26), .call ⟨.value (.func 21), #[(.tmp 25), (.const (.int .i64 1)), (.const (.int .i64 5))], #[3, 3, 3]⟩, none⟩,
    ⟨(some 9), .alloc 3, none⟩,
    ⟨none, .store 3 (.tmp 9) (.tmp 26), none⟩]) c_sheaflaw10_FlowLists_22)
@[go_sem] theorem c_sheaflaw10_FlowLists_23_at (rd : Option Nat) (K : Post3) (t : Fr) (m : Mem) : wpM E 12 107 rd c_sheaflaw10_FlowLists_23 K t m = wpM E 12 107 rd (.seq (.ops [⟨(some 25), .move (.tmp 2), none⟩,
    ⟨(some 26), .call ⟨.value (.func 21), #[(.tmp 25), (.const (.int .i64 1)), (.const (.int .i64 5))], #[3, 3, 3]⟩, none⟩,
    ⟨(some 9), .alloc 3, none⟩,
    ⟨none, .store 3 (.tmp 9) (.tmp 26), none⟩]) c_sheaflaw10_FlowLists_22) K t m := rfl

def c_sheaflaw10_FlowLists_24 : MC := (.seq (.ops [⟨(some 23), .move (.tmp 7), none⟩,
    ⟨(some 24), .call ⟨.value (.func 24), #[(.tmp 23)], #[23]⟩, none⟩,
    ⟨(some 8), .assign (.tmp 24), none⟩]) c_sheaflaw10_FlowLists_23)
@[go_sem] theorem c_sheaflaw10_FlowLists_24_at (rd : Option Nat) (K : Post3) (t : Fr) (m : Mem) : wpM E 12 107 rd c_sheaflaw10_FlowLists_24 K t m = wpM E 12 107 rd (.seq (.ops [⟨(some 23), .move (.tmp 7), none⟩,
    ⟨(some 24), .call ⟨.value (.func 24), #[(.tmp 23)], #[23]⟩, none⟩,
    ⟨(some 8), .assign (.tmp 24), none⟩]) c_sheaflaw10_FlowLists_23) K t m := rfl

def c_sheaflaw10_FlowLists_25 : MC := (.seq (.ops [⟨(some 18), .move (.tmp 0), none⟩,
    ⟨(some 19), .move (.tmp 0), none⟩,
    ⟨(some 20), .call ⟨.builtin .len, #[(.tmp 19)], #[23]⟩, none⟩,
    ⟨(some 21), .call ⟨.builtin .min, #[(.tmp 20), (.const (.int .i64 40))], #[3, 3]⟩, none⟩,
    ⟨(some 22), .slice 23 (.tmp 18) none (some (.tmp 21)) none, none⟩,
    ⟨(some 7), .assign (.tmp 22), none⟩]) c_sheaflaw10_FlowLists_24)
@[go_sem] theorem c_sheaflaw10_FlowLists_25_at (rd : Option Nat) (K : Post3) (t : Fr) (m : Mem) : wpM E 12 107 rd c_sheaflaw10_FlowLists_25 K t m = wpM E 12 107 rd (.seq (.ops [⟨(some 18), .move (.tmp 0), none⟩,
    ⟨(some 19), .move (.tmp 0), none⟩,
    ⟨(some 20), .call ⟨.builtin .len, #[(.tmp 19)], #[23]⟩, none⟩,
    ⟨(some 21), .call ⟨.builtin .min, #[(.tmp 20), (.const (.int .i64 40))], #[3, 3]⟩, none⟩,
    ⟨(some 22), .slice 23 (.tmp 18) none (some (.tmp 21)) none, none⟩,
    ⟨(some 7), .assign (.tmp 22), none⟩]) c_sheaflaw10_FlowLists_24) K t m := rfl

def c_sheaflaw10_FlowLists_26 : MC := (.seq (.ops [⟨(some 4), .box 3 (.tmp 1), none⟩,
    ⟨(some 6), .assign (.const (.bool false)), none⟩]) c_sheaflaw10_FlowLists_25)
@[go_sem] theorem c_sheaflaw10_FlowLists_26_at (rd : Option Nat) (K : Post3) (t : Fr) (m : Mem) : wpM E 12 107 rd c_sheaflaw10_FlowLists_26 K t m = wpM E 12 107 rd (.seq (.ops [⟨(some 4), .box 3 (.tmp 1), none⟩,
    ⟨(some 6), .assign (.const (.bool false)), none⟩]) c_sheaflaw10_FlowLists_25) K t m := rfl

@[go_sem] theorem some12 : (E.fn 12).isSome = true := by kernel_rfl
set_option maxRecDepth 100000 in
theorem fn_sheaflaw10_FlowLists : FnIs E 12 107 [.tmp 6] c_sheaflaw10_FlowLists_26 := ⟨by kernel_rfl, by kernel_rfl⟩

/-! sheaf/sheaflaw10.FlowChain -/
abbrev F_sheaflaw10_FlowChain : FuncId := 13
def c_sheaflaw10_FlowChain_0 : MC := (.seq (.ops [⟨(some 57), .move (.tmp 13), none⟩,
    ⟨(some 58), .call ⟨.builtin .len, #[(.tmp 57)], #[23]⟩, none⟩,
    ⟨(some 59), .move (.tmp 7), none⟩,
    ⟨(some 60), .call ⟨.builtin .len, #[(.tmp 59)], #[23]⟩, none⟩,
    ⟨(some 61), .binOp .eql 3 (.tmp 58) (.tmp 60) 3, none⟩,
    ⟨(some 62), .move (.tmp 61), none⟩,
    ⟨(some 63), .move (.tmp 13), (some (some 62, true))⟩,
    ⟨(some 64), .move (.tmp 14), (some (some 62, true))⟩,
    ⟨(some 65), .call ⟨.value (.func 26), #[(.tmp 63), (.tmp 64)], #[23, 23]⟩, (some (some 62, true))⟩,
    ⟨(some 66), .pick (.tmp 62) (.tmp 65) (.const (.bool false)), none⟩,
    ⟨(some 67), .move (.tmp 66), none⟩,
    ⟨(some 68), .move (.tmp 15), (some (some 67, true))⟩,
    ⟨(some 69), .move (.tmp 16), (some (some 67, true))⟩,
    ⟨(some 70), .call ⟨.value (.func 26), #[(.tmp 68), (.tmp 69)], #[23, 23]⟩, (some (some 67, true))⟩,
    ⟨(some 71), .pick (.tmp 67) (.tmp 70) (.const (.bool false)), none⟩,
    ⟨(some 72), .move (.tmp 71), none⟩,
    ⟨(some 73), .move (.tmp 18), (some (some 72, true))⟩,
    ⟨(some 74), .move (.tmp 7), (some (some 72, true))⟩,
    ⟨(some 75), .call ⟨.builtin .len, #[(.tmp 74)], #[23]⟩, (some (some 72, true))⟩,
    ⟨(some 76), .binOp .eql 3 (.tmp 73) (.tmp 75) 3, (some (some 72, true))⟩,
    ⟨(some 77), .pick (.tmp 72) (.tmp 76) (.const (.bool false)), none⟩,
    ⟨(some 78), .move (.tmp 77), none⟩,
    ⟨(some 79), .call ⟨.value (.func 7), #[], #[]⟩, (some (some 78, true))⟩,
    ⟨(some 80), .pick (.tmp 78) (.tmp 79) (.const (.bool false)), none⟩,
    ⟨(some 6), .assign (.tmp 80), none⟩]) .ret)
@[go_sem] theorem c_sheaflaw10_FlowChain_0_at (rd : Option Nat) (K : Post3) (t : Fr) (m : Mem) : wpM E 13 81 rd c_sheaflaw10_FlowChain_0 K t m = wpM E 13 81 rd (.seq (.ops [⟨(some 57), .move (.tmp 13), none⟩,
    ⟨(some 58), .call ⟨.builtin .len, #[(.tmp 57)], #[23]⟩, none⟩,
    ⟨(some 59), .move (.tmp 7), none⟩,
    ⟨(some 60), .call ⟨.builtin .len, #[(.tmp 59)], #[23]⟩, none⟩,
    ⟨(some 61), .binOp .eql 3 (.tmp 58) (.tmp 60) 3, none⟩,
    ⟨(some 62), .move (.tmp 61), none⟩,
    ⟨(some 63), .move (.tmp 13), (some (some 62, true))⟩,
    ⟨(some 64), .move (.tmp 14), (some (some 62, true))⟩,
    ⟨(some 65), .call ⟨.value (.func 26), #[(.tmp 63), (.tmp 64)], #[23, 23]⟩, (some (some 62, true))⟩,
    ⟨(some 66), .pick (.tmp 62) (.tmp 65) (.const (.bool false)), none⟩,
    ⟨(some 67), .move (.tmp 66), none⟩,
    ⟨(some 68), .move (.tmp 15), (some (some 67, true))⟩,
    ⟨(some 69), .move (.tmp 16), (some (some 67, true))⟩,
    ⟨(some 70), .call ⟨.value (.func 26), #[(.tmp 68), (.tmp 69)], #[23, 23]⟩, (some (some 67, true))⟩,
    ⟨(some 71), .pick (.tmp 67) (.tmp 70) (.const (.bool false)), none⟩,
    ⟨(some 72), .move (.tmp 71), none⟩,
    ⟨(some 73), .move (.tmp 18), (some (some 72, true))⟩,
    ⟨(some 74), .move (.tmp 7), (some (some 72, true))⟩,
    ⟨(some 75), .call ⟨.builtin .len, #[(.tmp 74)], #[23]⟩, (some (some 72, true))⟩,
    ⟨(some 76), .binOp .eql 3 (.tmp 73) (.tmp 75) 3, (some (some 72, true))⟩,
    ⟨(some 77), .pick (.tmp 72) (.tmp 76) (.const (.bool false)), none⟩,
    ⟨(some 78), .move (.tmp 77), none⟩,
    ⟨(some 79), .call ⟨.value (.func 7), #[], #[]⟩, (some (some 78, true))⟩,
    ⟨(some 80), .pick (.tmp 78) (.tmp 79) (.const (.bool false)), none⟩,
    ⟨(some 6), .assign (.tmp 80), none⟩]) .ret) K t m := rfl

def c_sheaflaw10_FlowChain_1 : MC := (.seq (.ops [⟨(some 54), .move (.tmp 17), none⟩,
    ⟨(some 55), .call ⟨.value (.func 24), #[(.tmp 54)], #[23]⟩, none⟩,
    ⟨(some 56), .call ⟨.value (.func 42), #[(.tmp 55), (.const (.int .i64 0)), (.func 51)], #[38, 3, 50]⟩, none⟩,
    ⟨(some 18), .assign (.tmp 56), none⟩]) c_sheaflaw10_FlowChain_0)
@[go_sem] theorem c_sheaflaw10_FlowChain_1_at (rd : Option Nat) (K : Post3) (t : Fr) (m : Mem) : wpM E 13 81 rd c_sheaflaw10_FlowChain_1 K t m = wpM E 13 81 rd (.seq (.ops [⟨(some 54), .move (.tmp 17), none⟩,
    ⟨(some 55), .call ⟨.value (.func 24), #[(.tmp 54)], #[23]⟩, none⟩,
    ⟨(some 56), .call ⟨.value (.func 42), #[(.tmp 55), (.const (.int .i64 0)), (.func 51)], #[38, 3, 50]⟩, none⟩,
    ⟨(some 18), .assign (.tmp 56), none⟩]) c_sheaflaw10_FlowChain_0) K t m := rfl

def c_sheaflaw10_FlowChain_2 : MC := (.seq (.ops [⟨(some 50), .move (.tmp 12), none⟩,
    ⟨(some 51), .call ⟨.value (.func 23), #[(.tmp 50), (.func 25)], #[38, 34]⟩, none⟩,
    ⟨(some 52), .call ⟨.value (.func 49), #[(.tmp 51), (.func 50)], #[26, 67]⟩, none⟩,
    ⟨(some 53), .call ⟨.value (.func 29), #[(.tmp 52)], #[38]⟩, none⟩,
    ⟨(some 17), .assign (.tmp 53), none⟩]) c_sheaflaw10_FlowChain_1)
@[go_sem] theorem c_sheaflaw10_FlowChain_2_at (rd : Option Nat) (K : Post3) (t : Fr) (m : Mem) : wpM E 13 81 rd c_sheaflaw10_FlowChain_2 K t m = wpM E 13 81 rd (.seq (.ops [⟨(some 50), .move (.tmp 12), none⟩,
    ⟨(some 51), .call ⟨.value (.func 23), #[(.tmp 50), (.func 25)], #[38, 34]⟩, none⟩,
    ⟨(some 52), .call ⟨.value (.func 49), #[(.tmp 51), (.func 50)], #[26, 67]⟩, none⟩,
    ⟨(some 53), .call ⟨.value (.func 29), #[(.tmp 52)], #[38]⟩, none⟩,
    ⟨(some 17), .assign (.tmp 53), none⟩]) c_sheaflaw10_FlowChain_1) K t m := rfl

def c_sheaflaw10_FlowChain_3 : MC := (.seq (.ops [⟨(some 44), .move (.tmp 12), none⟩,
    ⟨(some 45), .move (.tmp 11), none⟩,
    ⟨(some 46), .call ⟨.value (.func 34), #[(.tmp 44), (.tmp 45)], #[38, 55]⟩, none⟩,
    ⟨(some 47), .move (.tmp 10), none⟩,
    ⟨(some 48), .call ⟨.value (.func 34), #[(.tmp 46), (.tmp 47)], #[38, 55]⟩, none⟩,
    ⟨(some 49), .call ⟨.value (.func 29), #[(.tmp 48)], #[38]⟩, none⟩,
    ⟨(some 16), .assign (.tmp 49), none⟩]) c_sheaflaw10_FlowChain_2)
@[go_sem] theorem c_sheaflaw10_FlowChain_3_at (rd : Option Nat) (K : Post3) (t : Fr) (m : Mem) : wpM E 13 81 rd c_sheaflaw10_FlowChain_3 K t m = wpM E 13 81 rd (.seq (.ops [⟨(some 44), .move (.tmp 12), none⟩,
    ⟨(some 45), .move (.tmp 11), none⟩,
    ⟨(some 46), .call ⟨.value (.func 34), #[(.tmp 44), (.tmp 45)], #[38, 55]⟩, none⟩,
    ⟨(some 47), .move (.tmp 10), none⟩,
    ⟨(some 48), .call ⟨.value (.func 34), #[(.tmp 46), (.tmp 47)], #[38, 55]⟩, none⟩,
    ⟨(some 49), .call ⟨.value (.func 29), #[(.tmp 48)], #[38]⟩, none⟩,
    ⟨(some 16), .assign (.tmp 49), none⟩]) c_sheaflaw10_FlowChain_2) K t m := rfl

def c_sheaflaw10_FlowChain_4 : MC := (.seq (.ops [⟨(some 38), .move (.tmp 12), none⟩,
    ⟨(some 39), .move (.tmp 10), none⟩,
    ⟨(some 40), .call ⟨.value (.func 34), #[(.tmp 38), (.tmp 39)], #[38, 55]⟩, none⟩,
    ⟨(some 41), .move (.tmp 11), none⟩,
    ⟨(some 42), .call ⟨.value (.func 34), #[(.tmp 40), (.tmp 41)], #[38, 55]⟩, none⟩,
    ⟨(some 43), .call ⟨.value (.func 29), #[(.tmp 42)], #[38]⟩, none⟩,
    ⟨(some 15), .assign (.tmp 43), none⟩]) c_sheaflaw10_FlowChain_3)
@[go_sem] theorem c_sheaflaw10_FlowChain_4_at (rd : Option Nat) (K : Post3) (t : Fr) (m : Mem) : wpM E 13 81 rd c_sheaflaw10_FlowChain_4 K t m = wpM E 13 81 rd (.seq (.ops [⟨(some 38), .move (.tmp 12), none⟩,
    ⟨(some 39), .move (.tmp 10), none⟩,
    ⟨(some 40), .call ⟨.value (.func 34), #[(.tmp 38), (.tmp 39)], #[38, 55]⟩, none⟩,
    ⟨(some 41), .move (.tmp 11), none⟩,
    ⟨(some 42), .call ⟨.value (.func 34), #[(.tmp 40), (.tmp 41)], #[38, 55]⟩, none⟩,
    ⟨(some 43), .call ⟨.value (.func 29), #[(.tmp 42)], #[38]⟩, none⟩,
    ⟨(some 15), .assign (.tmp 43), none⟩]) c_sheaflaw10_FlowChain_3) K t m := rfl

def c_sheaflaw10_FlowChain_5 : MC := (.seq (.ops [⟨(some 34), .move (.tmp 12), none⟩,
    ⟨(some 35), .makeFunc (.func 48) #[] #[(.tmp 9), (.tmp 8)], none⟩,
    ⟨(some 36), .call ⟨.value (.func 33), #[(.tmp 34), (.tmp 35)], #[38, 56]⟩, none⟩,
    ⟨(some 37), .call ⟨.value (.func 29), #[(.tmp 36)], #[38]⟩, none⟩,
    ⟨(some 14), .assign (.tmp 37), none⟩]) c_sheaflaw10_FlowChain_4)
@[go_sem] theorem c_sheaflaw10_FlowChain_5_at (rd : Option Nat) (K : Post3) (t : Fr) (m : Mem) : wpM E 13 81 rd c_sheaflaw10_FlowChain_5 K t m = wpM E 13 81 rd (.seq (.ops [⟨(some 34), .move (.tmp 12), none⟩,
    ⟨(some 35), .makeFunc (.func 48) #[] #[(.tmp 9), (.tmp 8)], none⟩,
    ⟨(some 36), .call ⟨.value (.func 33), #[(.tmp 34), (.tmp 35)], #[38, 56]⟩, none⟩,
    ⟨(some 37), .call ⟨.value (.func 29), #[(.tmp 36)], #[38]⟩, none⟩,
    ⟨(some 14), .assign (.tmp 37), none⟩]) c_sheaflaw10_FlowChain_4) K t m := rfl

def c_sheaflaw10_FlowChain_6 : MC := (.seq (.draw [(0, [], ⟨(some 28), .move (.tmp 12), none⟩),
    (1, [], ⟨(some 29), .load 56 (.tmp 8), none⟩),
    (3, [], ⟨(some 31), .load 56 (.tmp 9), none⟩),
    (2, [3], ⟨(some 30), .call ⟨.value (.func 33), #[(.tmp 28), (.tmp 29)], #[38, 56]⟩, none⟩),
    (4, [], ⟨(some 32), .call ⟨.value (.func 33), #[(.tmp 30), (.tmp 31)], #[38, 56]⟩, none⟩),
    (5, [], ⟨(some 33), .call ⟨.value (.func 29), #[(.tmp 32)], #[38]⟩, none⟩),
    (6, [], ⟨(some 13), .assign (.tmp 33), none⟩)]) c_sheaflaw10_FlowChain_5)
@[go_sem] theorem c_sheaflaw10_FlowChain_6_at (rd : Option Nat) (K : Post3) (t : Fr) (m : Mem) : wpM E 13 81 rd c_sheaflaw10_FlowChain_6 K t m = wpM E 13 81 rd (.seq (.draw [(0, [], ⟨(some 28), .move (.tmp 12), none⟩),
    (1, [], ⟨(some 29), .load 56 (.tmp 8), none⟩),
    (3, [], ⟨(some 31), .load 56 (.tmp 9), none⟩),
    (2, [3], ⟨(some 30), .call ⟨.value (.func 33), #[(.tmp 28), (.tmp 29)], #[38, 56]⟩, none⟩),
    (4, [], ⟨(some 32), .call ⟨.value (.func 33), #[(.tmp 30), (.tmp 31)], #[38, 56]⟩, none⟩),
    (5, [], ⟨(some 33), .call ⟨.value (.func 29), #[(.tmp 32)], #[38]⟩, none⟩),
    (6, [], ⟨(some 13), .assign (.tmp 33), none⟩)]) c_sheaflaw10_FlowChain_5) K t m := rfl

def c_sheaflaw10_FlowChain_7 : MC := (.seq (.ops [⟨(some 26), .move (.tmp 7), none⟩,
    ⟨(some 27), .call ⟨.value (.func 24), #[(.tmp 26)], #[23]⟩, none⟩,
    ⟨(some 12), .assign (.tmp 27), none⟩]) c_sheaflaw10_FlowChain_6)
@[go_sem] theorem c_sheaflaw10_FlowChain_7_at (rd : Option Nat) (K : Post3) (t : Fr) (m : Mem) : wpM E 13 81 rd c_sheaflaw10_FlowChain_7 K t m = wpM E 13 81 rd (.seq (.ops [⟨(some 26), .move (.tmp 7), none⟩,
    ⟨(some 27), .call ⟨.value (.func 24), #[(.tmp 26)], #[23]⟩, none⟩,
    ⟨(some 12), .assign (.tmp 27), none⟩]) c_sheaflaw10_FlowChain_6) K t m := rfl

def c_sheaflaw10_FlowChain_8 : MC := (.seq (.ops [⟨(some 11), .assign (.func 47), none⟩]) c_sheaflaw10_FlowChain_7)
@[go_sem] theorem c_sheaflaw10_FlowChain_8_at (rd : Option Nat) (K : Post3) (t : Fr) (m : Mem) : wpM E 13 81 rd c_sheaflaw10_FlowChain_8 K t m = wpM E 13 81 rd (.seq (.ops [⟨(some 11), .assign (.func 47), none⟩]) c_sheaflaw10_FlowChain_7) K t m := rfl

def c_sheaflaw10_FlowChain_9 : MC := (.seq (.ops [⟨(some 10), .assign (.func 46), none⟩]) c_sheaflaw10_FlowChain_8)
@[go_sem] theorem c_sheaflaw10_FlowChain_9_at (rd : Option Nat) (K : Post3) (t : Fr) (m : Mem) : wpM E 13 81 rd c_sheaflaw10_FlowChain_9 K t m = wpM E 13 81 rd (.seq (.ops [⟨(some 10), .assign (.func 46), none⟩]) c_sheaflaw10_FlowChain_8) K t m := rfl

def c_sheaflaw10_FlowChain_10 : MC := (.seq (.ops [⟨(some 25), .makeFunc (.func 45) #[] #[(.tmp 5)], none⟩,
    ⟨(some 9), .alloc 56, none⟩,
    ⟨none, .store 56 (.tmp 9) (.tmp 25), none⟩]) c_sheaflaw10_FlowChain_9)
@[go_sem] theorem c_sheaflaw10_FlowChain_10_at (rd : Option Nat) (K : Post3) (t : Fr) (m : Mem) : wpM E 13 81 rd c_sheaflaw10_FlowChain_10 K t m = wpM E 13 81 rd (.seq (.ops [⟨(some 25), .makeFunc (.func 45) #[] #[(.tmp 5)], none⟩,
    ⟨(some 9), .alloc 56, none⟩,
    ⟨none, .store 56 (.tmp 9) (.tmp 25), none⟩]) c_sheaflaw10_FlowChain_9) K t m := rfl

def c_sheaflaw10_FlowChain_11 : MC := (.seq (.ops [⟨(some 24), .makeFunc (.func 44) #[] #[(.tmp 4)], none⟩,
    ⟨(some 8), .alloc 56, none⟩,
    ⟨none, .store 56 (.tmp 8) (.tmp 24), none⟩]) c_sheaflaw10_FlowChain_10)
@[go_sem] theorem c_sheaflaw10_FlowChain_11_at (rd : Option Nat) (K : Post3) (t : Fr) (m : Mem) : wpM E 13 81 rd c_sheaflaw10_FlowChain_11 K t m = wpM E 13 81 rd (.seq (.ops [⟨(some 24), .makeFunc (.func 44) #[] #[(.tmp 4)], none⟩,
    ⟨(some 8), .alloc 56, none⟩,
    ⟨none, .store 56 (.tmp 8) (.tmp 24), none⟩]) c_sheaflaw10_FlowChain_10) K t m := rfl

def c_sheaflaw10_FlowChain_12 : MC := (.seq (.ops [⟨(some 19), .move (.tmp 0), none⟩,
    ⟨(some 20), .move (.tmp 0), none⟩,
    ⟨(some 21), .call ⟨.builtin .len, #[(.tmp 20)], #[23]⟩, none⟩,
    ⟨(some 22), .call ⟨.builtin .min, #[(.tmp 21), (.const (.int .i64 30))], #[3, 3]⟩, none⟩,
    ⟨(some 23), .slice 23 (.tmp 19) none (some (.tmp 22)) none, none⟩,
    ⟨(some 7), .assign (.tmp 23), none⟩]) c_sheaflaw10_FlowChain_11)
@[go_sem] theorem c_sheaflaw10_FlowChain_12_at (rd : Option Nat) (K : Post3) (t : Fr) (m : Mem) : wpM E 13 81 rd c_sheaflaw10_FlowChain_12 K t m = wpM E 13 81 rd (.seq (.ops [⟨(some 19), .move (.tmp 0), none⟩,
    ⟨(some 20), .move (.tmp 0), none⟩,
    ⟨(some 21), .call ⟨.builtin .len, #[(.tmp 20)], #[23]⟩, none⟩,
    ⟨(some 22), .call ⟨.builtin .min, #[(.tmp 21), (.const (.int .i64 30))], #[3, 3]⟩, none⟩,
    ⟨(some 23), .slice 23 (.tmp 19) none (some (.tmp 22)) none, none⟩,
    ⟨(some 7), .assign (.tmp 23), none⟩]) c_sheaflaw10_FlowChain_11) K t m := rfl

def c_sheaflaw10_FlowChain_13 : MC := (.seq (.ops [⟨(some 4), .box 3 (.tmp 1), none⟩,
    ⟨(some 5), .box 3 (.tmp 2), none⟩,
    ⟨(some 6), .assign (.const (.bool false)), none⟩]) c_sheaflaw10_FlowChain_12)
@[go_sem] theorem c_sheaflaw10_FlowChain_13_at (rd : Option Nat) (K : Post3) (t : Fr) (m : Mem) : wpM E 13 81 rd c_sheaflaw10_FlowChain_13 K t m = wpM E 13 81 rd (.seq (.ops [⟨(some 4), .box 3 (.tmp 1), none⟩,
    ⟨(some 5), .box 3 (.tmp 2), none⟩,
    ⟨(some 6), .assign (.const (.bool false)), none⟩]) c_sheaflaw10_FlowChain_12) K t m := rfl

@[go_sem] theorem some13 : (E.fn 13).isSome = true := by kernel_rfl
set_option maxRecDepth 100000 in
theorem fn_sheaflaw10_FlowChain : FnIs E 13 81 [.tmp 6] c_sheaflaw10_FlowChain_13 := ⟨by kernel_rfl, by kernel_rfl⟩

/-! sheaf/sheaflaw10.equal -/
abbrev F_sheaflaw10_equal : FuncId := 25
def c_sheaflaw10_equal_0 : MC := (.seq (.ops [⟨(some 5), .move (.tmp 0), none⟩,
    ⟨(some 6), .move (.tmp 1), none⟩,
    ⟨(some 7), .binOp .eql 3 (.tmp 5) (.tmp 6) 3, none⟩,
    ⟨(some 4), .assign (.tmp 7), none⟩]) .ret)
@[go_sem] theorem c_sheaflaw10_equal_0_at (rd : Option Nat) (K : Post3) (t : Fr) (m : Mem) : wpM E 25 8 rd c_sheaflaw10_equal_0 K t m = wpM E 25 8 rd (.seq (.ops [⟨(some 5), .move (.tmp 0), none⟩,
    ⟨(some 6), .move (.tmp 1), none⟩,
    ⟨(some 7), .binOp .eql 3 (.tmp 5) (.tmp 6) 3, none⟩,
    ⟨(some 4), .assign (.tmp 7), none⟩]) .ret) K t m := rfl

def c_sheaflaw10_equal_1 : MC := (.seq (.ops [⟨(some 4), .assign (.const (.bool false)), none⟩]) c_sheaflaw10_equal_0)
@[go_sem] theorem c_sheaflaw10_equal_1_at (rd : Option Nat) (K : Post3) (t : Fr) (m : Mem) : wpM E 25 8 rd c_sheaflaw10_equal_1 K t m = wpM E 25 8 rd (.seq (.ops [⟨(some 4), .assign (.const (.bool false)), none⟩]) c_sheaflaw10_equal_0) K t m := rfl

@[go_sem] theorem some25 : (E.fn 25).isSome = true := by kernel_rfl
set_option maxRecDepth 100000 in
theorem fn_sheaflaw10_equal : FnIs E 25 8 [.tmp 4] c_sheaflaw10_equal_1 := ⟨by kernel_rfl, by kernel_rfl⟩

/-! sheaf/sheaflaw10.found -/
abbrev F_sheaflaw10_found : FuncId := 27
def c_sheaflaw10_found_0 : MC := (.seq (.ops [⟨(some 4), .assign (.const (.slice none 0 0)), none⟩]) .ret)
@[go_sem] theorem c_sheaflaw10_found_0_at (rd : Option Nat) (K : Post3) (t : Fr) (m : Mem) : wpM E 27 32 rd c_sheaflaw10_found_0 K t m = wpM E 27 32 rd (.seq (.ops [⟨(some 4), .assign (.const (.slice none 0 0)), none⟩]) .ret) K t m := rfl

def c_sheaflaw10_found_1 : MC := (.cond (.tmp 15) c_sheaflaw10_found_0 .skip)
@[go_sem] theorem c_sheaflaw10_found_1_at (rd : Option Nat) (K : Post3) (t : Fr) (m : Mem) : wpM E 27 32 rd c_sheaflaw10_found_1 K t m = wpM E 27 32 rd (.cond (.tmp 15) c_sheaflaw10_found_0 .skip) K t m := rfl

def c_sheaflaw10_found_2 : MC := (.seq (.ops [⟨(some 14), .move (.tmp 6), none⟩,
    ⟨(some 15), .binOp .eql 48 (.tmp 14) (.const .nilFunc) 48, none⟩]) c_sheaflaw10_found_1)
@[go_sem] theorem c_sheaflaw10_found_2_at (rd : Option Nat) (K : Post3) (t : Fr) (m : Mem) : wpM E 27 32 rd c_sheaflaw10_found_2 K t m = wpM E 27 32 rd (.seq (.ops [⟨(some 14), .move (.tmp 6), none⟩,
    ⟨(some 15), .binOp .eql 48 (.tmp 14) (.const .nilFunc) 48, none⟩]) c_sheaflaw10_found_1) K t m := rfl

def c_sheaflaw10_found_3 : MC := (.seq (.ops [⟨(some 7), .assign (.tmp 17), none⟩]) (.ops [⟨(some 8), .assign (.tmp 18), none⟩]))
@[go_sem] theorem c_sheaflaw10_found_3_at (rd : Option Nat) (K : Post3) (t : Fr) (m : Mem) : wpM E 27 32 rd c_sheaflaw10_found_3 K t m = wpM E 27 32 rd (.seq (.ops [⟨(some 7), .assign (.tmp 17), none⟩]) (.ops [⟨(some 8), .assign (.tmp 18), none⟩])) K t m := rfl

def c_sheaflaw10_found_4 : MC := (.cond (.tmp 24) (.ops [⟨(some 25), .load 23 (.tmp 5), none⟩,
    ⟨(some 26), .buildSlice 23 1 #[(0, (.const (.int .i64 0)))], none⟩,
    ⟨(some 27), .call ⟨.builtin .append, #[(.tmp 25), (.tmp 26)], #[23, 23]⟩, none⟩,
    ⟨none, .store 23 (.tmp 5) (.tmp 27), none⟩]) (.ops [⟨(some 28), .load 23 (.tmp 5), none⟩,
    ⟨(some 29), .buildSlice 23 1 #[(0, (.const (.int .i64 1)))], none⟩,
    ⟨(some 30), .call ⟨.builtin .append, #[(.tmp 28), (.tmp 29)], #[23, 23]⟩, none⟩,
    ⟨none, .store 23 (.tmp 5) (.tmp 30), none⟩]))
@[go_sem] theorem c_sheaflaw10_found_4_at (rd : Option Nat) (K : Post3) (t : Fr) (m : Mem) : wpM E 27 32 rd c_sheaflaw10_found_4 K t m = wpM E 27 32 rd (.cond (.tmp 24) (.ops [⟨(some 25), .load 23 (.tmp 5), none⟩,
    ⟨(some 26), .buildSlice 23 1 #[(0, (.const (.int .i64 0)))], none⟩,
    ⟨(some 27), .call ⟨.builtin .append, #[(.tmp 25), (.tmp 26)], #[23, 23]⟩, none⟩,
    ⟨none, .store 23 (.tmp 5) (.tmp 27), none⟩]) (.ops [⟨(some 28), .load 23 (.tmp 5), none⟩,
    ⟨(some 29), .buildSlice 23 1 #[(0, (.const (.int .i64 1)))], none⟩,
    ⟨(some 30), .call ⟨.builtin .append, #[(.tmp 28), (.tmp 29)], #[23, 23]⟩, none⟩,
    ⟨none, .store 23 (.tmp 5) (.tmp 30), none⟩])) K t m := rfl

def c_sheaflaw10_found_5 : MC := (.seq (.ops [⟨(some 23), .move (.tmp 8), none⟩,
    ⟨(some 24), .binOp .eql 51 (.tmp 23) (.const (.pointer none)) 51, none⟩]) c_sheaflaw10_found_4)
@[go_sem] theorem c_sheaflaw10_found_5_at (rd : Option Nat) (K : Post3) (t : Fr) (m : Mem) : wpM E 27 32 rd c_sheaflaw10_found_5 K t m = wpM E 27 32 rd (.seq (.ops [⟨(some 23), .move (.tmp 8), none⟩,
    ⟨(some 24), .binOp .eql 51 (.tmp 23) (.const (.pointer none)) 51, none⟩]) c_sheaflaw10_found_4) K t m := rfl

def c_sheaflaw10_found_6 : MC := (.seq (.ops [⟨(some 19), .load 23 (.tmp 5), none⟩,
    ⟨(some 20), .move (.tmp 7), none⟩,
    ⟨(some 21), .buildSlice 23 1 #[(0, (.tmp 20))], none⟩,
    ⟨(some 22), .call ⟨.builtin .append, #[(.tmp 19), (.tmp 21)], #[23, 23]⟩, none⟩,
    ⟨none, .store 23 (.tmp 5) (.tmp 22), none⟩]) c_sheaflaw10_found_5)
@[go_sem] theorem c_sheaflaw10_found_6_at (rd : Option Nat) (K : Post3) (t : Fr) (m : Mem) : wpM E 27 32 rd c_sheaflaw10_found_6 K t m = wpM E 27 32 rd (.seq (.ops [⟨(some 19), .load 23 (.tmp 5), none⟩,
    ⟨(some 20), .move (.tmp 7), none⟩,
    ⟨(some 21), .buildSlice 23 1 #[(0, (.tmp 20))], none⟩,
    ⟨(some 22), .call ⟨.builtin .append, #[(.tmp 19), (.tmp 21)], #[23, 23]⟩, none⟩,
    ⟨none, .store 23 (.tmp 5) (.tmp 22), none⟩]) c_sheaflaw10_found_5) K t m := rfl

def c_sheaflaw10_found_7 : MC := (.block 1 c_sheaflaw10_found_6)
@[go_sem] theorem c_sheaflaw10_found_7_at (rd : Option Nat) (K : Post3) (t : Fr) (m : Mem) : wpM E 27 32 rd c_sheaflaw10_found_7 K t m = wpM E 27 32 rd (.block 1 c_sheaflaw10_found_6) K t m := rfl

theorem asg_sheaflaw10_found_0 : compile E 27 32 (asgAt E 27 0) = some c_sheaflaw10_found_3 := by kernel_rfl

theorem body_sheaflaw10_found_0 : compile E 27 32 (bodyAt E 27 0) = some c_sheaflaw10_found_7 := by kernel_rfl

def c_sheaflaw10_found_8 : MC := (.range (.tmp 16) #[17, 18] (asgAt E 27 0) (bodyAt E 27 0))
theorem c_sheaflaw10_found_8_at (rd : Option Nat) (K : Post3) (t : Fr) (m : Mem) : wpM E 27 32 rd c_sheaflaw10_found_8 K t m = wpM E 27 32 rd (.range (.tmp 16) #[17, 18] (asgAt E 27 0) (bodyAt E 27 0)) K t m := rfl

def c_sheaflaw10_found_9 : MC := (.block 0 c_sheaflaw10_found_8)
@[go_sem] theorem c_sheaflaw10_found_9_at (rd : Option Nat) (K : Post3) (t : Fr) (m : Mem) : wpM E 27 32 rd c_sheaflaw10_found_9 K t m = wpM E 27 32 rd (.block 0 c_sheaflaw10_found_8) K t m := rfl

def c_sheaflaw10_found_10 : MC := (.seq (.ops [⟨(some 16), .move (.tmp 6), none⟩]) c_sheaflaw10_found_9)
@[go_sem] theorem c_sheaflaw10_found_10_at (rd : Option Nat) (K : Post3) (t : Fr) (m : Mem) : wpM E 27 32 rd c_sheaflaw10_found_10 K t m = wpM E 27 32 rd (.seq (.ops [⟨(some 16), .move (.tmp 6), none⟩]) c_sheaflaw10_found_9) K t m := rfl

def c_sheaflaw10_found_11 : MC := (.seq (.ops [⟨(some 31), .load 23 (.tmp 5), none⟩,
    ⟨(some 4), .assign (.tmp 31), none⟩]) .ret)
@[go_sem] theorem c_sheaflaw10_found_11_at (rd : Option Nat) (K : Post3) (t : Fr) (m : Mem) : wpM E 27 32 rd c_sheaflaw10_found_11 K t m = wpM E 27 32 rd (.seq (.ops [⟨(some 31), .load 23 (.tmp 5), none⟩,
    ⟨(some 4), .assign (.tmp 31), none⟩]) .ret) K t m := rfl

def c_sheaflaw10_found_12 : MC := (.seq c_sheaflaw10_found_10 c_sheaflaw10_found_11)
@[go_sem] theorem c_sheaflaw10_found_12_at (rd : Option Nat) (K : Post3) (t : Fr) (m : Mem) : wpM E 27 32 rd c_sheaflaw10_found_12 K t m = wpM E 27 32 rd (.seq c_sheaflaw10_found_10 c_sheaflaw10_found_11) K t m := rfl

def c_sheaflaw10_found_13 : MC := (.seq c_sheaflaw10_found_2 c_sheaflaw10_found_12)
@[go_sem] theorem c_sheaflaw10_found_13_at (rd : Option Nat) (K : Post3) (t : Fr) (m : Mem) : wpM E 27 32 rd c_sheaflaw10_found_13 K t m = wpM E 27 32 rd (.seq c_sheaflaw10_found_2 c_sheaflaw10_found_12) K t m := rfl

def c_sheaflaw10_found_14 : MC := (.seq (.ops [⟨(some 9), .move (.tmp 0), none⟩,
    ⟨(some 10), .call ⟨.value (.func 24), #[(.tmp 9)], #[23]⟩, none⟩,
    ⟨(some 11), .move (.tmp 1), none⟩,
    ⟨(some 12), .call ⟨.value (.func 30), #[(.tmp 11)], #[23]⟩, none⟩,
    ⟨(some 13), .call ⟨.value (.func 31), #[(.tmp 10), (.tmp 12), (.func 32)], #[38, 44, 50]⟩, none⟩,
    ⟨(some 6), .assign (.tmp 13), none⟩]) c_sheaflaw10_found_13)
@[go_sem] theorem c_sheaflaw10_found_14_at (rd : Option Nat) (K : Post3) (t : Fr) (m : Mem) : wpM E 27 32 rd c_sheaflaw10_found_14 K t m = wpM E 27 32 rd (.seq (.ops [⟨(some 9), .move (.tmp 0), none⟩,
    ⟨(some 10), .call ⟨.value (.func 24), #[(.tmp 9)], #[23]⟩, none⟩,
    ⟨(some 11), .move (.tmp 1), none⟩,
    ⟨(some 12), .call ⟨.value (.func 30), #[(.tmp 11)], #[23]⟩, none⟩,
    ⟨(some 13), .call ⟨.value (.func 31), #[(.tmp 10), (.tmp 12), (.func 32)], #[38, 44, 50]⟩, none⟩,
    ⟨(some 6), .assign (.tmp 13), none⟩]) c_sheaflaw10_found_13) K t m := rfl

def c_sheaflaw10_found_15 : MC := (.seq (.ops [⟨(some 5), .alloc 23, none⟩]) c_sheaflaw10_found_14)
@[go_sem] theorem c_sheaflaw10_found_15_at (rd : Option Nat) (K : Post3) (t : Fr) (m : Mem) : wpM E 27 32 rd c_sheaflaw10_found_15 K t m = wpM E 27 32 rd (.seq (.ops [⟨(some 5), .alloc 23, none⟩]) c_sheaflaw10_found_14) K t m := rfl

def c_sheaflaw10_found_16 : MC := (.seq (.ops [⟨(some 4), .assign (.const (.slice none 0 0)), none⟩]) c_sheaflaw10_found_15)
@[go_sem] theorem c_sheaflaw10_found_16_at (rd : Option Nat) (K : Post3) (t : Fr) (m : Mem) : wpM E 27 32 rd c_sheaflaw10_found_16 K t m = wpM E 27 32 rd (.seq (.ops [⟨(some 4), .assign (.const (.slice none 0 0)), none⟩]) c_sheaflaw10_found_15) K t m := rfl

@[go_sem] theorem some27 : (E.fn 27).isSome = true := by kernel_rfl
set_option maxRecDepth 100000 in
theorem fn_sheaflaw10_found : FnIs E 27 32 [.tmp 4] c_sheaflaw10_found_16 := ⟨by kernel_rfl, by kernel_rfl⟩

/-! sheaf/sheaflaw10.FlowGroups$1 -/
abbrev F_sheaflaw10_FlowGroups_1 : FuncId := 28
def c_sheaflaw10_FlowGroups_1_0 : MC := (.seq (.ops [⟨(some 6), .move (.tmp 0), none⟩,
    ⟨(some 7), .binOp .and 3 (.tmp 6) (.const (.int .i64 15)) 3, none⟩,
    ⟨(some 8), .load 3 (.tmp 2), none⟩,
    ⟨(some 9), .binOp .quo 3 (.tmp 7) (.tmp 8) 3, none⟩,
    ⟨(some 10), .move (.tmp 1), none⟩,
    ⟨(some 11), .binOp .and 3 (.tmp 10) (.const (.int .i64 15)) 3, none⟩,
    ⟨(some 12), .load 3 (.tmp 2), none⟩,
    ⟨(some 13), .binOp .quo 3 (.tmp 11) (.tmp 12) 3, none⟩,
    ⟨(some 14), .binOp .eql 3 (.tmp 9) (.tmp 13) 3, none⟩,
    ⟨(some 5), .assign (.tmp 14), none⟩]) .ret)
@[go_sem] theorem c_sheaflaw10_FlowGroups_1_0_at (rd : Option Nat) (K : Post3) (t : Fr) (m : Mem) : wpM E 28 15 rd c_sheaflaw10_FlowGroups_1_0 K t m = wpM E 28 15 rd (.seq (.ops [⟨(some 6), .move (.tmp 0), none⟩,
    ⟨(some 7), .binOp .and 3 (.tmp 6) (.const (.int .i64 15)) 3, none⟩,
    ⟨(some 8), .load 3 (.tmp 2), none⟩,
    ⟨(some 9), .binOp .quo 3 (.tmp 7) (.tmp 8) 3, none⟩,
    ⟨(some 10), .move (.tmp 1), none⟩,
    ⟨(some 11), .binOp .and 3 (.tmp 10) (.const (.int .i64 15)) 3, none⟩,
    ⟨(some 12), .load 3 (.tmp 2), none⟩,
    ⟨(some 13), .binOp .quo 3 (.tmp 11) (.tmp 12) 3, none⟩,
    ⟨(some 14), .binOp .eql 3 (.tmp 9) (.tmp 13) 3, none⟩,
    ⟨(some 5), .assign (.tmp 14), none⟩]) .ret) K t m := rfl

def c_sheaflaw10_FlowGroups_1_1 : MC := (.seq (.ops [⟨(some 5), .assign (.const (.bool false)), none⟩]) c_sheaflaw10_FlowGroups_1_0)
@[go_sem] theorem c_sheaflaw10_FlowGroups_1_1_at (rd : Option Nat) (K : Post3) (t : Fr) (m : Mem) : wpM E 28 15 rd c_sheaflaw10_FlowGroups_1_1 K t m = wpM E 28 15 rd (.seq (.ops [⟨(some 5), .assign (.const (.bool false)), none⟩]) c_sheaflaw10_FlowGroups_1_0) K t m := rfl

@[go_sem] theorem some28 : (E.fn 28).isSome = true := by kernel_rfl
set_option maxRecDepth 100000 in
theorem fn_sheaflaw10_FlowGroups_1 : FnIs E 28 15 [.tmp 5] c_sheaflaw10_FlowGroups_1_1 := ⟨by kernel_rfl, by kernel_rfl⟩

/-! sheaf/sheaflaw10.below -/
abbrev F_sheaflaw10_below : FuncId := 32
def c_sheaflaw10_below_0 : MC := (.seq (.ops [⟨(some 4), .assign (.const (.int .i64 (-1))), none⟩]) .ret)
@[go_sem] theorem c_sheaflaw10_below_0_at (rd : Option Nat) (K : Post3) (t : Fr) (m : Mem) : wpM E 32 13 rd c_sheaflaw10_below_0 K t m = wpM E 32 13 rd (.seq (.ops [⟨(some 4), .assign (.const (.int .i64 (-1))), none⟩]) .ret) K t m := rfl

def c_sheaflaw10_below_1 : MC := (.seq (.ops [⟨(some 4), .assign (.const (.int .i64 1)), none⟩]) .ret)
@[go_sem] theorem c_sheaflaw10_below_1_at (rd : Option Nat) (K : Post3) (t : Fr) (m : Mem) : wpM E 32 13 rd c_sheaflaw10_below_1 K t m = wpM E 32 13 rd (.seq (.ops [⟨(some 4), .assign (.const (.int .i64 1)), none⟩]) .ret) K t m := rfl

def c_sheaflaw10_below_2 : MC := (.cond (.tmp 9) c_sheaflaw10_below_1 .skip)
@[go_sem] theorem c_sheaflaw10_below_2_at (rd : Option Nat) (K : Post3) (t : Fr) (m : Mem) : wpM E 32 13 rd c_sheaflaw10_below_2 K t m = wpM E 32 13 rd (.cond (.tmp 9) c_sheaflaw10_below_1 .skip) K t m := rfl

def c_sheaflaw10_below_3 : MC := (.seq (.ops [⟨(some 10), .move (.tmp 0), none⟩,
    ⟨(some 11), .move (.tmp 1), none⟩,
    ⟨(some 12), .binOp .gtr 3 (.tmp 10) (.tmp 11) 3, none⟩,
    ⟨(some 9), .assign (.tmp 12), none⟩]) c_sheaflaw10_below_2)
@[go_sem] theorem c_sheaflaw10_below_3_at (rd : Option Nat) (K : Post3) (t : Fr) (m : Mem) : wpM E 32 13 rd c_sheaflaw10_below_3 K t m = wpM E 32 13 rd (.seq (.ops [⟨(some 10), .move (.tmp 0), none⟩,
    ⟨(some 11), .move (.tmp 1), none⟩,
    ⟨(some 12), .binOp .gtr 3 (.tmp 10) (.tmp 11) 3, none⟩,
    ⟨(some 9), .assign (.tmp 12), none⟩]) c_sheaflaw10_below_2) K t m := rfl

def c_sheaflaw10_below_4 : MC := (.cond (.tmp 5) c_sheaflaw10_below_0 c_sheaflaw10_below_3)
@[go_sem] theorem c_sheaflaw10_below_4_at (rd : Option Nat) (K : Post3) (t : Fr) (m : Mem) : wpM E 32 13 rd c_sheaflaw10_below_4 K t m = wpM E 32 13 rd (.cond (.tmp 5) c_sheaflaw10_below_0 c_sheaflaw10_below_3) K t m := rfl

def c_sheaflaw10_below_5 : MC := (.seq (.ops [⟨(some 6), .move (.tmp 0), none⟩,
    ⟨(some 7), .move (.tmp 1), none⟩,
    ⟨(some 8), .binOp .lss 3 (.tmp 6) (.tmp 7) 3, none⟩,
    ⟨(some 5), .assign (.tmp 8), none⟩]) c_sheaflaw10_below_4)
@[go_sem] theorem c_sheaflaw10_below_5_at (rd : Option Nat) (K : Post3) (t : Fr) (m : Mem) : wpM E 32 13 rd c_sheaflaw10_below_5 K t m = wpM E 32 13 rd (.seq (.ops [⟨(some 6), .move (.tmp 0), none⟩,
    ⟨(some 7), .move (.tmp 1), none⟩,
    ⟨(some 8), .binOp .lss 3 (.tmp 6) (.tmp 7) 3, none⟩,
    ⟨(some 5), .assign (.tmp 8), none⟩]) c_sheaflaw10_below_4) K t m := rfl

def c_sheaflaw10_below_6 : MC := (.block 0 c_sheaflaw10_below_5)
@[go_sem] theorem c_sheaflaw10_below_6_at (rd : Option Nat) (K : Post3) (t : Fr) (m : Mem) : wpM E 32 13 rd c_sheaflaw10_below_6 K t m = wpM E 32 13 rd (.block 0 c_sheaflaw10_below_5) K t m := rfl

def c_sheaflaw10_below_7 : MC := (.seq (.ops [⟨(some 4), .assign (.const (.int .i64 0)), none⟩]) .ret)
@[go_sem] theorem c_sheaflaw10_below_7_at (rd : Option Nat) (K : Post3) (t : Fr) (m : Mem) : wpM E 32 13 rd c_sheaflaw10_below_7 K t m = wpM E 32 13 rd (.seq (.ops [⟨(some 4), .assign (.const (.int .i64 0)), none⟩]) .ret) K t m := rfl

def c_sheaflaw10_below_8 : MC := (.seq c_sheaflaw10_below_6 c_sheaflaw10_below_7)
@[go_sem] theorem c_sheaflaw10_below_8_at (rd : Option Nat) (K : Post3) (t : Fr) (m : Mem) : wpM E 32 13 rd c_sheaflaw10_below_8 K t m = wpM E 32 13 rd (.seq c_sheaflaw10_below_6 c_sheaflaw10_below_7) K t m := rfl

def c_sheaflaw10_below_9 : MC := (.seq (.ops [⟨(some 4), .assign (.const (.int .i64 0)), none⟩]) c_sheaflaw10_below_8)
@[go_sem] theorem c_sheaflaw10_below_9_at (rd : Option Nat) (K : Post3) (t : Fr) (m : Mem) : wpM E 32 13 rd c_sheaflaw10_below_9 K t m = wpM E 32 13 rd (.seq (.ops [⟨(some 4), .assign (.const (.int .i64 0)), none⟩]) c_sheaflaw10_below_8) K t m := rfl

@[go_sem] theorem some32 : (E.fn 32).isSome = true := by kernel_rfl
set_option maxRecDepth 100000 in
theorem fn_sheaflaw10_below : FnIs E 32 13 [.tmp 4] c_sheaflaw10_below_9 := ⟨by kernel_rfl, by kernel_rfl⟩

/-! sheaf/sheaflaw10.counted -/
abbrev F_sheaflaw10_counted : FuncId := 35
def c_sheaflaw10_counted_0 : MC := (.seq (.ops [⟨(some 5), .makeFunc (.func 64) #[] #[(.tmp 2), (.tmp 3)], none⟩,
    ⟨(some 4), .assign (.tmp 5), none⟩]) .ret)
@[go_sem] theorem c_sheaflaw10_counted_0_at (rd : Option Nat) (K : Post3) (t : Fr) (m : Mem) : wpM E 35 6 rd c_sheaflaw10_counted_0 K t m = wpM E 35 6 rd (.seq (.ops [⟨(some 5), .makeFunc (.func 64) #[] #[(.tmp 2), (.tmp 3)], none⟩,
    ⟨(some 4), .assign (.tmp 5), none⟩]) .ret) K t m := rfl

def c_sheaflaw10_counted_1 : MC := (.seq (.ops [⟨(some 2), .box 23 (.tmp 0), none⟩,
    ⟨(some 3), .box 51 (.tmp 1), none⟩,
    ⟨(some 4), .assign (.const .nilFunc), none⟩]) c_sheaflaw10_counted_0)
@[go_sem] theorem c_sheaflaw10_counted_1_at (rd : Option Nat) (K : Post3) (t : Fr) (m : Mem) : wpM E 35 6 rd c_sheaflaw10_counted_1 K t m = wpM E 35 6 rd (.seq (.ops [⟨(some 2), .box 23 (.tmp 0), none⟩,
    ⟨(some 3), .box 51 (.tmp 1), none⟩,
    ⟨(some 4), .assign (.const .nilFunc), none⟩]) c_sheaflaw10_counted_0) K t m := rfl

@[go_sem] theorem some35 : (E.fn 35).isSome = true := by kernel_rfl
set_option maxRecDepth 100000 in
theorem fn_sheaflaw10_counted : FnIs E 35 6 [.tmp 4] c_sheaflaw10_counted_1 := ⟨by kernel_rfl, by kernel_rfl⟩

/-! sheaf/sheaflaw10.FlowBreaks$1 -/
abbrev F_sheaflaw10_FlowBreaks_1 : FuncId := 36
def c_sheaflaw10_FlowBreaks_1_0 : MC := (.seq (.ops [⟨(some 3), .move (.tmp 0), none⟩,
    ⟨(some 4), .binOp .and 3 (.tmp 3) (.const (.int .i64 1)) 3, none⟩,
    ⟨(some 5), .binOp .eql 3 (.tmp 4) (.const (.int .i64 0)) 3, none⟩,
    ⟨(some 2), .assign (.tmp 5), none⟩]) .ret)
@[go_sem] theorem c_sheaflaw10_FlowBreaks_1_0_at (rd : Option Nat) (K : Post3) (t : Fr) (m : Mem) : wpM E 36 6 rd c_sheaflaw10_FlowBreaks_1_0 K t m = wpM E 36 6 rd (.seq (.ops [⟨(some 3), .move (.tmp 0), none⟩,
    ⟨(some 4), .binOp .and 3 (.tmp 3) (.const (.int .i64 1)) 3, none⟩,
    ⟨(some 5), .binOp .eql 3 (.tmp 4) (.const (.int .i64 0)) 3, none⟩,
    ⟨(some 2), .assign (.tmp 5), none⟩]) .ret) K t m := rfl

def c_sheaflaw10_FlowBreaks_1_1 : MC := (.seq (.ops [⟨(some 2), .assign (.const (.bool false)), none⟩]) c_sheaflaw10_FlowBreaks_1_0)
@[go_sem] theorem c_sheaflaw10_FlowBreaks_1_1_at (rd : Option Nat) (K : Post3) (t : Fr) (m : Mem) : wpM E 36 6 rd c_sheaflaw10_FlowBreaks_1_1 K t m = wpM E 36 6 rd (.seq (.ops [⟨(some 2), .assign (.const (.bool false)), none⟩]) c_sheaflaw10_FlowBreaks_1_0) K t m := rfl

@[go_sem] theorem some36 : (E.fn 36).isSome = true := by kernel_rfl
set_option maxRecDepth 100000 in
theorem fn_sheaflaw10_FlowBreaks_1 : FnIs E 36 6 [.tmp 2] c_sheaflaw10_FlowBreaks_1_1 := ⟨by kernel_rfl, by kernel_rfl⟩

/-! sheaf/sheaflaw10.FlowBreaks$2 -/
abbrev F_sheaflaw10_FlowBreaks_2 : FuncId := 37
def c_sheaflaw10_FlowBreaks_2_0 : MC := (.seq (.ops [⟨(some 3), .move (.tmp 0), none⟩,
    ⟨(some 4), .binOp .quo 3 (.tmp 3) (.const (.int .i64 2)) 3, none⟩,
    ⟨(some 2), .assign (.tmp 4), none⟩]) .ret)
@[go_sem] theorem c_sheaflaw10_FlowBreaks_2_0_at (rd : Option Nat) (K : Post3) (t : Fr) (m : Mem) : wpM E 37 5 rd c_sheaflaw10_FlowBreaks_2_0 K t m = wpM E 37 5 rd (.seq (.ops [⟨(some 3), .move (.tmp 0), none⟩,
    ⟨(some 4), .binOp .quo 3 (.tmp 3) (.const (.int .i64 2)) 3, none⟩,
    ⟨(some 2), .assign (.tmp 4), none⟩]) .ret) K t m := rfl

def c_sheaflaw10_FlowBreaks_2_1 : MC := (.seq (.ops [⟨(some 2), .assign (.const (.int .i64 0)), none⟩]) c_sheaflaw10_FlowBreaks_2_0)
@[go_sem] theorem c_sheaflaw10_FlowBreaks_2_1_at (rd : Option Nat) (K : Post3) (t : Fr) (m : Mem) : wpM E 37 5 rd c_sheaflaw10_FlowBreaks_2_1 K t m = wpM E 37 5 rd (.seq (.ops [⟨(some 2), .assign (.const (.int .i64 0)), none⟩]) c_sheaflaw10_FlowBreaks_2_0) K t m := rfl

@[go_sem] theorem some37 : (E.fn 37).isSome = true := by kernel_rfl
set_option maxRecDepth 100000 in
theorem fn_sheaflaw10_FlowBreaks_2 : FnIs E 37 5 [.tmp 2] c_sheaflaw10_FlowBreaks_2_1 := ⟨by kernel_rfl, by kernel_rfl⟩

/-! sheaf/sheaflaw10.FlowLists$1 -/
abbrev F_sheaflaw10_FlowLists_1 : FuncId := 40
def c_sheaflaw10_FlowLists_1_0 : MC := (.seq (.ops [⟨(some 4), .move (.tmp 0), none⟩,
    ⟨(some 5), .load 3 (.tmp 1), none⟩,
    ⟨(some 6), .binOp .add 3 (.tmp 4) (.tmp 5) 3, none⟩,
    ⟨(some 7), .convert 3 5 (.tmp 6), none⟩,
    ⟨(some 8), .buildSlice 62 1 #[(0, (.tmp 7))], none⟩,
    ⟨(some 9), .convert 62 9 (.tmp 8), none⟩,
    ⟨(some 3), .assign (.tmp 9), none⟩]) .ret)
@[go_sem] theorem c_sheaflaw10_FlowLists_1_0_at (rd : Option Nat) (K : Post3) (t : Fr) (m : Mem) : wpM E 40 10 rd c_sheaflaw10_FlowLists_1_0 K t m = wpM E 40 10 rd (.seq (.ops [⟨(some 4), .move (.tmp 0), none⟩,
    ⟨(some 5), .load 3 (.tmp 1), none⟩,
    ⟨(some 6), .binOp .add 3 (.tmp 4) (.tmp 5) 3, none⟩,
    ⟨(some 7), .convert 3 5 (.tmp 6), none⟩,
    ⟨(some 8), .buildSlice 62 1 #[(0, (.tmp 7))], none⟩,
    ⟨(some 9), .convert 62 9 (.tmp 8), none⟩,
    ⟨(some 3), .assign (.tmp 9), none⟩]) .ret) K t m := rfl

def c_sheaflaw10_FlowLists_1_1 : MC := (.seq (.ops [⟨(some 3), .assign (.const (.string ⟨#[]⟩)), none⟩]) c_sheaflaw10_FlowLists_1_0)
@[go_sem] theorem c_sheaflaw10_FlowLists_1_1_at (rd : Option Nat) (K : Post3) (t : Fr) (m : Mem) : wpM E 40 10 rd c_sheaflaw10_FlowLists_1_1 K t m = wpM E 40 10 rd (.seq (.ops [⟨(some 3), .assign (.const (.string ⟨#[]⟩)), none⟩]) c_sheaflaw10_FlowLists_1_0) K t m := rfl

@[go_sem] theorem some40 : (E.fn 40).isSome = true := by kernel_rfl
set_option maxRecDepth 100000 in
theorem fn_sheaflaw10_FlowLists_1 : FnIs E 40 10 [.tmp 3] c_sheaflaw10_FlowLists_1_1 := ⟨by kernel_rfl, by kernel_rfl⟩

/-! sheaf/sheaflaw10.FlowLists$2 -/
abbrev F_sheaflaw10_FlowLists_2 : FuncId := 41
def c_sheaflaw10_FlowLists_2_0 : MC := (.seq (.ops [⟨(some 4), .move (.tmp 0), none⟩,
    ⟨(some 5), .binOp .and 3 (.tmp 4) (.const (.int .i64 7)) 3, none⟩,
    ⟨(some 6), .load 3 (.tmp 1), none⟩,
    ⟨(some 7), .binOp .lss 3 (.tmp 5) (.tmp 6) 3, none⟩,
    ⟨(some 3), .assign (.tmp 7), none⟩]) .ret)
@[go_sem] theorem c_sheaflaw10_FlowLists_2_0_at (rd : Option Nat) (K : Post3) (t : Fr) (m : Mem) : wpM E 41 8 rd c_sheaflaw10_FlowLists_2_0 K t m = wpM E 41 8 rd (.seq (.ops [⟨(some 4), .move (.tmp 0), none⟩,
    ⟨(some 5), .binOp .and 3 (.tmp 4) (.const (.int .i64 7)) 3, none⟩,
    ⟨(some 6), .load 3 (.tmp 1), none⟩,
    ⟨(some 7), .binOp .lss 3 (.tmp 5) (.tmp 6) 3, none⟩,
    ⟨(some 3), .assign (.tmp 7), none⟩]) .ret) K t m := rfl

def c_sheaflaw10_FlowLists_2_1 : MC := (.seq (.ops [⟨(some 3), .assign (.const (.bool false)), none⟩]) c_sheaflaw10_FlowLists_2_0)
@[go_sem] theorem c_sheaflaw10_FlowLists_2_1_at (rd : Option Nat) (K : Post3) (t : Fr) (m : Mem) : wpM E 41 8 rd c_sheaflaw10_FlowLists_2_1 K t m = wpM E 41 8 rd (.seq (.ops [⟨(some 3), .assign (.const (.bool false)), none⟩]) c_sheaflaw10_FlowLists_2_0) K t m := rfl

@[go_sem] theorem some41 : (E.fn 41).isSome = true := by kernel_rfl
set_option maxRecDepth 100000 in
theorem fn_sheaflaw10_FlowLists_2 : FnIs E 41 8 [.tmp 3] c_sheaflaw10_FlowLists_2_1 := ⟨by kernel_rfl, by kernel_rfl⟩

/-! sheaf/sheaflaw10.FlowLists$3 -/
abbrev F_sheaflaw10_FlowLists_3 : FuncId := 43
def c_sheaflaw10_FlowLists_3_0 : MC := (.seq (.ops [⟨(some 5), .move (.tmp 0), none⟩,
    ⟨(some 6), .binOp .mul 3 (.const (.int .i64 3)) (.tmp 5) 3, none⟩,
    ⟨(some 7), .move (.tmp 1), none⟩,
    ⟨(some 8), .binOp .add 3 (.tmp 6) (.tmp 7) 3, none⟩,
    ⟨(some 4), .assign (.tmp 8), none⟩]) .ret)
@[go_sem] theorem c_sheaflaw10_FlowLists_3_0_at (rd : Option Nat) (K : Post3) (t : Fr) (m : Mem) : wpM E 43 9 rd c_sheaflaw10_FlowLists_3_0 K t m = wpM E 43 9 rd (.seq (.ops [⟨(some 5), .move (.tmp 0), none⟩,
    ⟨(some 6), .binOp .mul 3 (.const (.int .i64 3)) (.tmp 5) 3, none⟩,
    ⟨(some 7), .move (.tmp 1), none⟩,
    ⟨(some 8), .binOp .add 3 (.tmp 6) (.tmp 7) 3, none⟩,
    ⟨(some 4), .assign (.tmp 8), none⟩]) .ret) K t m := rfl

def c_sheaflaw10_FlowLists_3_1 : MC := (.seq (.ops [⟨(some 4), .assign (.const (.int .i64 0)), none⟩]) c_sheaflaw10_FlowLists_3_0)
@[go_sem] theorem c_sheaflaw10_FlowLists_3_1_at (rd : Option Nat) (K : Post3) (t : Fr) (m : Mem) : wpM E 43 9 rd c_sheaflaw10_FlowLists_3_1 K t m = wpM E 43 9 rd (.seq (.ops [⟨(some 4), .assign (.const (.int .i64 0)), none⟩]) c_sheaflaw10_FlowLists_3_0) K t m := rfl

@[go_sem] theorem some43 : (E.fn 43).isSome = true := by kernel_rfl
set_option maxRecDepth 100000 in
theorem fn_sheaflaw10_FlowLists_3 : FnIs E 43 9 [.tmp 4] c_sheaflaw10_FlowLists_3_1 := ⟨by kernel_rfl, by kernel_rfl⟩

/-! sheaf/sheaflaw10.FlowChain$1 -/
abbrev F_sheaflaw10_FlowChain_1 : FuncId := 44
def c_sheaflaw10_FlowChain_1_0 : MC := (.seq (.ops [⟨(some 4), .move (.tmp 0), none⟩,
    ⟨(some 5), .load 3 (.tmp 1), none⟩,
    ⟨(some 6), .binOp .xor 3 (.tmp 4) (.tmp 5) 3, none⟩,
    ⟨(some 3), .assign (.tmp 6), none⟩]) .ret)
@[go_sem] theorem c_sheaflaw10_FlowChain_1_0_at (rd : Option Nat) (K : Post3) (t : Fr) (m : Mem) : wpM E 44 7 rd c_sheaflaw10_FlowChain_1_0 K t m = wpM E 44 7 rd (.seq (.ops [⟨(some 4), .move (.tmp 0), none⟩,
    ⟨(some 5), .load 3 (.tmp 1), none⟩,
    ⟨(some 6), .binOp .xor 3 (.tmp 4) (.tmp 5) 3, none⟩,
    ⟨(some 3), .assign (.tmp 6), none⟩]) .ret) K t m := rfl

def c_sheaflaw10_FlowChain_1_1 : MC := (.seq (.ops [⟨(some 3), .assign (.const (.int .i64 0)), none⟩]) c_sheaflaw10_FlowChain_1_0)
@[go_sem] theorem c_sheaflaw10_FlowChain_1_1_at (rd : Option Nat) (K : Post3) (t : Fr) (m : Mem) : wpM E 44 7 rd c_sheaflaw10_FlowChain_1_1 K t m = wpM E 44 7 rd (.seq (.ops [⟨(some 3), .assign (.const (.int .i64 0)), none⟩]) c_sheaflaw10_FlowChain_1_0) K t m := rfl

@[go_sem] theorem some44 : (E.fn 44).isSome = true := by kernel_rfl
set_option maxRecDepth 100000 in
theorem fn_sheaflaw10_FlowChain_1 : FnIs E 44 7 [.tmp 3] c_sheaflaw10_FlowChain_1_1 := ⟨by kernel_rfl, by kernel_rfl⟩

/-! sheaf/sheaflaw10.FlowChain$2 -/
abbrev F_sheaflaw10_FlowChain_2 : FuncId := 45
def c_sheaflaw10_FlowChain_2_0 : MC := (.seq (.ops [⟨(some 4), .move (.tmp 0), none⟩,
    ⟨(some 5), .load 3 (.tmp 1), none⟩,
    ⟨(some 6), .binOp .add 3 (.tmp 4) (.tmp 5) 3, none⟩,
    ⟨(some 3), .assign (.tmp 6), none⟩]) .ret)
@[go_sem] theorem c_sheaflaw10_FlowChain_2_0_at (rd : Option Nat) (K : Post3) (t : Fr) (m : Mem) : wpM E 45 7 rd c_sheaflaw10_FlowChain_2_0 K t m = wpM E 45 7 rd (.seq (.ops [⟨(some 4), .move (.tmp 0), none⟩,
    ⟨(some 5), .load 3 (.tmp 1), none⟩,
    ⟨(some 6), .binOp .add 3 (.tmp 4) (.tmp 5) 3, none⟩,
    ⟨(some 3), .assign (.tmp 6), none⟩]) .ret) K t m := rfl

def c_sheaflaw10_FlowChain_2_1 : MC := (.seq (.ops [⟨(some 3), .assign (.const (.int .i64 0)), none⟩]) c_sheaflaw10_FlowChain_2_0)
@[go_sem] theorem c_sheaflaw10_FlowChain_2_1_at (rd : Option Nat) (K : Post3) (t : Fr) (m : Mem) : wpM E 45 7 rd c_sheaflaw10_FlowChain_2_1 K t m = wpM E 45 7 rd (.seq (.ops [⟨(some 3), .assign (.const (.int .i64 0)), none⟩]) c_sheaflaw10_FlowChain_2_0) K t m := rfl

@[go_sem] theorem some45 : (E.fn 45).isSome = true := by kernel_rfl
set_option maxRecDepth 100000 in
theorem fn_sheaflaw10_FlowChain_2 : FnIs E 45 7 [.tmp 3] c_sheaflaw10_FlowChain_2_1 := ⟨by kernel_rfl, by kernel_rfl⟩

/-! sheaf/sheaflaw10.FlowChain$3 -/
abbrev F_sheaflaw10_FlowChain_3 : FuncId := 46
def c_sheaflaw10_FlowChain_3_0 : MC := (.seq (.ops [⟨(some 3), .move (.tmp 0), none⟩,
    ⟨(some 4), .binOp .and 3 (.tmp 3) (.const (.int .i64 1)) 3, none⟩,
    ⟨(some 5), .binOp .eql 3 (.tmp 4) (.const (.int .i64 0)) 3, none⟩,
    ⟨(some 2), .assign (.tmp 5), none⟩]) .ret)
@[go_sem] theorem c_sheaflaw10_FlowChain_3_0_at (rd : Option Nat) (K : Post3) (t : Fr) (m : Mem) : wpM E 46 6 rd c_sheaflaw10_FlowChain_3_0 K t m = wpM E 46 6 rd (.seq (.ops [⟨(some 3), .move (.tmp 0), none⟩,
    ⟨(some 4), .binOp .and 3 (.tmp 3) (.const (.int .i64 1)) 3, none⟩,
    ⟨(some 5), .binOp .eql 3 (.tmp 4) (.const (.int .i64 0)) 3, none⟩,
    ⟨(some 2), .assign (.tmp 5), none⟩]) .ret) K t m := rfl

def c_sheaflaw10_FlowChain_3_1 : MC := (.seq (.ops [⟨(some 2), .assign (.const (.bool false)), none⟩]) c_sheaflaw10_FlowChain_3_0)
@[go_sem] theorem c_sheaflaw10_FlowChain_3_1_at (rd : Option Nat) (K : Post3) (t : Fr) (m : Mem) : wpM E 46 6 rd c_sheaflaw10_FlowChain_3_1 K t m = wpM E 46 6 rd (.seq (.ops [⟨(some 2), .assign (.const (.bool false)), none⟩]) c_sheaflaw10_FlowChain_3_0) K t m := rfl

@[go_sem] theorem some46 : (E.fn 46).isSome = true := by kernel_rfl
set_option maxRecDepth 100000 in
theorem fn_sheaflaw10_FlowChain_3 : FnIs E 46 6 [.tmp 2] c_sheaflaw10_FlowChain_3_1 := ⟨by kernel_rfl, by kernel_rfl⟩

/-! sheaf/sheaflaw10.FlowChain$4 -/
abbrev F_sheaflaw10_FlowChain_4 : FuncId := 47
def c_sheaflaw10_FlowChain_4_0 : MC := (.seq (.ops [⟨(some 3), .move (.tmp 0), none⟩,
    ⟨(some 4), .binOp .and 3 (.tmp 3) (.const (.int .i64 2)) 3, none⟩,
    ⟨(some 5), .binOp .eql 3 (.tmp 4) (.const (.int .i64 0)) 3, none⟩,
    ⟨(some 2), .assign (.tmp 5), none⟩]) .ret)
@[go_sem] theorem c_sheaflaw10_FlowChain_4_0_at (rd : Option Nat) (K : Post3) (t : Fr) (m : Mem) : wpM E 47 6 rd c_sheaflaw10_FlowChain_4_0 K t m = wpM E 47 6 rd (.seq (.ops [⟨(some 3), .move (.tmp 0), none⟩,
    ⟨(some 4), .binOp .and 3 (.tmp 3) (.const (.int .i64 2)) 3, none⟩,
    ⟨(some 5), .binOp .eql 3 (.tmp 4) (.const (.int .i64 0)) 3, none⟩,
    ⟨(some 2), .assign (.tmp 5), none⟩]) .ret) K t m := rfl

def c_sheaflaw10_FlowChain_4_1 : MC := (.seq (.ops [⟨(some 2), .assign (.const (.bool false)), none⟩]) c_sheaflaw10_FlowChain_4_0)
@[go_sem] theorem c_sheaflaw10_FlowChain_4_1_at (rd : Option Nat) (K : Post3) (t : Fr) (m : Mem) : wpM E 47 6 rd c_sheaflaw10_FlowChain_4_1 K t m = wpM E 47 6 rd (.seq (.ops [⟨(some 2), .assign (.const (.bool false)), none⟩]) c_sheaflaw10_FlowChain_4_0) K t m := rfl

@[go_sem] theorem some47 : (E.fn 47).isSome = true := by kernel_rfl
set_option maxRecDepth 100000 in
theorem fn_sheaflaw10_FlowChain_4 : FnIs E 47 6 [.tmp 2] c_sheaflaw10_FlowChain_4_1 := ⟨by kernel_rfl, by kernel_rfl⟩

/-! sheaf/sheaflaw10.FlowChain$5 -/
abbrev F_sheaflaw10_FlowChain_5 : FuncId := 48
def c_sheaflaw10_FlowChain_5_0 : MC := (.seq (.draw [(0, [], ⟨(some 5), .load 56 (.tmp 1), none⟩),
    (1, [], ⟨(some 6), .load 56 (.tmp 2), none⟩),
    (2, [], ⟨(some 7), .move (.tmp 0), none⟩),
    (3, [0], ⟨(some 8), .call ⟨.value (.tmp 6), #[(.tmp 7)], #[3]⟩, none⟩),
    (4, [], ⟨(some 9), .call ⟨.value (.tmp 5), #[(.tmp 8)], #[3]⟩, none⟩),
    (5, [], ⟨(some 4), .assign (.tmp 9), none⟩)]) .ret)
@[go_sem] theorem c_sheaflaw10_FlowChain_5_0_at (rd : Option Nat) (K : Post3) (t : Fr) (m : Mem) : wpM E 48 10 rd c_sheaflaw10_FlowChain_5_0 K t m = wpM E 48 10 rd (.seq (.draw [(0, [], ⟨(some 5), .load 56 (.tmp 1), none⟩),
    (1, [], ⟨(some 6), .load 56 (.tmp 2), none⟩),
    (2, [], ⟨(some 7), .move (.tmp 0), none⟩),
    (3, [0], ⟨(some 8), .call ⟨.value (.tmp 6), #[(.tmp 7)], #[3]⟩, none⟩),
    (4, [], ⟨(some 9), .call ⟨.value (.tmp 5), #[(.tmp 8)], #[3]⟩, none⟩),
    (5, [], ⟨(some 4), .assign (.tmp 9), none⟩)]) .ret) K t m := rfl

def c_sheaflaw10_FlowChain_5_1 : MC := (.seq (.ops [⟨(some 4), .assign (.const (.int .i64 0)), none⟩]) c_sheaflaw10_FlowChain_5_0)
@[go_sem] theorem c_sheaflaw10_FlowChain_5_1_at (rd : Option Nat) (K : Post3) (t : Fr) (m : Mem) : wpM E 48 10 rd c_sheaflaw10_FlowChain_5_1 K t m = wpM E 48 10 rd (.seq (.ops [⟨(some 4), .assign (.const (.int .i64 0)), none⟩]) c_sheaflaw10_FlowChain_5_0) K t m := rfl

@[go_sem] theorem some48 : (E.fn 48).isSome = true := by kernel_rfl
set_option maxRecDepth 100000 in
theorem fn_sheaflaw10_FlowChain_5 : FnIs E 48 10 [.tmp 4] c_sheaflaw10_FlowChain_5_1 := ⟨by kernel_rfl, by kernel_rfl⟩

/-! sheaf/sheaflaw10.FlowChain$6 -/
abbrev F_sheaflaw10_FlowChain_6 : FuncId := 50
def c_sheaflaw10_FlowChain_6_0 : MC := (.seq (.ops [⟨(some 3), .move (.tmp 0), none⟩,
    ⟨(some 4), .call ⟨.builtin .len, #[(.tmp 3)], #[23]⟩, none⟩,
    ⟨(some 2), .assign (.tmp 4), none⟩]) .ret)
@[go_sem] theorem c_sheaflaw10_FlowChain_6_0_at (rd : Option Nat) (K : Post3) (t : Fr) (m : Mem) : wpM E 50 5 rd c_sheaflaw10_FlowChain_6_0 K t m = wpM E 50 5 rd (.seq (.ops [⟨(some 3), .move (.tmp 0), none⟩,
    ⟨(some 4), .call ⟨.builtin .len, #[(.tmp 3)], #[23]⟩, none⟩,
    ⟨(some 2), .assign (.tmp 4), none⟩]) .ret) K t m := rfl

def c_sheaflaw10_FlowChain_6_1 : MC := (.seq (.ops [⟨(some 2), .assign (.const (.int .i64 0)), none⟩]) c_sheaflaw10_FlowChain_6_0)
@[go_sem] theorem c_sheaflaw10_FlowChain_6_1_at (rd : Option Nat) (K : Post3) (t : Fr) (m : Mem) : wpM E 50 5 rd c_sheaflaw10_FlowChain_6_1 K t m = wpM E 50 5 rd (.seq (.ops [⟨(some 2), .assign (.const (.int .i64 0)), none⟩]) c_sheaflaw10_FlowChain_6_0) K t m := rfl

@[go_sem] theorem some50 : (E.fn 50).isSome = true := by kernel_rfl
set_option maxRecDepth 100000 in
theorem fn_sheaflaw10_FlowChain_6 : FnIs E 50 5 [.tmp 2] c_sheaflaw10_FlowChain_6_1 := ⟨by kernel_rfl, by kernel_rfl⟩

/-! sheaf/sheaflaw10.FlowChain$7 -/
abbrev F_sheaflaw10_FlowChain_7 : FuncId := 51
def c_sheaflaw10_FlowChain_7_0 : MC := (.seq (.ops [⟨(some 5), .move (.tmp 0), none⟩,
    ⟨(some 6), .move (.tmp 1), none⟩,
    ⟨(some 7), .binOp .add 3 (.tmp 5) (.tmp 6) 3, none⟩,
    ⟨(some 4), .assign (.tmp 7), none⟩]) .ret)
@[go_sem] theorem c_sheaflaw10_FlowChain_7_0_at (rd : Option Nat) (K : Post3) (t : Fr) (m : Mem) : wpM E 51 8 rd c_sheaflaw10_FlowChain_7_0 K t m = wpM E 51 8 rd (.seq (.ops [⟨(some 5), .move (.tmp 0), none⟩,
    ⟨(some 6), .move (.tmp 1), none⟩,
    ⟨(some 7), .binOp .add 3 (.tmp 5) (.tmp 6) 3, none⟩,
    ⟨(some 4), .assign (.tmp 7), none⟩]) .ret) K t m := rfl

def c_sheaflaw10_FlowChain_7_1 : MC := (.seq (.ops [⟨(some 4), .assign (.const (.int .i64 0)), none⟩]) c_sheaflaw10_FlowChain_7_0)
@[go_sem] theorem c_sheaflaw10_FlowChain_7_1_at (rd : Option Nat) (K : Post3) (t : Fr) (m : Mem) : wpM E 51 8 rd c_sheaflaw10_FlowChain_7_1 K t m = wpM E 51 8 rd (.seq (.ops [⟨(some 4), .assign (.const (.int .i64 0)), none⟩]) c_sheaflaw10_FlowChain_7_0) K t m := rfl

@[go_sem] theorem some51 : (E.fn 51).isSome = true := by kernel_rfl
set_option maxRecDepth 100000 in
theorem fn_sheaflaw10_FlowChain_7 : FnIs E 51 8 [.tmp 4] c_sheaflaw10_FlowChain_7_1 := ⟨by kernel_rfl, by kernel_rfl⟩

/-! sheaf/sheaflaw10.counted$1 -/
abbrev F_sheaflaw10_counted_1 : FuncId := 64
def c_sheaflaw10_counted_1_0 : MC := (.cond (.tmp 9) .skip (.exit 0))
@[go_sem] theorem c_sheaflaw10_counted_1_0_at (rd : Option Nat) (K : Post3) (t : Fr) (m : Mem) : wpM E 64 22 rd c_sheaflaw10_counted_1_0 K t m = wpM E 64 22 rd (.cond (.tmp 9) .skip (.exit 0)) K t m := rfl

def c_sheaflaw10_counted_1_1 : MC := (.cond (.tmp 20) .ret .skip)
@[go_sem] theorem c_sheaflaw10_counted_1_1_at (rd : Option Nat) (K : Post3) (t : Fr) (m : Mem) : wpM E 64 22 rd c_sheaflaw10_counted_1_1 K t m = wpM E 64 22 rd (.cond (.tmp 20) .ret .skip) K t m := rfl

def c_sheaflaw10_counted_1_2 : MC := (.seq (.ops [⟨(some 17), .move (.tmp 0), none⟩,
    ⟨(some 18), .move (.tmp 5), none⟩,
    ⟨(some 19), .call ⟨.value (.tmp 17), #[(.tmp 18)], #[3]⟩, none⟩,
    ⟨(some 20), .unOp .not 4 (.tmp 19), none⟩]) c_sheaflaw10_counted_1_1)
@[go_sem] theorem c_sheaflaw10_counted_1_2_at (rd : Option Nat) (K : Post3) (t : Fr) (m : Mem) : wpM E 64 22 rd c_sheaflaw10_counted_1_2 K t m = wpM E 64 22 rd (.seq (.ops [⟨(some 17), .move (.tmp 0), none⟩,
    ⟨(some 18), .move (.tmp 5), none⟩,
    ⟨(some 19), .call ⟨.value (.tmp 17), #[(.tmp 18)], #[3]⟩, none⟩,
    ⟨(some 20), .unOp .not 4 (.tmp 19), none⟩]) c_sheaflaw10_counted_1_1) K t m := rfl

def c_sheaflaw10_counted_1_3 : MC := (.seq (.ops [⟨(some 12), .load 51 (.tmp 2), none⟩,
    ⟨(some 13), .nilCheck (.tmp 12), none⟩,
    ⟨(some 14), .load 3 (.tmp 13), none⟩,
    ⟨(some 15), .binOp .add 3 (.tmp 14) (.const (.int .i64 1)) 3, none⟩,
    ⟨(some 16), .nilCheck (.tmp 12), none⟩,
    ⟨none, .store 3 (.tmp 16) (.tmp 15), none⟩]) c_sheaflaw10_counted_1_2)
@[go_sem] theorem c_sheaflaw10_counted_1_3_at (rd : Option Nat) (K : Post3) (t : Fr) (m : Mem) : wpM E 64 22 rd c_sheaflaw10_counted_1_3 K t m = wpM E 64 22 rd (.seq (.ops [⟨(some 12), .load 51 (.tmp 2), none⟩,
    ⟨(some 13), .nilCheck (.tmp 12), none⟩,
    ⟨(some 14), .load 3 (.tmp 13), none⟩,
    ⟨(some 15), .binOp .add 3 (.tmp 14) (.const (.int .i64 1)) 3, none⟩,
    ⟨(some 16), .nilCheck (.tmp 12), none⟩,
    ⟨none, .store 3 (.tmp 16) (.tmp 15), none⟩]) c_sheaflaw10_counted_1_2) K t m := rfl

def c_sheaflaw10_counted_1_4 : MC := (.seq (.ops [⟨(some 10), .indexAddr 23 (.tmp 6) (.tmp 8), none⟩,
    ⟨(some 11), .load 3 (.tmp 10), none⟩,
    ⟨(some 5), .assign (.tmp 11), none⟩]) c_sheaflaw10_counted_1_3)
@[go_sem] theorem c_sheaflaw10_counted_1_4_at (rd : Option Nat) (K : Post3) (t : Fr) (m : Mem) : wpM E 64 22 rd c_sheaflaw10_counted_1_4 K t m = wpM E 64 22 rd (.seq (.ops [⟨(some 10), .indexAddr 23 (.tmp 6) (.tmp 8), none⟩,
    ⟨(some 11), .load 3 (.tmp 10), none⟩,
    ⟨(some 5), .assign (.tmp 11), none⟩]) c_sheaflaw10_counted_1_3) K t m := rfl

def c_sheaflaw10_counted_1_5 : MC := (.block 1 c_sheaflaw10_counted_1_4)
@[go_sem] theorem c_sheaflaw10_counted_1_5_at (rd : Option Nat) (K : Post3) (t : Fr) (m : Mem) : wpM E 64 22 rd c_sheaflaw10_counted_1_5 K t m = wpM E 64 22 rd (.block 1 c_sheaflaw10_counted_1_4) K t m := rfl

def c_sheaflaw10_counted_1_6 : MC := (.seq c_sheaflaw10_counted_1_5 (.ops [⟨(some 21), .binOp .add 3 (.tmp 8) (.const (.int .i64 1)) 3, none⟩,
    ⟨(some 8), .move (.tmp 21), none⟩]))
@[go_sem] theorem c_sheaflaw10_counted_1_6_at (rd : Option Nat) (K : Post3) (t : Fr) (m : Mem) : wpM E 64 22 rd c_sheaflaw10_counted_1_6 K t m = wpM E 64 22 rd (.seq c_sheaflaw10_counted_1_5 (.ops [⟨(some 21), .binOp .add 3 (.tmp 8) (.const (.int .i64 1)) 3, none⟩,
    ⟨(some 8), .move (.tmp 21), none⟩])) K t m := rfl

def c_sheaflaw10_counted_1_7 : MC := (.seq c_sheaflaw10_counted_1_0 c_sheaflaw10_counted_1_6)
@[go_sem] theorem c_sheaflaw10_counted_1_7_at (rd : Option Nat) (K : Post3) (t : Fr) (m : Mem) : wpM E 64 22 rd c_sheaflaw10_counted_1_7 K t m = wpM E 64 22 rd (.seq c_sheaflaw10_counted_1_0 c_sheaflaw10_counted_1_6) K t m := rfl

def c_sheaflaw10_counted_1_8 : MC := (.seq (.ops [⟨(some 9), .binOp .lss 3 (.tmp 8) (.tmp 7) 3, none⟩]) c_sheaflaw10_counted_1_7)
@[go_sem] theorem c_sheaflaw10_counted_1_8_at (rd : Option Nat) (K : Post3) (t : Fr) (m : Mem) : wpM E 64 22 rd c_sheaflaw10_counted_1_8 K t m = wpM E 64 22 rd (.seq (.ops [⟨(some 9), .binOp .lss 3 (.tmp 8) (.tmp 7) 3, none⟩]) c_sheaflaw10_counted_1_7) K t m := rfl

def c_sheaflaw10_counted_1_9 : MC := (.loop c_sheaflaw10_counted_1_8)
theorem c_sheaflaw10_counted_1_9_at (rd : Option Nat) (K : Post3) (t : Fr) (m : Mem) : wpM E 64 22 rd c_sheaflaw10_counted_1_9 K t m = wpM E 64 22 rd (.loop c_sheaflaw10_counted_1_8) K t m := rfl

def c_sheaflaw10_counted_1_10 : MC := (.block 0 c_sheaflaw10_counted_1_9)
theorem c_sheaflaw10_counted_1_10_at (rd : Option Nat) (K : Post3) (t : Fr) (m : Mem) : wpM E 64 22 rd c_sheaflaw10_counted_1_10 K t m = wpM E 64 22 rd (.block 0 c_sheaflaw10_counted_1_9) K t m := rfl

def c_sheaflaw10_counted_1_11 : MC := (.seq (.ops [⟨(some 6), .load 23 (.tmp 1), none⟩,
    ⟨(some 7), .call ⟨.builtin .len, #[(.tmp 6)], #[23]⟩, none⟩,
    ⟨(some 8), .move (.const (.int .i64 0)), none⟩]) c_sheaflaw10_counted_1_10)
@[go_sem] theorem c_sheaflaw10_counted_1_11_at (rd : Option Nat) (K : Post3) (t : Fr) (m : Mem) : wpM E 64 22 rd c_sheaflaw10_counted_1_11 K t m = wpM E 64 22 rd (.seq (.ops [⟨(some 6), .load 23 (.tmp 1), none⟩,
    ⟨(some 7), .call ⟨.builtin .len, #[(.tmp 6)], #[23]⟩, none⟩,
    ⟨(some 8), .move (.const (.int .i64 0)), none⟩]) c_sheaflaw10_counted_1_10) K t m := rfl

@[go_sem] theorem some64 : (E.fn 64).isSome = true := by kernel_rfl
set_option maxRecDepth 100000 in
theorem fn_sheaflaw10_counted_1 : FnIs E 64 22 [] c_sheaflaw10_counted_1_11 := ⟨by kernel_rfl, by kernel_rfl⟩

end
end Go.Proofs.Ytgbpgkfmmhlkoaa.W
