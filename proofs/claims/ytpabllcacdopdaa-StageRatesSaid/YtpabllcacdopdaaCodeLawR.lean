/-
  Compact code, printed by a program of mine (wip/dev/AbsPrint.lean).
-/
import Derived.Test.YtpabllcacdopdaaTypes
set_option linter.unusedVariables false
namespace Go.Proofs.Ytpabllcacdopdaa.W
open Go.Abs
noncomputable section

/-! sheaf/sheaflaw17.StageRates -/
abbrev F_sheaflaw17_StageRates : FuncId := 5
def c_sheaflaw17_StageRates_0 : MC := (.cond (.tmp 27) .skip (.exit 0))
@[go_sem] theorem c_sheaflaw17_StageRates_0_at (rd : Option Nat) (K : Post3) (t : Fr) (m : Mem) : wpM E 5 174 rd c_sheaflaw17_StageRates_0 K t m = wpM E 5 174 rd (.cond (.tmp 27) .skip (.exit 0)) K t m := rfl

def c_sheaflaw17_StageRates_1 : MC := (.seq (.ops [⟨(some 20), .move (.tmp 10), none⟩,
    ⟨(some 21), .move (.tmp 2), none⟩,
    ⟨(some 22), .call ⟨.builtin .len, #[(.tmp 21)], #[22]⟩, none⟩,
    ⟨(some 23), .binOp .lss 3 (.tmp 20) (.tmp 22) 3, none⟩,
    ⟨(some 24), .move (.tmp 23), none⟩,
    ⟨(some 25), .move (.tmp 10), (some (some 24, true))⟩,
    ⟨(some 26), .binOp .lss 3 (.tmp 25) (.const (.int .i64 12)) 3, (some (some 24, true))⟩,
    ⟨(some 27), .pick (.tmp 24) (.tmp 26) (.const (.bool false)), none⟩]) c_sheaflaw17_StageRates_0)
@[go_sem] theorem c_sheaflaw17_StageRates_1_at (rd : Option Nat) (K : Post3) (t : Fr) (m : Mem) : wpM E 5 174 rd c_sheaflaw17_StageRates_1 K t m = wpM E 5 174 rd (.seq (.ops [⟨(some 20), .move (.tmp 10), none⟩,
    ⟨(some 21), .move (.tmp 2), none⟩,
    ⟨(some 22), .call ⟨.builtin .len, #[(.tmp 21)], #[22]⟩, none⟩,
    ⟨(some 23), .binOp .lss 3 (.tmp 20) (.tmp 22) 3, none⟩,
    ⟨(some 24), .move (.tmp 23), none⟩,
    ⟨(some 25), .move (.tmp 10), (some (some 24, true))⟩,
    ⟨(some 26), .binOp .lss 3 (.tmp 25) (.const (.int .i64 12)) 3, (some (some 24, true))⟩,
    ⟨(some 27), .pick (.tmp 24) (.tmp 26) (.const (.bool false)), none⟩]) c_sheaflaw17_StageRates_0) K t m := rfl

def c_sheaflaw17_StageRates_2 : MC := (.seq (.ops [⟨(some 30), .move (.tmp 9), none⟩,
    ⟨(some 31), .move (.tmp 2), none⟩,
    ⟨(some 32), .move (.tmp 10), none⟩,
    ⟨(some 33), .indexAddr 22 (.tmp 31) (.tmp 32), none⟩,
    ⟨(some 34), .load 3 (.tmp 33), none⟩,
    ⟨(some 35), .call ⟨.value (.func 15), #[(.tmp 34), (.const (.int .i64 1)), (.const (.int .i64 5))], #[3, 3, 3]⟩, none⟩,
    ⟨(some 36), .binOp .add 3 (.tmp 30) (.tmp 35) 3, none⟩,
    ⟨(some 9), .assign (.tmp 36), none⟩]) (.ops [⟨(some 37), .load 23 (.tmp 7), none⟩,
    ⟨(some 38), .move (.tmp 10), none⟩,
    ⟨(some 39), .binOp .quo 3 (.tmp 38) (.const (.int .i64 6)) 3, none⟩,
    ⟨(some 40), .binOp .add 3 (.const (.int .i64 1)) (.tmp 39) 3, none⟩,
    ⟨(some 41), .move (.tmp 9), none⟩,
    ⟨(some 42), .move (.tmp 10), none⟩,
    ⟨(some 43), .binOp .add 3 (.const (.int .i64 2)) (.tmp 42) 3, none⟩,
    ⟨(some 44), .buildSlice 22 4 #[(0, (.tmp 40)), (1, (.tmp 41)), (2, (.tmp 43)), (3, (.const (.int .i64 1)))], none⟩,
    ⟨(some 45), .buildSlice 23 1 #[(0, (.tmp 44))], none⟩,
    ⟨(some 46), .call ⟨.builtin .append, #[(.tmp 37), (.tmp 45)], #[23, 23]⟩, none⟩,
    ⟨none, .store 23 (.tmp 7) (.tmp 46), none⟩]))
@[go_sem] theorem c_sheaflaw17_StageRates_2_at (rd : Option Nat) (K : Post3) (t : Fr) (m : Mem) : wpM E 5 174 rd c_sheaflaw17_StageRates_2 K t m = wpM E 5 174 rd (.seq (.ops [⟨(some 30), .move (.tmp 9), none⟩,
    ⟨(some 31), .move (.tmp 2), none⟩,
    ⟨(some 32), .move (.tmp 10), none⟩,
    ⟨(some 33), .indexAddr 22 (.tmp 31) (.tmp 32), none⟩,
    ⟨(some 34), .load 3 (.tmp 33), none⟩,
    ⟨(some 35), .call ⟨.value (.func 15), #[(.tmp 34), (.const (.int .i64 1)), (.const (.int .i64 5))], #[3, 3, 3]⟩, none⟩,
    ⟨(some 36), .binOp .add 3 (.tmp 30) (.tmp 35) 3, none⟩,
    ⟨(some 9), .assign (.tmp 36), none⟩]) (.ops [⟨(some 37), .load 23 (.tmp 7), none⟩,
    ⟨(some 38), .move (.tmp 10), none⟩,
    ⟨(some 39), .binOp .quo 3 (.tmp 38) (.const (.int .i64 6)) 3, none⟩,
    ⟨(some 40), .binOp .add 3 (.const (.int .i64 1)) (.tmp 39) 3, none⟩,
    ⟨(some 41), .move (.tmp 9), none⟩,
    ⟨(some 42), .move (.tmp 10), none⟩,
    ⟨(some 43), .binOp .add 3 (.const (.int .i64 2)) (.tmp 42) 3, none⟩,
    ⟨(some 44), .buildSlice 22 4 #[(0, (.tmp 40)), (1, (.tmp 41)), (2, (.tmp 43)), (3, (.const (.int .i64 1)))], none⟩,
    ⟨(some 45), .buildSlice 23 1 #[(0, (.tmp 44))], none⟩,
    ⟨(some 46), .call ⟨.builtin .append, #[(.tmp 37), (.tmp 45)], #[23, 23]⟩, none⟩,
    ⟨none, .store 23 (.tmp 7) (.tmp 46), none⟩])) K t m := rfl

def c_sheaflaw17_StageRates_3 : MC := (.block 1 c_sheaflaw17_StageRates_2)
@[go_sem] theorem c_sheaflaw17_StageRates_3_at (rd : Option Nat) (K : Post3) (t : Fr) (m : Mem) : wpM E 5 174 rd c_sheaflaw17_StageRates_3 K t m = wpM E 5 174 rd (.block 1 c_sheaflaw17_StageRates_2) K t m := rfl

def c_sheaflaw17_StageRates_4 : MC := (.seq c_sheaflaw17_StageRates_3 (.ops [⟨(some 28), .move (.tmp 10), none⟩,
    ⟨(some 29), .binOp .add 3 (.tmp 28) (.const (.int .i64 1)) 3, none⟩,
    ⟨(some 10), .assign (.tmp 29), none⟩]))
@[go_sem] theorem c_sheaflaw17_StageRates_4_at (rd : Option Nat) (K : Post3) (t : Fr) (m : Mem) : wpM E 5 174 rd c_sheaflaw17_StageRates_4 K t m = wpM E 5 174 rd (.seq c_sheaflaw17_StageRates_3 (.ops [⟨(some 28), .move (.tmp 10), none⟩,
    ⟨(some 29), .binOp .add 3 (.tmp 28) (.const (.int .i64 1)) 3, none⟩,
    ⟨(some 10), .assign (.tmp 29), none⟩])) K t m := rfl

def c_sheaflaw17_StageRates_5 : MC := (.seq c_sheaflaw17_StageRates_1 c_sheaflaw17_StageRates_4)
@[go_sem] theorem c_sheaflaw17_StageRates_5_at (rd : Option Nat) (K : Post3) (t : Fr) (m : Mem) : wpM E 5 174 rd c_sheaflaw17_StageRates_5 K t m = wpM E 5 174 rd (.seq c_sheaflaw17_StageRates_1 c_sheaflaw17_StageRates_4) K t m := rfl

def c_sheaflaw17_StageRates_6 : MC := (.loop c_sheaflaw17_StageRates_5)
theorem c_sheaflaw17_StageRates_6_at (rd : Option Nat) (K : Post3) (t : Fr) (m : Mem) : wpM E 5 174 rd c_sheaflaw17_StageRates_6 K t m = wpM E 5 174 rd (.loop c_sheaflaw17_StageRates_5) K t m := rfl

def c_sheaflaw17_StageRates_7 : MC := (.block 0 c_sheaflaw17_StageRates_6)
theorem c_sheaflaw17_StageRates_7_at (rd : Option Nat) (K : Post3) (t : Fr) (m : Mem) : wpM E 5 174 rd c_sheaflaw17_StageRates_7 K t m = wpM E 5 174 rd (.block 0 c_sheaflaw17_StageRates_6) K t m := rfl

def c_sheaflaw17_StageRates_8 : MC := (.seq (.ops [⟨(some 10), .assign (.const (.int .i64 0)), none⟩]) c_sheaflaw17_StageRates_7)
@[go_sem] theorem c_sheaflaw17_StageRates_8_at (rd : Option Nat) (K : Post3) (t : Fr) (m : Mem) : wpM E 5 174 rd c_sheaflaw17_StageRates_8 K t m = wpM E 5 174 rd (.seq (.ops [⟨(some 10), .assign (.const (.int .i64 0)), none⟩]) c_sheaflaw17_StageRates_7) K t m := rfl

def c_sheaflaw17_StageRates_9 : MC := (.cond (.tmp 54) .skip (.exit 2))
@[go_sem] theorem c_sheaflaw17_StageRates_9_at (rd : Option Nat) (K : Post3) (t : Fr) (m : Mem) : wpM E 5 174 rd c_sheaflaw17_StageRates_9 K t m = wpM E 5 174 rd (.cond (.tmp 54) .skip (.exit 2)) K t m := rfl

def c_sheaflaw17_StageRates_10 : MC := (.seq (.ops [⟨(some 47), .move (.tmp 11), none⟩,
    ⟨(some 48), .move (.tmp 0), none⟩,
    ⟨(some 49), .call ⟨.builtin .len, #[(.tmp 48)], #[22]⟩, none⟩,
    ⟨(some 50), .binOp .lss 3 (.tmp 47) (.tmp 49) 3, none⟩,
    ⟨(some 51), .move (.tmp 50), none⟩,
    ⟨(some 52), .move (.tmp 11), (some (some 51, true))⟩,
    ⟨(some 53), .binOp .lss 3 (.tmp 52) (.const (.int .i64 15)) 3, (some (some 51, true))⟩,
    ⟨(some 54), .pick (.tmp 51) (.tmp 53) (.const (.bool false)), none⟩]) c_sheaflaw17_StageRates_9)
@[go_sem] theorem c_sheaflaw17_StageRates_10_at (rd : Option Nat) (K : Post3) (t : Fr) (m : Mem) : wpM E 5 174 rd c_sheaflaw17_StageRates_10 K t m = wpM E 5 174 rd (.seq (.ops [⟨(some 47), .move (.tmp 11), none⟩,
    ⟨(some 48), .move (.tmp 0), none⟩,
    ⟨(some 49), .call ⟨.builtin .len, #[(.tmp 48)], #[22]⟩, none⟩,
    ⟨(some 50), .binOp .lss 3 (.tmp 47) (.tmp 49) 3, none⟩,
    ⟨(some 51), .move (.tmp 50), none⟩,
    ⟨(some 52), .move (.tmp 11), (some (some 51, true))⟩,
    ⟨(some 53), .binOp .lss 3 (.tmp 52) (.const (.int .i64 15)) 3, (some (some 51, true))⟩,
    ⟨(some 54), .pick (.tmp 51) (.tmp 53) (.const (.bool false)), none⟩]) c_sheaflaw17_StageRates_9) K t m := rfl

def c_sheaflaw17_StageRates_11 : MC := (.cond (.tmp 61) (.ops [⟨(some 62), .move (.tmp 1), none⟩,
    ⟨(some 63), .move (.tmp 11), none⟩,
    ⟨(some 64), .indexAddr 22 (.tmp 62) (.tmp 63), none⟩,
    ⟨(some 65), .load 3 (.tmp 64), none⟩,
    ⟨(some 66), .call ⟨.value (.func 15), #[(.tmp 65), (.const (.int .i64 (-1000))), (.const (.int .i64 1000))], #[3, 3, 3]⟩, none⟩,
    ⟨(some 12), .assign (.tmp 66), none⟩]) .skip)
@[go_sem] theorem c_sheaflaw17_StageRates_11_at (rd : Option Nat) (K : Post3) (t : Fr) (m : Mem) : wpM E 5 174 rd c_sheaflaw17_StageRates_11 K t m = wpM E 5 174 rd (.cond (.tmp 61) (.ops [⟨(some 62), .move (.tmp 1), none⟩,
    ⟨(some 63), .move (.tmp 11), none⟩,
    ⟨(some 64), .indexAddr 22 (.tmp 62) (.tmp 63), none⟩,
    ⟨(some 65), .load 3 (.tmp 64), none⟩,
    ⟨(some 66), .call ⟨.value (.func 15), #[(.tmp 65), (.const (.int .i64 (-1000))), (.const (.int .i64 1000))], #[3, 3, 3]⟩, none⟩,
    ⟨(some 12), .assign (.tmp 66), none⟩]) .skip) K t m := rfl

def c_sheaflaw17_StageRates_12 : MC := (.seq (.ops [⟨(some 58), .move (.tmp 11), none⟩,
    ⟨(some 59), .move (.tmp 1), none⟩,
    ⟨(some 60), .call ⟨.builtin .len, #[(.tmp 59)], #[22]⟩, none⟩,
    ⟨(some 61), .binOp .lss 3 (.tmp 58) (.tmp 60) 3, none⟩]) c_sheaflaw17_StageRates_11)
@[go_sem] theorem c_sheaflaw17_StageRates_12_at (rd : Option Nat) (K : Post3) (t : Fr) (m : Mem) : wpM E 5 174 rd c_sheaflaw17_StageRates_12 K t m = wpM E 5 174 rd (.seq (.ops [⟨(some 58), .move (.tmp 11), none⟩,
    ⟨(some 59), .move (.tmp 1), none⟩,
    ⟨(some 60), .call ⟨.builtin .len, #[(.tmp 59)], #[22]⟩, none⟩,
    ⟨(some 61), .binOp .lss 3 (.tmp 58) (.tmp 60) 3, none⟩]) c_sheaflaw17_StageRates_11) K t m := rfl

def c_sheaflaw17_StageRates_13 : MC := (.seq c_sheaflaw17_StageRates_12 (.draw [(0, [], ⟨(some 67), .load 23 (.tmp 8), none⟩),
    (1, [], ⟨(some 68), .move (.tmp 11), none⟩),
    (2, [], ⟨(some 69), .binOp .add 3 (.tmp 68) (.const (.int .i64 1)) 3, none⟩),
    (3, [], ⟨(some 70), .move (.tmp 0), none⟩),
    (4, [], ⟨(some 71), .move (.tmp 11), none⟩),
    (5, [], ⟨(some 72), .indexAddr 22 (.tmp 70) (.tmp 71), none⟩),
    (6, [], ⟨(some 73), .load 3 (.tmp 72), none⟩),
    (7, [0], ⟨(some 74), .call ⟨.value (.func 15), #[(.tmp 73), (.const (.int .i64 0)), (.const (.int .i64 40))], #[3, 3, 3]⟩, none⟩),
    (8, [], ⟨(some 75), .move (.tmp 12), none⟩),
    (9, [], ⟨(some 76), .move (.tmp 11), none⟩),
    (10, [], ⟨(some 77), .binOp .rem 3 (.tmp 76) (.const (.int .i64 3)) 3, none⟩),
    (11, [], ⟨(some 78), .binOp .add 3 (.const (.int .i64 1)) (.tmp 77) 3, none⟩),
    (12, [], ⟨(some 79), .buildSlice 22 9 #[(0, (.tmp 69)), (1, (.const (.int .i64 1))), (2, (.const (.int .i64 1))), (3, (.tmp 74)), (4, (.tmp 75)), (5, (.const (.int .i64 0))), (6, (.tmp 78)), (7, (.const (.int .i64 10000))), (8, (.const (.int .i64 5)))], none⟩),
    (13, [], ⟨(some 80), .buildSlice 23 1 #[(0, (.tmp 79))], none⟩),
    (14, [], ⟨(some 81), .call ⟨.builtin .append, #[(.tmp 67), (.tmp 80)], #[23, 23]⟩, none⟩),
    (15, [], ⟨none, .store 23 (.tmp 8) (.tmp 81), none⟩)]))
@[go_sem] theorem c_sheaflaw17_StageRates_13_at (rd : Option Nat) (K : Post3) (t : Fr) (m : Mem) : wpM E 5 174 rd c_sheaflaw17_StageRates_13 K t m = wpM E 5 174 rd (.seq c_sheaflaw17_StageRates_12 (.draw [(0, [], ⟨(some 67), .load 23 (.tmp 8), none⟩),
    (1, [], ⟨(some 68), .move (.tmp 11), none⟩),
    (2, [], ⟨(some 69), .binOp .add 3 (.tmp 68) (.const (.int .i64 1)) 3, none⟩),
    (3, [], ⟨(some 70), .move (.tmp 0), none⟩),
    (4, [], ⟨(some 71), .move (.tmp 11), none⟩),
    (5, [], ⟨(some 72), .indexAddr 22 (.tmp 70) (.tmp 71), none⟩),
    (6, [], ⟨(some 73), .load 3 (.tmp 72), none⟩),
    (7, [0], ⟨(some 74), .call ⟨.value (.func 15), #[(.tmp 73), (.const (.int .i64 0)), (.const (.int .i64 40))], #[3, 3, 3]⟩, none⟩),
    (8, [], ⟨(some 75), .move (.tmp 12), none⟩),
    (9, [], ⟨(some 76), .move (.tmp 11), none⟩),
    (10, [], ⟨(some 77), .binOp .rem 3 (.tmp 76) (.const (.int .i64 3)) 3, none⟩),
    (11, [], ⟨(some 78), .binOp .add 3 (.const (.int .i64 1)) (.tmp 77) 3, none⟩),
    (12, [], ⟨(some 79), .buildSlice 22 9 #[(0, (.tmp 69)), (1, (.const (.int .i64 1))), (2, (.const (.int .i64 1))), (3, (.tmp 74)), (4, (.tmp 75)), (5, (.const (.int .i64 0))), (6, (.tmp 78)), (7, (.const (.int .i64 10000))), (8, (.const (.int .i64 5)))], none⟩),
    (13, [], ⟨(some 80), .buildSlice 23 1 #[(0, (.tmp 79))], none⟩),
    (14, [], ⟨(some 81), .call ⟨.builtin .append, #[(.tmp 67), (.tmp 80)], #[23, 23]⟩, none⟩),
    (15, [], ⟨none, .store 23 (.tmp 8) (.tmp 81), none⟩)])) K t m := rfl

def c_sheaflaw17_StageRates_14 : MC := (.seq (.ops [⟨(some 57), .move (.tmp 11), none⟩,
    ⟨(some 12), .assign (.tmp 57), none⟩]) c_sheaflaw17_StageRates_13)
@[go_sem] theorem c_sheaflaw17_StageRates_14_at (rd : Option Nat) (K : Post3) (t : Fr) (m : Mem) : wpM E 5 174 rd c_sheaflaw17_StageRates_14 K t m = wpM E 5 174 rd (.seq (.ops [⟨(some 57), .move (.tmp 11), none⟩,
    ⟨(some 12), .assign (.tmp 57), none⟩]) c_sheaflaw17_StageRates_13) K t m := rfl

def c_sheaflaw17_StageRates_15 : MC := (.block 3 c_sheaflaw17_StageRates_14)
@[go_sem] theorem c_sheaflaw17_StageRates_15_at (rd : Option Nat) (K : Post3) (t : Fr) (m : Mem) : wpM E 5 174 rd c_sheaflaw17_StageRates_15 K t m = wpM E 5 174 rd (.block 3 c_sheaflaw17_StageRates_14) K t m := rfl

def c_sheaflaw17_StageRates_16 : MC := (.seq c_sheaflaw17_StageRates_15 (.ops [⟨(some 55), .move (.tmp 11), none⟩,
    ⟨(some 56), .binOp .add 3 (.tmp 55) (.const (.int .i64 1)) 3, none⟩,
    ⟨(some 11), .assign (.tmp 56), none⟩]))
@[go_sem] theorem c_sheaflaw17_StageRates_16_at (rd : Option Nat) (K : Post3) (t : Fr) (m : Mem) : wpM E 5 174 rd c_sheaflaw17_StageRates_16 K t m = wpM E 5 174 rd (.seq c_sheaflaw17_StageRates_15 (.ops [⟨(some 55), .move (.tmp 11), none⟩,
    ⟨(some 56), .binOp .add 3 (.tmp 55) (.const (.int .i64 1)) 3, none⟩,
    ⟨(some 11), .assign (.tmp 56), none⟩])) K t m := rfl

def c_sheaflaw17_StageRates_17 : MC := (.seq c_sheaflaw17_StageRates_10 c_sheaflaw17_StageRates_16)
@[go_sem] theorem c_sheaflaw17_StageRates_17_at (rd : Option Nat) (K : Post3) (t : Fr) (m : Mem) : wpM E 5 174 rd c_sheaflaw17_StageRates_17 K t m = wpM E 5 174 rd (.seq c_sheaflaw17_StageRates_10 c_sheaflaw17_StageRates_16) K t m := rfl

def c_sheaflaw17_StageRates_18 : MC := (.loop c_sheaflaw17_StageRates_17)
theorem c_sheaflaw17_StageRates_18_at (rd : Option Nat) (K : Post3) (t : Fr) (m : Mem) : wpM E 5 174 rd c_sheaflaw17_StageRates_18 K t m = wpM E 5 174 rd (.loop c_sheaflaw17_StageRates_17) K t m := rfl

def c_sheaflaw17_StageRates_19 : MC := (.block 2 c_sheaflaw17_StageRates_18)
theorem c_sheaflaw17_StageRates_19_at (rd : Option Nat) (K : Post3) (t : Fr) (m : Mem) : wpM E 5 174 rd c_sheaflaw17_StageRates_19 K t m = wpM E 5 174 rd (.block 2 c_sheaflaw17_StageRates_18) K t m := rfl

def c_sheaflaw17_StageRates_20 : MC := (.seq (.ops [⟨(some 11), .assign (.const (.int .i64 0)), none⟩]) c_sheaflaw17_StageRates_19)
@[go_sem] theorem c_sheaflaw17_StageRates_20_at (rd : Option Nat) (K : Post3) (t : Fr) (m : Mem) : wpM E 5 174 rd c_sheaflaw17_StageRates_20 K t m = wpM E 5 174 rd (.seq (.ops [⟨(some 11), .assign (.const (.int .i64 0)), none⟩]) c_sheaflaw17_StageRates_19) K t m := rfl

def c_sheaflaw17_StageRates_21 : MC := (.seq (.ops [⟨none, .store 4 (.tmp 6) (.const (.bool false)), none⟩]) .ret)
@[go_sem] theorem c_sheaflaw17_StageRates_21_at (rd : Option Nat) (K : Post3) (t : Fr) (m : Mem) : wpM E 5 174 rd c_sheaflaw17_StageRates_21 K t m = wpM E 5 174 rd (.seq (.ops [⟨none, .store 4 (.tmp 6) (.const (.bool false)), none⟩]) .ret) K t m := rfl

def c_sheaflaw17_StageRates_22 : MC := (.cond (.tmp 91) c_sheaflaw17_StageRates_21 .skip)
@[go_sem] theorem c_sheaflaw17_StageRates_22_at (rd : Option Nat) (K : Post3) (t : Fr) (m : Mem) : wpM E 5 174 rd c_sheaflaw17_StageRates_22 K t m = wpM E 5 174 rd (.cond (.tmp 91) c_sheaflaw17_StageRates_21 .skip) K t m := rfl

def c_sheaflaw17_StageRates_23 : MC := (.seq (.ops [⟨(some 90), .move (.tmp 14), none⟩,
    ⟨(some 91), .binOp .eql 27 (.tmp 90) (.const .nilFunc) 27, none⟩]) c_sheaflaw17_StageRates_22)
@[go_sem] theorem c_sheaflaw17_StageRates_23_at (rd : Option Nat) (K : Post3) (t : Fr) (m : Mem) : wpM E 5 174 rd c_sheaflaw17_StageRates_23 K t m = wpM E 5 174 rd (.seq (.ops [⟨(some 90), .move (.tmp 14), none⟩,
    ⟨(some 91), .binOp .eql 27 (.tmp 90) (.const .nilFunc) 27, none⟩]) c_sheaflaw17_StageRates_22) K t m := rfl

def c_sheaflaw17_StageRates_24 : MC := (.seq (.ops [⟨(some 15), .assign (.tmp 93), none⟩]) (.ops [⟨(some 16), .assign (.tmp 94), none⟩]))
@[go_sem] theorem c_sheaflaw17_StageRates_24_at (rd : Option Nat) (K : Post3) (t : Fr) (m : Mem) : wpM E 5 174 rd c_sheaflaw17_StageRates_24 K t m = wpM E 5 174 rd (.seq (.ops [⟨(some 15), .assign (.tmp 93), none⟩]) (.ops [⟨(some 16), .assign (.tmp 94), none⟩])) K t m := rfl

def c_sheaflaw17_StageRates_25 : MC := (.seq (.ops [⟨none, .store 4 (.tmp 6) (.const (.bool false)), none⟩]) .ret)
@[go_sem] theorem c_sheaflaw17_StageRates_25_at (rd : Option Nat) (K : Post3) (t : Fr) (m : Mem) : wpM E 5 174 rd c_sheaflaw17_StageRates_25 K t m = wpM E 5 174 rd (.seq (.ops [⟨none, .store 4 (.tmp 6) (.const (.bool false)), none⟩]) .ret) K t m := rfl

def c_sheaflaw17_StageRates_26 : MC := (.cond (.tmp 113) c_sheaflaw17_StageRates_25 .skip)
@[go_sem] theorem c_sheaflaw17_StageRates_26_at (rd : Option Nat) (K : Post3) (t : Fr) (m : Mem) : wpM E 5 174 rd c_sheaflaw17_StageRates_26 K t m = wpM E 5 174 rd (.cond (.tmp 113) c_sheaflaw17_StageRates_25 .skip) K t m := rfl

def c_sheaflaw17_StageRates_27 : MC := (.seq (.ops [⟨(some 95), .load 3 (.tmp 13), none⟩,
    ⟨(some 96), .load 23 (.tmp 8), none⟩,
    ⟨(some 97), .call ⟨.builtin .len, #[(.tmp 96)], #[23]⟩, none⟩,
    ⟨(some 98), .binOp .geq 3 (.tmp 95) (.tmp 97) 3, none⟩,
    ⟨(some 99), .move (.tmp 98), none⟩,
    ⟨(some 100), .move (.tmp 15), (some (some 99, false))⟩,
    ⟨(some 101), .call ⟨.builtin .len, #[(.tmp 100)], #[22]⟩, (some (some 99, false))⟩,
    ⟨(some 102), .binOp .lss 3 (.tmp 101) (.const (.int .i64 9)) 3, (some (some 99, false))⟩,
    ⟨(some 103), .pick (.tmp 99) (.const (.bool true)) (.tmp 102), none⟩,
    ⟨(some 104), .move (.tmp 103), none⟩,
    ⟨(some 105), .move (.tmp 15), (some (some 104, false))⟩,
    ⟨(some 106), .slice 22 (.tmp 105) none (some (.const (.int .i64 9))) none, (some (some 104, false))⟩,
    ⟨(some 107), .load 23 (.tmp 8), (some (some 104, false))⟩,
    ⟨(some 108), .load 3 (.tmp 13), (some (some 104, false))⟩,
    ⟨(some 109), .indexAddr 23 (.tmp 107) (.tmp 108), (some (some 104, false))⟩,
    ⟨(some 110), .load 22 (.tmp 109), (some (some 104, false))⟩,
    ⟨(some 111), .call ⟨.value (.func 17), #[(.tmp 106), (.tmp 110)], #[22, 22]⟩, (some (some 104, false))⟩,
    ⟨(some 112), .unOp .not 4 (.tmp 111), (some (some 104, false))⟩,
    ⟨(some 113), .pick (.tmp 104) (.const (.bool true)) (.tmp 112), none⟩]) c_sheaflaw17_StageRates_26)
@[go_sem] theorem c_sheaflaw17_StageRates_27_at (rd : Option Nat) (K : Post3) (t : Fr) (m : Mem) : wpM E 5 174 rd c_sheaflaw17_StageRates_27 K t m = wpM E 5 174 rd (.seq (.ops [⟨(some 95), .load 3 (.tmp 13), none⟩,
    ⟨(some 96), .load 23 (.tmp 8), none⟩,
    ⟨(some 97), .call ⟨.builtin .len, #[(.tmp 96)], #[23]⟩, none⟩,
    ⟨(some 98), .binOp .geq 3 (.tmp 95) (.tmp 97) 3, none⟩,
    ⟨(some 99), .move (.tmp 98), none⟩,
    ⟨(some 100), .move (.tmp 15), (some (some 99, false))⟩,
    ⟨(some 101), .call ⟨.builtin .len, #[(.tmp 100)], #[22]⟩, (some (some 99, false))⟩,
    ⟨(some 102), .binOp .lss 3 (.tmp 101) (.const (.int .i64 9)) 3, (some (some 99, false))⟩,
    ⟨(some 103), .pick (.tmp 99) (.const (.bool true)) (.tmp 102), none⟩,
    ⟨(some 104), .move (.tmp 103), none⟩,
    ⟨(some 105), .move (.tmp 15), (some (some 104, false))⟩,
    ⟨(some 106), .slice 22 (.tmp 105) none (some (.const (.int .i64 9))) none, (some (some 104, false))⟩,
    ⟨(some 107), .load 23 (.tmp 8), (some (some 104, false))⟩,
    ⟨(some 108), .load 3 (.tmp 13), (some (some 104, false))⟩,
    ⟨(some 109), .indexAddr 23 (.tmp 107) (.tmp 108), (some (some 104, false))⟩,
    ⟨(some 110), .load 22 (.tmp 109), (some (some 104, false))⟩,
    ⟨(some 111), .call ⟨.value (.func 17), #[(.tmp 106), (.tmp 110)], #[22, 22]⟩, (some (some 104, false))⟩,
    ⟨(some 112), .unOp .not 4 (.tmp 111), (some (some 104, false))⟩,
    ⟨(some 113), .pick (.tmp 104) (.const (.bool true)) (.tmp 112), none⟩]) c_sheaflaw17_StageRates_26) K t m := rfl

def c_sheaflaw17_StageRates_28 : MC := (.cond (.tmp 117) .skip (.exit 6))
@[go_sem] theorem c_sheaflaw17_StageRates_28_at (rd : Option Nat) (K : Post3) (t : Fr) (m : Mem) : wpM E 5 174 rd c_sheaflaw17_StageRates_28 K t m = wpM E 5 174 rd (.cond (.tmp 117) .skip (.exit 6)) K t m := rfl

def c_sheaflaw17_StageRates_29 : MC := (.cond (.tmp 135) (.ops [⟨(some 136), .move (.tmp 19), none⟩,
    ⟨(some 137), .indexAddr 22 (.tmp 136) (.const (.int .i64 2)), none⟩,
    ⟨(some 138), .load 3 (.tmp 137), none⟩,
    ⟨(some 17), .assign (.tmp 138), none⟩]) .skip)
@[go_sem] theorem c_sheaflaw17_StageRates_29_at (rd : Option Nat) (K : Post3) (t : Fr) (m : Mem) : wpM E 5 174 rd c_sheaflaw17_StageRates_29 K t m = wpM E 5 174 rd (.cond (.tmp 135) (.ops [⟨(some 136), .move (.tmp 19), none⟩,
    ⟨(some 137), .indexAddr 22 (.tmp 136) (.const (.int .i64 2)), none⟩,
    ⟨(some 138), .load 3 (.tmp 137), none⟩,
    ⟨(some 17), .assign (.tmp 138), none⟩]) .skip) K t m := rfl

def c_sheaflaw17_StageRates_30 : MC := (.seq (.ops [⟨(some 120), .move (.tmp 19), none⟩,
    ⟨(some 121), .indexAddr 22 (.tmp 120) (.const (.int .i64 0)), none⟩,
    ⟨(some 122), .load 3 (.tmp 121), none⟩,
    ⟨(some 123), .move (.tmp 15), none⟩,
    ⟨(some 124), .indexAddr 22 (.tmp 123) (.const (.int .i64 6)), none⟩,
    ⟨(some 125), .load 3 (.tmp 124), none⟩,
    ⟨(some 126), .binOp .eql 3 (.tmp 122) (.tmp 125) 3, none⟩,
    ⟨(some 127), .move (.tmp 126), none⟩,
    ⟨(some 128), .move (.tmp 19), (some (some 127, true))⟩,
    ⟨(some 129), .indexAddr 22 (.tmp 128) (.const (.int .i64 1)), (some (some 127, true))⟩,
    ⟨(some 130), .load 3 (.tmp 129), (some (some 127, true))⟩,
    ⟨(some 131), .move (.tmp 15), (some (some 127, true))⟩,
    ⟨(some 132), .indexAddr 22 (.tmp 131) (.const (.int .i64 3)), (some (some 127, true))⟩,
    ⟨(some 133), .load 3 (.tmp 132), (some (some 127, true))⟩,
    ⟨(some 134), .binOp .leq 3 (.tmp 130) (.tmp 133) 3, (some (some 127, true))⟩,
    ⟨(some 135), .pick (.tmp 127) (.tmp 134) (.const (.bool false)), none⟩]) c_sheaflaw17_StageRates_29)
@[go_sem] theorem c_sheaflaw17_StageRates_30_at (rd : Option Nat) (K : Post3) (t : Fr) (m : Mem) : wpM E 5 174 rd c_sheaflaw17_StageRates_30 K t m = wpM E 5 174 rd (.seq (.ops [⟨(some 120), .move (.tmp 19), none⟩,
    ⟨(some 121), .indexAddr 22 (.tmp 120) (.const (.int .i64 0)), none⟩,
    ⟨(some 122), .load 3 (.tmp 121), none⟩,
    ⟨(some 123), .move (.tmp 15), none⟩,
    ⟨(some 124), .indexAddr 22 (.tmp 123) (.const (.int .i64 6)), none⟩,
    ⟨(some 125), .load 3 (.tmp 124), none⟩,
    ⟨(some 126), .binOp .eql 3 (.tmp 122) (.tmp 125) 3, none⟩,
    ⟨(some 127), .move (.tmp 126), none⟩,
    ⟨(some 128), .move (.tmp 19), (some (some 127, true))⟩,
    ⟨(some 129), .indexAddr 22 (.tmp 128) (.const (.int .i64 1)), (some (some 127, true))⟩,
    ⟨(some 130), .load 3 (.tmp 129), (some (some 127, true))⟩,
    ⟨(some 131), .move (.tmp 15), (some (some 127, true))⟩,
    ⟨(some 132), .indexAddr 22 (.tmp 131) (.const (.int .i64 3)), (some (some 127, true))⟩,
    ⟨(some 133), .load 3 (.tmp 132), (some (some 127, true))⟩,
    ⟨(some 134), .binOp .leq 3 (.tmp 130) (.tmp 133) 3, (some (some 127, true))⟩,
    ⟨(some 135), .pick (.tmp 127) (.tmp 134) (.const (.bool false)), none⟩]) c_sheaflaw17_StageRates_29) K t m := rfl

def c_sheaflaw17_StageRates_31 : MC := (.seq (.ops [⟨(some 118), .indexAddr 23 (.tmp 114) (.tmp 116), none⟩,
    ⟨(some 119), .load 22 (.tmp 118), none⟩,
    ⟨(some 19), .assign (.tmp 119), none⟩]) c_sheaflaw17_StageRates_30)
@[go_sem] theorem c_sheaflaw17_StageRates_31_at (rd : Option Nat) (K : Post3) (t : Fr) (m : Mem) : wpM E 5 174 rd c_sheaflaw17_StageRates_31 K t m = wpM E 5 174 rd (.seq (.ops [⟨(some 118), .indexAddr 23 (.tmp 114) (.tmp 116), none⟩,
    ⟨(some 119), .load 22 (.tmp 118), none⟩,
    ⟨(some 19), .assign (.tmp 119), none⟩]) c_sheaflaw17_StageRates_30) K t m := rfl

def c_sheaflaw17_StageRates_32 : MC := (.block 7 c_sheaflaw17_StageRates_31)
@[go_sem] theorem c_sheaflaw17_StageRates_32_at (rd : Option Nat) (K : Post3) (t : Fr) (m : Mem) : wpM E 5 174 rd c_sheaflaw17_StageRates_32 K t m = wpM E 5 174 rd (.block 7 c_sheaflaw17_StageRates_31) K t m := rfl

def c_sheaflaw17_StageRates_33 : MC := (.seq c_sheaflaw17_StageRates_32 (.ops [⟨(some 139), .binOp .add 3 (.tmp 116) (.const (.int .i64 1)) 3, none⟩,
    ⟨(some 116), .move (.tmp 139), none⟩]))
@[go_sem] theorem c_sheaflaw17_StageRates_33_at (rd : Option Nat) (K : Post3) (t : Fr) (m : Mem) : wpM E 5 174 rd c_sheaflaw17_StageRates_33 K t m = wpM E 5 174 rd (.seq c_sheaflaw17_StageRates_32 (.ops [⟨(some 139), .binOp .add 3 (.tmp 116) (.const (.int .i64 1)) 3, none⟩,
    ⟨(some 116), .move (.tmp 139), none⟩])) K t m := rfl

def c_sheaflaw17_StageRates_34 : MC := (.seq c_sheaflaw17_StageRates_28 c_sheaflaw17_StageRates_33)
@[go_sem] theorem c_sheaflaw17_StageRates_34_at (rd : Option Nat) (K : Post3) (t : Fr) (m : Mem) : wpM E 5 174 rd c_sheaflaw17_StageRates_34 K t m = wpM E 5 174 rd (.seq c_sheaflaw17_StageRates_28 c_sheaflaw17_StageRates_33) K t m := rfl

def c_sheaflaw17_StageRates_35 : MC := (.seq (.ops [⟨(some 117), .binOp .lss 3 (.tmp 116) (.tmp 115) 3, none⟩]) c_sheaflaw17_StageRates_34)
@[go_sem] theorem c_sheaflaw17_StageRates_35_at (rd : Option Nat) (K : Post3) (t : Fr) (m : Mem) : wpM E 5 174 rd c_sheaflaw17_StageRates_35 K t m = wpM E 5 174 rd (.seq (.ops [⟨(some 117), .binOp .lss 3 (.tmp 116) (.tmp 115) 3, none⟩]) c_sheaflaw17_StageRates_34) K t m := rfl

def c_sheaflaw17_StageRates_36 : MC := (.loop c_sheaflaw17_StageRates_35)
theorem c_sheaflaw17_StageRates_36_at (rd : Option Nat) (K : Post3) (t : Fr) (m : Mem) : wpM E 5 174 rd c_sheaflaw17_StageRates_36 K t m = wpM E 5 174 rd (.loop c_sheaflaw17_StageRates_35) K t m := rfl

def c_sheaflaw17_StageRates_37 : MC := (.block 6 c_sheaflaw17_StageRates_36)
theorem c_sheaflaw17_StageRates_37_at (rd : Option Nat) (K : Post3) (t : Fr) (m : Mem) : wpM E 5 174 rd c_sheaflaw17_StageRates_37 K t m = wpM E 5 174 rd (.block 6 c_sheaflaw17_StageRates_36) K t m := rfl

def c_sheaflaw17_StageRates_38 : MC := (.seq (.ops [⟨(some 114), .load 23 (.tmp 7), none⟩,
    ⟨(some 115), .call ⟨.builtin .len, #[(.tmp 114)], #[23]⟩, none⟩,
    ⟨(some 116), .move (.const (.int .i64 0)), none⟩]) c_sheaflaw17_StageRates_37)
@[go_sem] theorem c_sheaflaw17_StageRates_38_at (rd : Option Nat) (K : Post3) (t : Fr) (m : Mem) : wpM E 5 174 rd c_sheaflaw17_StageRates_38 K t m = wpM E 5 174 rd (.seq (.ops [⟨(some 114), .load 23 (.tmp 7), none⟩,
    ⟨(some 115), .call ⟨.builtin .len, #[(.tmp 114)], #[23]⟩, none⟩,
    ⟨(some 116), .move (.const (.int .i64 0)), none⟩]) c_sheaflaw17_StageRates_37) K t m := rfl

def c_sheaflaw17_StageRates_39 : MC := (.seq (.ops [⟨none, .store 4 (.tmp 6) (.const (.bool false)), none⟩]) .ret)
@[go_sem] theorem c_sheaflaw17_StageRates_39_at (rd : Option Nat) (K : Post3) (t : Fr) (m : Mem) : wpM E 5 174 rd c_sheaflaw17_StageRates_39 K t m = wpM E 5 174 rd (.seq (.ops [⟨none, .store 4 (.tmp 6) (.const (.bool false)), none⟩]) .ret) K t m := rfl

def c_sheaflaw17_StageRates_40 : MC := (.cond (.tmp 164) c_sheaflaw17_StageRates_39 .skip)
@[go_sem] theorem c_sheaflaw17_StageRates_40_at (rd : Option Nat) (K : Post3) (t : Fr) (m : Mem) : wpM E 5 174 rd c_sheaflaw17_StageRates_40 K t m = wpM E 5 174 rd (.cond (.tmp 164) c_sheaflaw17_StageRates_39 .skip) K t m := rfl

def c_sheaflaw17_StageRates_41 : MC := (.seq (.ops [⟨(some 140), .move (.tmp 16), none⟩,
    ⟨(some 141), .binOp .eql 3 (.tmp 140) (.const (.int .i64 7)) 3, none⟩,
    ⟨(some 142), .move (.tmp 17), none⟩,
    ⟨(some 143), .binOp .eql 3 (.tmp 142) (.const (.int .i64 0)) 3, none⟩,
    ⟨(some 144), .binOp .neq 4 (.tmp 141) (.tmp 143) 4, none⟩,
    ⟨(some 145), .move (.tmp 144), none⟩,
    ⟨(some 146), .move (.tmp 17), (some (some 145, false))⟩,
    ⟨(some 147), .binOp .gtr 3 (.tmp 146) (.const (.int .i64 0)) 3, (some (some 145, false))⟩,
    ⟨(some 148), .move (.tmp 147), (some (some 145, false))⟩,
    ⟨(some 149), .move (.tmp 15), (some (some 148, true))⟩,
    ⟨(some 150), .call ⟨.builtin .len, #[(.tmp 149)], #[22]⟩, (some (some 148, true))⟩,
    ⟨(some 151), .binOp .neq 3 (.tmp 150) (.const (.int .i64 10)) 3, (some (some 148, true))⟩,
    ⟨(some 152), .move (.tmp 151), (some (some 148, true))⟩,
    ⟨(some 153), .move (.tmp 15), (some (some 152, false))⟩,
    ⟨(some 154), .indexAddr 22 (.tmp 153) (.const (.int .i64 9)), (some (some 152, false))⟩,
    ⟨(some 155), .load 3 (.tmp 154), (some (some 152, false))⟩,
    ⟨(some 156), .move (.tmp 17), (some (some 152, false))⟩,
    ⟨(some 157), .move (.tmp 15), (some (some 152, false))⟩,
    ⟨(some 158), .indexAddr 22 (.tmp 157) (.const (.int .i64 4)), (some (some 152, false))⟩,
    ⟨(some 159), .load 3 (.tmp 158), (some (some 152, false))⟩,
    ⟨(some 160), .binOp .mul 3 (.tmp 156) (.tmp 159) 3, (some (some 152, false))⟩,
    ⟨(some 161), .binOp .neq 3 (.tmp 155) (.tmp 160) 3, (some (some 152, false))⟩,
    ⟨(some 162), .pick (.tmp 152) (.const (.bool true)) (.tmp 161), (some (some 148, true))⟩,
    ⟨(some 163), .pick (.tmp 148) (.tmp 162) (.const (.bool false)), (some (some 145, false))⟩,
    ⟨(some 164), .pick (.tmp 145) (.const (.bool true)) (.tmp 163), none⟩]) c_sheaflaw17_StageRates_40)
@[go_sem] theorem c_sheaflaw17_StageRates_41_at (rd : Option Nat) (K : Post3) (t : Fr) (m : Mem) : wpM E 5 174 rd c_sheaflaw17_StageRates_41 K t m = wpM E 5 174 rd (.seq (.ops [⟨(some 140), .move (.tmp 16), none⟩,
    ⟨(some 141), .binOp .eql 3 (.tmp 140) (.const (.int .i64 7)) 3, none⟩,
    ⟨(some 142), .move (.tmp 17), none⟩,
    ⟨(some 143), .binOp .eql 3 (.tmp 142) (.const (.int .i64 0)) 3, none⟩,
    ⟨(some 144), .binOp .neq 4 (.tmp 141) (.tmp 143) 4, none⟩,
    ⟨(some 145), .move (.tmp 144), none⟩,
    ⟨(some 146), .move (.tmp 17), (some (some 145, false))⟩,
    ⟨(some 147), .binOp .gtr 3 (.tmp 146) (.const (.int .i64 0)) 3, (some (some 145, false))⟩,
    ⟨(some 148), .move (.tmp 147), (some (some 145, false))⟩,
    ⟨(some 149), .move (.tmp 15), (some (some 148, true))⟩,
    ⟨(some 150), .call ⟨.builtin .len, #[(.tmp 149)], #[22]⟩, (some (some 148, true))⟩,
    ⟨(some 151), .binOp .neq 3 (.tmp 150) (.const (.int .i64 10)) 3, (some (some 148, true))⟩,
    ⟨(some 152), .move (.tmp 151), (some (some 148, true))⟩,
    ⟨(some 153), .move (.tmp 15), (some (some 152, false))⟩,
    ⟨(some 154), .indexAddr 22 (.tmp 153) (.const (.int .i64 9)), (some (some 152, false))⟩,
    ⟨(some 155), .load 3 (.tmp 154), (some (some 152, false))⟩,
    ⟨(some 156), .move (.tmp 17), (some (some 152, false))⟩,
    ⟨(some 157), .move (.tmp 15), (some (some 152, false))⟩,
    ⟨(some 158), .indexAddr 22 (.tmp 157) (.const (.int .i64 4)), (some (some 152, false))⟩,
    ⟨(some 159), .load 3 (.tmp 158), (some (some 152, false))⟩,
    ⟨(some 160), .binOp .mul 3 (.tmp 156) (.tmp 159) 3, (some (some 152, false))⟩,
    ⟨(some 161), .binOp .neq 3 (.tmp 155) (.tmp 160) 3, (some (some 152, false))⟩,
    ⟨(some 162), .pick (.tmp 152) (.const (.bool true)) (.tmp 161), (some (some 148, true))⟩,
    ⟨(some 163), .pick (.tmp 148) (.tmp 162) (.const (.bool false)), (some (some 145, false))⟩,
    ⟨(some 164), .pick (.tmp 145) (.const (.bool true)) (.tmp 163), none⟩]) c_sheaflaw17_StageRates_40) K t m := rfl

def c_sheaflaw17_StageRates_42 : MC := (.seq c_sheaflaw17_StageRates_41 (.ops [⟨(some 165), .load 3 (.tmp 13), none⟩,
    ⟨(some 166), .binOp .add 3 (.tmp 165) (.const (.int .i64 1)) 3, none⟩,
    ⟨none, .store 3 (.tmp 13) (.tmp 166), none⟩]))
@[go_sem] theorem c_sheaflaw17_StageRates_42_at (rd : Option Nat) (K : Post3) (t : Fr) (m : Mem) : wpM E 5 174 rd c_sheaflaw17_StageRates_42 K t m = wpM E 5 174 rd (.seq c_sheaflaw17_StageRates_41 (.ops [⟨(some 165), .load 3 (.tmp 13), none⟩,
    ⟨(some 166), .binOp .add 3 (.tmp 165) (.const (.int .i64 1)) 3, none⟩,
    ⟨none, .store 3 (.tmp 13) (.tmp 166), none⟩])) K t m := rfl

def c_sheaflaw17_StageRates_43 : MC := (.seq c_sheaflaw17_StageRates_38 c_sheaflaw17_StageRates_42)
@[go_sem] theorem c_sheaflaw17_StageRates_43_at (rd : Option Nat) (K : Post3) (t : Fr) (m : Mem) : wpM E 5 174 rd c_sheaflaw17_StageRates_43 K t m = wpM E 5 174 rd (.seq c_sheaflaw17_StageRates_38 c_sheaflaw17_StageRates_42) K t m := rfl

def c_sheaflaw17_StageRates_44 : MC := (.seq (.ops [⟨(some 17), .assign (.const (.int .i64 0)), none⟩]) c_sheaflaw17_StageRates_43)
@[go_sem] theorem c_sheaflaw17_StageRates_44_at (rd : Option Nat) (K : Post3) (t : Fr) (m : Mem) : wpM E 5 174 rd c_sheaflaw17_StageRates_44 K t m = wpM E 5 174 rd (.seq (.ops [⟨(some 17), .assign (.const (.int .i64 0)), none⟩]) c_sheaflaw17_StageRates_43) K t m := rfl

def c_sheaflaw17_StageRates_45 : MC := (.seq c_sheaflaw17_StageRates_27 c_sheaflaw17_StageRates_44)
@[go_sem] theorem c_sheaflaw17_StageRates_45_at (rd : Option Nat) (K : Post3) (t : Fr) (m : Mem) : wpM E 5 174 rd c_sheaflaw17_StageRates_45 K t m = wpM E 5 174 rd (.seq c_sheaflaw17_StageRates_27 c_sheaflaw17_StageRates_44) K t m := rfl

def c_sheaflaw17_StageRates_46 : MC := (.block 5 c_sheaflaw17_StageRates_45)
@[go_sem] theorem c_sheaflaw17_StageRates_46_at (rd : Option Nat) (K : Post3) (t : Fr) (m : Mem) : wpM E 5 174 rd c_sheaflaw17_StageRates_46 K t m = wpM E 5 174 rd (.block 5 c_sheaflaw17_StageRates_45) K t m := rfl

theorem asg_sheaflaw17_StageRates_0 : compile E 5 174 (asgAt E 5 0) = some c_sheaflaw17_StageRates_24 := by kernel_rfl

theorem body_sheaflaw17_StageRates_0 : compile E 5 174 (bodyAt E 5 0) = some c_sheaflaw17_StageRates_46 := by kernel_rfl

def c_sheaflaw17_StageRates_47 : MC := (.range (.tmp 92) #[93, 94] (asgAt E 5 0) (bodyAt E 5 0))
theorem c_sheaflaw17_StageRates_47_at (rd : Option Nat) (K : Post3) (t : Fr) (m : Mem) : wpM E 5 174 rd c_sheaflaw17_StageRates_47 K t m = wpM E 5 174 rd (.range (.tmp 92) #[93, 94] (asgAt E 5 0) (bodyAt E 5 0)) K t m := rfl

def c_sheaflaw17_StageRates_48 : MC := (.block 4 c_sheaflaw17_StageRates_47)
@[go_sem] theorem c_sheaflaw17_StageRates_48_at (rd : Option Nat) (K : Post3) (t : Fr) (m : Mem) : wpM E 5 174 rd c_sheaflaw17_StageRates_48 K t m = wpM E 5 174 rd (.block 4 c_sheaflaw17_StageRates_47) K t m := rfl

def c_sheaflaw17_StageRates_49 : MC := (.seq (.ops [⟨(some 92), .move (.tmp 14), none⟩]) c_sheaflaw17_StageRates_48)
@[go_sem] theorem c_sheaflaw17_StageRates_49_at (rd : Option Nat) (K : Post3) (t : Fr) (m : Mem) : wpM E 5 174 rd c_sheaflaw17_StageRates_49 K t m = wpM E 5 174 rd (.seq (.ops [⟨(some 92), .move (.tmp 14), none⟩]) c_sheaflaw17_StageRates_48) K t m := rfl

def c_sheaflaw17_StageRates_50 : MC := (.seq (.ops [⟨(some 167), .load 3 (.tmp 13), none⟩,
    ⟨(some 168), .load 23 (.tmp 8), none⟩,
    ⟨(some 169), .call ⟨.builtin .len, #[(.tmp 168)], #[23]⟩, none⟩,
    ⟨(some 170), .binOp .eql 3 (.tmp 167) (.tmp 169) 3, none⟩,
    ⟨(some 171), .move (.tmp 170), none⟩,
    ⟨(some 172), .call ⟨.value (.func 3), #[], #[]⟩, (some (some 171, true))⟩,
    ⟨(some 173), .pick (.tmp 171) (.tmp 172) (.const (.bool false)), none⟩,
    ⟨none, .store 4 (.tmp 6) (.tmp 173), none⟩]) .ret)
@[go_sem] theorem c_sheaflaw17_StageRates_50_at (rd : Option Nat) (K : Post3) (t : Fr) (m : Mem) : wpM E 5 174 rd c_sheaflaw17_StageRates_50 K t m = wpM E 5 174 rd (.seq (.ops [⟨(some 167), .load 3 (.tmp 13), none⟩,
    ⟨(some 168), .load 23 (.tmp 8), none⟩,
    ⟨(some 169), .call ⟨.builtin .len, #[(.tmp 168)], #[23]⟩, none⟩,
    ⟨(some 170), .binOp .eql 3 (.tmp 167) (.tmp 169) 3, none⟩,
    ⟨(some 171), .move (.tmp 170), none⟩,
    ⟨(some 172), .call ⟨.value (.func 3), #[], #[]⟩, (some (some 171, true))⟩,
    ⟨(some 173), .pick (.tmp 171) (.tmp 172) (.const (.bool false)), none⟩,
    ⟨none, .store 4 (.tmp 6) (.tmp 173), none⟩]) .ret) K t m := rfl

def c_sheaflaw17_StageRates_51 : MC := (.seq c_sheaflaw17_StageRates_49 c_sheaflaw17_StageRates_50)
@[go_sem] theorem c_sheaflaw17_StageRates_51_at (rd : Option Nat) (K : Post3) (t : Fr) (m : Mem) : wpM E 5 174 rd c_sheaflaw17_StageRates_51 K t m = wpM E 5 174 rd (.seq c_sheaflaw17_StageRates_49 c_sheaflaw17_StageRates_50) K t m := rfl

def c_sheaflaw17_StageRates_52 : MC := (.seq c_sheaflaw17_StageRates_23 c_sheaflaw17_StageRates_51)
@[go_sem] theorem c_sheaflaw17_StageRates_52_at (rd : Option Nat) (K : Post3) (t : Fr) (m : Mem) : wpM E 5 174 rd c_sheaflaw17_StageRates_52 K t m = wpM E 5 174 rd (.seq c_sheaflaw17_StageRates_23 c_sheaflaw17_StageRates_51) K t m := rfl

def c_sheaflaw17_StageRates_53 : MC := (.seq (.draw [(0, [], ⟨(some 85), .load 23 (.tmp 8), none⟩),
    (2, [], ⟨(some 87), .load 23 (.tmp 7), none⟩),
    (1, [2], ⟨(some 86), .call ⟨.value (.func 11), #[(.tmp 85)], #[23]⟩, none⟩),
    (3, [], ⟨(some 88), .call ⟨.value (.func 13), #[(.tmp 87)], #[23]⟩, none⟩),
    (4, [], ⟨(some 89), .call ⟨.value (.func 12), #[(.tmp 86), (.tmp 88)], #[30, 33]⟩, none⟩),
    (5, [], ⟨(some 14), .assign (.tmp 89), none⟩)]) c_sheaflaw17_StageRates_52)
@[go_sem] theorem c_sheaflaw17_StageRates_53_at (rd : Option Nat) (K : Post3) (t : Fr) (m : Mem) : wpM E 5 174 rd c_sheaflaw17_StageRates_53 K t m = wpM E 5 174 rd (.seq (.draw [(0, [], ⟨(some 85), .load 23 (.tmp 8), none⟩),
    (2, [], ⟨(some 87), .load 23 (.tmp 7), none⟩),
    (1, [2], ⟨(some 86), .call ⟨.value (.func 11), #[(.tmp 85)], #[23]⟩, none⟩),
    (3, [], ⟨(some 88), .call ⟨.value (.func 13), #[(.tmp 87)], #[23]⟩, none⟩),
    (4, [], ⟨(some 89), .call ⟨.value (.func 12), #[(.tmp 86), (.tmp 88)], #[30, 33]⟩, none⟩),
    (5, [], ⟨(some 14), .assign (.tmp 89), none⟩)]) c_sheaflaw17_StageRates_52) K t m := rfl

def c_sheaflaw17_StageRates_54 : MC := (.seq (.ops [⟨(some 13), .alloc 3, none⟩,
    ⟨none, .store 3 (.tmp 13) (.const (.int .i64 0)), none⟩]) c_sheaflaw17_StageRates_53)
@[go_sem] theorem c_sheaflaw17_StageRates_54_at (rd : Option Nat) (K : Post3) (t : Fr) (m : Mem) : wpM E 5 174 rd c_sheaflaw17_StageRates_54 K t m = wpM E 5 174 rd (.seq (.ops [⟨(some 13), .alloc 3, none⟩,
    ⟨none, .store 3 (.tmp 13) (.const (.int .i64 0)), none⟩]) c_sheaflaw17_StageRates_53) K t m := rfl

def c_sheaflaw17_StageRates_55 : MC := (.seq (.ops [⟨(some 82), .load 23 (.tmp 8), none⟩,
    ⟨(some 83), .buildSlice 22 2 #[(0, (.const (.int .i64 6))), (1, (.const (.int .i64 3)))], none⟩,
    ⟨(some 84), .call ⟨.value (.func 18), #[(.tmp 82), (.tmp 83)], #[23, 22]⟩, none⟩,
    ⟨none, .store 23 (.tmp 8) (.tmp 84), none⟩]) c_sheaflaw17_StageRates_54)
@[go_sem] theorem c_sheaflaw17_StageRates_55_at (rd : Option Nat) (K : Post3) (t : Fr) (m : Mem) : wpM E 5 174 rd c_sheaflaw17_StageRates_55 K t m = wpM E 5 174 rd (.seq (.ops [⟨(some 82), .load 23 (.tmp 8), none⟩,
    ⟨(some 83), .buildSlice 22 2 #[(0, (.const (.int .i64 6))), (1, (.const (.int .i64 3)))], none⟩,
    ⟨(some 84), .call ⟨.value (.func 18), #[(.tmp 82), (.tmp 83)], #[23, 22]⟩, none⟩,
    ⟨none, .store 23 (.tmp 8) (.tmp 84), none⟩]) c_sheaflaw17_StageRates_54) K t m := rfl

def c_sheaflaw17_StageRates_56 : MC := (.seq c_sheaflaw17_StageRates_20 c_sheaflaw17_StageRates_55)
@[go_sem] theorem c_sheaflaw17_StageRates_56_at (rd : Option Nat) (K : Post3) (t : Fr) (m : Mem) : wpM E 5 174 rd c_sheaflaw17_StageRates_56 K t m = wpM E 5 174 rd (.seq c_sheaflaw17_StageRates_20 c_sheaflaw17_StageRates_55) K t m := rfl

def c_sheaflaw17_StageRates_57 : MC := (.seq c_sheaflaw17_StageRates_8 c_sheaflaw17_StageRates_56)
@[go_sem] theorem c_sheaflaw17_StageRates_57_at (rd : Option Nat) (K : Post3) (t : Fr) (m : Mem) : wpM E 5 174 rd c_sheaflaw17_StageRates_57 K t m = wpM E 5 174 rd (.seq c_sheaflaw17_StageRates_8 c_sheaflaw17_StageRates_56) K t m := rfl

def c_sheaflaw17_StageRates_58 : MC := (.seq (.ops [⟨(some 9), .assign (.const (.int .i64 0)), none⟩]) c_sheaflaw17_StageRates_57)
@[go_sem] theorem c_sheaflaw17_StageRates_58_at (rd : Option Nat) (K : Post3) (t : Fr) (m : Mem) : wpM E 5 174 rd c_sheaflaw17_StageRates_58 K t m = wpM E 5 174 rd (.seq (.ops [⟨(some 9), .assign (.const (.int .i64 0)), none⟩]) c_sheaflaw17_StageRates_57) K t m := rfl

def c_sheaflaw17_StageRates_59 : MC := (.seq (.ops [⟨(some 7), .alloc 23, none⟩,
    ⟨(some 8), .alloc 23, none⟩]) c_sheaflaw17_StageRates_58)
@[go_sem] theorem c_sheaflaw17_StageRates_59_at (rd : Option Nat) (K : Post3) (t : Fr) (m : Mem) : wpM E 5 174 rd c_sheaflaw17_StageRates_59 K t m = wpM E 5 174 rd (.seq (.ops [⟨(some 7), .alloc 23, none⟩,
    ⟨(some 8), .alloc 23, none⟩]) c_sheaflaw17_StageRates_58) K t m := rfl

def c_sheaflaw17_StageRates_60 : MC := (.seq (.ops [⟨(some 6), .alloc 4, none⟩]) c_sheaflaw17_StageRates_59)
@[go_sem] theorem c_sheaflaw17_StageRates_60_at (rd : Option Nat) (K : Post3) (t : Fr) (m : Mem) : wpM E 5 174 rd c_sheaflaw17_StageRates_60 K t m = wpM E 5 174 rd (.seq (.ops [⟨(some 6), .alloc 4, none⟩]) c_sheaflaw17_StageRates_59) K t m := rfl

@[go_sem] theorem some5 : (E.fn 5).isSome = true := by kernel_rfl
set_option maxRecDepth 100000 in
theorem fn_sheaflaw17_StageRates : FnIs E 5 174 [.cell 6 4] c_sheaflaw17_StageRates_60 := ⟨by kernel_rfl, by kernel_rfl⟩

end
end Go.Proofs.Ytpabllcacdopdaa.W
