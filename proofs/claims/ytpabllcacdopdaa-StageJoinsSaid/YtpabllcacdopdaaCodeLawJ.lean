/-
  Compact code, printed by a program of mine (wip/dev/AbsPrint.lean).
-/
import Derived.Test.YtpabllcacdopdaaTypes
set_option linter.unusedVariables false
namespace Go.Proofs.Ytpabllcacdopdaa.W
open Go.Abs
noncomputable section

/-! sheaf/sheaflaw17.StageJoins -/
abbrev F_sheaflaw17_StageJoins : FuncId := 6
def c_sheaflaw17_StageJoins_0 : MC := (.cond (.tmp 21) (.ops [⟨none, .store 3 (.tmp 7) (.const (.int .i64 5)), none⟩]) .skip)
@[go_sem] theorem c_sheaflaw17_StageJoins_0_at (rd : Option Nat) (K : Post3) (t : Fr) (m : Mem) : wpM E 6 221 rd c_sheaflaw17_StageJoins_0 K t m = wpM E 6 221 rd (.cond (.tmp 21) (.ops [⟨none, .store 3 (.tmp 7) (.const (.int .i64 5)), none⟩]) .skip) K t m := rfl

def c_sheaflaw17_StageJoins_1 : MC := (.seq (.ops [⟨(some 21), .load 4 (.tmp 5), none⟩]) c_sheaflaw17_StageJoins_0)
@[go_sem] theorem c_sheaflaw17_StageJoins_1_at (rd : Option Nat) (K : Post3) (t : Fr) (m : Mem) : wpM E 6 221 rd c_sheaflaw17_StageJoins_1 K t m = wpM E 6 221 rd (.seq (.ops [⟨(some 21), .load 4 (.tmp 5), none⟩]) c_sheaflaw17_StageJoins_0) K t m := rfl

def c_sheaflaw17_StageJoins_2 : MC := (.cond (.tmp 29) .skip (.exit 0))
@[go_sem] theorem c_sheaflaw17_StageJoins_2_at (rd : Option Nat) (K : Post3) (t : Fr) (m : Mem) : wpM E 6 221 rd c_sheaflaw17_StageJoins_2 K t m = wpM E 6 221 rd (.cond (.tmp 29) .skip (.exit 0)) K t m := rfl

def c_sheaflaw17_StageJoins_3 : MC := (.seq (.ops [⟨(some 22), .move (.tmp 11), none⟩,
    ⟨(some 23), .move (.tmp 1), none⟩,
    ⟨(some 24), .call ⟨.builtin .len, #[(.tmp 23)], #[22]⟩, none⟩,
    ⟨(some 25), .binOp .lss 3 (.tmp 22) (.tmp 24) 3, none⟩,
    ⟨(some 26), .move (.tmp 25), none⟩,
    ⟨(some 27), .move (.tmp 11), (some (some 26, true))⟩,
    ⟨(some 28), .binOp .lss 3 (.tmp 27) (.const (.int .i64 8)) 3, (some (some 26, true))⟩,
    ⟨(some 29), .pick (.tmp 26) (.tmp 28) (.const (.bool false)), none⟩]) c_sheaflaw17_StageJoins_2)
@[go_sem] theorem c_sheaflaw17_StageJoins_3_at (rd : Option Nat) (K : Post3) (t : Fr) (m : Mem) : wpM E 6 221 rd c_sheaflaw17_StageJoins_3 K t m = wpM E 6 221 rd (.seq (.ops [⟨(some 22), .move (.tmp 11), none⟩,
    ⟨(some 23), .move (.tmp 1), none⟩,
    ⟨(some 24), .call ⟨.builtin .len, #[(.tmp 23)], #[22]⟩, none⟩,
    ⟨(some 25), .binOp .lss 3 (.tmp 22) (.tmp 24) 3, none⟩,
    ⟨(some 26), .move (.tmp 25), none⟩,
    ⟨(some 27), .move (.tmp 11), (some (some 26, true))⟩,
    ⟨(some 28), .binOp .lss 3 (.tmp 27) (.const (.int .i64 8)) 3, (some (some 26, true))⟩,
    ⟨(some 29), .pick (.tmp 26) (.tmp 28) (.const (.bool false)), none⟩]) c_sheaflaw17_StageJoins_2) K t m := rfl

def c_sheaflaw17_StageJoins_4 : MC := (.seq (.ops [⟨(some 32), .move (.tmp 10), none⟩,
    ⟨(some 33), .move (.tmp 1), none⟩,
    ⟨(some 34), .move (.tmp 11), none⟩,
    ⟨(some 35), .indexAddr 22 (.tmp 33) (.tmp 34), none⟩,
    ⟨(some 36), .load 3 (.tmp 35), none⟩,
    ⟨(some 37), .call ⟨.value (.func 15), #[(.tmp 36), (.const (.int .i64 1)), (.const (.int .i64 2))], #[3, 3, 3]⟩, none⟩,
    ⟨(some 38), .binOp .add 3 (.tmp 32) (.tmp 37) 3, none⟩,
    ⟨(some 10), .assign (.tmp 38), none⟩]) (.ops [⟨(some 39), .load 23 (.tmp 8), none⟩,
    ⟨(some 40), .move (.tmp 10), none⟩,
    ⟨(some 41), .move (.tmp 10), none⟩,
    ⟨(some 42), .binOp .add 3 (.const (.int .i64 50)) (.tmp 41) 3, none⟩,
    ⟨(some 43), .move (.tmp 10), none⟩,
    ⟨(some 44), .binOp .mul 3 (.const (.int .i64 100)) (.tmp 43) 3, none⟩,
    ⟨(some 45), .buildSlice 22 3 #[(0, (.tmp 40)), (1, (.tmp 42)), (2, (.tmp 44))], none⟩,
    ⟨(some 46), .buildSlice 23 1 #[(0, (.tmp 45))], none⟩,
    ⟨(some 47), .call ⟨.builtin .append, #[(.tmp 39), (.tmp 46)], #[23, 23]⟩, none⟩,
    ⟨none, .store 23 (.tmp 8) (.tmp 47), none⟩]))
@[go_sem] theorem c_sheaflaw17_StageJoins_4_at (rd : Option Nat) (K : Post3) (t : Fr) (m : Mem) : wpM E 6 221 rd c_sheaflaw17_StageJoins_4 K t m = wpM E 6 221 rd (.seq (.ops [⟨(some 32), .move (.tmp 10), none⟩,
    ⟨(some 33), .move (.tmp 1), none⟩,
    ⟨(some 34), .move (.tmp 11), none⟩,
    ⟨(some 35), .indexAddr 22 (.tmp 33) (.tmp 34), none⟩,
    ⟨(some 36), .load 3 (.tmp 35), none⟩,
    ⟨(some 37), .call ⟨.value (.func 15), #[(.tmp 36), (.const (.int .i64 1)), (.const (.int .i64 2))], #[3, 3, 3]⟩, none⟩,
    ⟨(some 38), .binOp .add 3 (.tmp 32) (.tmp 37) 3, none⟩,
    ⟨(some 10), .assign (.tmp 38), none⟩]) (.ops [⟨(some 39), .load 23 (.tmp 8), none⟩,
    ⟨(some 40), .move (.tmp 10), none⟩,
    ⟨(some 41), .move (.tmp 10), none⟩,
    ⟨(some 42), .binOp .add 3 (.const (.int .i64 50)) (.tmp 41) 3, none⟩,
    ⟨(some 43), .move (.tmp 10), none⟩,
    ⟨(some 44), .binOp .mul 3 (.const (.int .i64 100)) (.tmp 43) 3, none⟩,
    ⟨(some 45), .buildSlice 22 3 #[(0, (.tmp 40)), (1, (.tmp 42)), (2, (.tmp 44))], none⟩,
    ⟨(some 46), .buildSlice 23 1 #[(0, (.tmp 45))], none⟩,
    ⟨(some 47), .call ⟨.builtin .append, #[(.tmp 39), (.tmp 46)], #[23, 23]⟩, none⟩,
    ⟨none, .store 23 (.tmp 8) (.tmp 47), none⟩])) K t m := rfl

def c_sheaflaw17_StageJoins_5 : MC := (.block 1 c_sheaflaw17_StageJoins_4)
@[go_sem] theorem c_sheaflaw17_StageJoins_5_at (rd : Option Nat) (K : Post3) (t : Fr) (m : Mem) : wpM E 6 221 rd c_sheaflaw17_StageJoins_5 K t m = wpM E 6 221 rd (.block 1 c_sheaflaw17_StageJoins_4) K t m := rfl

def c_sheaflaw17_StageJoins_6 : MC := (.seq c_sheaflaw17_StageJoins_5 (.ops [⟨(some 30), .move (.tmp 11), none⟩,
    ⟨(some 31), .binOp .add 3 (.tmp 30) (.const (.int .i64 1)) 3, none⟩,
    ⟨(some 11), .assign (.tmp 31), none⟩]))
@[go_sem] theorem c_sheaflaw17_StageJoins_6_at (rd : Option Nat) (K : Post3) (t : Fr) (m : Mem) : wpM E 6 221 rd c_sheaflaw17_StageJoins_6 K t m = wpM E 6 221 rd (.seq c_sheaflaw17_StageJoins_5 (.ops [⟨(some 30), .move (.tmp 11), none⟩,
    ⟨(some 31), .binOp .add 3 (.tmp 30) (.const (.int .i64 1)) 3, none⟩,
    ⟨(some 11), .assign (.tmp 31), none⟩])) K t m := rfl

def c_sheaflaw17_StageJoins_7 : MC := (.seq c_sheaflaw17_StageJoins_3 c_sheaflaw17_StageJoins_6)
@[go_sem] theorem c_sheaflaw17_StageJoins_7_at (rd : Option Nat) (K : Post3) (t : Fr) (m : Mem) : wpM E 6 221 rd c_sheaflaw17_StageJoins_7 K t m = wpM E 6 221 rd (.seq c_sheaflaw17_StageJoins_3 c_sheaflaw17_StageJoins_6) K t m := rfl

def c_sheaflaw17_StageJoins_8 : MC := (.loop c_sheaflaw17_StageJoins_7)
theorem c_sheaflaw17_StageJoins_8_at (rd : Option Nat) (K : Post3) (t : Fr) (m : Mem) : wpM E 6 221 rd c_sheaflaw17_StageJoins_8 K t m = wpM E 6 221 rd (.loop c_sheaflaw17_StageJoins_7) K t m := rfl

def c_sheaflaw17_StageJoins_9 : MC := (.block 0 c_sheaflaw17_StageJoins_8)
theorem c_sheaflaw17_StageJoins_9_at (rd : Option Nat) (K : Post3) (t : Fr) (m : Mem) : wpM E 6 221 rd c_sheaflaw17_StageJoins_9 K t m = wpM E 6 221 rd (.block 0 c_sheaflaw17_StageJoins_8) K t m := rfl

def c_sheaflaw17_StageJoins_10 : MC := (.seq (.ops [⟨(some 11), .assign (.const (.int .i64 0)), none⟩]) c_sheaflaw17_StageJoins_9)
@[go_sem] theorem c_sheaflaw17_StageJoins_10_at (rd : Option Nat) (K : Post3) (t : Fr) (m : Mem) : wpM E 6 221 rd c_sheaflaw17_StageJoins_10 K t m = wpM E 6 221 rd (.seq (.ops [⟨(some 11), .assign (.const (.int .i64 0)), none⟩]) c_sheaflaw17_StageJoins_9) K t m := rfl

def c_sheaflaw17_StageJoins_11 : MC := (.cond (.tmp 55) .skip (.exit 2))
@[go_sem] theorem c_sheaflaw17_StageJoins_11_at (rd : Option Nat) (K : Post3) (t : Fr) (m : Mem) : wpM E 6 221 rd c_sheaflaw17_StageJoins_11 K t m = wpM E 6 221 rd (.cond (.tmp 55) .skip (.exit 2)) K t m := rfl

def c_sheaflaw17_StageJoins_12 : MC := (.seq (.ops [⟨(some 48), .move (.tmp 12), none⟩,
    ⟨(some 49), .move (.tmp 0), none⟩,
    ⟨(some 50), .call ⟨.builtin .len, #[(.tmp 49)], #[22]⟩, none⟩,
    ⟨(some 51), .binOp .lss 3 (.tmp 48) (.tmp 50) 3, none⟩,
    ⟨(some 52), .move (.tmp 51), none⟩,
    ⟨(some 53), .move (.tmp 12), (some (some 52, true))⟩,
    ⟨(some 54), .binOp .lss 3 (.tmp 53) (.const (.int .i64 15)) 3, (some (some 52, true))⟩,
    ⟨(some 55), .pick (.tmp 52) (.tmp 54) (.const (.bool false)), none⟩]) c_sheaflaw17_StageJoins_11)
@[go_sem] theorem c_sheaflaw17_StageJoins_12_at (rd : Option Nat) (K : Post3) (t : Fr) (m : Mem) : wpM E 6 221 rd c_sheaflaw17_StageJoins_12 K t m = wpM E 6 221 rd (.seq (.ops [⟨(some 48), .move (.tmp 12), none⟩,
    ⟨(some 49), .move (.tmp 0), none⟩,
    ⟨(some 50), .call ⟨.builtin .len, #[(.tmp 49)], #[22]⟩, none⟩,
    ⟨(some 51), .binOp .lss 3 (.tmp 48) (.tmp 50) 3, none⟩,
    ⟨(some 52), .move (.tmp 51), none⟩,
    ⟨(some 53), .move (.tmp 12), (some (some 52, true))⟩,
    ⟨(some 54), .binOp .lss 3 (.tmp 53) (.const (.int .i64 15)) 3, (some (some 52, true))⟩,
    ⟨(some 55), .pick (.tmp 52) (.tmp 54) (.const (.bool false)), none⟩]) c_sheaflaw17_StageJoins_11) K t m := rfl

def c_sheaflaw17_StageJoins_13 : MC := (.seq (.draw [(0, [], ⟨(some 61), .move (.tmp 13), none⟩),
    (1, [], ⟨(some 62), .load 3 (.tmp 7), none⟩),
    (2, [], ⟨(some 63), .move (.tmp 0), none⟩),
    (3, [], ⟨(some 64), .move (.tmp 12), none⟩),
    (4, [], ⟨(some 65), .indexAddr 22 (.tmp 63) (.tmp 64), none⟩),
    (5, [], ⟨(some 66), .load 3 (.tmp 65), none⟩),
    (6, [1], ⟨(some 67), .call ⟨.value (.func 15), #[(.tmp 66), (.const (.int .i64 0)), (.const (.int .i64 12))], #[3, 3, 3]⟩, none⟩),
    (7, [], ⟨(some 68), .indexAddr 22 (.tmp 61) (.tmp 62), none⟩),
    (8, [], ⟨none, .store 3 (.tmp 68) (.tmp 67), none⟩)]) (.ops [⟨(some 69), .load 23 (.tmp 9), none⟩,
    ⟨(some 70), .move (.tmp 13), none⟩,
    ⟨(some 71), .buildSlice 23 1 #[(0, (.tmp 70))], none⟩,
    ⟨(some 72), .call ⟨.builtin .append, #[(.tmp 69), (.tmp 71)], #[23, 23]⟩, none⟩,
    ⟨none, .store 23 (.tmp 9) (.tmp 72), none⟩]))
@[go_sem] theorem c_sheaflaw17_StageJoins_13_at (rd : Option Nat) (K : Post3) (t : Fr) (m : Mem) : wpM E 6 221 rd c_sheaflaw17_StageJoins_13 K t m = wpM E 6 221 rd (.seq (.draw [(0, [], ⟨(some 61), .move (.tmp 13), none⟩),
    (1, [], ⟨(some 62), .load 3 (.tmp 7), none⟩),
    (2, [], ⟨(some 63), .move (.tmp 0), none⟩),
    (3, [], ⟨(some 64), .move (.tmp 12), none⟩),
    (4, [], ⟨(some 65), .indexAddr 22 (.tmp 63) (.tmp 64), none⟩),
    (5, [], ⟨(some 66), .load 3 (.tmp 65), none⟩),
    (6, [1], ⟨(some 67), .call ⟨.value (.func 15), #[(.tmp 66), (.const (.int .i64 0)), (.const (.int .i64 12))], #[3, 3, 3]⟩, none⟩),
    (7, [], ⟨(some 68), .indexAddr 22 (.tmp 61) (.tmp 62), none⟩),
    (8, [], ⟨none, .store 3 (.tmp 68) (.tmp 67), none⟩)]) (.ops [⟨(some 69), .load 23 (.tmp 9), none⟩,
    ⟨(some 70), .move (.tmp 13), none⟩,
    ⟨(some 71), .buildSlice 23 1 #[(0, (.tmp 70))], none⟩,
    ⟨(some 72), .call ⟨.builtin .append, #[(.tmp 69), (.tmp 71)], #[23, 23]⟩, none⟩,
    ⟨none, .store 23 (.tmp 9) (.tmp 72), none⟩])) K t m := rfl

def c_sheaflaw17_StageJoins_14 : MC := (.seq (.ops [⟨(some 58), .move (.tmp 12), none⟩,
    ⟨(some 59), .binOp .add 3 (.tmp 58) (.const (.int .i64 1)) 3, none⟩,
    ⟨(some 60), .buildSlice 22 6 #[(0, (.tmp 59)), (1, (.const (.int .i64 99))), (2, (.const (.int .i64 1))), (3, (.const (.int .i64 10))), (4, (.const (.int .i64 5))), (5, (.const (.int .i64 0)))], none⟩,
    ⟨(some 13), .assign (.tmp 60), none⟩]) c_sheaflaw17_StageJoins_13)
@[go_sem] theorem c_sheaflaw17_StageJoins_14_at (rd : Option Nat) (K : Post3) (t : Fr) (m : Mem) : wpM E 6 221 rd c_sheaflaw17_StageJoins_14 K t m = wpM E 6 221 rd (.seq (.ops [⟨(some 58), .move (.tmp 12), none⟩,
    ⟨(some 59), .binOp .add 3 (.tmp 58) (.const (.int .i64 1)) 3, none⟩,
    ⟨(some 60), .buildSlice 22 6 #[(0, (.tmp 59)), (1, (.const (.int .i64 99))), (2, (.const (.int .i64 1))), (3, (.const (.int .i64 10))), (4, (.const (.int .i64 5))), (5, (.const (.int .i64 0)))], none⟩,
    ⟨(some 13), .assign (.tmp 60), none⟩]) c_sheaflaw17_StageJoins_13) K t m := rfl

def c_sheaflaw17_StageJoins_15 : MC := (.block 3 c_sheaflaw17_StageJoins_14)
@[go_sem] theorem c_sheaflaw17_StageJoins_15_at (rd : Option Nat) (K : Post3) (t : Fr) (m : Mem) : wpM E 6 221 rd c_sheaflaw17_StageJoins_15 K t m = wpM E 6 221 rd (.block 3 c_sheaflaw17_StageJoins_14) K t m := rfl

def c_sheaflaw17_StageJoins_16 : MC := (.seq c_sheaflaw17_StageJoins_15 (.ops [⟨(some 56), .move (.tmp 12), none⟩,
    ⟨(some 57), .binOp .add 3 (.tmp 56) (.const (.int .i64 1)) 3, none⟩,
    ⟨(some 12), .assign (.tmp 57), none⟩]))
@[go_sem] theorem c_sheaflaw17_StageJoins_16_at (rd : Option Nat) (K : Post3) (t : Fr) (m : Mem) : wpM E 6 221 rd c_sheaflaw17_StageJoins_16 K t m = wpM E 6 221 rd (.seq c_sheaflaw17_StageJoins_15 (.ops [⟨(some 56), .move (.tmp 12), none⟩,
    ⟨(some 57), .binOp .add 3 (.tmp 56) (.const (.int .i64 1)) 3, none⟩,
    ⟨(some 12), .assign (.tmp 57), none⟩])) K t m := rfl

def c_sheaflaw17_StageJoins_17 : MC := (.seq c_sheaflaw17_StageJoins_12 c_sheaflaw17_StageJoins_16)
@[go_sem] theorem c_sheaflaw17_StageJoins_17_at (rd : Option Nat) (K : Post3) (t : Fr) (m : Mem) : wpM E 6 221 rd c_sheaflaw17_StageJoins_17 K t m = wpM E 6 221 rd (.seq c_sheaflaw17_StageJoins_12 c_sheaflaw17_StageJoins_16) K t m := rfl

def c_sheaflaw17_StageJoins_18 : MC := (.loop c_sheaflaw17_StageJoins_17)
theorem c_sheaflaw17_StageJoins_18_at (rd : Option Nat) (K : Post3) (t : Fr) (m : Mem) : wpM E 6 221 rd c_sheaflaw17_StageJoins_18 K t m = wpM E 6 221 rd (.loop c_sheaflaw17_StageJoins_17) K t m := rfl

def c_sheaflaw17_StageJoins_19 : MC := (.block 2 c_sheaflaw17_StageJoins_18)
theorem c_sheaflaw17_StageJoins_19_at (rd : Option Nat) (K : Post3) (t : Fr) (m : Mem) : wpM E 6 221 rd c_sheaflaw17_StageJoins_19 K t m = wpM E 6 221 rd (.block 2 c_sheaflaw17_StageJoins_18) K t m := rfl

def c_sheaflaw17_StageJoins_20 : MC := (.seq (.ops [⟨(some 12), .assign (.const (.int .i64 0)), none⟩]) c_sheaflaw17_StageJoins_19)
@[go_sem] theorem c_sheaflaw17_StageJoins_20_at (rd : Option Nat) (K : Post3) (t : Fr) (m : Mem) : wpM E 6 221 rd c_sheaflaw17_StageJoins_20 K t m = wpM E 6 221 rd (.seq (.ops [⟨(some 12), .assign (.const (.int .i64 0)), none⟩]) c_sheaflaw17_StageJoins_19) K t m := rfl

def c_sheaflaw17_StageJoins_21 : MC := (.cond (.tmp 82) (.draw [(0, [], ⟨(some 83), .load 23 (.tmp 9), none⟩),
    (2, [], ⟨(some 85), .load 23 (.tmp 8), none⟩),
    (1, [2], ⟨(some 84), .call ⟨.value (.func 11), #[(.tmp 83)], #[23]⟩, none⟩),
    (3, [], ⟨(some 86), .call ⟨.value (.func 13), #[(.tmp 85)], #[23]⟩, none⟩),
    (4, [], ⟨(some 87), .call ⟨.value (.func 20), #[(.tmp 84), (.tmp 86)], #[30, 33]⟩, none⟩),
    (5, [], ⟨(some 14), .assign (.tmp 87), none⟩)]) .skip)
@[go_sem] theorem c_sheaflaw17_StageJoins_21_at (rd : Option Nat) (K : Post3) (t : Fr) (m : Mem) : wpM E 6 221 rd c_sheaflaw17_StageJoins_21 K t m = wpM E 6 221 rd (.cond (.tmp 82) (.draw [(0, [], ⟨(some 83), .load 23 (.tmp 9), none⟩),
    (2, [], ⟨(some 85), .load 23 (.tmp 8), none⟩),
    (1, [2], ⟨(some 84), .call ⟨.value (.func 11), #[(.tmp 83)], #[23]⟩, none⟩),
    (3, [], ⟨(some 86), .call ⟨.value (.func 13), #[(.tmp 85)], #[23]⟩, none⟩),
    (4, [], ⟨(some 87), .call ⟨.value (.func 20), #[(.tmp 84), (.tmp 86)], #[30, 33]⟩, none⟩),
    (5, [], ⟨(some 14), .assign (.tmp 87), none⟩)]) .skip) K t m := rfl

def c_sheaflaw17_StageJoins_22 : MC := (.seq (.ops [⟨(some 82), .load 4 (.tmp 5), none⟩]) c_sheaflaw17_StageJoins_21)
@[go_sem] theorem c_sheaflaw17_StageJoins_22_at (rd : Option Nat) (K : Post3) (t : Fr) (m : Mem) : wpM E 6 221 rd c_sheaflaw17_StageJoins_22 K t m = wpM E 6 221 rd (.seq (.ops [⟨(some 82), .load 4 (.tmp 5), none⟩]) c_sheaflaw17_StageJoins_21) K t m := rfl

def c_sheaflaw17_StageJoins_23 : MC := (.seq (.ops [⟨none, .store 4 (.tmp 6) (.const (.bool false)), none⟩]) .ret)
@[go_sem] theorem c_sheaflaw17_StageJoins_23_at (rd : Option Nat) (K : Post3) (t : Fr) (m : Mem) : wpM E 6 221 rd c_sheaflaw17_StageJoins_23 K t m = wpM E 6 221 rd (.seq (.ops [⟨none, .store 4 (.tmp 6) (.const (.bool false)), none⟩]) .ret) K t m := rfl

def c_sheaflaw17_StageJoins_24 : MC := (.cond (.tmp 89) c_sheaflaw17_StageJoins_23 .skip)
@[go_sem] theorem c_sheaflaw17_StageJoins_24_at (rd : Option Nat) (K : Post3) (t : Fr) (m : Mem) : wpM E 6 221 rd c_sheaflaw17_StageJoins_24 K t m = wpM E 6 221 rd (.cond (.tmp 89) c_sheaflaw17_StageJoins_23 .skip) K t m := rfl

def c_sheaflaw17_StageJoins_25 : MC := (.seq (.ops [⟨(some 88), .move (.tmp 14), none⟩,
    ⟨(some 89), .binOp .eql 27 (.tmp 88) (.const .nilFunc) 27, none⟩]) c_sheaflaw17_StageJoins_24)
@[go_sem] theorem c_sheaflaw17_StageJoins_25_at (rd : Option Nat) (K : Post3) (t : Fr) (m : Mem) : wpM E 6 221 rd c_sheaflaw17_StageJoins_25 K t m = wpM E 6 221 rd (.seq (.ops [⟨(some 88), .move (.tmp 14), none⟩,
    ⟨(some 89), .binOp .eql 27 (.tmp 88) (.const .nilFunc) 27, none⟩]) c_sheaflaw17_StageJoins_24) K t m := rfl

def c_sheaflaw17_StageJoins_26 : MC := (.seq (.ops [⟨(some 16), .assign (.tmp 91), none⟩]) (.ops [⟨(some 17), .assign (.tmp 92), none⟩]))
@[go_sem] theorem c_sheaflaw17_StageJoins_26_at (rd : Option Nat) (K : Post3) (t : Fr) (m : Mem) : wpM E 6 221 rd c_sheaflaw17_StageJoins_26 K t m = wpM E 6 221 rd (.seq (.ops [⟨(some 16), .assign (.tmp 91), none⟩]) (.ops [⟨(some 17), .assign (.tmp 92), none⟩])) K t m := rfl

def c_sheaflaw17_StageJoins_27 : MC := (.seq (.ops [⟨none, .store 4 (.tmp 6) (.const (.bool false)), none⟩]) .ret)
@[go_sem] theorem c_sheaflaw17_StageJoins_27_at (rd : Option Nat) (K : Post3) (t : Fr) (m : Mem) : wpM E 6 221 rd c_sheaflaw17_StageJoins_27 K t m = wpM E 6 221 rd (.seq (.ops [⟨none, .store 4 (.tmp 6) (.const (.bool false)), none⟩]) .ret) K t m := rfl

def c_sheaflaw17_StageJoins_28 : MC := (.cond (.tmp 111) c_sheaflaw17_StageJoins_27 .skip)
@[go_sem] theorem c_sheaflaw17_StageJoins_28_at (rd : Option Nat) (K : Post3) (t : Fr) (m : Mem) : wpM E 6 221 rd c_sheaflaw17_StageJoins_28 K t m = wpM E 6 221 rd (.cond (.tmp 111) c_sheaflaw17_StageJoins_27 .skip) K t m := rfl

def c_sheaflaw17_StageJoins_29 : MC := (.seq (.ops [⟨(some 93), .load 3 (.tmp 15), none⟩,
    ⟨(some 94), .load 23 (.tmp 9), none⟩,
    ⟨(some 95), .call ⟨.builtin .len, #[(.tmp 94)], #[23]⟩, none⟩,
    ⟨(some 96), .binOp .geq 3 (.tmp 93) (.tmp 95) 3, none⟩,
    ⟨(some 97), .move (.tmp 96), none⟩,
    ⟨(some 98), .move (.tmp 16), (some (some 97, false))⟩,
    ⟨(some 99), .call ⟨.builtin .len, #[(.tmp 98)], #[22]⟩, (some (some 97, false))⟩,
    ⟨(some 100), .binOp .lss 3 (.tmp 99) (.const (.int .i64 6)) 3, (some (some 97, false))⟩,
    ⟨(some 101), .pick (.tmp 97) (.const (.bool true)) (.tmp 100), none⟩,
    ⟨(some 102), .move (.tmp 101), none⟩,
    ⟨(some 103), .move (.tmp 16), (some (some 102, false))⟩,
    ⟨(some 104), .slice 22 (.tmp 103) none (some (.const (.int .i64 6))) none, (some (some 102, false))⟩,
    ⟨(some 105), .load 23 (.tmp 9), (some (some 102, false))⟩,
    ⟨(some 106), .load 3 (.tmp 15), (some (some 102, false))⟩,
    ⟨(some 107), .indexAddr 23 (.tmp 105) (.tmp 106), (some (some 102, false))⟩,
    ⟨(some 108), .load 22 (.tmp 107), (some (some 102, false))⟩,
    ⟨(some 109), .call ⟨.value (.func 17), #[(.tmp 104), (.tmp 108)], #[22, 22]⟩, (some (some 102, false))⟩,
    ⟨(some 110), .unOp .not 4 (.tmp 109), (some (some 102, false))⟩,
    ⟨(some 111), .pick (.tmp 102) (.const (.bool true)) (.tmp 110), none⟩]) c_sheaflaw17_StageJoins_28)
@[go_sem] theorem c_sheaflaw17_StageJoins_29_at (rd : Option Nat) (K : Post3) (t : Fr) (m : Mem) : wpM E 6 221 rd c_sheaflaw17_StageJoins_29 K t m = wpM E 6 221 rd (.seq (.ops [⟨(some 93), .load 3 (.tmp 15), none⟩,
    ⟨(some 94), .load 23 (.tmp 9), none⟩,
    ⟨(some 95), .call ⟨.builtin .len, #[(.tmp 94)], #[23]⟩, none⟩,
    ⟨(some 96), .binOp .geq 3 (.tmp 93) (.tmp 95) 3, none⟩,
    ⟨(some 97), .move (.tmp 96), none⟩,
    ⟨(some 98), .move (.tmp 16), (some (some 97, false))⟩,
    ⟨(some 99), .call ⟨.builtin .len, #[(.tmp 98)], #[22]⟩, (some (some 97, false))⟩,
    ⟨(some 100), .binOp .lss 3 (.tmp 99) (.const (.int .i64 6)) 3, (some (some 97, false))⟩,
    ⟨(some 101), .pick (.tmp 97) (.const (.bool true)) (.tmp 100), none⟩,
    ⟨(some 102), .move (.tmp 101), none⟩,
    ⟨(some 103), .move (.tmp 16), (some (some 102, false))⟩,
    ⟨(some 104), .slice 22 (.tmp 103) none (some (.const (.int .i64 6))) none, (some (some 102, false))⟩,
    ⟨(some 105), .load 23 (.tmp 9), (some (some 102, false))⟩,
    ⟨(some 106), .load 3 (.tmp 15), (some (some 102, false))⟩,
    ⟨(some 107), .indexAddr 23 (.tmp 105) (.tmp 106), (some (some 102, false))⟩,
    ⟨(some 108), .load 22 (.tmp 107), (some (some 102, false))⟩,
    ⟨(some 109), .call ⟨.value (.func 17), #[(.tmp 104), (.tmp 108)], #[22, 22]⟩, (some (some 102, false))⟩,
    ⟨(some 110), .unOp .not 4 (.tmp 109), (some (some 102, false))⟩,
    ⟨(some 111), .pick (.tmp 102) (.const (.bool true)) (.tmp 110), none⟩]) c_sheaflaw17_StageJoins_28) K t m := rfl

def c_sheaflaw17_StageJoins_30 : MC := (.cond (.tmp 115) .skip (.exit 6))
@[go_sem] theorem c_sheaflaw17_StageJoins_30_at (rd : Option Nat) (K : Post3) (t : Fr) (m : Mem) : wpM E 6 221 rd c_sheaflaw17_StageJoins_30 K t m = wpM E 6 221 rd (.cond (.tmp 115) .skip (.exit 6)) K t m := rfl

def c_sheaflaw17_StageJoins_31 : MC := (.cond (.tmp 125) (.ops [⟨(some 126), .move (.tmp 20), none⟩,
    ⟨(some 18), .assign (.tmp 126), none⟩]) .skip)
@[go_sem] theorem c_sheaflaw17_StageJoins_31_at (rd : Option Nat) (K : Post3) (t : Fr) (m : Mem) : wpM E 6 221 rd c_sheaflaw17_StageJoins_31 K t m = wpM E 6 221 rd (.cond (.tmp 125) (.ops [⟨(some 126), .move (.tmp 20), none⟩,
    ⟨(some 18), .assign (.tmp 126), none⟩]) .skip) K t m := rfl

def c_sheaflaw17_StageJoins_32 : MC := (.seq (.ops [⟨(some 118), .move (.tmp 20), none⟩,
    ⟨(some 119), .indexAddr 22 (.tmp 118) (.const (.int .i64 0)), none⟩,
    ⟨(some 120), .load 3 (.tmp 119), none⟩,
    ⟨(some 121), .move (.tmp 16), none⟩,
    ⟨(some 122), .load 3 (.tmp 7), none⟩,
    ⟨(some 123), .indexAddr 22 (.tmp 121) (.tmp 122), none⟩,
    ⟨(some 124), .load 3 (.tmp 123), none⟩,
    ⟨(some 125), .binOp .eql 3 (.tmp 120) (.tmp 124) 3, none⟩]) c_sheaflaw17_StageJoins_31)
@[go_sem] theorem c_sheaflaw17_StageJoins_32_at (rd : Option Nat) (K : Post3) (t : Fr) (m : Mem) : wpM E 6 221 rd c_sheaflaw17_StageJoins_32 K t m = wpM E 6 221 rd (.seq (.ops [⟨(some 118), .move (.tmp 20), none⟩,
    ⟨(some 119), .indexAddr 22 (.tmp 118) (.const (.int .i64 0)), none⟩,
    ⟨(some 120), .load 3 (.tmp 119), none⟩,
    ⟨(some 121), .move (.tmp 16), none⟩,
    ⟨(some 122), .load 3 (.tmp 7), none⟩,
    ⟨(some 123), .indexAddr 22 (.tmp 121) (.tmp 122), none⟩,
    ⟨(some 124), .load 3 (.tmp 123), none⟩,
    ⟨(some 125), .binOp .eql 3 (.tmp 120) (.tmp 124) 3, none⟩]) c_sheaflaw17_StageJoins_31) K t m := rfl

def c_sheaflaw17_StageJoins_33 : MC := (.seq (.ops [⟨(some 116), .indexAddr 23 (.tmp 112) (.tmp 114), none⟩,
    ⟨(some 117), .load 22 (.tmp 116), none⟩,
    ⟨(some 20), .assign (.tmp 117), none⟩]) c_sheaflaw17_StageJoins_32)
@[go_sem] theorem c_sheaflaw17_StageJoins_33_at (rd : Option Nat) (K : Post3) (t : Fr) (m : Mem) : wpM E 6 221 rd c_sheaflaw17_StageJoins_33 K t m = wpM E 6 221 rd (.seq (.ops [⟨(some 116), .indexAddr 23 (.tmp 112) (.tmp 114), none⟩,
    ⟨(some 117), .load 22 (.tmp 116), none⟩,
    ⟨(some 20), .assign (.tmp 117), none⟩]) c_sheaflaw17_StageJoins_32) K t m := rfl

def c_sheaflaw17_StageJoins_34 : MC := (.block 7 c_sheaflaw17_StageJoins_33)
@[go_sem] theorem c_sheaflaw17_StageJoins_34_at (rd : Option Nat) (K : Post3) (t : Fr) (m : Mem) : wpM E 6 221 rd c_sheaflaw17_StageJoins_34 K t m = wpM E 6 221 rd (.block 7 c_sheaflaw17_StageJoins_33) K t m := rfl

def c_sheaflaw17_StageJoins_35 : MC := (.seq c_sheaflaw17_StageJoins_34 (.ops [⟨(some 127), .binOp .add 3 (.tmp 114) (.const (.int .i64 1)) 3, none⟩,
    ⟨(some 114), .move (.tmp 127), none⟩]))
@[go_sem] theorem c_sheaflaw17_StageJoins_35_at (rd : Option Nat) (K : Post3) (t : Fr) (m : Mem) : wpM E 6 221 rd c_sheaflaw17_StageJoins_35 K t m = wpM E 6 221 rd (.seq c_sheaflaw17_StageJoins_34 (.ops [⟨(some 127), .binOp .add 3 (.tmp 114) (.const (.int .i64 1)) 3, none⟩,
    ⟨(some 114), .move (.tmp 127), none⟩])) K t m := rfl

def c_sheaflaw17_StageJoins_36 : MC := (.seq c_sheaflaw17_StageJoins_30 c_sheaflaw17_StageJoins_35)
@[go_sem] theorem c_sheaflaw17_StageJoins_36_at (rd : Option Nat) (K : Post3) (t : Fr) (m : Mem) : wpM E 6 221 rd c_sheaflaw17_StageJoins_36 K t m = wpM E 6 221 rd (.seq c_sheaflaw17_StageJoins_30 c_sheaflaw17_StageJoins_35) K t m := rfl

def c_sheaflaw17_StageJoins_37 : MC := (.seq (.ops [⟨(some 115), .binOp .lss 3 (.tmp 114) (.tmp 113) 3, none⟩]) c_sheaflaw17_StageJoins_36)
@[go_sem] theorem c_sheaflaw17_StageJoins_37_at (rd : Option Nat) (K : Post3) (t : Fr) (m : Mem) : wpM E 6 221 rd c_sheaflaw17_StageJoins_37 K t m = wpM E 6 221 rd (.seq (.ops [⟨(some 115), .binOp .lss 3 (.tmp 114) (.tmp 113) 3, none⟩]) c_sheaflaw17_StageJoins_36) K t m := rfl

def c_sheaflaw17_StageJoins_38 : MC := (.loop c_sheaflaw17_StageJoins_37)
theorem c_sheaflaw17_StageJoins_38_at (rd : Option Nat) (K : Post3) (t : Fr) (m : Mem) : wpM E 6 221 rd c_sheaflaw17_StageJoins_38 K t m = wpM E 6 221 rd (.loop c_sheaflaw17_StageJoins_37) K t m := rfl

def c_sheaflaw17_StageJoins_39 : MC := (.block 6 c_sheaflaw17_StageJoins_38)
theorem c_sheaflaw17_StageJoins_39_at (rd : Option Nat) (K : Post3) (t : Fr) (m : Mem) : wpM E 6 221 rd c_sheaflaw17_StageJoins_39 K t m = wpM E 6 221 rd (.block 6 c_sheaflaw17_StageJoins_38) K t m := rfl

def c_sheaflaw17_StageJoins_40 : MC := (.seq (.ops [⟨(some 112), .load 23 (.tmp 8), none⟩,
    ⟨(some 113), .call ⟨.builtin .len, #[(.tmp 112)], #[23]⟩, none⟩,
    ⟨(some 114), .move (.const (.int .i64 0)), none⟩]) c_sheaflaw17_StageJoins_39)
@[go_sem] theorem c_sheaflaw17_StageJoins_40_at (rd : Option Nat) (K : Post3) (t : Fr) (m : Mem) : wpM E 6 221 rd c_sheaflaw17_StageJoins_40 K t m = wpM E 6 221 rd (.seq (.ops [⟨(some 112), .load 23 (.tmp 8), none⟩,
    ⟨(some 113), .call ⟨.builtin .len, #[(.tmp 112)], #[23]⟩, none⟩,
    ⟨(some 114), .move (.const (.int .i64 0)), none⟩]) c_sheaflaw17_StageJoins_39) K t m := rfl

def c_sheaflaw17_StageJoins_41 : MC := (.seq (.ops [⟨none, .store 4 (.tmp 6) (.const (.bool false)), none⟩]) .ret)
@[go_sem] theorem c_sheaflaw17_StageJoins_41_at (rd : Option Nat) (K : Post3) (t : Fr) (m : Mem) : wpM E 6 221 rd c_sheaflaw17_StageJoins_41 K t m = wpM E 6 221 rd (.seq (.ops [⟨none, .store 4 (.tmp 6) (.const (.bool false)), none⟩]) .ret) K t m := rfl

def c_sheaflaw17_StageJoins_42 : MC := (.seq (.ops [⟨none, .store 4 (.tmp 6) (.const (.bool false)), none⟩]) .ret)
@[go_sem] theorem c_sheaflaw17_StageJoins_42_at (rd : Option Nat) (K : Post3) (t : Fr) (m : Mem) : wpM E 6 221 rd c_sheaflaw17_StageJoins_42 K t m = wpM E 6 221 rd (.seq (.ops [⟨none, .store 4 (.tmp 6) (.const (.bool false)), none⟩]) .ret) K t m := rfl

def c_sheaflaw17_StageJoins_43 : MC := (.seq (.ops [⟨none, .store 4 (.tmp 6) (.const (.bool false)), none⟩]) .ret)
@[go_sem] theorem c_sheaflaw17_StageJoins_43_at (rd : Option Nat) (K : Post3) (t : Fr) (m : Mem) : wpM E 6 221 rd c_sheaflaw17_StageJoins_43 K t m = wpM E 6 221 rd (.seq (.ops [⟨none, .store 4 (.tmp 6) (.const (.bool false)), none⟩]) .ret) K t m := rfl

def c_sheaflaw17_StageJoins_44 : MC := (.seq (.ops [⟨none, .store 4 (.tmp 6) (.const (.bool false)), none⟩]) .ret)
@[go_sem] theorem c_sheaflaw17_StageJoins_44_at (rd : Option Nat) (K : Post3) (t : Fr) (m : Mem) : wpM E 6 221 rd c_sheaflaw17_StageJoins_44 K t m = wpM E 6 221 rd (.seq (.ops [⟨none, .store 4 (.tmp 6) (.const (.bool false)), none⟩]) .ret) K t m := rfl

def c_sheaflaw17_StageJoins_45 : MC := (.cond (.tmp 177) c_sheaflaw17_StageJoins_44 .skip)
@[go_sem] theorem c_sheaflaw17_StageJoins_45_at (rd : Option Nat) (K : Post3) (t : Fr) (m : Mem) : wpM E 6 221 rd c_sheaflaw17_StageJoins_45 K t m = wpM E 6 221 rd (.cond (.tmp 177) c_sheaflaw17_StageJoins_44 .skip) K t m := rfl

def c_sheaflaw17_StageJoins_46 : MC := (.seq (.ops [⟨(some 178), .load 4 (.tmp 5), none⟩,
    ⟨(some 179), .unOp .not 4 (.tmp 178), none⟩,
    ⟨(some 180), .move (.tmp 179), none⟩,
    ⟨(some 181), .move (.tmp 18), (some (some 180, true))⟩,
    ⟨(some 182), .call ⟨.builtin .len, #[(.tmp 181)], #[22]⟩, (some (some 180, true))⟩,
    ⟨(some 183), .binOp .gtr 3 (.tmp 182) (.const (.int .i64 0)) 3, (some (some 180, true))⟩,
    ⟨(some 184), .pick (.tmp 180) (.tmp 183) (.const (.bool false)), none⟩,
    ⟨(some 185), .move (.tmp 184), none⟩,
    ⟨(some 186), .move (.tmp 17), (some (some 185, true))⟩,
    ⟨(some 187), .binOp .neq 3 (.tmp 186) (.const (.int .i64 0)) 3, (some (some 185, true))⟩,
    ⟨(some 188), .move (.tmp 187), (some (some 185, true))⟩,
    ⟨(some 189), .move (.tmp 16), (some (some 188, false))⟩,
    ⟨(some 190), .call ⟨.builtin .len, #[(.tmp 189)], #[22]⟩, (some (some 188, false))⟩,
    ⟨(some 191), .binOp .neq 3 (.tmp 190) (.const (.int .i64 8)) 3, (some (some 188, false))⟩,
    ⟨(some 192), .pick (.tmp 188) (.const (.bool true)) (.tmp 191), (some (some 185, true))⟩,
    ⟨(some 193), .move (.tmp 192), (some (some 185, true))⟩,
    ⟨(some 194), .move (.tmp 16), (some (some 193, false))⟩,
    ⟨(some 195), .indexAddr 22 (.tmp 194) (.const (.int .i64 6)), (some (some 193, false))⟩,
    ⟨(some 196), .load 3 (.tmp 195), (some (some 193, false))⟩,
    ⟨(some 197), .move (.tmp 18), (some (some 193, false))⟩,
    ⟨(some 198), .indexAddr 22 (.tmp 197) (.const (.int .i64 1)), (some (some 193, false))⟩,
    ⟨(some 199), .load 3 (.tmp 198), (some (some 193, false))⟩,
    ⟨(some 200), .binOp .neq 3 (.tmp 196) (.tmp 199) 3, (some (some 193, false))⟩,
    ⟨(some 201), .pick (.tmp 193) (.const (.bool true)) (.tmp 200), (some (some 185, true))⟩,
    ⟨(some 202), .move (.tmp 201), (some (some 185, true))⟩,
    ⟨(some 203), .move (.tmp 16), (some (some 202, false))⟩,
    ⟨(some 204), .indexAddr 22 (.tmp 203) (.const (.int .i64 7)), (some (some 202, false))⟩,
    ⟨(some 205), .load 3 (.tmp 204), (some (some 202, false))⟩,
    ⟨(some 206), .move (.tmp 18), (some (some 202, false))⟩,
    ⟨(some 207), .indexAddr 22 (.tmp 206) (.const (.int .i64 2)), (some (some 202, false))⟩,
    ⟨(some 208), .load 3 (.tmp 207), (some (some 202, false))⟩,
    ⟨(some 209), .binOp .neq 3 (.tmp 205) (.tmp 208) 3, (some (some 202, false))⟩,
    ⟨(some 210), .pick (.tmp 202) (.const (.bool true)) (.tmp 209), (some (some 185, true))⟩,
    ⟨(some 211), .pick (.tmp 185) (.tmp 210) (.const (.bool false)), none⟩,
    ⟨(some 177), .assign (.tmp 211), none⟩]) c_sheaflaw17_StageJoins_45)
@[go_sem] theorem c_sheaflaw17_StageJoins_46_at (rd : Option Nat) (K : Post3) (t : Fr) (m : Mem) : wpM E 6 221 rd c_sheaflaw17_StageJoins_46 K t m = wpM E 6 221 rd (.seq (.ops [⟨(some 178), .load 4 (.tmp 5), none⟩,
    ⟨(some 179), .unOp .not 4 (.tmp 178), none⟩,
    ⟨(some 180), .move (.tmp 179), none⟩,
    ⟨(some 181), .move (.tmp 18), (some (some 180, true))⟩,
    ⟨(some 182), .call ⟨.builtin .len, #[(.tmp 181)], #[22]⟩, (some (some 180, true))⟩,
    ⟨(some 183), .binOp .gtr 3 (.tmp 182) (.const (.int .i64 0)) 3, (some (some 180, true))⟩,
    ⟨(some 184), .pick (.tmp 180) (.tmp 183) (.const (.bool false)), none⟩,
    ⟨(some 185), .move (.tmp 184), none⟩,
    ⟨(some 186), .move (.tmp 17), (some (some 185, true))⟩,
    ⟨(some 187), .binOp .neq 3 (.tmp 186) (.const (.int .i64 0)) 3, (some (some 185, true))⟩,
    ⟨(some 188), .move (.tmp 187), (some (some 185, true))⟩,
    ⟨(some 189), .move (.tmp 16), (some (some 188, false))⟩,
    ⟨(some 190), .call ⟨.builtin .len, #[(.tmp 189)], #[22]⟩, (some (some 188, false))⟩,
    ⟨(some 191), .binOp .neq 3 (.tmp 190) (.const (.int .i64 8)) 3, (some (some 188, false))⟩,
    ⟨(some 192), .pick (.tmp 188) (.const (.bool true)) (.tmp 191), (some (some 185, true))⟩,
    ⟨(some 193), .move (.tmp 192), (some (some 185, true))⟩,
    ⟨(some 194), .move (.tmp 16), (some (some 193, false))⟩,
    ⟨(some 195), .indexAddr 22 (.tmp 194) (.const (.int .i64 6)), (some (some 193, false))⟩,
    ⟨(some 196), .load 3 (.tmp 195), (some (some 193, false))⟩,
    ⟨(some 197), .move (.tmp 18), (some (some 193, false))⟩,
    ⟨(some 198), .indexAddr 22 (.tmp 197) (.const (.int .i64 1)), (some (some 193, false))⟩,
    ⟨(some 199), .load 3 (.tmp 198), (some (some 193, false))⟩,
    ⟨(some 200), .binOp .neq 3 (.tmp 196) (.tmp 199) 3, (some (some 193, false))⟩,
    ⟨(some 201), .pick (.tmp 193) (.const (.bool true)) (.tmp 200), (some (some 185, true))⟩,
    ⟨(some 202), .move (.tmp 201), (some (some 185, true))⟩,
    ⟨(some 203), .move (.tmp 16), (some (some 202, false))⟩,
    ⟨(some 204), .indexAddr 22 (.tmp 203) (.const (.int .i64 7)), (some (some 202, false))⟩,
    ⟨(some 205), .load 3 (.tmp 204), (some (some 202, false))⟩,
    ⟨(some 206), .move (.tmp 18), (some (some 202, false))⟩,
    ⟨(some 207), .indexAddr 22 (.tmp 206) (.const (.int .i64 2)), (some (some 202, false))⟩,
    ⟨(some 208), .load 3 (.tmp 207), (some (some 202, false))⟩,
    ⟨(some 209), .binOp .neq 3 (.tmp 205) (.tmp 208) 3, (some (some 202, false))⟩,
    ⟨(some 210), .pick (.tmp 202) (.const (.bool true)) (.tmp 209), (some (some 185, true))⟩,
    ⟨(some 211), .pick (.tmp 185) (.tmp 210) (.const (.bool false)), none⟩,
    ⟨(some 177), .assign (.tmp 211), none⟩]) c_sheaflaw17_StageJoins_45) K t m := rfl

def c_sheaflaw17_StageJoins_47 : MC := (.cond (.tmp 160) c_sheaflaw17_StageJoins_43 c_sheaflaw17_StageJoins_46)
@[go_sem] theorem c_sheaflaw17_StageJoins_47_at (rd : Option Nat) (K : Post3) (t : Fr) (m : Mem) : wpM E 6 221 rd c_sheaflaw17_StageJoins_47 K t m = wpM E 6 221 rd (.cond (.tmp 160) c_sheaflaw17_StageJoins_43 c_sheaflaw17_StageJoins_46) K t m := rfl

def c_sheaflaw17_StageJoins_48 : MC := (.seq (.ops [⟨(some 161), .load 4 (.tmp 5), none⟩,
    ⟨(some 162), .unOp .not 4 (.tmp 161), none⟩,
    ⟨(some 163), .move (.tmp 162), none⟩,
    ⟨(some 164), .move (.tmp 18), (some (some 163, true))⟩,
    ⟨(some 165), .call ⟨.builtin .len, #[(.tmp 164)], #[22]⟩, (some (some 163, true))⟩,
    ⟨(some 166), .binOp .eql 3 (.tmp 165) (.const (.int .i64 0)) 3, (some (some 163, true))⟩,
    ⟨(some 167), .pick (.tmp 163) (.tmp 166) (.const (.bool false)), none⟩,
    ⟨(some 168), .move (.tmp 167), none⟩,
    ⟨(some 169), .move (.tmp 17), (some (some 168, true))⟩,
    ⟨(some 170), .binOp .neq 3 (.tmp 169) (.const (.int .i64 4)) 3, (some (some 168, true))⟩,
    ⟨(some 171), .move (.tmp 170), (some (some 168, true))⟩,
    ⟨(some 172), .move (.tmp 16), (some (some 171, false))⟩,
    ⟨(some 173), .call ⟨.builtin .len, #[(.tmp 172)], #[22]⟩, (some (some 171, false))⟩,
    ⟨(some 174), .binOp .neq 3 (.tmp 173) (.const (.int .i64 6)) 3, (some (some 171, false))⟩,
    ⟨(some 175), .pick (.tmp 171) (.const (.bool true)) (.tmp 174), (some (some 168, true))⟩,
    ⟨(some 176), .pick (.tmp 168) (.tmp 175) (.const (.bool false)), none⟩,
    ⟨(some 160), .assign (.tmp 176), none⟩]) c_sheaflaw17_StageJoins_47)
@[go_sem] theorem c_sheaflaw17_StageJoins_48_at (rd : Option Nat) (K : Post3) (t : Fr) (m : Mem) : wpM E 6 221 rd c_sheaflaw17_StageJoins_48 K t m = wpM E 6 221 rd (.seq (.ops [⟨(some 161), .load 4 (.tmp 5), none⟩,
    ⟨(some 162), .unOp .not 4 (.tmp 161), none⟩,
    ⟨(some 163), .move (.tmp 162), none⟩,
    ⟨(some 164), .move (.tmp 18), (some (some 163, true))⟩,
    ⟨(some 165), .call ⟨.builtin .len, #[(.tmp 164)], #[22]⟩, (some (some 163, true))⟩,
    ⟨(some 166), .binOp .eql 3 (.tmp 165) (.const (.int .i64 0)) 3, (some (some 163, true))⟩,
    ⟨(some 167), .pick (.tmp 163) (.tmp 166) (.const (.bool false)), none⟩,
    ⟨(some 168), .move (.tmp 167), none⟩,
    ⟨(some 169), .move (.tmp 17), (some (some 168, true))⟩,
    ⟨(some 170), .binOp .neq 3 (.tmp 169) (.const (.int .i64 4)) 3, (some (some 168, true))⟩,
    ⟨(some 171), .move (.tmp 170), (some (some 168, true))⟩,
    ⟨(some 172), .move (.tmp 16), (some (some 171, false))⟩,
    ⟨(some 173), .call ⟨.builtin .len, #[(.tmp 172)], #[22]⟩, (some (some 171, false))⟩,
    ⟨(some 174), .binOp .neq 3 (.tmp 173) (.const (.int .i64 6)) 3, (some (some 171, false))⟩,
    ⟨(some 175), .pick (.tmp 171) (.const (.bool true)) (.tmp 174), (some (some 168, true))⟩,
    ⟨(some 176), .pick (.tmp 168) (.tmp 175) (.const (.bool false)), none⟩,
    ⟨(some 160), .assign (.tmp 176), none⟩]) c_sheaflaw17_StageJoins_47) K t m := rfl

def c_sheaflaw17_StageJoins_49 : MC := (.cond (.tmp 145) c_sheaflaw17_StageJoins_42 c_sheaflaw17_StageJoins_48)
@[go_sem] theorem c_sheaflaw17_StageJoins_49_at (rd : Option Nat) (K : Post3) (t : Fr) (m : Mem) : wpM E 6 221 rd c_sheaflaw17_StageJoins_49 K t m = wpM E 6 221 rd (.cond (.tmp 145) c_sheaflaw17_StageJoins_42 c_sheaflaw17_StageJoins_48) K t m := rfl

def c_sheaflaw17_StageJoins_50 : MC := (.seq (.ops [⟨(some 146), .load 4 (.tmp 5), none⟩,
    ⟨(some 147), .move (.tmp 146), none⟩,
    ⟨(some 148), .move (.tmp 16), (some (some 147, true))⟩,
    ⟨(some 149), .call ⟨.builtin .len, #[(.tmp 148)], #[22]⟩, (some (some 147, true))⟩,
    ⟨(some 150), .binOp .neq 3 (.tmp 149) (.const (.int .i64 6)) 3, (some (some 147, true))⟩,
    ⟨(some 151), .move (.tmp 150), (some (some 147, true))⟩,
    ⟨(some 152), .move (.tmp 17), (some (some 151, false))⟩,
    ⟨(some 153), .binOp .neq 3 (.tmp 152) (.const (.int .i64 0)) 3, (some (some 151, false))⟩,
    ⟨(some 154), .move (.tmp 153), (some (some 151, false))⟩,
    ⟨(some 155), .move (.tmp 17), (some (some 154, true))⟩,
    ⟨(some 156), .binOp .neq 3 (.tmp 155) (.const (.int .i64 6)) 3, (some (some 154, true))⟩,
    ⟨(some 157), .pick (.tmp 154) (.tmp 156) (.const (.bool false)), (some (some 151, false))⟩,
    ⟨(some 158), .pick (.tmp 151) (.const (.bool true)) (.tmp 157), (some (some 147, true))⟩,
    ⟨(some 159), .pick (.tmp 147) (.tmp 158) (.const (.bool false)), none⟩,
    ⟨(some 145), .assign (.tmp 159), none⟩]) c_sheaflaw17_StageJoins_49)
@[go_sem] theorem c_sheaflaw17_StageJoins_50_at (rd : Option Nat) (K : Post3) (t : Fr) (m : Mem) : wpM E 6 221 rd c_sheaflaw17_StageJoins_50 K t m = wpM E 6 221 rd (.seq (.ops [⟨(some 146), .load 4 (.tmp 5), none⟩,
    ⟨(some 147), .move (.tmp 146), none⟩,
    ⟨(some 148), .move (.tmp 16), (some (some 147, true))⟩,
    ⟨(some 149), .call ⟨.builtin .len, #[(.tmp 148)], #[22]⟩, (some (some 147, true))⟩,
    ⟨(some 150), .binOp .neq 3 (.tmp 149) (.const (.int .i64 6)) 3, (some (some 147, true))⟩,
    ⟨(some 151), .move (.tmp 150), (some (some 147, true))⟩,
    ⟨(some 152), .move (.tmp 17), (some (some 151, false))⟩,
    ⟨(some 153), .binOp .neq 3 (.tmp 152) (.const (.int .i64 0)) 3, (some (some 151, false))⟩,
    ⟨(some 154), .move (.tmp 153), (some (some 151, false))⟩,
    ⟨(some 155), .move (.tmp 17), (some (some 154, true))⟩,
    ⟨(some 156), .binOp .neq 3 (.tmp 155) (.const (.int .i64 6)) 3, (some (some 154, true))⟩,
    ⟨(some 157), .pick (.tmp 154) (.tmp 156) (.const (.bool false)), (some (some 151, false))⟩,
    ⟨(some 158), .pick (.tmp 151) (.const (.bool true)) (.tmp 157), (some (some 147, true))⟩,
    ⟨(some 159), .pick (.tmp 147) (.tmp 158) (.const (.bool false)), none⟩,
    ⟨(some 145), .assign (.tmp 159), none⟩]) c_sheaflaw17_StageJoins_49) K t m := rfl

def c_sheaflaw17_StageJoins_51 : MC := (.cond (.tmp 128) c_sheaflaw17_StageJoins_41 c_sheaflaw17_StageJoins_50)
@[go_sem] theorem c_sheaflaw17_StageJoins_51_at (rd : Option Nat) (K : Post3) (t : Fr) (m : Mem) : wpM E 6 221 rd c_sheaflaw17_StageJoins_51 K t m = wpM E 6 221 rd (.cond (.tmp 128) c_sheaflaw17_StageJoins_41 c_sheaflaw17_StageJoins_50) K t m := rfl

def c_sheaflaw17_StageJoins_52 : MC := (.seq (.ops [⟨(some 129), .load 4 (.tmp 5), none⟩,
    ⟨(some 130), .move (.tmp 129), none⟩,
    ⟨(some 131), .move (.tmp 17), (some (some 130, true))⟩,
    ⟨(some 132), .binOp .neq 3 (.tmp 131) (.const (.int .i64 0)) 3, (some (some 130, true))⟩,
    ⟨(some 133), .move (.tmp 16), (some (some 130, true))⟩,
    ⟨(some 134), .load 3 (.tmp 7), (some (some 130, true))⟩,
    ⟨(some 135), .indexAddr 22 (.tmp 133) (.tmp 134), (some (some 130, true))⟩,
    ⟨(some 136), .load 3 (.tmp 135), (some (some 130, true))⟩,
    ⟨(some 137), .binOp .neq 3 (.tmp 136) (.const (.int .i64 0)) 3, (some (some 130, true))⟩,
    ⟨(some 138), .move (.tmp 137), (some (some 130, true))⟩,
    ⟨(some 139), .move (.tmp 18), (some (some 138, true))⟩,
    ⟨(some 140), .call ⟨.builtin .len, #[(.tmp 139)], #[22]⟩, (some (some 138, true))⟩,
    ⟨(some 141), .binOp .eql 3 (.tmp 140) (.const (.int .i64 0)) 3, (some (some 138, true))⟩,
    ⟨(some 142), .pick (.tmp 138) (.tmp 141) (.const (.bool false)), (some (some 130, true))⟩,
    ⟨(some 143), .binOp .neq 4 (.tmp 132) (.tmp 142) 4, (some (some 130, true))⟩,
    ⟨(some 144), .pick (.tmp 130) (.tmp 143) (.const (.bool false)), none⟩,
    ⟨(some 128), .assign (.tmp 144), none⟩]) c_sheaflaw17_StageJoins_51)
@[go_sem] theorem c_sheaflaw17_StageJoins_52_at (rd : Option Nat) (K : Post3) (t : Fr) (m : Mem) : wpM E 6 221 rd c_sheaflaw17_StageJoins_52 K t m = wpM E 6 221 rd (.seq (.ops [⟨(some 129), .load 4 (.tmp 5), none⟩,
    ⟨(some 130), .move (.tmp 129), none⟩,
    ⟨(some 131), .move (.tmp 17), (some (some 130, true))⟩,
    ⟨(some 132), .binOp .neq 3 (.tmp 131) (.const (.int .i64 0)) 3, (some (some 130, true))⟩,
    ⟨(some 133), .move (.tmp 16), (some (some 130, true))⟩,
    ⟨(some 134), .load 3 (.tmp 7), (some (some 130, true))⟩,
    ⟨(some 135), .indexAddr 22 (.tmp 133) (.tmp 134), (some (some 130, true))⟩,
    ⟨(some 136), .load 3 (.tmp 135), (some (some 130, true))⟩,
    ⟨(some 137), .binOp .neq 3 (.tmp 136) (.const (.int .i64 0)) 3, (some (some 130, true))⟩,
    ⟨(some 138), .move (.tmp 137), (some (some 130, true))⟩,
    ⟨(some 139), .move (.tmp 18), (some (some 138, true))⟩,
    ⟨(some 140), .call ⟨.builtin .len, #[(.tmp 139)], #[22]⟩, (some (some 138, true))⟩,
    ⟨(some 141), .binOp .eql 3 (.tmp 140) (.const (.int .i64 0)) 3, (some (some 138, true))⟩,
    ⟨(some 142), .pick (.tmp 138) (.tmp 141) (.const (.bool false)), (some (some 130, true))⟩,
    ⟨(some 143), .binOp .neq 4 (.tmp 132) (.tmp 142) 4, (some (some 130, true))⟩,
    ⟨(some 144), .pick (.tmp 130) (.tmp 143) (.const (.bool false)), none⟩,
    ⟨(some 128), .assign (.tmp 144), none⟩]) c_sheaflaw17_StageJoins_51) K t m := rfl

def c_sheaflaw17_StageJoins_53 : MC := (.block 8 c_sheaflaw17_StageJoins_52)
@[go_sem] theorem c_sheaflaw17_StageJoins_53_at (rd : Option Nat) (K : Post3) (t : Fr) (m : Mem) : wpM E 6 221 rd c_sheaflaw17_StageJoins_53 K t m = wpM E 6 221 rd (.block 8 c_sheaflaw17_StageJoins_52) K t m := rfl

def c_sheaflaw17_StageJoins_54 : MC := (.seq c_sheaflaw17_StageJoins_53 (.ops [⟨(some 212), .load 3 (.tmp 15), none⟩,
    ⟨(some 213), .binOp .add 3 (.tmp 212) (.const (.int .i64 1)) 3, none⟩,
    ⟨none, .store 3 (.tmp 15) (.tmp 213), none⟩]))
@[go_sem] theorem c_sheaflaw17_StageJoins_54_at (rd : Option Nat) (K : Post3) (t : Fr) (m : Mem) : wpM E 6 221 rd c_sheaflaw17_StageJoins_54 K t m = wpM E 6 221 rd (.seq c_sheaflaw17_StageJoins_53 (.ops [⟨(some 212), .load 3 (.tmp 15), none⟩,
    ⟨(some 213), .binOp .add 3 (.tmp 212) (.const (.int .i64 1)) 3, none⟩,
    ⟨none, .store 3 (.tmp 15) (.tmp 213), none⟩])) K t m := rfl

def c_sheaflaw17_StageJoins_55 : MC := (.seq c_sheaflaw17_StageJoins_40 c_sheaflaw17_StageJoins_54)
@[go_sem] theorem c_sheaflaw17_StageJoins_55_at (rd : Option Nat) (K : Post3) (t : Fr) (m : Mem) : wpM E 6 221 rd c_sheaflaw17_StageJoins_55 K t m = wpM E 6 221 rd (.seq c_sheaflaw17_StageJoins_40 c_sheaflaw17_StageJoins_54) K t m := rfl

def c_sheaflaw17_StageJoins_56 : MC := (.seq (.ops [⟨(some 18), .assign (.const (.slice none 0 0)), none⟩]) c_sheaflaw17_StageJoins_55)
@[go_sem] theorem c_sheaflaw17_StageJoins_56_at (rd : Option Nat) (K : Post3) (t : Fr) (m : Mem) : wpM E 6 221 rd c_sheaflaw17_StageJoins_56 K t m = wpM E 6 221 rd (.seq (.ops [⟨(some 18), .assign (.const (.slice none 0 0)), none⟩]) c_sheaflaw17_StageJoins_55) K t m := rfl

def c_sheaflaw17_StageJoins_57 : MC := (.seq c_sheaflaw17_StageJoins_29 c_sheaflaw17_StageJoins_56)
@[go_sem] theorem c_sheaflaw17_StageJoins_57_at (rd : Option Nat) (K : Post3) (t : Fr) (m : Mem) : wpM E 6 221 rd c_sheaflaw17_StageJoins_57 K t m = wpM E 6 221 rd (.seq c_sheaflaw17_StageJoins_29 c_sheaflaw17_StageJoins_56) K t m := rfl

def c_sheaflaw17_StageJoins_58 : MC := (.block 5 c_sheaflaw17_StageJoins_57)
@[go_sem] theorem c_sheaflaw17_StageJoins_58_at (rd : Option Nat) (K : Post3) (t : Fr) (m : Mem) : wpM E 6 221 rd c_sheaflaw17_StageJoins_58 K t m = wpM E 6 221 rd (.block 5 c_sheaflaw17_StageJoins_57) K t m := rfl

theorem asg_sheaflaw17_StageJoins_0 : compile E 6 221 (asgAt E 6 0) = some c_sheaflaw17_StageJoins_26 := by kernel_rfl

theorem body_sheaflaw17_StageJoins_0 : compile E 6 221 (bodyAt E 6 0) = some c_sheaflaw17_StageJoins_58 := by kernel_rfl

def c_sheaflaw17_StageJoins_59 : MC := (.range (.tmp 90) #[91, 92] (asgAt E 6 0) (bodyAt E 6 0))
theorem c_sheaflaw17_StageJoins_59_at (rd : Option Nat) (K : Post3) (t : Fr) (m : Mem) : wpM E 6 221 rd c_sheaflaw17_StageJoins_59 K t m = wpM E 6 221 rd (.range (.tmp 90) #[91, 92] (asgAt E 6 0) (bodyAt E 6 0)) K t m := rfl

def c_sheaflaw17_StageJoins_60 : MC := (.block 4 c_sheaflaw17_StageJoins_59)
@[go_sem] theorem c_sheaflaw17_StageJoins_60_at (rd : Option Nat) (K : Post3) (t : Fr) (m : Mem) : wpM E 6 221 rd c_sheaflaw17_StageJoins_60 K t m = wpM E 6 221 rd (.block 4 c_sheaflaw17_StageJoins_59) K t m := rfl

def c_sheaflaw17_StageJoins_61 : MC := (.seq (.ops [⟨(some 90), .move (.tmp 14), none⟩]) c_sheaflaw17_StageJoins_60)
@[go_sem] theorem c_sheaflaw17_StageJoins_61_at (rd : Option Nat) (K : Post3) (t : Fr) (m : Mem) : wpM E 6 221 rd c_sheaflaw17_StageJoins_61 K t m = wpM E 6 221 rd (.seq (.ops [⟨(some 90), .move (.tmp 14), none⟩]) c_sheaflaw17_StageJoins_60) K t m := rfl

def c_sheaflaw17_StageJoins_62 : MC := (.seq (.ops [⟨(some 214), .load 3 (.tmp 15), none⟩,
    ⟨(some 215), .load 23 (.tmp 9), none⟩,
    ⟨(some 216), .call ⟨.builtin .len, #[(.tmp 215)], #[23]⟩, none⟩,
    ⟨(some 217), .binOp .eql 3 (.tmp 214) (.tmp 216) 3, none⟩,
    ⟨(some 218), .move (.tmp 217), none⟩,
    ⟨(some 219), .call ⟨.value (.func 3), #[], #[]⟩, (some (some 218, true))⟩,
    ⟨(some 220), .pick (.tmp 218) (.tmp 219) (.const (.bool false)), none⟩,
    ⟨none, .store 4 (.tmp 6) (.tmp 220), none⟩]) .ret)
@[go_sem] theorem c_sheaflaw17_StageJoins_62_at (rd : Option Nat) (K : Post3) (t : Fr) (m : Mem) : wpM E 6 221 rd c_sheaflaw17_StageJoins_62 K t m = wpM E 6 221 rd (.seq (.ops [⟨(some 214), .load 3 (.tmp 15), none⟩,
    ⟨(some 215), .load 23 (.tmp 9), none⟩,
    ⟨(some 216), .call ⟨.builtin .len, #[(.tmp 215)], #[23]⟩, none⟩,
    ⟨(some 217), .binOp .eql 3 (.tmp 214) (.tmp 216) 3, none⟩,
    ⟨(some 218), .move (.tmp 217), none⟩,
    ⟨(some 219), .call ⟨.value (.func 3), #[], #[]⟩, (some (some 218, true))⟩,
    ⟨(some 220), .pick (.tmp 218) (.tmp 219) (.const (.bool false)), none⟩,
    ⟨none, .store 4 (.tmp 6) (.tmp 220), none⟩]) .ret) K t m := rfl

def c_sheaflaw17_StageJoins_63 : MC := (.seq c_sheaflaw17_StageJoins_61 c_sheaflaw17_StageJoins_62)
@[go_sem] theorem c_sheaflaw17_StageJoins_63_at (rd : Option Nat) (K : Post3) (t : Fr) (m : Mem) : wpM E 6 221 rd c_sheaflaw17_StageJoins_63 K t m = wpM E 6 221 rd (.seq c_sheaflaw17_StageJoins_61 c_sheaflaw17_StageJoins_62) K t m := rfl

def c_sheaflaw17_StageJoins_64 : MC := (.seq (.ops [⟨(some 15), .alloc 3, none⟩,
    ⟨none, .store 3 (.tmp 15) (.const (.int .i64 0)), none⟩]) c_sheaflaw17_StageJoins_63)
@[go_sem] theorem c_sheaflaw17_StageJoins_64_at (rd : Option Nat) (K : Post3) (t : Fr) (m : Mem) : wpM E 6 221 rd c_sheaflaw17_StageJoins_64 K t m = wpM E 6 221 rd (.seq (.ops [⟨(some 15), .alloc 3, none⟩,
    ⟨none, .store 3 (.tmp 15) (.const (.int .i64 0)), none⟩]) c_sheaflaw17_StageJoins_63) K t m := rfl

def c_sheaflaw17_StageJoins_65 : MC := (.seq c_sheaflaw17_StageJoins_25 c_sheaflaw17_StageJoins_64)
@[go_sem] theorem c_sheaflaw17_StageJoins_65_at (rd : Option Nat) (K : Post3) (t : Fr) (m : Mem) : wpM E 6 221 rd c_sheaflaw17_StageJoins_65 K t m = wpM E 6 221 rd (.seq c_sheaflaw17_StageJoins_25 c_sheaflaw17_StageJoins_64) K t m := rfl

def c_sheaflaw17_StageJoins_66 : MC := (.seq c_sheaflaw17_StageJoins_22 c_sheaflaw17_StageJoins_65)
@[go_sem] theorem c_sheaflaw17_StageJoins_66_at (rd : Option Nat) (K : Post3) (t : Fr) (m : Mem) : wpM E 6 221 rd c_sheaflaw17_StageJoins_66 K t m = wpM E 6 221 rd (.seq c_sheaflaw17_StageJoins_22 c_sheaflaw17_StageJoins_65) K t m := rfl

def c_sheaflaw17_StageJoins_67 : MC := (.seq (.draw [(0, [], ⟨(some 77), .load 23 (.tmp 9), none⟩),
    (2, [], ⟨(some 79), .load 23 (.tmp 8), none⟩),
    (1, [2], ⟨(some 78), .call ⟨.value (.func 11), #[(.tmp 77)], #[23]⟩, none⟩),
    (3, [], ⟨(some 80), .call ⟨.value (.func 13), #[(.tmp 79)], #[23]⟩, none⟩),
    (4, [], ⟨(some 81), .call ⟨.value (.func 19), #[(.tmp 78), (.tmp 80)], #[30, 33]⟩, none⟩),
    (5, [], ⟨(some 14), .assign (.tmp 81), none⟩)]) c_sheaflaw17_StageJoins_66)
@[go_sem] theorem c_sheaflaw17_StageJoins_67_at (rd : Option Nat) (K : Post3) (t : Fr) (m : Mem) : wpM E 6 221 rd c_sheaflaw17_StageJoins_67 K t m = wpM E 6 221 rd (.seq (.draw [(0, [], ⟨(some 77), .load 23 (.tmp 9), none⟩),
    (2, [], ⟨(some 79), .load 23 (.tmp 8), none⟩),
    (1, [2], ⟨(some 78), .call ⟨.value (.func 11), #[(.tmp 77)], #[23]⟩, none⟩),
    (3, [], ⟨(some 80), .call ⟨.value (.func 13), #[(.tmp 79)], #[23]⟩, none⟩),
    (4, [], ⟨(some 81), .call ⟨.value (.func 19), #[(.tmp 78), (.tmp 80)], #[30, 33]⟩, none⟩),
    (5, [], ⟨(some 14), .assign (.tmp 81), none⟩)]) c_sheaflaw17_StageJoins_66) K t m := rfl

def c_sheaflaw17_StageJoins_68 : MC := (.seq (.ops [⟨(some 73), .load 23 (.tmp 9), none⟩,
    ⟨(some 74), .load 3 (.tmp 7), none⟩,
    ⟨(some 75), .buildSlice 22 1 #[(0, (.tmp 74))], none⟩,
    ⟨(some 76), .call ⟨.value (.func 18), #[(.tmp 73), (.tmp 75)], #[23, 22]⟩, none⟩,
    ⟨none, .store 23 (.tmp 9) (.tmp 76), none⟩]) c_sheaflaw17_StageJoins_67)
@[go_sem] theorem c_sheaflaw17_StageJoins_68_at (rd : Option Nat) (K : Post3) (t : Fr) (m : Mem) : wpM E 6 221 rd c_sheaflaw17_StageJoins_68 K t m = wpM E 6 221 rd (.seq (.ops [⟨(some 73), .load 23 (.tmp 9), none⟩,
    ⟨(some 74), .load 3 (.tmp 7), none⟩,
    ⟨(some 75), .buildSlice 22 1 #[(0, (.tmp 74))], none⟩,
    ⟨(some 76), .call ⟨.value (.func 18), #[(.tmp 73), (.tmp 75)], #[23, 22]⟩, none⟩,
    ⟨none, .store 23 (.tmp 9) (.tmp 76), none⟩]) c_sheaflaw17_StageJoins_67) K t m := rfl

def c_sheaflaw17_StageJoins_69 : MC := (.seq c_sheaflaw17_StageJoins_20 c_sheaflaw17_StageJoins_68)
@[go_sem] theorem c_sheaflaw17_StageJoins_69_at (rd : Option Nat) (K : Post3) (t : Fr) (m : Mem) : wpM E 6 221 rd c_sheaflaw17_StageJoins_69 K t m = wpM E 6 221 rd (.seq c_sheaflaw17_StageJoins_20 c_sheaflaw17_StageJoins_68) K t m := rfl

def c_sheaflaw17_StageJoins_70 : MC := (.seq c_sheaflaw17_StageJoins_10 c_sheaflaw17_StageJoins_69)
@[go_sem] theorem c_sheaflaw17_StageJoins_70_at (rd : Option Nat) (K : Post3) (t : Fr) (m : Mem) : wpM E 6 221 rd c_sheaflaw17_StageJoins_70 K t m = wpM E 6 221 rd (.seq c_sheaflaw17_StageJoins_10 c_sheaflaw17_StageJoins_69) K t m := rfl

def c_sheaflaw17_StageJoins_71 : MC := (.seq (.ops [⟨(some 10), .assign (.const (.int .i64 0)), none⟩]) c_sheaflaw17_StageJoins_70)
@[go_sem] theorem c_sheaflaw17_StageJoins_71_at (rd : Option Nat) (K : Post3) (t : Fr) (m : Mem) : wpM E 6 221 rd c_sheaflaw17_StageJoins_71 K t m = wpM E 6 221 rd (.seq (.ops [⟨(some 10), .assign (.const (.int .i64 0)), none⟩]) c_sheaflaw17_StageJoins_70) K t m := rfl

def c_sheaflaw17_StageJoins_72 : MC := (.seq (.ops [⟨(some 8), .alloc 23, none⟩,
    ⟨(some 9), .alloc 23, none⟩]) c_sheaflaw17_StageJoins_71)
@[go_sem] theorem c_sheaflaw17_StageJoins_72_at (rd : Option Nat) (K : Post3) (t : Fr) (m : Mem) : wpM E 6 221 rd c_sheaflaw17_StageJoins_72 K t m = wpM E 6 221 rd (.seq (.ops [⟨(some 8), .alloc 23, none⟩,
    ⟨(some 9), .alloc 23, none⟩]) c_sheaflaw17_StageJoins_71) K t m := rfl

def c_sheaflaw17_StageJoins_73 : MC := (.seq c_sheaflaw17_StageJoins_1 c_sheaflaw17_StageJoins_72)
@[go_sem] theorem c_sheaflaw17_StageJoins_73_at (rd : Option Nat) (K : Post3) (t : Fr) (m : Mem) : wpM E 6 221 rd c_sheaflaw17_StageJoins_73 K t m = wpM E 6 221 rd (.seq c_sheaflaw17_StageJoins_1 c_sheaflaw17_StageJoins_72) K t m := rfl

def c_sheaflaw17_StageJoins_74 : MC := (.seq (.ops [⟨(some 7), .alloc 3, none⟩,
    ⟨none, .store 3 (.tmp 7) (.const (.int .i64 1)), none⟩]) c_sheaflaw17_StageJoins_73)
@[go_sem] theorem c_sheaflaw17_StageJoins_74_at (rd : Option Nat) (K : Post3) (t : Fr) (m : Mem) : wpM E 6 221 rd c_sheaflaw17_StageJoins_74 K t m = wpM E 6 221 rd (.seq (.ops [⟨(some 7), .alloc 3, none⟩,
    ⟨none, .store 3 (.tmp 7) (.const (.int .i64 1)), none⟩]) c_sheaflaw17_StageJoins_73) K t m := rfl

def c_sheaflaw17_StageJoins_75 : MC := (.seq (.ops [⟨(some 5), .box 4 (.tmp 2), none⟩,
    ⟨(some 6), .alloc 4, none⟩]) c_sheaflaw17_StageJoins_74)
@[go_sem] theorem c_sheaflaw17_StageJoins_75_at (rd : Option Nat) (K : Post3) (t : Fr) (m : Mem) : wpM E 6 221 rd c_sheaflaw17_StageJoins_75 K t m = wpM E 6 221 rd (.seq (.ops [⟨(some 5), .box 4 (.tmp 2), none⟩,
    ⟨(some 6), .alloc 4, none⟩]) c_sheaflaw17_StageJoins_74) K t m := rfl

@[go_sem] theorem some6 : (E.fn 6).isSome = true := by kernel_rfl
set_option maxRecDepth 100000 in
theorem fn_sheaflaw17_StageJoins : FnIs E 6 221 [.cell 6 4] c_sheaflaw17_StageJoins_75 := ⟨by kernel_rfl, by kernel_rfl⟩

end
end Go.Proofs.Ytpabllcacdopdaa.W
