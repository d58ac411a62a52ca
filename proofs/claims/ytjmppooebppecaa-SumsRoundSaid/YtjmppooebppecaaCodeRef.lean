/-
  Compact code, printed by a program of mine (wip/dev/AbsPrint.lean).
-/
import Derived.Test.YtjmppooebppecaaTypes
set_option linter.unusedVariables false
namespace Go.Proofs.Ytjmppooebppecaa.W
open Go.Abs
noncomputable section

/-! sheaf/sheafref16.Total -/
abbrev F_sheafref16_Total : FuncId := 24
def c_sheafref16_Total_0 : MC := (.cond (.tmp 26) .skip (.exit 0))
@[go_sem] theorem c_sheafref16_Total_0_at (rd : Option Nat) (K : Post3) (t : Fr) (m : Mem) : wpM E 24 106 rd c_sheafref16_Total_0 K t m = wpM E 24 106 rd (.cond (.tmp 26) .skip (.exit 0)) K t m := rfl

def c_sheafref16_Total_1 : MC := (.cond (.tmp 32) (.exit 1) .skip)
@[go_sem] theorem c_sheafref16_Total_1_at (rd : Option Nat) (K : Post3) (t : Fr) (m : Mem) : wpM E 24 106 rd c_sheafref16_Total_1 K t m = wpM E 24 106 rd (.cond (.tmp 32) (.exit 1) .skip) K t m := rfl

def c_sheafref16_Total_2 : MC := (.seq (.ops [⟨(some 30), .move (.tmp 9), none⟩,
    ⟨(some 31), .move (.tmp 10), none⟩,
    ⟨(some 32), .lookup 79 (.tmp 30) (.tmp 31) false, none⟩]) c_sheafref16_Total_1)
@[go_sem] theorem c_sheafref16_Total_2_at (rd : Option Nat) (K : Post3) (t : Fr) (m : Mem) : wpM E 24 106 rd c_sheafref16_Total_2 K t m = wpM E 24 106 rd (.seq (.ops [⟨(some 30), .move (.tmp 9), none⟩,
    ⟨(some 31), .move (.tmp 10), none⟩,
    ⟨(some 32), .lookup 79 (.tmp 30) (.tmp 31) false, none⟩]) c_sheafref16_Total_1) K t m := rfl

def c_sheafref16_Total_3 : MC := (.cond (.tmp 37) .skip (.exit 2))
@[go_sem] theorem c_sheafref16_Total_3_at (rd : Option Nat) (K : Post3) (t : Fr) (m : Mem) : wpM E 24 106 rd c_sheafref16_Total_3 K t m = wpM E 24 106 rd (.cond (.tmp 37) .skip (.exit 2)) K t m := rfl

def c_sheafref16_Total_4 : MC := (.seq (.ops [⟨(some 34), .move (.tmp 13), none⟩,
    ⟨(some 35), .move (.tmp 0), none⟩,
    ⟨(some 36), .call ⟨.builtin .len, #[(.tmp 35)], #[40]⟩, none⟩,
    ⟨(some 37), .binOp .lss 3 (.tmp 34) (.tmp 36) 3, none⟩]) c_sheafref16_Total_3)
@[go_sem] theorem c_sheafref16_Total_4_at (rd : Option Nat) (K : Post3) (t : Fr) (m : Mem) : wpM E 24 106 rd c_sheafref16_Total_4 K t m = wpM E 24 106 rd (.seq (.ops [⟨(some 34), .move (.tmp 13), none⟩,
    ⟨(some 35), .move (.tmp 0), none⟩,
    ⟨(some 36), .call ⟨.builtin .len, #[(.tmp 35)], #[40]⟩, none⟩,
    ⟨(some 37), .binOp .lss 3 (.tmp 34) (.tmp 36) 3, none⟩]) c_sheafref16_Total_3) K t m := rfl

def c_sheafref16_Total_5 : MC := (.cond (.tmp 43) .skip (.exit 4))
@[go_sem] theorem c_sheafref16_Total_5_at (rd : Option Nat) (K : Post3) (t : Fr) (m : Mem) : wpM E 24 106 rd c_sheafref16_Total_5 K t m = wpM E 24 106 rd (.cond (.tmp 43) .skip (.exit 4)) K t m := rfl

def c_sheafref16_Total_6 : MC := (.seq (.ops [⟨(some 44), .indexAddr 22 (.tmp 40) (.tmp 42), none⟩,
    ⟨(some 45), .load 3 (.tmp 44), none⟩,
    ⟨(some 16), .assign (.tmp 45), none⟩]) (.ops [⟨(some 46), .move (.tmp 14), none⟩,
    ⟨(some 47), .move (.tmp 46), none⟩,
    ⟨(some 48), .move (.tmp 0), (some (some 47, true))⟩,
    ⟨(some 49), .move (.tmp 13), (some (some 47, true))⟩,
    ⟨(some 50), .indexAddr 40 (.tmp 48) (.tmp 49), (some (some 47, true))⟩,
    ⟨(some 51), .load 22 (.tmp 50), (some (some 47, true))⟩,
    ⟨(some 52), .move (.tmp 16), (some (some 47, true))⟩,
    ⟨(some 53), .indexAddr 22 (.tmp 51) (.tmp 52), (some (some 47, true))⟩,
    ⟨(some 54), .load 3 (.tmp 53), (some (some 47, true))⟩,
    ⟨(some 55), .move (.tmp 11), (some (some 47, true))⟩,
    ⟨(some 56), .move (.tmp 16), (some (some 47, true))⟩,
    ⟨(some 57), .indexAddr 22 (.tmp 55) (.tmp 56), (some (some 47, true))⟩,
    ⟨(some 58), .load 3 (.tmp 57), (some (some 47, true))⟩,
    ⟨(some 59), .binOp .eql 3 (.tmp 54) (.tmp 58) 3, (some (some 47, true))⟩,
    ⟨(some 60), .pick (.tmp 47) (.tmp 59) (.const (.bool false)), none⟩,
    ⟨(some 14), .assign (.tmp 60), none⟩]))
@[go_sem] theorem c_sheafref16_Total_6_at (rd : Option Nat) (K : Post3) (t : Fr) (m : Mem) : wpM E 24 106 rd c_sheafref16_Total_6 K t m = wpM E 24 106 rd (.seq (.ops [⟨(some 44), .indexAddr 22 (.tmp 40) (.tmp 42), none⟩,
    ⟨(some 45), .load 3 (.tmp 44), none⟩,
    ⟨(some 16), .assign (.tmp 45), none⟩]) (.ops [⟨(some 46), .move (.tmp 14), none⟩,
    ⟨(some 47), .move (.tmp 46), none⟩,
    ⟨(some 48), .move (.tmp 0), (some (some 47, true))⟩,
    ⟨(some 49), .move (.tmp 13), (some (some 47, true))⟩,
    ⟨(some 50), .indexAddr 40 (.tmp 48) (.tmp 49), (some (some 47, true))⟩,
    ⟨(some 51), .load 22 (.tmp 50), (some (some 47, true))⟩,
    ⟨(some 52), .move (.tmp 16), (some (some 47, true))⟩,
    ⟨(some 53), .indexAddr 22 (.tmp 51) (.tmp 52), (some (some 47, true))⟩,
    ⟨(some 54), .load 3 (.tmp 53), (some (some 47, true))⟩,
    ⟨(some 55), .move (.tmp 11), (some (some 47, true))⟩,
    ⟨(some 56), .move (.tmp 16), (some (some 47, true))⟩,
    ⟨(some 57), .indexAddr 22 (.tmp 55) (.tmp 56), (some (some 47, true))⟩,
    ⟨(some 58), .load 3 (.tmp 57), (some (some 47, true))⟩,
    ⟨(some 59), .binOp .eql 3 (.tmp 54) (.tmp 58) 3, (some (some 47, true))⟩,
    ⟨(some 60), .pick (.tmp 47) (.tmp 59) (.const (.bool false)), none⟩,
    ⟨(some 14), .assign (.tmp 60), none⟩])) K t m := rfl

def c_sheafref16_Total_7 : MC := (.block 5 c_sheafref16_Total_6)
@[go_sem] theorem c_sheafref16_Total_7_at (rd : Option Nat) (K : Post3) (t : Fr) (m : Mem) : wpM E 24 106 rd c_sheafref16_Total_7 K t m = wpM E 24 106 rd (.block 5 c_sheafref16_Total_6) K t m := rfl

def c_sheafref16_Total_8 : MC := (.seq c_sheafref16_Total_7 (.ops [⟨(some 61), .binOp .add 3 (.tmp 42) (.const (.int .i64 1)) 3, none⟩,
    ⟨(some 42), .move (.tmp 61), none⟩]))
@[go_sem] theorem c_sheafref16_Total_8_at (rd : Option Nat) (K : Post3) (t : Fr) (m : Mem) : wpM E 24 106 rd c_sheafref16_Total_8 K t m = wpM E 24 106 rd (.seq c_sheafref16_Total_7 (.ops [⟨(some 61), .binOp .add 3 (.tmp 42) (.const (.int .i64 1)) 3, none⟩,
    ⟨(some 42), .move (.tmp 61), none⟩])) K t m := rfl

def c_sheafref16_Total_9 : MC := (.seq c_sheafref16_Total_5 c_sheafref16_Total_8)
@[go_sem] theorem c_sheafref16_Total_9_at (rd : Option Nat) (K : Post3) (t : Fr) (m : Mem) : wpM E 24 106 rd c_sheafref16_Total_9 K t m = wpM E 24 106 rd (.seq c_sheafref16_Total_5 c_sheafref16_Total_8) K t m := rfl

def c_sheafref16_Total_10 : MC := (.seq (.ops [⟨(some 43), .binOp .lss 3 (.tmp 42) (.tmp 41) 3, none⟩]) c_sheafref16_Total_9)
@[go_sem] theorem c_sheafref16_Total_10_at (rd : Option Nat) (K : Post3) (t : Fr) (m : Mem) : wpM E 24 106 rd c_sheafref16_Total_10 K t m = wpM E 24 106 rd (.seq (.ops [⟨(some 43), .binOp .lss 3 (.tmp 42) (.tmp 41) 3, none⟩]) c_sheafref16_Total_9) K t m := rfl

def c_sheafref16_Total_11 : MC := (.loop c_sheafref16_Total_10)
theorem c_sheafref16_Total_11_at (rd : Option Nat) (K : Post3) (t : Fr) (m : Mem) : wpM E 24 106 rd c_sheafref16_Total_11 K t m = wpM E 24 106 rd (.loop c_sheafref16_Total_10) K t m := rfl

def c_sheafref16_Total_12 : MC := (.block 4 c_sheafref16_Total_11)
theorem c_sheafref16_Total_12_at (rd : Option Nat) (K : Post3) (t : Fr) (m : Mem) : wpM E 24 106 rd c_sheafref16_Total_12 K t m = wpM E 24 106 rd (.block 4 c_sheafref16_Total_11) K t m := rfl

def c_sheafref16_Total_13 : MC := (.seq (.ops [⟨(some 40), .move (.tmp 1), none⟩,
    ⟨(some 41), .call ⟨.builtin .len, #[(.tmp 40)], #[22]⟩, none⟩,
    ⟨(some 42), .move (.const (.int .i64 0)), none⟩]) c_sheafref16_Total_12)
@[go_sem] theorem c_sheafref16_Total_13_at (rd : Option Nat) (K : Post3) (t : Fr) (m : Mem) : wpM E 24 106 rd c_sheafref16_Total_13 K t m = wpM E 24 106 rd (.seq (.ops [⟨(some 40), .move (.tmp 1), none⟩,
    ⟨(some 41), .call ⟨.builtin .len, #[(.tmp 40)], #[22]⟩, none⟩,
    ⟨(some 42), .move (.const (.int .i64 0)), none⟩]) c_sheafref16_Total_12) K t m := rfl

def c_sheafref16_Total_14 : MC := (.seq (.ops [⟨(some 63), .move (.tmp 9), none⟩,
    ⟨(some 64), .move (.tmp 13), none⟩,
    ⟨none, .mapUpdate 79 (.tmp 63) (.tmp 64) (.const (.bool true)), none⟩]) (.draw [(0, [], ⟨(some 65), .load 27 (.tmp 12), none⟩),
    (1, [], ⟨(some 66), .move (.tmp 0), none⟩),
    (2, [], ⟨(some 67), .move (.tmp 13), none⟩),
    (3, [], ⟨(some 68), .indexAddr 40 (.tmp 66) (.tmp 67), none⟩),
    (4, [], ⟨(some 69), .load 22 (.tmp 68), none⟩),
    (5, [], ⟨(some 70), .move (.tmp 2), none⟩),
    (6, [], ⟨(some 71), .indexAddr 22 (.tmp 69) (.tmp 70), none⟩),
    (7, [], ⟨(some 72), .load 3 (.tmp 71), none⟩),
    (8, [0], ⟨(some 73), .call ⟨.value (.func 41), #[(.tmp 72)], #[3]⟩, none⟩),
    (9, [], ⟨(some 74), .call ⟨.value (.func 40), #[(.tmp 65), (.tmp 73)], #[27, 27]⟩, none⟩),
    (10, [], ⟨none, .store 27 (.tmp 12) (.tmp 74), none⟩)]))
@[go_sem] theorem c_sheafref16_Total_14_at (rd : Option Nat) (K : Post3) (t : Fr) (m : Mem) : wpM E 24 106 rd c_sheafref16_Total_14 K t m = wpM E 24 106 rd (.seq (.ops [⟨(some 63), .move (.tmp 9), none⟩,
    ⟨(some 64), .move (.tmp 13), none⟩,
    ⟨none, .mapUpdate 79 (.tmp 63) (.tmp 64) (.const (.bool true)), none⟩]) (.draw [(0, [], ⟨(some 65), .load 27 (.tmp 12), none⟩),
    (1, [], ⟨(some 66), .move (.tmp 0), none⟩),
    (2, [], ⟨(some 67), .move (.tmp 13), none⟩),
    (3, [], ⟨(some 68), .indexAddr 40 (.tmp 66) (.tmp 67), none⟩),
    (4, [], ⟨(some 69), .load 22 (.tmp 68), none⟩),
    (5, [], ⟨(some 70), .move (.tmp 2), none⟩),
    (6, [], ⟨(some 71), .indexAddr 22 (.tmp 69) (.tmp 70), none⟩),
    (7, [], ⟨(some 72), .load 3 (.tmp 71), none⟩),
    (8, [0], ⟨(some 73), .call ⟨.value (.func 41), #[(.tmp 72)], #[3]⟩, none⟩),
    (9, [], ⟨(some 74), .call ⟨.value (.func 40), #[(.tmp 65), (.tmp 73)], #[27, 27]⟩, none⟩),
    (10, [], ⟨none, .store 27 (.tmp 12) (.tmp 74), none⟩)])) K t m := rfl

def c_sheafref16_Total_15 : MC := (.cond (.tmp 62) c_sheafref16_Total_14 .skip)
@[go_sem] theorem c_sheafref16_Total_15_at (rd : Option Nat) (K : Post3) (t : Fr) (m : Mem) : wpM E 24 106 rd c_sheafref16_Total_15 K t m = wpM E 24 106 rd (.cond (.tmp 62) c_sheafref16_Total_14 .skip) K t m := rfl

def c_sheafref16_Total_16 : MC := (.seq (.ops [⟨(some 62), .move (.tmp 14), none⟩]) c_sheafref16_Total_15)
@[go_sem] theorem c_sheafref16_Total_16_at (rd : Option Nat) (K : Post3) (t : Fr) (m : Mem) : wpM E 24 106 rd c_sheafref16_Total_16 K t m = wpM E 24 106 rd (.seq (.ops [⟨(some 62), .move (.tmp 14), none⟩]) c_sheafref16_Total_15) K t m := rfl

def c_sheafref16_Total_17 : MC := (.seq c_sheafref16_Total_13 c_sheafref16_Total_16)
@[go_sem] theorem c_sheafref16_Total_17_at (rd : Option Nat) (K : Post3) (t : Fr) (m : Mem) : wpM E 24 106 rd c_sheafref16_Total_17 K t m = wpM E 24 106 rd (.seq c_sheafref16_Total_13 c_sheafref16_Total_16) K t m := rfl

def c_sheafref16_Total_18 : MC := (.seq (.ops [⟨(some 14), .assign (.const (.bool true)), none⟩]) c_sheafref16_Total_17)
@[go_sem] theorem c_sheafref16_Total_18_at (rd : Option Nat) (K : Post3) (t : Fr) (m : Mem) : wpM E 24 106 rd c_sheafref16_Total_18 K t m = wpM E 24 106 rd (.seq (.ops [⟨(some 14), .assign (.const (.bool true)), none⟩]) c_sheafref16_Total_17) K t m := rfl

def c_sheafref16_Total_19 : MC := (.block 3 c_sheafref16_Total_18)
@[go_sem] theorem c_sheafref16_Total_19_at (rd : Option Nat) (K : Post3) (t : Fr) (m : Mem) : wpM E 24 106 rd c_sheafref16_Total_19 K t m = wpM E 24 106 rd (.block 3 c_sheafref16_Total_18) K t m := rfl

def c_sheafref16_Total_20 : MC := (.seq c_sheafref16_Total_19 (.ops [⟨(some 38), .move (.tmp 13), none⟩,
    ⟨(some 39), .binOp .add 3 (.tmp 38) (.const (.int .i64 1)) 3, none⟩,
    ⟨(some 13), .assign (.tmp 39), none⟩]))
@[go_sem] theorem c_sheafref16_Total_20_at (rd : Option Nat) (K : Post3) (t : Fr) (m : Mem) : wpM E 24 106 rd c_sheafref16_Total_20 K t m = wpM E 24 106 rd (.seq c_sheafref16_Total_19 (.ops [⟨(some 38), .move (.tmp 13), none⟩,
    ⟨(some 39), .binOp .add 3 (.tmp 38) (.const (.int .i64 1)) 3, none⟩,
    ⟨(some 13), .assign (.tmp 39), none⟩])) K t m := rfl

def c_sheafref16_Total_21 : MC := (.seq c_sheafref16_Total_4 c_sheafref16_Total_20)
@[go_sem] theorem c_sheafref16_Total_21_at (rd : Option Nat) (K : Post3) (t : Fr) (m : Mem) : wpM E 24 106 rd c_sheafref16_Total_21 K t m = wpM E 24 106 rd (.seq c_sheafref16_Total_4 c_sheafref16_Total_20) K t m := rfl

def c_sheafref16_Total_22 : MC := (.loop c_sheafref16_Total_21)
theorem c_sheafref16_Total_22_at (rd : Option Nat) (K : Post3) (t : Fr) (m : Mem) : wpM E 24 106 rd c_sheafref16_Total_22 K t m = wpM E 24 106 rd (.loop c_sheafref16_Total_21) K t m := rfl

def c_sheafref16_Total_23 : MC := (.block 2 c_sheafref16_Total_22)
theorem c_sheafref16_Total_23_at (rd : Option Nat) (K : Post3) (t : Fr) (m : Mem) : wpM E 24 106 rd c_sheafref16_Total_23 K t m = wpM E 24 106 rd (.block 2 c_sheafref16_Total_22) K t m := rfl

def c_sheafref16_Total_24 : MC := (.seq (.ops [⟨(some 33), .move (.tmp 10), none⟩,
    ⟨(some 13), .assign (.tmp 33), none⟩]) c_sheafref16_Total_23)
@[go_sem] theorem c_sheafref16_Total_24_at (rd : Option Nat) (K : Post3) (t : Fr) (m : Mem) : wpM E 24 106 rd c_sheafref16_Total_24 K t m = wpM E 24 106 rd (.seq (.ops [⟨(some 33), .move (.tmp 10), none⟩,
    ⟨(some 13), .assign (.tmp 33), none⟩]) c_sheafref16_Total_23) K t m := rfl

def c_sheafref16_Total_25 : MC := (.seq (.ops [⟨(some 6), .assign (.const (.slice none 0 0)), none⟩,
    ⟨(some 7), .assign (.const (.bool false)), none⟩]) .ret)
@[go_sem] theorem c_sheafref16_Total_25_at (rd : Option Nat) (K : Post3) (t : Fr) (m : Mem) : wpM E 24 106 rd c_sheafref16_Total_25 K t m = wpM E 24 106 rd (.seq (.ops [⟨(some 6), .assign (.const (.slice none 0 0)), none⟩,
    ⟨(some 7), .assign (.const (.bool false)), none⟩]) .ret) K t m := rfl

def c_sheafref16_Total_26 : MC := (.cond (.tmp 81) c_sheafref16_Total_25 .skip)
@[go_sem] theorem c_sheafref16_Total_26_at (rd : Option Nat) (K : Post3) (t : Fr) (m : Mem) : wpM E 24 106 rd c_sheafref16_Total_26 K t m = wpM E 24 106 rd (.cond (.tmp 81) c_sheafref16_Total_25 .skip) K t m := rfl

def c_sheafref16_Total_27 : MC := (.seq (.ops [⟨(some 80), .move (.tmp 18), none⟩,
    ⟨(some 81), .unOp .not 4 (.tmp 80), none⟩]) c_sheafref16_Total_26)
@[go_sem] theorem c_sheafref16_Total_27_at (rd : Option Nat) (K : Post3) (t : Fr) (m : Mem) : wpM E 24 106 rd c_sheafref16_Total_27 K t m = wpM E 24 106 rd (.seq (.ops [⟨(some 80), .move (.tmp 18), none⟩,
    ⟨(some 81), .unOp .not 4 (.tmp 80), none⟩]) c_sheafref16_Total_26) K t m := rfl

def c_sheafref16_Total_28 : MC := (.cond (.tmp 85) .skip (.exit 6))
@[go_sem] theorem c_sheafref16_Total_28_at (rd : Option Nat) (K : Post3) (t : Fr) (m : Mem) : wpM E 24 106 rd c_sheafref16_Total_28 K t m = wpM E 24 106 rd (.cond (.tmp 85) .skip (.exit 6)) K t m := rfl

def c_sheafref16_Total_29 : MC := (.seq (.ops [⟨(some 86), .indexAddr 22 (.tmp 82) (.tmp 84), none⟩,
    ⟨(some 87), .load 3 (.tmp 86), none⟩,
    ⟨(some 21), .assign (.tmp 87), none⟩]) (.ops [⟨(some 88), .move (.tmp 19), none⟩,
    ⟨(some 89), .move (.tmp 11), none⟩,
    ⟨(some 90), .move (.tmp 21), none⟩,
    ⟨(some 91), .indexAddr 22 (.tmp 89) (.tmp 90), none⟩,
    ⟨(some 92), .load 3 (.tmp 91), none⟩,
    ⟨(some 93), .buildSlice 22 1 #[(0, (.tmp 92))], none⟩,
    ⟨(some 94), .call ⟨.builtin .append, #[(.tmp 88), (.tmp 93)], #[22, 22]⟩, none⟩,
    ⟨(some 19), .assign (.tmp 94), none⟩]))
@[go_sem] theorem c_sheafref16_Total_29_at (rd : Option Nat) (K : Post3) (t : Fr) (m : Mem) : wpM E 24 106 rd c_sheafref16_Total_29 K t m = wpM E 24 106 rd (.seq (.ops [⟨(some 86), .indexAddr 22 (.tmp 82) (.tmp 84), none⟩,
    ⟨(some 87), .load 3 (.tmp 86), none⟩,
    ⟨(some 21), .assign (.tmp 87), none⟩]) (.ops [⟨(some 88), .move (.tmp 19), none⟩,
    ⟨(some 89), .move (.tmp 11), none⟩,
    ⟨(some 90), .move (.tmp 21), none⟩,
    ⟨(some 91), .indexAddr 22 (.tmp 89) (.tmp 90), none⟩,
    ⟨(some 92), .load 3 (.tmp 91), none⟩,
    ⟨(some 93), .buildSlice 22 1 #[(0, (.tmp 92))], none⟩,
    ⟨(some 94), .call ⟨.builtin .append, #[(.tmp 88), (.tmp 93)], #[22, 22]⟩, none⟩,
    ⟨(some 19), .assign (.tmp 94), none⟩])) K t m := rfl

def c_sheafref16_Total_30 : MC := (.block 7 c_sheafref16_Total_29)
@[go_sem] theorem c_sheafref16_Total_30_at (rd : Option Nat) (K : Post3) (t : Fr) (m : Mem) : wpM E 24 106 rd c_sheafref16_Total_30 K t m = wpM E 24 106 rd (.block 7 c_sheafref16_Total_29) K t m := rfl

def c_sheafref16_Total_31 : MC := (.seq c_sheafref16_Total_30 (.ops [⟨(some 95), .binOp .add 3 (.tmp 84) (.const (.int .i64 1)) 3, none⟩,
    ⟨(some 84), .move (.tmp 95), none⟩]))
@[go_sem] theorem c_sheafref16_Total_31_at (rd : Option Nat) (K : Post3) (t : Fr) (m : Mem) : wpM E 24 106 rd c_sheafref16_Total_31 K t m = wpM E 24 106 rd (.seq c_sheafref16_Total_30 (.ops [⟨(some 95), .binOp .add 3 (.tmp 84) (.const (.int .i64 1)) 3, none⟩,
    ⟨(some 84), .move (.tmp 95), none⟩])) K t m := rfl

def c_sheafref16_Total_32 : MC := (.seq c_sheafref16_Total_28 c_sheafref16_Total_31)
@[go_sem] theorem c_sheafref16_Total_32_at (rd : Option Nat) (K : Post3) (t : Fr) (m : Mem) : wpM E 24 106 rd c_sheafref16_Total_32 K t m = wpM E 24 106 rd (.seq c_sheafref16_Total_28 c_sheafref16_Total_31) K t m := rfl

def c_sheafref16_Total_33 : MC := (.seq (.ops [⟨(some 85), .binOp .lss 3 (.tmp 84) (.tmp 83) 3, none⟩]) c_sheafref16_Total_32)
@[go_sem] theorem c_sheafref16_Total_33_at (rd : Option Nat) (K : Post3) (t : Fr) (m : Mem) : wpM E 24 106 rd c_sheafref16_Total_33 K t m = wpM E 24 106 rd (.seq (.ops [⟨(some 85), .binOp .lss 3 (.tmp 84) (.tmp 83) 3, none⟩]) c_sheafref16_Total_32) K t m := rfl

def c_sheafref16_Total_34 : MC := (.loop c_sheafref16_Total_33)
theorem c_sheafref16_Total_34_at (rd : Option Nat) (K : Post3) (t : Fr) (m : Mem) : wpM E 24 106 rd c_sheafref16_Total_34 K t m = wpM E 24 106 rd (.loop c_sheafref16_Total_33) K t m := rfl

def c_sheafref16_Total_35 : MC := (.block 6 c_sheafref16_Total_34)
theorem c_sheafref16_Total_35_at (rd : Option Nat) (K : Post3) (t : Fr) (m : Mem) : wpM E 24 106 rd c_sheafref16_Total_35 K t m = wpM E 24 106 rd (.block 6 c_sheafref16_Total_34) K t m := rfl

def c_sheafref16_Total_36 : MC := (.seq (.ops [⟨(some 82), .move (.tmp 1), none⟩,
    ⟨(some 83), .call ⟨.builtin .len, #[(.tmp 82)], #[22]⟩, none⟩,
    ⟨(some 84), .move (.const (.int .i64 0)), none⟩]) c_sheafref16_Total_35)
@[go_sem] theorem c_sheafref16_Total_36_at (rd : Option Nat) (K : Post3) (t : Fr) (m : Mem) : wpM E 24 106 rd c_sheafref16_Total_36 K t m = wpM E 24 106 rd (.seq (.ops [⟨(some 82), .move (.tmp 1), none⟩,
    ⟨(some 83), .call ⟨.builtin .len, #[(.tmp 82)], #[22]⟩, none⟩,
    ⟨(some 84), .move (.const (.int .i64 0)), none⟩]) c_sheafref16_Total_35) K t m := rfl

def c_sheafref16_Total_37 : MC := (.seq c_sheafref16_Total_36 (.ops [⟨(some 96), .move (.tmp 8), none⟩,
    ⟨(some 97), .move (.tmp 19), none⟩,
    ⟨(some 98), .move (.tmp 17), none⟩,
    ⟨(some 99), .buildSlice 22 1 #[(0, (.tmp 98))], none⟩,
    ⟨(some 100), .call ⟨.builtin .append, #[(.tmp 97), (.tmp 99)], #[22, 22]⟩, none⟩,
    ⟨(some 101), .buildSlice 40 1 #[(0, (.tmp 100))], none⟩,
    ⟨(some 102), .call ⟨.builtin .append, #[(.tmp 96), (.tmp 101)], #[40, 40]⟩, none⟩,
    ⟨(some 8), .assign (.tmp 102), none⟩]))
@[go_sem] theorem c_sheafref16_Total_37_at (rd : Option Nat) (K : Post3) (t : Fr) (m : Mem) : wpM E 24 106 rd c_sheafref16_Total_37 K t m = wpM E 24 106 rd (.seq c_sheafref16_Total_36 (.ops [⟨(some 96), .move (.tmp 8), none⟩,
    ⟨(some 97), .move (.tmp 19), none⟩,
    ⟨(some 98), .move (.tmp 17), none⟩,
    ⟨(some 99), .buildSlice 22 1 #[(0, (.tmp 98))], none⟩,
    ⟨(some 100), .call ⟨.builtin .append, #[(.tmp 97), (.tmp 99)], #[22, 22]⟩, none⟩,
    ⟨(some 101), .buildSlice 40 1 #[(0, (.tmp 100))], none⟩,
    ⟨(some 102), .call ⟨.builtin .append, #[(.tmp 96), (.tmp 101)], #[40, 40]⟩, none⟩,
    ⟨(some 8), .assign (.tmp 102), none⟩])) K t m := rfl

def c_sheafref16_Total_38 : MC := (.seq (.ops [⟨(some 19), .assign (.const (.slice none 0 0)), none⟩]) c_sheafref16_Total_37)
@[go_sem] theorem c_sheafref16_Total_38_at (rd : Option Nat) (K : Post3) (t : Fr) (m : Mem) : wpM E 24 106 rd c_sheafref16_Total_38 K t m = wpM E 24 106 rd (.seq (.ops [⟨(some 19), .assign (.const (.slice none 0 0)), none⟩]) c_sheafref16_Total_37) K t m := rfl

def c_sheafref16_Total_39 : MC := (.seq c_sheafref16_Total_27 c_sheafref16_Total_38)
@[go_sem] theorem c_sheafref16_Total_39_at (rd : Option Nat) (K : Post3) (t : Fr) (m : Mem) : wpM E 24 106 rd c_sheafref16_Total_39 K t m = wpM E 24 106 rd (.seq c_sheafref16_Total_27 c_sheafref16_Total_38) K t m := rfl

def c_sheafref16_Total_40 : MC := (.seq (.ops [⟨(some 76), .load 27 (.tmp 12), none⟩,
    ⟨(some 77), .call ⟨.value (.func 42), #[(.tmp 76)], #[27]⟩, none⟩,
    ⟨(some 75), .move (.tmp 77), none⟩,
    ⟨(some 78), .extract (.tmp 75) 0, none⟩,
    ⟨(some 79), .extract (.tmp 75) 1, none⟩,
    ⟨(some 17), .assign (.tmp 78), none⟩,
    ⟨(some 18), .assign (.tmp 79), none⟩]) c_sheafref16_Total_39)
@[go_sem] theorem c_sheafref16_Total_40_at (rd : Option Nat) (K : Post3) (t : Fr) (m : Mem) : wpM E 24 106 rd c_sheafref16_Total_40 K t m = wpM E 24 106 rd (.seq (.ops [⟨(some 76), .load 27 (.tmp 12), none⟩,
    ⟨(some 77), .call ⟨.value (.func 42), #[(.tmp 76)], #[27]⟩, none⟩,
    ⟨(some 75), .move (.tmp 77), none⟩,
    ⟨(some 78), .extract (.tmp 75) 0, none⟩,
    ⟨(some 79), .extract (.tmp 75) 1, none⟩,
    ⟨(some 17), .assign (.tmp 78), none⟩,
    ⟨(some 18), .assign (.tmp 79), none⟩]) c_sheafref16_Total_39) K t m := rfl

def c_sheafref16_Total_41 : MC := (.seq c_sheafref16_Total_24 c_sheafref16_Total_40)
@[go_sem] theorem c_sheafref16_Total_41_at (rd : Option Nat) (K : Post3) (t : Fr) (m : Mem) : wpM E 24 106 rd c_sheafref16_Total_41 K t m = wpM E 24 106 rd (.seq c_sheafref16_Total_24 c_sheafref16_Total_40) K t m := rfl

def c_sheafref16_Total_42 : MC := (.seq (.ops [⟨(some 12), .alloc 27, none⟩]) c_sheafref16_Total_41)
@[go_sem] theorem c_sheafref16_Total_42_at (rd : Option Nat) (K : Post3) (t : Fr) (m : Mem) : wpM E 24 106 rd c_sheafref16_Total_42 K t m = wpM E 24 106 rd (.seq (.ops [⟨(some 12), .alloc 27, none⟩]) c_sheafref16_Total_41) K t m := rfl

def c_sheafref16_Total_43 : MC := (.seq c_sheafref16_Total_2 c_sheafref16_Total_42)
@[go_sem] theorem c_sheafref16_Total_43_at (rd : Option Nat) (K : Post3) (t : Fr) (m : Mem) : wpM E 24 106 rd c_sheafref16_Total_43 K t m = wpM E 24 106 rd (.seq c_sheafref16_Total_2 c_sheafref16_Total_42) K t m := rfl

def c_sheafref16_Total_44 : MC := (.seq (.ops [⟨(some 27), .move (.tmp 25), none⟩,
    ⟨(some 28), .indexAddr 40 (.tmp 23) (.tmp 25), none⟩,
    ⟨(some 29), .load 22 (.tmp 28), none⟩,
    ⟨(some 10), .assign (.tmp 27), none⟩,
    ⟨(some 11), .assign (.tmp 29), none⟩]) c_sheafref16_Total_43)
@[go_sem] theorem c_sheafref16_Total_44_at (rd : Option Nat) (K : Post3) (t : Fr) (m : Mem) : wpM E 24 106 rd c_sheafref16_Total_44 K t m = wpM E 24 106 rd (.seq (.ops [⟨(some 27), .move (.tmp 25), none⟩,
    ⟨(some 28), .indexAddr 40 (.tmp 23) (.tmp 25), none⟩,
    ⟨(some 29), .load 22 (.tmp 28), none⟩,
    ⟨(some 10), .assign (.tmp 27), none⟩,
    ⟨(some 11), .assign (.tmp 29), none⟩]) c_sheafref16_Total_43) K t m := rfl

def c_sheafref16_Total_45 : MC := (.block 1 c_sheafref16_Total_44)
@[go_sem] theorem c_sheafref16_Total_45_at (rd : Option Nat) (K : Post3) (t : Fr) (m : Mem) : wpM E 24 106 rd c_sheafref16_Total_45 K t m = wpM E 24 106 rd (.block 1 c_sheafref16_Total_44) K t m := rfl

def c_sheafref16_Total_46 : MC := (.seq c_sheafref16_Total_45 (.ops [⟨(some 103), .binOp .add 3 (.tmp 25) (.const (.int .i64 1)) 3, none⟩,
    ⟨(some 25), .move (.tmp 103), none⟩]))
@[go_sem] theorem c_sheafref16_Total_46_at (rd : Option Nat) (K : Post3) (t : Fr) (m : Mem) : wpM E 24 106 rd c_sheafref16_Total_46 K t m = wpM E 24 106 rd (.seq c_sheafref16_Total_45 (.ops [⟨(some 103), .binOp .add 3 (.tmp 25) (.const (.int .i64 1)) 3, none⟩,
    ⟨(some 25), .move (.tmp 103), none⟩])) K t m := rfl

def c_sheafref16_Total_47 : MC := (.seq c_sheafref16_Total_0 c_sheafref16_Total_46)
@[go_sem] theorem c_sheafref16_Total_47_at (rd : Option Nat) (K : Post3) (t : Fr) (m : Mem) : wpM E 24 106 rd c_sheafref16_Total_47 K t m = wpM E 24 106 rd (.seq c_sheafref16_Total_0 c_sheafref16_Total_46) K t m := rfl

def c_sheafref16_Total_48 : MC := (.seq (.ops [⟨(some 26), .binOp .lss 3 (.tmp 25) (.tmp 24) 3, none⟩]) c_sheafref16_Total_47)
@[go_sem] theorem c_sheafref16_Total_48_at (rd : Option Nat) (K : Post3) (t : Fr) (m : Mem) : wpM E 24 106 rd c_sheafref16_Total_48 K t m = wpM E 24 106 rd (.seq (.ops [⟨(some 26), .binOp .lss 3 (.tmp 25) (.tmp 24) 3, none⟩]) c_sheafref16_Total_47) K t m := rfl

def c_sheafref16_Total_49 : MC := (.loop c_sheafref16_Total_48)
theorem c_sheafref16_Total_49_at (rd : Option Nat) (K : Post3) (t : Fr) (m : Mem) : wpM E 24 106 rd c_sheafref16_Total_49 K t m = wpM E 24 106 rd (.loop c_sheafref16_Total_48) K t m := rfl

def c_sheafref16_Total_50 : MC := (.block 0 c_sheafref16_Total_49)
theorem c_sheafref16_Total_50_at (rd : Option Nat) (K : Post3) (t : Fr) (m : Mem) : wpM E 24 106 rd c_sheafref16_Total_50 K t m = wpM E 24 106 rd (.block 0 c_sheafref16_Total_49) K t m := rfl

def c_sheafref16_Total_51 : MC := (.seq (.ops [⟨(some 23), .move (.tmp 0), none⟩,
    ⟨(some 24), .call ⟨.builtin .len, #[(.tmp 23)], #[40]⟩, none⟩,
    ⟨(some 25), .move (.const (.int .i64 0)), none⟩]) c_sheafref16_Total_50)
@[go_sem] theorem c_sheafref16_Total_51_at (rd : Option Nat) (K : Post3) (t : Fr) (m : Mem) : wpM E 24 106 rd c_sheafref16_Total_51 K t m = wpM E 24 106 rd (.seq (.ops [⟨(some 23), .move (.tmp 0), none⟩,
    ⟨(some 24), .call ⟨.builtin .len, #[(.tmp 23)], #[40]⟩, none⟩,
    ⟨(some 25), .move (.const (.int .i64 0)), none⟩]) c_sheafref16_Total_50) K t m := rfl

def c_sheafref16_Total_52 : MC := (.seq (.ops [⟨(some 104), .move (.tmp 8), none⟩,
    ⟨(some 105), .call ⟨.value (.func 26), #[(.tmp 104), (.const (.slice none 0 0))], #[40, 22]⟩, none⟩,
    ⟨(some 6), .assign (.tmp 105), none⟩,
    ⟨(some 7), .assign (.const (.bool true)), none⟩]) .ret)
@[go_sem] theorem c_sheafref16_Total_52_at (rd : Option Nat) (K : Post3) (t : Fr) (m : Mem) : wpM E 24 106 rd c_sheafref16_Total_52 K t m = wpM E 24 106 rd (.seq (.ops [⟨(some 104), .move (.tmp 8), none⟩,
    ⟨(some 105), .call ⟨.value (.func 26), #[(.tmp 104), (.const (.slice none 0 0))], #[40, 22]⟩, none⟩,
    ⟨(some 6), .assign (.tmp 105), none⟩,
    ⟨(some 7), .assign (.const (.bool true)), none⟩]) .ret) K t m := rfl

def c_sheafref16_Total_53 : MC := (.seq c_sheafref16_Total_51 c_sheafref16_Total_52)
@[go_sem] theorem c_sheafref16_Total_53_at (rd : Option Nat) (K : Post3) (t : Fr) (m : Mem) : wpM E 24 106 rd c_sheafref16_Total_53 K t m = wpM E 24 106 rd (.seq c_sheafref16_Total_51 c_sheafref16_Total_52) K t m := rfl

def c_sheafref16_Total_54 : MC := (.seq (.ops [⟨(some 22), .makeMap 79 none, none⟩,
    ⟨(some 9), .assign (.tmp 22), none⟩]) c_sheafref16_Total_53)
@[go_sem] theorem c_sheafref16_Total_54_at (rd : Option Nat) (K : Post3) (t : Fr) (m : Mem) : wpM E 24 106 rd c_sheafref16_Total_54 K t m = wpM E 24 106 rd (.seq (.ops [⟨(some 22), .makeMap 79 none, none⟩,
    ⟨(some 9), .assign (.tmp 22), none⟩]) c_sheafref16_Total_53) K t m := rfl

def c_sheafref16_Total_55 : MC := (.seq (.ops [⟨(some 8), .assign (.const (.slice none 0 0)), none⟩]) c_sheafref16_Total_54)
@[go_sem] theorem c_sheafref16_Total_55_at (rd : Option Nat) (K : Post3) (t : Fr) (m : Mem) : wpM E 24 106 rd c_sheafref16_Total_55 K t m = wpM E 24 106 rd (.seq (.ops [⟨(some 8), .assign (.const (.slice none 0 0)), none⟩]) c_sheafref16_Total_54) K t m := rfl

def c_sheafref16_Total_56 : MC := (.seq (.ops [⟨(some 6), .assign (.const (.slice none 0 0)), none⟩,
    ⟨(some 7), .assign (.const (.bool false)), none⟩]) c_sheafref16_Total_55)
@[go_sem] theorem c_sheafref16_Total_56_at (rd : Option Nat) (K : Post3) (t : Fr) (m : Mem) : wpM E 24 106 rd c_sheafref16_Total_56 K t m = wpM E 24 106 rd (.seq (.ops [⟨(some 6), .assign (.const (.slice none 0 0)), none⟩,
    ⟨(some 7), .assign (.const (.bool false)), none⟩]) c_sheafref16_Total_55) K t m := rfl

@[go_sem] theorem some24 : (E.fn 24).isSome = true := by kernel_rfl
set_option maxRecDepth 100000 in
theorem fn_sheafref16_Total : FnIs E 24 106 [.tmp 6, .tmp 7] c_sheafref16_Total_56 := ⟨by kernel_rfl, by kernel_rfl⟩

/-! sheaf/sheafref12.Sorted -/
abbrev F_sheafref12_Sorted : FuncId := 26
def c_sheafref12_Sorted_0 : MC := (.cond (.tmp 14) .skip (.exit 0))
@[go_sem] theorem c_sheafref12_Sorted_0_at (rd : Option Nat) (K : Post3) (t : Fr) (m : Mem) : wpM E 26 53 rd c_sheafref12_Sorted_0 K t m = wpM E 26 53 rd (.cond (.tmp 14) .skip (.exit 0)) K t m := rfl

def c_sheafref12_Sorted_1 : MC := (.seq (.ops [⟨(some 11), .move (.tmp 6), none⟩,
    ⟨(some 12), .move (.tmp 5), none⟩,
    ⟨(some 13), .call ⟨.builtin .len, #[(.tmp 12)], #[40]⟩, none⟩,
    ⟨(some 14), .binOp .lss 3 (.tmp 11) (.tmp 13) 3, none⟩]) c_sheafref12_Sorted_0)
@[go_sem] theorem c_sheafref12_Sorted_1_at (rd : Option Nat) (K : Post3) (t : Fr) (m : Mem) : wpM E 26 53 rd c_sheafref12_Sorted_1 K t m = wpM E 26 53 rd (.seq (.ops [⟨(some 11), .move (.tmp 6), none⟩,
    ⟨(some 12), .move (.tmp 5), none⟩,
    ⟨(some 13), .call ⟨.builtin .len, #[(.tmp 12)], #[40]⟩, none⟩,
    ⟨(some 14), .binOp .lss 3 (.tmp 11) (.tmp 13) 3, none⟩]) c_sheafref12_Sorted_0) K t m := rfl

def c_sheafref12_Sorted_2 : MC := (.cond (.tmp 33) .skip (.exit 2))
@[go_sem] theorem c_sheafref12_Sorted_2_at (rd : Option Nat) (K : Post3) (t : Fr) (m : Mem) : wpM E 26 53 rd c_sheafref12_Sorted_2 K t m = wpM E 26 53 rd (.cond (.tmp 33) .skip (.exit 2)) K t m := rfl

def c_sheafref12_Sorted_3 : MC := (.seq (.ops [⟨(some 18), .move (.tmp 7), none⟩,
    ⟨(some 19), .binOp .gtr 3 (.tmp 18) (.const (.int .i64 0)) 3, none⟩,
    ⟨(some 20), .move (.tmp 19), none⟩,
    ⟨(some 21), .move (.tmp 5), (some (some 20, true))⟩,
    ⟨(some 22), .move (.tmp 7), (some (some 20, true))⟩,
    ⟨(some 23), .indexAddr 40 (.tmp 21) (.tmp 22), (some (some 20, true))⟩,
    ⟨(some 24), .load 22 (.tmp 23), (some (some 20, true))⟩,
    ⟨(some 25), .move (.tmp 5), (some (some 20, true))⟩,
    ⟨(some 26), .move (.tmp 7), (some (some 20, true))⟩,
    ⟨(some 27), .binOp .sub 3 (.tmp 26) (.const (.int .i64 1)) 3, (some (some 20, true))⟩,
    ⟨(some 28), .indexAddr 40 (.tmp 25) (.tmp 27), (some (some 20, true))⟩,
    ⟨(some 29), .load 22 (.tmp 28), (some (some 20, true))⟩,
    ⟨(some 30), .move (.tmp 1), (some (some 20, true))⟩,
    ⟨(some 31), .call ⟨.value (.func 43), #[(.tmp 24), (.tmp 29), (.tmp 30)], #[22, 22, 22]⟩, (some (some 20, true))⟩,
    ⟨(some 32), .binOp .lss 3 (.tmp 31) (.const (.int .i64 0)) 3, (some (some 20, true))⟩,
    ⟨(some 33), .pick (.tmp 20) (.tmp 32) (.const (.bool false)), none⟩]) c_sheafref12_Sorted_2)
@[go_sem] theorem c_sheafref12_Sorted_3_at (rd : Option Nat) (K : Post3) (t : Fr) (m : Mem) : wpM E 26 53 rd c_sheafref12_Sorted_3 K t m = wpM E 26 53 rd (.seq (.ops [⟨(some 18), .move (.tmp 7), none⟩,
    ⟨(some 19), .binOp .gtr 3 (.tmp 18) (.const (.int .i64 0)) 3, none⟩,
    ⟨(some 20), .move (.tmp 19), none⟩,
    ⟨(some 21), .move (.tmp 5), (some (some 20, true))⟩,
    ⟨(some 22), .move (.tmp 7), (some (some 20, true))⟩,
    ⟨(some 23), .indexAddr 40 (.tmp 21) (.tmp 22), (some (some 20, true))⟩,
    ⟨(some 24), .load 22 (.tmp 23), (some (some 20, true))⟩,
    ⟨(some 25), .move (.tmp 5), (some (some 20, true))⟩,
    ⟨(some 26), .move (.tmp 7), (some (some 20, true))⟩,
    ⟨(some 27), .binOp .sub 3 (.tmp 26) (.const (.int .i64 1)) 3, (some (some 20, true))⟩,
    ⟨(some 28), .indexAddr 40 (.tmp 25) (.tmp 27), (some (some 20, true))⟩,
    ⟨(some 29), .load 22 (.tmp 28), (some (some 20, true))⟩,
    ⟨(some 30), .move (.tmp 1), (some (some 20, true))⟩,
    ⟨(some 31), .call ⟨.value (.func 43), #[(.tmp 24), (.tmp 29), (.tmp 30)], #[22, 22, 22]⟩, (some (some 20, true))⟩,
    ⟨(some 32), .binOp .lss 3 (.tmp 31) (.const (.int .i64 0)) 3, (some (some 20, true))⟩,
    ⟨(some 33), .pick (.tmp 20) (.tmp 32) (.const (.bool false)), none⟩]) c_sheafref12_Sorted_2) K t m := rfl

def c_sheafref12_Sorted_4 : MC := (.block 3 (.ops [⟨(some 36), .move (.tmp 5), none⟩,
    ⟨(some 37), .move (.tmp 7), none⟩,
    ⟨(some 38), .move (.tmp 5), none⟩,
    ⟨(some 39), .move (.tmp 7), none⟩,
    ⟨(some 40), .binOp .sub 3 (.tmp 39) (.const (.int .i64 1)) 3, none⟩,
    ⟨(some 41), .move (.tmp 5), none⟩,
    ⟨(some 42), .move (.tmp 7), none⟩,
    ⟨(some 43), .binOp .sub 3 (.tmp 42) (.const (.int .i64 1)) 3, none⟩,
    ⟨(some 44), .indexAddr 40 (.tmp 41) (.tmp 43), none⟩,
    ⟨(some 45), .load 22 (.tmp 44), none⟩,
    ⟨(some 46), .move (.tmp 5), none⟩,
    ⟨(some 47), .move (.tmp 7), none⟩,
    ⟨(some 48), .indexAddr 40 (.tmp 46) (.tmp 47), none⟩,
    ⟨(some 49), .load 22 (.tmp 48), none⟩,
    ⟨(some 50), .indexAddr 40 (.tmp 36) (.tmp 37), none⟩,
    ⟨none, .store 22 (.tmp 50) (.tmp 45), none⟩,
    ⟨(some 51), .indexAddr 40 (.tmp 38) (.tmp 40), none⟩,
    ⟨none, .store 22 (.tmp 51) (.tmp 49), none⟩]))
@[go_sem] theorem c_sheafref12_Sorted_4_at (rd : Option Nat) (K : Post3) (t : Fr) (m : Mem) : wpM E 26 53 rd c_sheafref12_Sorted_4 K t m = wpM E 26 53 rd (.block 3 (.ops [⟨(some 36), .move (.tmp 5), none⟩,
    ⟨(some 37), .move (.tmp 7), none⟩,
    ⟨(some 38), .move (.tmp 5), none⟩,
    ⟨(some 39), .move (.tmp 7), none⟩,
    ⟨(some 40), .binOp .sub 3 (.tmp 39) (.const (.int .i64 1)) 3, none⟩,
    ⟨(some 41), .move (.tmp 5), none⟩,
    ⟨(some 42), .move (.tmp 7), none⟩,
    ⟨(some 43), .binOp .sub 3 (.tmp 42) (.const (.int .i64 1)) 3, none⟩,
    ⟨(some 44), .indexAddr 40 (.tmp 41) (.tmp 43), none⟩,
    ⟨(some 45), .load 22 (.tmp 44), none⟩,
    ⟨(some 46), .move (.tmp 5), none⟩,
    ⟨(some 47), .move (.tmp 7), none⟩,
    ⟨(some 48), .indexAddr 40 (.tmp 46) (.tmp 47), none⟩,
    ⟨(some 49), .load 22 (.tmp 48), none⟩,
    ⟨(some 50), .indexAddr 40 (.tmp 36) (.tmp 37), none⟩,
    ⟨none, .store 22 (.tmp 50) (.tmp 45), none⟩,
    ⟨(some 51), .indexAddr 40 (.tmp 38) (.tmp 40), none⟩,
    ⟨none, .store 22 (.tmp 51) (.tmp 49), none⟩])) K t m := rfl

def c_sheafref12_Sorted_5 : MC := (.seq c_sheafref12_Sorted_4 (.ops [⟨(some 34), .move (.tmp 7), none⟩,
    ⟨(some 35), .binOp .sub 3 (.tmp 34) (.const (.int .i64 1)) 3, none⟩,
    ⟨(some 7), .assign (.tmp 35), none⟩]))
@[go_sem] theorem c_sheafref12_Sorted_5_at (rd : Option Nat) (K : Post3) (t : Fr) (m : Mem) : wpM E 26 53 rd c_sheafref12_Sorted_5 K t m = wpM E 26 53 rd (.seq c_sheafref12_Sorted_4 (.ops [⟨(some 34), .move (.tmp 7), none⟩,
    ⟨(some 35), .binOp .sub 3 (.tmp 34) (.const (.int .i64 1)) 3, none⟩,
    ⟨(some 7), .assign (.tmp 35), none⟩])) K t m := rfl

def c_sheafref12_Sorted_6 : MC := (.seq c_sheafref12_Sorted_3 c_sheafref12_Sorted_5)
@[go_sem] theorem c_sheafref12_Sorted_6_at (rd : Option Nat) (K : Post3) (t : Fr) (m : Mem) : wpM E 26 53 rd c_sheafref12_Sorted_6 K t m = wpM E 26 53 rd (.seq c_sheafref12_Sorted_3 c_sheafref12_Sorted_5) K t m := rfl

def c_sheafref12_Sorted_7 : MC := (.loop c_sheafref12_Sorted_6)
theorem c_sheafref12_Sorted_7_at (rd : Option Nat) (K : Post3) (t : Fr) (m : Mem) : wpM E 26 53 rd c_sheafref12_Sorted_7 K t m = wpM E 26 53 rd (.loop c_sheafref12_Sorted_6) K t m := rfl

def c_sheafref12_Sorted_8 : MC := (.block 2 c_sheafref12_Sorted_7)
theorem c_sheafref12_Sorted_8_at (rd : Option Nat) (K : Post3) (t : Fr) (m : Mem) : wpM E 26 53 rd c_sheafref12_Sorted_8 K t m = wpM E 26 53 rd (.block 2 c_sheafref12_Sorted_7) K t m := rfl

def c_sheafref12_Sorted_9 : MC := (.seq (.ops [⟨(some 17), .move (.tmp 6), none⟩,
    ⟨(some 7), .assign (.tmp 17), none⟩]) c_sheafref12_Sorted_8)
@[go_sem] theorem c_sheafref12_Sorted_9_at (rd : Option Nat) (K : Post3) (t : Fr) (m : Mem) : wpM E 26 53 rd c_sheafref12_Sorted_9 K t m = wpM E 26 53 rd (.seq (.ops [⟨(some 17), .move (.tmp 6), none⟩,
    ⟨(some 7), .assign (.tmp 17), none⟩]) c_sheafref12_Sorted_8) K t m := rfl

def c_sheafref12_Sorted_10 : MC := (.block 1 c_sheafref12_Sorted_9)
@[go_sem] theorem c_sheafref12_Sorted_10_at (rd : Option Nat) (K : Post3) (t : Fr) (m : Mem) : wpM E 26 53 rd c_sheafref12_Sorted_10 K t m = wpM E 26 53 rd (.block 1 c_sheafref12_Sorted_9) K t m := rfl

def c_sheafref12_Sorted_11 : MC := (.seq c_sheafref12_Sorted_10 (.ops [⟨(some 15), .move (.tmp 6), none⟩,
    ⟨(some 16), .binOp .add 3 (.tmp 15) (.const (.int .i64 1)) 3, none⟩,
    ⟨(some 6), .assign (.tmp 16), none⟩]))
@[go_sem] theorem c_sheafref12_Sorted_11_at (rd : Option Nat) (K : Post3) (t : Fr) (m : Mem) : wpM E 26 53 rd c_sheafref12_Sorted_11 K t m = wpM E 26 53 rd (.seq c_sheafref12_Sorted_10 (.ops [⟨(some 15), .move (.tmp 6), none⟩,
    ⟨(some 16), .binOp .add 3 (.tmp 15) (.const (.int .i64 1)) 3, none⟩,
    ⟨(some 6), .assign (.tmp 16), none⟩])) K t m := rfl

def c_sheafref12_Sorted_12 : MC := (.seq c_sheafref12_Sorted_1 c_sheafref12_Sorted_11)
@[go_sem] theorem c_sheafref12_Sorted_12_at (rd : Option Nat) (K : Post3) (t : Fr) (m : Mem) : wpM E 26 53 rd c_sheafref12_Sorted_12 K t m = wpM E 26 53 rd (.seq c_sheafref12_Sorted_1 c_sheafref12_Sorted_11) K t m := rfl

def c_sheafref12_Sorted_13 : MC := (.loop c_sheafref12_Sorted_12)
theorem c_sheafref12_Sorted_13_at (rd : Option Nat) (K : Post3) (t : Fr) (m : Mem) : wpM E 26 53 rd c_sheafref12_Sorted_13 K t m = wpM E 26 53 rd (.loop c_sheafref12_Sorted_12) K t m := rfl

def c_sheafref12_Sorted_14 : MC := (.block 0 c_sheafref12_Sorted_13)
theorem c_sheafref12_Sorted_14_at (rd : Option Nat) (K : Post3) (t : Fr) (m : Mem) : wpM E 26 53 rd c_sheafref12_Sorted_14 K t m = wpM E 26 53 rd (.block 0 c_sheafref12_Sorted_13) K t m := rfl

def c_sheafref12_Sorted_15 : MC := (.seq (.ops [⟨(some 6), .assign (.const (.int .i64 1)), none⟩]) c_sheafref12_Sorted_14)
@[go_sem] theorem c_sheafref12_Sorted_15_at (rd : Option Nat) (K : Post3) (t : Fr) (m : Mem) : wpM E 26 53 rd c_sheafref12_Sorted_15 K t m = wpM E 26 53 rd (.seq (.ops [⟨(some 6), .assign (.const (.int .i64 1)), none⟩]) c_sheafref12_Sorted_14) K t m := rfl

def c_sheafref12_Sorted_16 : MC := (.seq (.ops [⟨(some 52), .move (.tmp 5), none⟩,
    ⟨(some 4), .assign (.tmp 52), none⟩]) .ret)
@[go_sem] theorem c_sheafref12_Sorted_16_at (rd : Option Nat) (K : Post3) (t : Fr) (m : Mem) : wpM E 26 53 rd c_sheafref12_Sorted_16 K t m = wpM E 26 53 rd (.seq (.ops [⟨(some 52), .move (.tmp 5), none⟩,
    ⟨(some 4), .assign (.tmp 52), none⟩]) .ret) K t m := rfl

def c_sheafref12_Sorted_17 : MC := (.seq c_sheafref12_Sorted_15 c_sheafref12_Sorted_16)
@[go_sem] theorem c_sheafref12_Sorted_17_at (rd : Option Nat) (K : Post3) (t : Fr) (m : Mem) : wpM E 26 53 rd c_sheafref12_Sorted_17 K t m = wpM E 26 53 rd (.seq c_sheafref12_Sorted_15 c_sheafref12_Sorted_16) K t m := rfl

def c_sheafref12_Sorted_18 : MC := (.seq (.ops [⟨(some 8), .buildSlice 40 0 #[], none⟩,
    ⟨(some 9), .move (.tmp 0), none⟩,
    ⟨(some 10), .call ⟨.builtin .append, #[(.tmp 8), (.tmp 9)], #[40, 40]⟩, none⟩,
    ⟨(some 5), .assign (.tmp 10), none⟩]) c_sheafref12_Sorted_17)
@[go_sem] theorem c_sheafref12_Sorted_18_at (rd : Option Nat) (K : Post3) (t : Fr) (m : Mem) : wpM E 26 53 rd c_sheafref12_Sorted_18 K t m = wpM E 26 53 rd (.seq (.ops [⟨(some 8), .buildSlice 40 0 #[], none⟩,
    ⟨(some 9), .move (.tmp 0), none⟩,
    ⟨(some 10), .call ⟨.builtin .append, #[(.tmp 8), (.tmp 9)], #[40, 40]⟩, none⟩,
    ⟨(some 5), .assign (.tmp 10), none⟩]) c_sheafref12_Sorted_17) K t m := rfl

def c_sheafref12_Sorted_19 : MC := (.seq (.ops [⟨(some 4), .assign (.const (.slice none 0 0)), none⟩]) c_sheafref12_Sorted_18)
@[go_sem] theorem c_sheafref12_Sorted_19_at (rd : Option Nat) (K : Post3) (t : Fr) (m : Mem) : wpM E 26 53 rd c_sheafref12_Sorted_19 K t m = wpM E 26 53 rd (.seq (.ops [⟨(some 4), .assign (.const (.slice none 0 0)), none⟩]) c_sheafref12_Sorted_18) K t m := rfl

@[go_sem] theorem some26 : (E.fn 26).isSome = true := by kernel_rfl
set_option maxRecDepth 100000 in
theorem fn_sheafref12_Sorted : FnIs E 26 53 [.tmp 4] c_sheafref12_Sorted_19 := ⟨by kernel_rfl, by kernel_rfl⟩

/-! sheaf/sheafref16.Round -/
abbrev F_sheafref16_Round : FuncId := 33
def c_sheafref16_Round_0 : MC := (.cond (.tmp 26) .skip (.exit 0))
@[go_sem] theorem c_sheafref16_Round_0_at (rd : Option Nat) (K : Post3) (t : Fr) (m : Mem) : wpM E 33 113 rd c_sheafref16_Round_0 K t m = wpM E 33 113 rd (.cond (.tmp 26) .skip (.exit 0)) K t m := rfl

def c_sheafref16_Round_1 : MC := (.cond (.tmp 39) (.ops [⟨(some 40), .move (.tmp 7), none⟩,
    ⟨(some 41), .move (.tmp 10), none⟩,
    ⟨(some 42), .buildSlice 22 1 #[(0, (.tmp 41))], none⟩,
    ⟨(some 43), .buildSlice 40 1 #[(0, (.tmp 42))], none⟩,
    ⟨(some 44), .call ⟨.builtin .append, #[(.tmp 40), (.tmp 43)], #[40, 40]⟩, none⟩,
    ⟨(some 7), .assign (.tmp 44), none⟩]) .skip)
@[go_sem] theorem c_sheafref16_Round_1_at (rd : Option Nat) (K : Post3) (t : Fr) (m : Mem) : wpM E 33 113 rd c_sheafref16_Round_1 K t m = wpM E 33 113 rd (.cond (.tmp 39) (.ops [⟨(some 40), .move (.tmp 7), none⟩,
    ⟨(some 41), .move (.tmp 10), none⟩,
    ⟨(some 42), .buildSlice 22 1 #[(0, (.tmp 41))], none⟩,
    ⟨(some 43), .buildSlice 40 1 #[(0, (.tmp 42))], none⟩,
    ⟨(some 44), .call ⟨.builtin .append, #[(.tmp 40), (.tmp 43)], #[40, 40]⟩, none⟩,
    ⟨(some 7), .assign (.tmp 44), none⟩]) .skip) K t m := rfl

def c_sheafref16_Round_2 : MC := (.seq (.ops [⟨(some 38), .move (.tmp 12), none⟩,
    ⟨(some 39), .unOp .not 4 (.tmp 38), none⟩]) c_sheafref16_Round_1)
@[go_sem] theorem c_sheafref16_Round_2_at (rd : Option Nat) (K : Post3) (t : Fr) (m : Mem) : wpM E 33 113 rd c_sheafref16_Round_2 K t m = wpM E 33 113 rd (.seq (.ops [⟨(some 38), .move (.tmp 12), none⟩,
    ⟨(some 39), .unOp .not 4 (.tmp 38), none⟩]) c_sheafref16_Round_1) K t m := rfl

def c_sheafref16_Round_3 : MC := (.seq (.ops [⟨(some 33), .move (.tmp 6), none⟩,
    ⟨(some 34), .move (.tmp 10), none⟩,
    ⟨(some 35), .lookup 68 (.tmp 33) (.tmp 34) true, none⟩,
    ⟨(some 32), .move (.tmp 35), none⟩,
    ⟨(some 36), .extract (.tmp 32) 0, none⟩,
    ⟨(some 37), .extract (.tmp 32) 1, none⟩,
    ⟨(some 11), .assign (.tmp 36), none⟩,
    ⟨(some 12), .assign (.tmp 37), none⟩]) c_sheafref16_Round_2)
@[go_sem] theorem c_sheafref16_Round_3_at (rd : Option Nat) (K : Post3) (t : Fr) (m : Mem) : wpM E 33 113 rd c_sheafref16_Round_3 K t m = wpM E 33 113 rd (.seq (.ops [⟨(some 33), .move (.tmp 6), none⟩,
    ⟨(some 34), .move (.tmp 10), none⟩,
    ⟨(some 35), .lookup 68 (.tmp 33) (.tmp 34) true, none⟩,
    ⟨(some 32), .move (.tmp 35), none⟩,
    ⟨(some 36), .extract (.tmp 32) 0, none⟩,
    ⟨(some 37), .extract (.tmp 32) 1, none⟩,
    ⟨(some 11), .assign (.tmp 36), none⟩,
    ⟨(some 12), .assign (.tmp 37), none⟩]) c_sheafref16_Round_2) K t m := rfl

def c_sheafref16_Round_4 : MC := (.seq (.draw [(0, [], ⟨(some 50), .move (.tmp 4), none⟩),
    (1, [], ⟨(some 51), .move (.tmp 10), none⟩),
    (2, [], ⟨(some 52), .move (.tmp 4), none⟩),
    (3, [], ⟨(some 53), .move (.tmp 10), none⟩),
    (4, [], ⟨(some 54), .lookup 93 (.tmp 52) (.tmp 53) false, none⟩),
    (5, [], ⟨(some 55), .move (.tmp 9), none⟩),
    (6, [], ⟨(some 56), .indexAddr 22 (.tmp 55) (.const (.int .i64 4)), none⟩),
    (7, [], ⟨(some 57), .load 3 (.tmp 56), none⟩),
    (8, [4], ⟨(some 58), .call ⟨.value (.func 41), #[(.tmp 57)], #[3]⟩, none⟩),
    (9, [], ⟨(some 59), .call ⟨.value (.func 40), #[(.tmp 54), (.tmp 58)], #[27, 27]⟩, none⟩),
    (10, [], ⟨none, .mapUpdate 93 (.tmp 50) (.tmp 51) (.tmp 59), none⟩)]) (.draw [(0, [], ⟨(some 60), .move (.tmp 5), none⟩),
    (1, [], ⟨(some 61), .move (.tmp 10), none⟩),
    (2, [], ⟨(some 62), .move (.tmp 5), none⟩),
    (3, [], ⟨(some 63), .move (.tmp 10), none⟩),
    (4, [], ⟨(some 64), .lookup 93 (.tmp 62) (.tmp 63) false, none⟩),
    (5, [], ⟨(some 65), .move (.tmp 9), none⟩),
    (6, [], ⟨(some 66), .indexAddr 22 (.tmp 65) (.const (.int .i64 9)), none⟩),
    (7, [], ⟨(some 67), .load 3 (.tmp 66), none⟩),
    (8, [4], ⟨(some 68), .call ⟨.value (.func 41), #[(.tmp 67)], #[3]⟩, none⟩),
    (9, [], ⟨(some 69), .call ⟨.value (.func 40), #[(.tmp 64), (.tmp 68)], #[27, 27]⟩, none⟩),
    (10, [], ⟨none, .mapUpdate 93 (.tmp 60) (.tmp 61) (.tmp 69), none⟩)]))
@[go_sem] theorem c_sheafref16_Round_4_at (rd : Option Nat) (K : Post3) (t : Fr) (m : Mem) : wpM E 33 113 rd c_sheafref16_Round_4 K t m = wpM E 33 113 rd (.seq (.draw [(0, [], ⟨(some 50), .move (.tmp 4), none⟩),
    (1, [], ⟨(some 51), .move (.tmp 10), none⟩),
    (2, [], ⟨(some 52), .move (.tmp 4), none⟩),
    (3, [], ⟨(some 53), .move (.tmp 10), none⟩),
    (4, [], ⟨(some 54), .lookup 93 (.tmp 52) (.tmp 53) false, none⟩),
    (5, [], ⟨(some 55), .move (.tmp 9), none⟩),
    (6, [], ⟨(some 56), .indexAddr 22 (.tmp 55) (.const (.int .i64 4)), none⟩),
    (7, [], ⟨(some 57), .load 3 (.tmp 56), none⟩),
    (8, [4], ⟨(some 58), .call ⟨.value (.func 41), #[(.tmp 57)], #[3]⟩, none⟩),
    (9, [], ⟨(some 59), .call ⟨.value (.func 40), #[(.tmp 54), (.tmp 58)], #[27, 27]⟩, none⟩),
    (10, [], ⟨none, .mapUpdate 93 (.tmp 50) (.tmp 51) (.tmp 59), none⟩)]) (.draw [(0, [], ⟨(some 60), .move (.tmp 5), none⟩),
    (1, [], ⟨(some 61), .move (.tmp 10), none⟩),
    (2, [], ⟨(some 62), .move (.tmp 5), none⟩),
    (3, [], ⟨(some 63), .move (.tmp 10), none⟩),
    (4, [], ⟨(some 64), .lookup 93 (.tmp 62) (.tmp 63) false, none⟩),
    (5, [], ⟨(some 65), .move (.tmp 9), none⟩),
    (6, [], ⟨(some 66), .indexAddr 22 (.tmp 65) (.const (.int .i64 9)), none⟩),
    (7, [], ⟨(some 67), .load 3 (.tmp 66), none⟩),
    (8, [4], ⟨(some 68), .call ⟨.value (.func 41), #[(.tmp 67)], #[3]⟩, none⟩),
    (9, [], ⟨(some 69), .call ⟨.value (.func 40), #[(.tmp 64), (.tmp 68)], #[27, 27]⟩, none⟩),
    (10, [], ⟨none, .mapUpdate 93 (.tmp 60) (.tmp 61) (.tmp 69), none⟩)])) K t m := rfl

def c_sheafref16_Round_5 : MC := (.seq (.ops [⟨(some 45), .move (.tmp 6), none⟩,
    ⟨(some 46), .move (.tmp 10), none⟩,
    ⟨(some 47), .move (.tmp 9), none⟩,
    ⟨(some 48), .indexAddr 22 (.tmp 47) (.const (.int .i64 7)), none⟩,
    ⟨(some 49), .load 3 (.tmp 48), none⟩,
    ⟨none, .mapUpdate 68 (.tmp 45) (.tmp 46) (.tmp 49), none⟩]) c_sheafref16_Round_4)
@[go_sem] theorem c_sheafref16_Round_5_at (rd : Option Nat) (K : Post3) (t : Fr) (m : Mem) : wpM E 33 113 rd c_sheafref16_Round_5 K t m = wpM E 33 113 rd (.seq (.ops [⟨(some 45), .move (.tmp 6), none⟩,
    ⟨(some 46), .move (.tmp 10), none⟩,
    ⟨(some 47), .move (.tmp 9), none⟩,
    ⟨(some 48), .indexAddr 22 (.tmp 47) (.const (.int .i64 7)), none⟩,
    ⟨(some 49), .load 3 (.tmp 48), none⟩,
    ⟨none, .mapUpdate 68 (.tmp 45) (.tmp 46) (.tmp 49), none⟩]) c_sheafref16_Round_4) K t m := rfl

def c_sheafref16_Round_6 : MC := (.seq c_sheafref16_Round_3 c_sheafref16_Round_5)
@[go_sem] theorem c_sheafref16_Round_6_at (rd : Option Nat) (K : Post3) (t : Fr) (m : Mem) : wpM E 33 113 rd c_sheafref16_Round_6 K t m = wpM E 33 113 rd (.seq c_sheafref16_Round_3 c_sheafref16_Round_5) K t m := rfl

def c_sheafref16_Round_7 : MC := (.seq (.ops [⟨(some 29), .move (.tmp 9), none⟩,
    ⟨(some 30), .indexAddr 22 (.tmp 29) (.const (.int .i64 1)), none⟩,
    ⟨(some 31), .load 3 (.tmp 30), none⟩,
    ⟨(some 10), .assign (.tmp 31), none⟩]) c_sheafref16_Round_6)
@[go_sem] theorem c_sheafref16_Round_7_at (rd : Option Nat) (K : Post3) (t : Fr) (m : Mem) : wpM E 33 113 rd c_sheafref16_Round_7 K t m = wpM E 33 113 rd (.seq (.ops [⟨(some 29), .move (.tmp 9), none⟩,
    ⟨(some 30), .indexAddr 22 (.tmp 29) (.const (.int .i64 1)), none⟩,
    ⟨(some 31), .load 3 (.tmp 30), none⟩,
    ⟨(some 10), .assign (.tmp 31), none⟩]) c_sheafref16_Round_6) K t m := rfl

def c_sheafref16_Round_8 : MC := (.seq (.ops [⟨(some 27), .indexAddr 40 (.tmp 23) (.tmp 25), none⟩,
    ⟨(some 28), .load 22 (.tmp 27), none⟩,
    ⟨(some 9), .assign (.tmp 28), none⟩]) c_sheafref16_Round_7)
@[go_sem] theorem c_sheafref16_Round_8_at (rd : Option Nat) (K : Post3) (t : Fr) (m : Mem) : wpM E 33 113 rd c_sheafref16_Round_8 K t m = wpM E 33 113 rd (.seq (.ops [⟨(some 27), .indexAddr 40 (.tmp 23) (.tmp 25), none⟩,
    ⟨(some 28), .load 22 (.tmp 27), none⟩,
    ⟨(some 9), .assign (.tmp 28), none⟩]) c_sheafref16_Round_7) K t m := rfl

def c_sheafref16_Round_9 : MC := (.block 1 c_sheafref16_Round_8)
@[go_sem] theorem c_sheafref16_Round_9_at (rd : Option Nat) (K : Post3) (t : Fr) (m : Mem) : wpM E 33 113 rd c_sheafref16_Round_9 K t m = wpM E 33 113 rd (.block 1 c_sheafref16_Round_8) K t m := rfl

def c_sheafref16_Round_10 : MC := (.seq c_sheafref16_Round_9 (.ops [⟨(some 70), .binOp .add 3 (.tmp 25) (.const (.int .i64 1)) 3, none⟩,
    ⟨(some 25), .move (.tmp 70), none⟩]))
@[go_sem] theorem c_sheafref16_Round_10_at (rd : Option Nat) (K : Post3) (t : Fr) (m : Mem) : wpM E 33 113 rd c_sheafref16_Round_10 K t m = wpM E 33 113 rd (.seq c_sheafref16_Round_9 (.ops [⟨(some 70), .binOp .add 3 (.tmp 25) (.const (.int .i64 1)) 3, none⟩,
    ⟨(some 25), .move (.tmp 70), none⟩])) K t m := rfl

def c_sheafref16_Round_11 : MC := (.seq c_sheafref16_Round_0 c_sheafref16_Round_10)
@[go_sem] theorem c_sheafref16_Round_11_at (rd : Option Nat) (K : Post3) (t : Fr) (m : Mem) : wpM E 33 113 rd c_sheafref16_Round_11 K t m = wpM E 33 113 rd (.seq c_sheafref16_Round_0 c_sheafref16_Round_10) K t m := rfl

def c_sheafref16_Round_12 : MC := (.seq (.ops [⟨(some 26), .binOp .lss 3 (.tmp 25) (.tmp 24) 3, none⟩]) c_sheafref16_Round_11)
@[go_sem] theorem c_sheafref16_Round_12_at (rd : Option Nat) (K : Post3) (t : Fr) (m : Mem) : wpM E 33 113 rd c_sheafref16_Round_12 K t m = wpM E 33 113 rd (.seq (.ops [⟨(some 26), .binOp .lss 3 (.tmp 25) (.tmp 24) 3, none⟩]) c_sheafref16_Round_11) K t m := rfl

def c_sheafref16_Round_13 : MC := (.loop c_sheafref16_Round_12)
theorem c_sheafref16_Round_13_at (rd : Option Nat) (K : Post3) (t : Fr) (m : Mem) : wpM E 33 113 rd c_sheafref16_Round_13 K t m = wpM E 33 113 rd (.loop c_sheafref16_Round_12) K t m := rfl

def c_sheafref16_Round_14 : MC := (.block 0 c_sheafref16_Round_13)
theorem c_sheafref16_Round_14_at (rd : Option Nat) (K : Post3) (t : Fr) (m : Mem) : wpM E 33 113 rd c_sheafref16_Round_14 K t m = wpM E 33 113 rd (.block 0 c_sheafref16_Round_13) K t m := rfl

def c_sheafref16_Round_15 : MC := (.seq (.ops [⟨(some 23), .move (.tmp 0), none⟩,
    ⟨(some 24), .call ⟨.builtin .len, #[(.tmp 23)], #[40]⟩, none⟩,
    ⟨(some 25), .move (.const (.int .i64 0)), none⟩]) c_sheafref16_Round_14)
@[go_sem] theorem c_sheafref16_Round_15_at (rd : Option Nat) (K : Post3) (t : Fr) (m : Mem) : wpM E 33 113 rd c_sheafref16_Round_15 K t m = wpM E 33 113 rd (.seq (.ops [⟨(some 23), .move (.tmp 0), none⟩,
    ⟨(some 24), .call ⟨.builtin .len, #[(.tmp 23)], #[40]⟩, none⟩,
    ⟨(some 25), .move (.const (.int .i64 0)), none⟩]) c_sheafref16_Round_14) K t m := rfl

def c_sheafref16_Round_16 : MC := (.cond (.tmp 75) .skip (.exit 2))
@[go_sem] theorem c_sheafref16_Round_16_at (rd : Option Nat) (K : Post3) (t : Fr) (m : Mem) : wpM E 33 113 rd c_sheafref16_Round_16 K t m = wpM E 33 113 rd (.cond (.tmp 75) .skip (.exit 2)) K t m := rfl

def c_sheafref16_Round_17 : MC := (.seq (.ops [⟨(some 2), .assign (.const (.slice none 0 0)), none⟩,
    ⟨(some 3), .assign (.const (.int .i64 4)), none⟩]) .ret)
@[go_sem] theorem c_sheafref16_Round_17_at (rd : Option Nat) (K : Post3) (t : Fr) (m : Mem) : wpM E 33 113 rd c_sheafref16_Round_17 K t m = wpM E 33 113 rd (.seq (.ops [⟨(some 2), .assign (.const (.slice none 0 0)), none⟩,
    ⟨(some 3), .assign (.const (.int .i64 4)), none⟩]) .ret) K t m := rfl

def c_sheafref16_Round_18 : MC := (.cond (.tmp 85) c_sheafref16_Round_17 .skip)
@[go_sem] theorem c_sheafref16_Round_18_at (rd : Option Nat) (K : Post3) (t : Fr) (m : Mem) : wpM E 33 113 rd c_sheafref16_Round_18 K t m = wpM E 33 113 rd (.cond (.tmp 85) c_sheafref16_Round_17 .skip) K t m := rfl

def c_sheafref16_Round_19 : MC := (.seq (.ops [⟨(some 81), .move (.tmp 4), none⟩,
    ⟨(some 82), .move (.tmp 17), none⟩,
    ⟨(some 83), .lookup 93 (.tmp 81) (.tmp 82) false, none⟩,
    ⟨(some 84), .build 27 #[], none⟩,
    ⟨(some 85), .binOp .neq 27 (.tmp 83) (.tmp 84) 27, none⟩]) c_sheafref16_Round_18)
@[go_sem] theorem c_sheafref16_Round_19_at (rd : Option Nat) (K : Post3) (t : Fr) (m : Mem) : wpM E 33 113 rd c_sheafref16_Round_19 K t m = wpM E 33 113 rd (.seq (.ops [⟨(some 81), .move (.tmp 4), none⟩,
    ⟨(some 82), .move (.tmp 17), none⟩,
    ⟨(some 83), .lookup 93 (.tmp 81) (.tmp 82) false, none⟩,
    ⟨(some 84), .build 27 #[], none⟩,
    ⟨(some 85), .binOp .neq 27 (.tmp 83) (.tmp 84) 27, none⟩]) c_sheafref16_Round_18) K t m := rfl

def c_sheafref16_Round_20 : MC := (.cond (.tmp 100) (.ops [⟨(some 101), .move (.tmp 13), none⟩,
    ⟨(some 102), .move (.tmp 17), none⟩,
    ⟨(some 103), .move (.tmp 6), none⟩,
    ⟨(some 104), .move (.tmp 17), none⟩,
    ⟨(some 105), .lookup 68 (.tmp 103) (.tmp 104) false, none⟩,
    ⟨(some 106), .move (.tmp 18), none⟩,
    ⟨(some 107), .buildSlice 22 4 #[(0, (.tmp 102)), (1, (.tmp 105)), (2, (.const (.int .i64 9999))), (3, (.tmp 106))], none⟩,
    ⟨(some 108), .buildSlice 40 1 #[(0, (.tmp 107))], none⟩,
    ⟨(some 109), .call ⟨.builtin .append, #[(.tmp 101), (.tmp 108)], #[40, 40]⟩, none⟩,
    ⟨(some 13), .assign (.tmp 109), none⟩]) .skip)
@[go_sem] theorem c_sheafref16_Round_20_at (rd : Option Nat) (K : Post3) (t : Fr) (m : Mem) : wpM E 33 113 rd c_sheafref16_Round_20 K t m = wpM E 33 113 rd (.cond (.tmp 100) (.ops [⟨(some 101), .move (.tmp 13), none⟩,
    ⟨(some 102), .move (.tmp 17), none⟩,
    ⟨(some 103), .move (.tmp 6), none⟩,
    ⟨(some 104), .move (.tmp 17), none⟩,
    ⟨(some 105), .lookup 68 (.tmp 103) (.tmp 104) false, none⟩,
    ⟨(some 106), .move (.tmp 18), none⟩,
    ⟨(some 107), .buildSlice 22 4 #[(0, (.tmp 102)), (1, (.tmp 105)), (2, (.const (.int .i64 9999))), (3, (.tmp 106))], none⟩,
    ⟨(some 108), .buildSlice 40 1 #[(0, (.tmp 107))], none⟩,
    ⟨(some 109), .call ⟨.builtin .append, #[(.tmp 101), (.tmp 108)], #[40, 40]⟩, none⟩,
    ⟨(some 13), .assign (.tmp 109), none⟩]) .skip) K t m := rfl

def c_sheafref16_Round_21 : MC := (.seq (.ops [⟨(some 99), .move (.tmp 18), none⟩,
    ⟨(some 100), .binOp .neq 3 (.tmp 99) (.const (.int .i64 0)) 3, none⟩]) c_sheafref16_Round_20)
@[go_sem] theorem c_sheafref16_Round_21_at (rd : Option Nat) (K : Post3) (t : Fr) (m : Mem) : wpM E 33 113 rd c_sheafref16_Round_21 K t m = wpM E 33 113 rd (.seq (.ops [⟨(some 99), .move (.tmp 18), none⟩,
    ⟨(some 100), .binOp .neq 3 (.tmp 99) (.const (.int .i64 0)) 3, none⟩]) c_sheafref16_Round_20) K t m := rfl

def c_sheafref16_Round_22 : MC := (.seq (.ops [⟨(some 94), .move (.tmp 14), none⟩,
    ⟨(some 95), .move (.tmp 94), none⟩,
    ⟨(some 96), .move (.tmp 19), (some (some 95, false))⟩,
    ⟨(some 97), .unOp .not 4 (.tmp 96), (some (some 95, false))⟩,
    ⟨(some 98), .pick (.tmp 95) (.const (.bool true)) (.tmp 97), none⟩,
    ⟨(some 14), .assign (.tmp 98), none⟩]) c_sheafref16_Round_21)
@[go_sem] theorem c_sheafref16_Round_22_at (rd : Option Nat) (K : Post3) (t : Fr) (m : Mem) : wpM E 33 113 rd c_sheafref16_Round_22 K t m = wpM E 33 113 rd (.seq (.ops [⟨(some 94), .move (.tmp 14), none⟩,
    ⟨(some 95), .move (.tmp 94), none⟩,
    ⟨(some 96), .move (.tmp 19), (some (some 95, false))⟩,
    ⟨(some 97), .unOp .not 4 (.tmp 96), (some (some 95, false))⟩,
    ⟨(some 98), .pick (.tmp 95) (.const (.bool true)) (.tmp 97), none⟩,
    ⟨(some 14), .assign (.tmp 98), none⟩]) c_sheafref16_Round_21) K t m := rfl

def c_sheafref16_Round_23 : MC := (.seq (.ops [⟨(some 87), .move (.tmp 5), none⟩,
    ⟨(some 88), .move (.tmp 17), none⟩,
    ⟨(some 89), .lookup 93 (.tmp 87) (.tmp 88) false, none⟩,
    ⟨(some 90), .call ⟨.value (.func 58), #[(.tmp 89)], #[27]⟩, none⟩,
    ⟨(some 91), .call ⟨.value (.func 42), #[(.tmp 90)], #[27]⟩, none⟩,
    ⟨(some 86), .move (.tmp 91), none⟩,
    ⟨(some 92), .extract (.tmp 86) 0, none⟩,
    ⟨(some 93), .extract (.tmp 86) 1, none⟩,
    ⟨(some 18), .assign (.tmp 92), none⟩,
    ⟨(some 19), .assign (.tmp 93), none⟩]) c_sheafref16_Round_22)
@[go_sem] theorem c_sheafref16_Round_23_at (rd : Option Nat) (K : Post3) (t : Fr) (m : Mem) : wpM E 33 113 rd c_sheafref16_Round_23 K t m = wpM E 33 113 rd (.seq (.ops [⟨(some 87), .move (.tmp 5), none⟩,
    ⟨(some 88), .move (.tmp 17), none⟩,
    ⟨(some 89), .lookup 93 (.tmp 87) (.tmp 88) false, none⟩,
    ⟨(some 90), .call ⟨.value (.func 58), #[(.tmp 89)], #[27]⟩, none⟩,
    ⟨(some 91), .call ⟨.value (.func 42), #[(.tmp 90)], #[27]⟩, none⟩,
    ⟨(some 86), .move (.tmp 91), none⟩,
    ⟨(some 92), .extract (.tmp 86) 0, none⟩,
    ⟨(some 93), .extract (.tmp 86) 1, none⟩,
    ⟨(some 18), .assign (.tmp 92), none⟩,
    ⟨(some 19), .assign (.tmp 93), none⟩]) c_sheafref16_Round_22) K t m := rfl

def c_sheafref16_Round_24 : MC := (.seq c_sheafref16_Round_19 c_sheafref16_Round_23)
@[go_sem] theorem c_sheafref16_Round_24_at (rd : Option Nat) (K : Post3) (t : Fr) (m : Mem) : wpM E 33 113 rd c_sheafref16_Round_24 K t m = wpM E 33 113 rd (.seq c_sheafref16_Round_19 c_sheafref16_Round_23) K t m := rfl

def c_sheafref16_Round_25 : MC := (.seq (.ops [⟨(some 78), .move (.tmp 16), none⟩,
    ⟨(some 79), .indexAddr 22 (.tmp 78) (.const (.int .i64 0)), none⟩,
    ⟨(some 80), .load 3 (.tmp 79), none⟩,
    ⟨(some 17), .assign (.tmp 80), none⟩]) c_sheafref16_Round_24)
@[go_sem] theorem c_sheafref16_Round_25_at (rd : Option Nat) (K : Post3) (t : Fr) (m : Mem) : wpM E 33 113 rd c_sheafref16_Round_25 K t m = wpM E 33 113 rd (.seq (.ops [⟨(some 78), .move (.tmp 16), none⟩,
    ⟨(some 79), .indexAddr 22 (.tmp 78) (.const (.int .i64 0)), none⟩,
    ⟨(some 80), .load 3 (.tmp 79), none⟩,
    ⟨(some 17), .assign (.tmp 80), none⟩]) c_sheafref16_Round_24) K t m := rfl

def c_sheafref16_Round_26 : MC := (.seq (.ops [⟨(some 76), .indexAddr 40 (.tmp 72) (.tmp 74), none⟩,
    ⟨(some 77), .load 22 (.tmp 76), none⟩,
    ⟨(some 16), .assign (.tmp 77), none⟩]) c_sheafref16_Round_25)
@[go_sem] theorem c_sheafref16_Round_26_at (rd : Option Nat) (K : Post3) (t : Fr) (m : Mem) : wpM E 33 113 rd c_sheafref16_Round_26 K t m = wpM E 33 113 rd (.seq (.ops [⟨(some 76), .indexAddr 40 (.tmp 72) (.tmp 74), none⟩,
    ⟨(some 77), .load 22 (.tmp 76), none⟩,
    ⟨(some 16), .assign (.tmp 77), none⟩]) c_sheafref16_Round_25) K t m := rfl

def c_sheafref16_Round_27 : MC := (.block 3 c_sheafref16_Round_26)
@[go_sem] theorem c_sheafref16_Round_27_at (rd : Option Nat) (K : Post3) (t : Fr) (m : Mem) : wpM E 33 113 rd c_sheafref16_Round_27 K t m = wpM E 33 113 rd (.block 3 c_sheafref16_Round_26) K t m := rfl

def c_sheafref16_Round_28 : MC := (.seq c_sheafref16_Round_27 (.ops [⟨(some 110), .binOp .add 3 (.tmp 74) (.const (.int .i64 1)) 3, none⟩,
    ⟨(some 74), .move (.tmp 110), none⟩]))
@[go_sem] theorem c_sheafref16_Round_28_at (rd : Option Nat) (K : Post3) (t : Fr) (m : Mem) : wpM E 33 113 rd c_sheafref16_Round_28 K t m = wpM E 33 113 rd (.seq c_sheafref16_Round_27 (.ops [⟨(some 110), .binOp .add 3 (.tmp 74) (.const (.int .i64 1)) 3, none⟩,
    ⟨(some 74), .move (.tmp 110), none⟩])) K t m := rfl

def c_sheafref16_Round_29 : MC := (.seq c_sheafref16_Round_16 c_sheafref16_Round_28)
@[go_sem] theorem c_sheafref16_Round_29_at (rd : Option Nat) (K : Post3) (t : Fr) (m : Mem) : wpM E 33 113 rd c_sheafref16_Round_29 K t m = wpM E 33 113 rd (.seq c_sheafref16_Round_16 c_sheafref16_Round_28) K t m := rfl

def c_sheafref16_Round_30 : MC := (.seq (.ops [⟨(some 75), .binOp .lss 3 (.tmp 74) (.tmp 73) 3, none⟩]) c_sheafref16_Round_29)
@[go_sem] theorem c_sheafref16_Round_30_at (rd : Option Nat) (K : Post3) (t : Fr) (m : Mem) : wpM E 33 113 rd c_sheafref16_Round_30 K t m = wpM E 33 113 rd (.seq (.ops [⟨(some 75), .binOp .lss 3 (.tmp 74) (.tmp 73) 3, none⟩]) c_sheafref16_Round_29) K t m := rfl

def c_sheafref16_Round_31 : MC := (.loop c_sheafref16_Round_30)
theorem c_sheafref16_Round_31_at (rd : Option Nat) (K : Post3) (t : Fr) (m : Mem) : wpM E 33 113 rd c_sheafref16_Round_31 K t m = wpM E 33 113 rd (.loop c_sheafref16_Round_30) K t m := rfl

def c_sheafref16_Round_32 : MC := (.block 2 c_sheafref16_Round_31)
theorem c_sheafref16_Round_32_at (rd : Option Nat) (K : Post3) (t : Fr) (m : Mem) : wpM E 33 113 rd c_sheafref16_Round_32 K t m = wpM E 33 113 rd (.block 2 c_sheafref16_Round_31) K t m := rfl

def c_sheafref16_Round_33 : MC := (.seq (.ops [⟨(some 71), .move (.tmp 7), none⟩,
    ⟨(some 72), .call ⟨.value (.func 26), #[(.tmp 71), (.const (.slice none 0 0))], #[40, 22]⟩, none⟩,
    ⟨(some 73), .call ⟨.builtin .len, #[(.tmp 72)], #[40]⟩, none⟩,
    ⟨(some 74), .move (.const (.int .i64 0)), none⟩]) c_sheafref16_Round_32)
@[go_sem] theorem c_sheafref16_Round_33_at (rd : Option Nat) (K : Post3) (t : Fr) (m : Mem) : wpM E 33 113 rd c_sheafref16_Round_33 K t m = wpM E 33 113 rd (.seq (.ops [⟨(some 71), .move (.tmp 7), none⟩,
    ⟨(some 72), .call ⟨.value (.func 26), #[(.tmp 71), (.const (.slice none 0 0))], #[40, 22]⟩, none⟩,
    ⟨(some 73), .call ⟨.builtin .len, #[(.tmp 72)], #[40]⟩, none⟩,
    ⟨(some 74), .move (.const (.int .i64 0)), none⟩]) c_sheafref16_Round_32) K t m := rfl

def c_sheafref16_Round_34 : MC := (.seq (.ops [⟨(some 2), .assign (.const (.slice none 0 0)), none⟩,
    ⟨(some 3), .assign (.const (.int .i64 3)), none⟩]) .ret)
@[go_sem] theorem c_sheafref16_Round_34_at (rd : Option Nat) (K : Post3) (t : Fr) (m : Mem) : wpM E 33 113 rd c_sheafref16_Round_34 K t m = wpM E 33 113 rd (.seq (.ops [⟨(some 2), .assign (.const (.slice none 0 0)), none⟩,
    ⟨(some 3), .assign (.const (.int .i64 3)), none⟩]) .ret) K t m := rfl

def c_sheafref16_Round_35 : MC := (.cond (.tmp 111) c_sheafref16_Round_34 .skip)
@[go_sem] theorem c_sheafref16_Round_35_at (rd : Option Nat) (K : Post3) (t : Fr) (m : Mem) : wpM E 33 113 rd c_sheafref16_Round_35 K t m = wpM E 33 113 rd (.cond (.tmp 111) c_sheafref16_Round_34 .skip) K t m := rfl

def c_sheafref16_Round_36 : MC := (.seq (.ops [⟨(some 111), .move (.tmp 14), none⟩]) c_sheafref16_Round_35)
@[go_sem] theorem c_sheafref16_Round_36_at (rd : Option Nat) (K : Post3) (t : Fr) (m : Mem) : wpM E 33 113 rd c_sheafref16_Round_36 K t m = wpM E 33 113 rd (.seq (.ops [⟨(some 111), .move (.tmp 14), none⟩]) c_sheafref16_Round_35) K t m := rfl

def c_sheafref16_Round_37 : MC := (.seq (.ops [⟨(some 112), .move (.tmp 13), none⟩,
    ⟨(some 2), .assign (.tmp 112), none⟩,
    ⟨(some 3), .assign (.const (.int .i64 0)), none⟩]) .ret)
@[go_sem] theorem c_sheafref16_Round_37_at (rd : Option Nat) (K : Post3) (t : Fr) (m : Mem) : wpM E 33 113 rd c_sheafref16_Round_37 K t m = wpM E 33 113 rd (.seq (.ops [⟨(some 112), .move (.tmp 13), none⟩,
    ⟨(some 2), .assign (.tmp 112), none⟩,
    ⟨(some 3), .assign (.const (.int .i64 0)), none⟩]) .ret) K t m := rfl

def c_sheafref16_Round_38 : MC := (.seq c_sheafref16_Round_36 c_sheafref16_Round_37)
@[go_sem] theorem c_sheafref16_Round_38_at (rd : Option Nat) (K : Post3) (t : Fr) (m : Mem) : wpM E 33 113 rd c_sheafref16_Round_38 K t m = wpM E 33 113 rd (.seq c_sheafref16_Round_36 c_sheafref16_Round_37) K t m := rfl

def c_sheafref16_Round_39 : MC := (.seq c_sheafref16_Round_33 c_sheafref16_Round_38)
@[go_sem] theorem c_sheafref16_Round_39_at (rd : Option Nat) (K : Post3) (t : Fr) (m : Mem) : wpM E 33 113 rd c_sheafref16_Round_39 K t m = wpM E 33 113 rd (.seq c_sheafref16_Round_33 c_sheafref16_Round_38) K t m := rfl

def c_sheafref16_Round_40 : MC := (.seq (.ops [⟨(some 14), .assign (.const (.bool false)), none⟩]) c_sheafref16_Round_39)
@[go_sem] theorem c_sheafref16_Round_40_at (rd : Option Nat) (K : Post3) (t : Fr) (m : Mem) : wpM E 33 113 rd c_sheafref16_Round_40 K t m = wpM E 33 113 rd (.seq (.ops [⟨(some 14), .assign (.const (.bool false)), none⟩]) c_sheafref16_Round_39) K t m := rfl

def c_sheafref16_Round_41 : MC := (.seq (.ops [⟨(some 13), .assign (.const (.slice none 0 0)), none⟩]) c_sheafref16_Round_40)
@[go_sem] theorem c_sheafref16_Round_41_at (rd : Option Nat) (K : Post3) (t : Fr) (m : Mem) : wpM E 33 113 rd c_sheafref16_Round_41 K t m = wpM E 33 113 rd (.seq (.ops [⟨(some 13), .assign (.const (.slice none 0 0)), none⟩]) c_sheafref16_Round_40) K t m := rfl

def c_sheafref16_Round_42 : MC := (.seq c_sheafref16_Round_15 c_sheafref16_Round_41)
@[go_sem] theorem c_sheafref16_Round_42_at (rd : Option Nat) (K : Post3) (t : Fr) (m : Mem) : wpM E 33 113 rd c_sheafref16_Round_42 K t m = wpM E 33 113 rd (.seq c_sheafref16_Round_15 c_sheafref16_Round_41) K t m := rfl

def c_sheafref16_Round_43 : MC := (.seq (.ops [⟨(some 7), .assign (.const (.slice none 0 0)), none⟩]) c_sheafref16_Round_42)
@[go_sem] theorem c_sheafref16_Round_43_at (rd : Option Nat) (K : Post3) (t : Fr) (m : Mem) : wpM E 33 113 rd c_sheafref16_Round_43 K t m = wpM E 33 113 rd (.seq (.ops [⟨(some 7), .assign (.const (.slice none 0 0)), none⟩]) c_sheafref16_Round_42) K t m := rfl

def c_sheafref16_Round_44 : MC := (.seq (.ops [⟨(some 20), .makeMap 93 none, none⟩,
    ⟨(some 21), .makeMap 93 none, none⟩,
    ⟨(some 22), .makeMap 68 none, none⟩,
    ⟨(some 4), .assign (.tmp 20), none⟩,
    ⟨(some 5), .assign (.tmp 21), none⟩,
    ⟨(some 6), .assign (.tmp 22), none⟩]) c_sheafref16_Round_43)
@[go_sem] theorem c_sheafref16_Round_44_at (rd : Option Nat) (K : Post3) (t : Fr) (m : Mem) : wpM E 33 113 rd c_sheafref16_Round_44 K t m = wpM E 33 113 rd (.seq (.ops [⟨(some 20), .makeMap 93 none, none⟩,
    ⟨(some 21), .makeMap 93 none, none⟩,
    ⟨(some 22), .makeMap 68 none, none⟩,
    ⟨(some 4), .assign (.tmp 20), none⟩,
    ⟨(some 5), .assign (.tmp 21), none⟩,
    ⟨(some 6), .assign (.tmp 22), none⟩]) c_sheafref16_Round_43) K t m := rfl

def c_sheafref16_Round_45 : MC := (.seq (.ops [⟨(some 2), .assign (.const (.slice none 0 0)), none⟩,
    ⟨(some 3), .assign (.const (.int .i64 0)), none⟩]) c_sheafref16_Round_44)
@[go_sem] theorem c_sheafref16_Round_45_at (rd : Option Nat) (K : Post3) (t : Fr) (m : Mem) : wpM E 33 113 rd c_sheafref16_Round_45 K t m = wpM E 33 113 rd (.seq (.ops [⟨(some 2), .assign (.const (.slice none 0 0)), none⟩,
    ⟨(some 3), .assign (.const (.int .i64 0)), none⟩]) c_sheafref16_Round_44) K t m := rfl

@[go_sem] theorem some33 : (E.fn 33).isSome = true := by kernel_rfl
set_option maxRecDepth 100000 in
theorem fn_sheafref16_Round : FnIs E 33 113 [.tmp 2, .tmp 3] c_sheafref16_Round_45 := ⟨by kernel_rfl, by kernel_rfl⟩

/-! sheaf/sheafref16.Pairs -/
abbrev F_sheafref16_Pairs : FuncId := 35
def c_sheafref16_Pairs_0 : MC := (.cond (.tmp 24) .skip (.exit 0))
@[go_sem] theorem c_sheafref16_Pairs_0_at (rd : Option Nat) (K : Post3) (t : Fr) (m : Mem) : wpM E 35 192 rd c_sheafref16_Pairs_0 K t m = wpM E 35 192 rd (.cond (.tmp 24) .skip (.exit 0)) K t m := rfl

def c_sheafref16_Pairs_1 : MC := (.cond (.tmp 30) (.exit 1) .skip)
@[go_sem] theorem c_sheafref16_Pairs_1_at (rd : Option Nat) (K : Post3) (t : Fr) (m : Mem) : wpM E 35 192 rd c_sheafref16_Pairs_1 K t m = wpM E 35 192 rd (.cond (.tmp 30) (.exit 1) .skip) K t m := rfl

def c_sheafref16_Pairs_2 : MC := (.seq (.ops [⟨(some 28), .move (.tmp 5), none⟩,
    ⟨(some 29), .move (.tmp 6), none⟩,
    ⟨(some 30), .lookup 79 (.tmp 28) (.tmp 29) false, none⟩]) c_sheafref16_Pairs_1)
@[go_sem] theorem c_sheafref16_Pairs_2_at (rd : Option Nat) (K : Post3) (t : Fr) (m : Mem) : wpM E 35 192 rd c_sheafref16_Pairs_2 K t m = wpM E 35 192 rd (.seq (.ops [⟨(some 28), .move (.tmp 5), none⟩,
    ⟨(some 29), .move (.tmp 6), none⟩,
    ⟨(some 30), .lookup 79 (.tmp 28) (.tmp 29) false, none⟩]) c_sheafref16_Pairs_1) K t m := rfl

def c_sheafref16_Pairs_3 : MC := (.seq (.ops [⟨(some 35), .move (.tmp 4), none⟩,
    ⟨(some 36), .move (.tmp 7), none⟩,
    ⟨(some 37), .indexAddr 22 (.tmp 36) (.const (.int .i64 1)), none⟩,
    ⟨(some 38), .load 3 (.tmp 37), none⟩,
    ⟨(some 39), .move (.tmp 7), none⟩,
    ⟨(some 40), .indexAddr 22 (.tmp 39) (.const (.int .i64 7)), none⟩,
    ⟨(some 41), .load 3 (.tmp 40), none⟩,
    ⟨(some 42), .move (.tmp 7), none⟩,
    ⟨(some 43), .indexAddr 22 (.tmp 42) (.const (.int .i64 8)), none⟩,
    ⟨(some 44), .load 3 (.tmp 43), none⟩,
    ⟨(some 45), .move (.tmp 7), none⟩,
    ⟨(some 46), .indexAddr 22 (.tmp 45) (.const (.int .i64 9)), none⟩,
    ⟨(some 47), .load 3 (.tmp 46), none⟩,
    ⟨(some 48), .buildSlice 22 4 #[(0, (.tmp 38)), (1, (.tmp 41)), (2, (.tmp 44)), (3, (.tmp 47))], none⟩,
    ⟨(some 49), .buildSlice 40 1 #[(0, (.tmp 48))], none⟩,
    ⟨(some 50), .call ⟨.builtin .append, #[(.tmp 35), (.tmp 49)], #[40, 40]⟩, none⟩,
    ⟨(some 4), .assign (.tmp 50), none⟩]) (.exit 1))
@[go_sem] theorem c_sheafref16_Pairs_3_at (rd : Option Nat) (K : Post3) (t : Fr) (m : Mem) : wpM E 35 192 rd c_sheafref16_Pairs_3 K t m = wpM E 35 192 rd (.seq (.ops [⟨(some 35), .move (.tmp 4), none⟩,
    ⟨(some 36), .move (.tmp 7), none⟩,
    ⟨(some 37), .indexAddr 22 (.tmp 36) (.const (.int .i64 1)), none⟩,
    ⟨(some 38), .load 3 (.tmp 37), none⟩,
    ⟨(some 39), .move (.tmp 7), none⟩,
    ⟨(some 40), .indexAddr 22 (.tmp 39) (.const (.int .i64 7)), none⟩,
    ⟨(some 41), .load 3 (.tmp 40), none⟩,
    ⟨(some 42), .move (.tmp 7), none⟩,
    ⟨(some 43), .indexAddr 22 (.tmp 42) (.const (.int .i64 8)), none⟩,
    ⟨(some 44), .load 3 (.tmp 43), none⟩,
    ⟨(some 45), .move (.tmp 7), none⟩,
    ⟨(some 46), .indexAddr 22 (.tmp 45) (.const (.int .i64 9)), none⟩,
    ⟨(some 47), .load 3 (.tmp 46), none⟩,
    ⟨(some 48), .buildSlice 22 4 #[(0, (.tmp 38)), (1, (.tmp 41)), (2, (.tmp 44)), (3, (.tmp 47))], none⟩,
    ⟨(some 49), .buildSlice 40 1 #[(0, (.tmp 48))], none⟩,
    ⟨(some 50), .call ⟨.builtin .append, #[(.tmp 35), (.tmp 49)], #[40, 40]⟩, none⟩,
    ⟨(some 4), .assign (.tmp 50), none⟩]) (.exit 1)) K t m := rfl

def c_sheafref16_Pairs_4 : MC := (.cond (.tmp 34) c_sheafref16_Pairs_3 .skip)
@[go_sem] theorem c_sheafref16_Pairs_4_at (rd : Option Nat) (K : Post3) (t : Fr) (m : Mem) : wpM E 35 192 rd c_sheafref16_Pairs_4 K t m = wpM E 35 192 rd (.cond (.tmp 34) c_sheafref16_Pairs_3 .skip) K t m := rfl

def c_sheafref16_Pairs_5 : MC := (.seq (.ops [⟨(some 31), .move (.tmp 7), none⟩,
    ⟨(some 32), .indexAddr 22 (.tmp 31) (.const (.int .i64 5)), none⟩,
    ⟨(some 33), .load 3 (.tmp 32), none⟩,
    ⟨(some 34), .binOp .eql 3 (.tmp 33) (.const (.int .i64 0)) 3, none⟩]) c_sheafref16_Pairs_4)
@[go_sem] theorem c_sheafref16_Pairs_5_at (rd : Option Nat) (K : Post3) (t : Fr) (m : Mem) : wpM E 35 192 rd c_sheafref16_Pairs_5 K t m = wpM E 35 192 rd (.seq (.ops [⟨(some 31), .move (.tmp 7), none⟩,
    ⟨(some 32), .indexAddr 22 (.tmp 31) (.const (.int .i64 5)), none⟩,
    ⟨(some 33), .load 3 (.tmp 32), none⟩,
    ⟨(some 34), .binOp .eql 3 (.tmp 33) (.const (.int .i64 0)) 3, none⟩]) c_sheafref16_Pairs_4) K t m := rfl

def c_sheafref16_Pairs_6 : MC := (.cond (.tmp 69) .skip (.exit 2))
@[go_sem] theorem c_sheafref16_Pairs_6_at (rd : Option Nat) (K : Post3) (t : Fr) (m : Mem) : wpM E 35 192 rd c_sheafref16_Pairs_6 K t m = wpM E 35 192 rd (.cond (.tmp 69) .skip (.exit 2)) K t m := rfl

def c_sheafref16_Pairs_7 : MC := (.seq (.ops [⟨(some 66), .move (.tmp 12), none⟩,
    ⟨(some 67), .move (.tmp 0), none⟩,
    ⟨(some 68), .call ⟨.builtin .len, #[(.tmp 67)], #[40]⟩, none⟩,
    ⟨(some 69), .binOp .lss 3 (.tmp 66) (.tmp 68) 3, none⟩]) c_sheafref16_Pairs_6)
@[go_sem] theorem c_sheafref16_Pairs_7_at (rd : Option Nat) (K : Post3) (t : Fr) (m : Mem) : wpM E 35 192 rd c_sheafref16_Pairs_7 K t m = wpM E 35 192 rd (.seq (.ops [⟨(some 66), .move (.tmp 12), none⟩,
    ⟨(some 67), .move (.tmp 0), none⟩,
    ⟨(some 68), .call ⟨.builtin .len, #[(.tmp 67)], #[40]⟩, none⟩,
    ⟨(some 69), .binOp .lss 3 (.tmp 66) (.tmp 68) 3, none⟩]) c_sheafref16_Pairs_6) K t m := rfl

def c_sheafref16_Pairs_8 : MC := (.cond (.tmp 110) (.exit 3) .skip)
@[go_sem] theorem c_sheafref16_Pairs_8_at (rd : Option Nat) (K : Post3) (t : Fr) (m : Mem) : wpM E 35 192 rd c_sheafref16_Pairs_8 K t m = wpM E 35 192 rd (.cond (.tmp 110) (.exit 3) .skip) K t m := rfl

def c_sheafref16_Pairs_9 : MC := (.seq (.ops [⟨(some 76), .move (.tmp 13), none⟩,
    ⟨(some 77), .indexAddr 22 (.tmp 76) (.const (.int .i64 5)), none⟩,
    ⟨(some 78), .load 3 (.tmp 77), none⟩,
    ⟨(some 79), .binOp .eql 3 (.tmp 78) (.const (.int .i64 0)) 3, none⟩,
    ⟨(some 80), .move (.tmp 79), none⟩,
    ⟨(some 81), .move (.tmp 13), (some (some 80, false))⟩,
    ⟨(some 82), .indexAddr 22 (.tmp 81) (.const (.int .i64 1)), (some (some 80, false))⟩,
    ⟨(some 83), .load 3 (.tmp 82), (some (some 80, false))⟩,
    ⟨(some 84), .move (.tmp 13), (some (some 80, false))⟩,
    ⟨(some 85), .indexAddr 22 (.tmp 84) (.const (.int .i64 5)), (some (some 80, false))⟩,
    ⟨(some 86), .load 3 (.tmp 85), (some (some 80, false))⟩,
    ⟨(some 87), .call ⟨.builtin .min, #[(.tmp 83), (.tmp 86)], #[3, 3]⟩, (some (some 80, false))⟩,
    ⟨(some 88), .move (.tmp 8), (some (some 80, false))⟩,
    ⟨(some 89), .binOp .neq 3 (.tmp 87) (.tmp 88) 3, (some (some 80, false))⟩,
    ⟨(some 90), .pick (.tmp 80) (.const (.bool true)) (.tmp 89), none⟩,
    ⟨(some 91), .move (.tmp 90), none⟩,
    ⟨(some 92), .move (.tmp 13), (some (some 91, false))⟩,
    ⟨(some 93), .indexAddr 22 (.tmp 92) (.const (.int .i64 1)), (some (some 91, false))⟩,
    ⟨(some 94), .load 3 (.tmp 93), (some (some 91, false))⟩,
    ⟨(some 95), .move (.tmp 13), (some (some 91, false))⟩,
    ⟨(some 96), .indexAddr 22 (.tmp 95) (.const (.int .i64 5)), (some (some 91, false))⟩,
    ⟨(some 97), .load 3 (.tmp 96), (some (some 91, false))⟩,
    ⟨(some 98), .call ⟨.builtin .max, #[(.tmp 94), (.tmp 97)], #[3, 3]⟩, (some (some 91, false))⟩,
    ⟨(some 99), .move (.tmp 9), (some (some 91, false))⟩,
    ⟨(some 100), .binOp .neq 3 (.tmp 98) (.tmp 99) 3, (some (some 91, false))⟩,
    ⟨(some 101), .pick (.tmp 91) (.const (.bool true)) (.tmp 100), none⟩,
    ⟨(some 102), .move (.tmp 101), none⟩,
    ⟨(some 103), .move (.tmp 13), (some (some 102, false))⟩,
    ⟨(some 104), .indexAddr 22 (.tmp 103) (.const (.int .i64 8)), (some (some 102, false))⟩,
    ⟨(some 105), .load 3 (.tmp 104), (some (some 102, false))⟩,
    ⟨(some 106), .move (.tmp 7), (some (some 102, false))⟩,
    ⟨(some 107), .indexAddr 22 (.tmp 106) (.const (.int .i64 8)), (some (some 102, false))⟩,
    ⟨(some 108), .load 3 (.tmp 107), (some (some 102, false))⟩,
    ⟨(some 109), .binOp .neq 3 (.tmp 105) (.tmp 108) 3, (some (some 102, false))⟩,
    ⟨(some 110), .pick (.tmp 102) (.const (.bool true)) (.tmp 109), none⟩]) c_sheafref16_Pairs_8)
@[go_sem] theorem c_sheafref16_Pairs_9_at (rd : Option Nat) (K : Post3) (t : Fr) (m : Mem) : wpM E 35 192 rd c_sheafref16_Pairs_9 K t m = wpM E 35 192 rd (.seq (.ops [⟨(some 76), .move (.tmp 13), none⟩,
    ⟨(some 77), .indexAddr 22 (.tmp 76) (.const (.int .i64 5)), none⟩,
    ⟨(some 78), .load 3 (.tmp 77), none⟩,
    ⟨(some 79), .binOp .eql 3 (.tmp 78) (.const (.int .i64 0)) 3, none⟩,
    ⟨(some 80), .move (.tmp 79), none⟩,
    ⟨(some 81), .move (.tmp 13), (some (some 80, false))⟩,
    ⟨(some 82), .indexAddr 22 (.tmp 81) (.const (.int .i64 1)), (some (some 80, false))⟩,
    ⟨(some 83), .load 3 (.tmp 82), (some (some 80, false))⟩,
    ⟨(some 84), .move (.tmp 13), (some (some 80, false))⟩,
    ⟨(some 85), .indexAddr 22 (.tmp 84) (.const (.int .i64 5)), (some (some 80, false))⟩,
    ⟨(some 86), .load 3 (.tmp 85), (some (some 80, false))⟩,
    ⟨(some 87), .call ⟨.builtin .min, #[(.tmp 83), (.tmp 86)], #[3, 3]⟩, (some (some 80, false))⟩,
    ⟨(some 88), .move (.tmp 8), (some (some 80, false))⟩,
    ⟨(some 89), .binOp .neq 3 (.tmp 87) (.tmp 88) 3, (some (some 80, false))⟩,
    ⟨(some 90), .pick (.tmp 80) (.const (.bool true)) (.tmp 89), none⟩,
    ⟨(some 91), .move (.tmp 90), none⟩,
    ⟨(some 92), .move (.tmp 13), (some (some 91, false))⟩,
    ⟨(some 93), .indexAddr 22 (.tmp 92) (.const (.int .i64 1)), (some (some 91, false))⟩,
    ⟨(some 94), .load 3 (.tmp 93), (some (some 91, false))⟩,
    ⟨(some 95), .move (.tmp 13), (some (some 91, false))⟩,
    ⟨(some 96), .indexAddr 22 (.tmp 95) (.const (.int .i64 5)), (some (some 91, false))⟩,
    ⟨(some 97), .load 3 (.tmp 96), (some (some 91, false))⟩,
    ⟨(some 98), .call ⟨.builtin .max, #[(.tmp 94), (.tmp 97)], #[3, 3]⟩, (some (some 91, false))⟩,
    ⟨(some 99), .move (.tmp 9), (some (some 91, false))⟩,
    ⟨(some 100), .binOp .neq 3 (.tmp 98) (.tmp 99) 3, (some (some 91, false))⟩,
    ⟨(some 101), .pick (.tmp 91) (.const (.bool true)) (.tmp 100), none⟩,
    ⟨(some 102), .move (.tmp 101), none⟩,
    ⟨(some 103), .move (.tmp 13), (some (some 102, false))⟩,
    ⟨(some 104), .indexAddr 22 (.tmp 103) (.const (.int .i64 8)), (some (some 102, false))⟩,
    ⟨(some 105), .load 3 (.tmp 104), (some (some 102, false))⟩,
    ⟨(some 106), .move (.tmp 7), (some (some 102, false))⟩,
    ⟨(some 107), .indexAddr 22 (.tmp 106) (.const (.int .i64 8)), (some (some 102, false))⟩,
    ⟨(some 108), .load 3 (.tmp 107), (some (some 102, false))⟩,
    ⟨(some 109), .binOp .neq 3 (.tmp 105) (.tmp 108) 3, (some (some 102, false))⟩,
    ⟨(some 110), .pick (.tmp 102) (.const (.bool true)) (.tmp 109), none⟩]) c_sheafref16_Pairs_8) K t m := rfl

def c_sheafref16_Pairs_10 : MC := (.cond (.tmp 117) (.draw [(0, [], ⟨(some 118), .fieldAddr 98 (.tmp 10) 0, none⟩),
    (1, [], ⟨(some 119), .load 27 (.tmp 118), none⟩),
    (2, [], ⟨(some 120), .move (.tmp 13), none⟩),
    (3, [], ⟨(some 121), .indexAddr 22 (.tmp 120) (.const (.int .i64 9)), none⟩),
    (4, [], ⟨(some 122), .load 3 (.tmp 121), none⟩),
    (7, [], ⟨(some 125), .move (.tmp 13), none⟩),
    (8, [], ⟨(some 126), .indexAddr 22 (.tmp 125) (.const (.int .i64 7)), none⟩),
    (9, [], ⟨(some 127), .load 3 (.tmp 126), none⟩),
    (5, [1, 9], ⟨(some 123), .call ⟨.value (.func 41), #[(.tmp 122)], #[3]⟩, none⟩),
    (6, [9], ⟨(some 124), .call ⟨.value (.func 40), #[(.tmp 119), (.tmp 123)], #[27, 27]⟩, none⟩),
    (10, [], ⟨(some 128), .build 98 #[(0, (.tmp 124)), (1, (.tmp 127)), (2, (.const (.bool true)))], none⟩),
    (11, [], ⟨none, .store 98 (.tmp 10) (.tmp 128), none⟩)]) (.draw [(0, [], ⟨(some 129), .fieldAddr 98 (.tmp 11) 0, none⟩),
    (1, [], ⟨(some 130), .load 27 (.tmp 129), none⟩),
    (2, [], ⟨(some 131), .move (.tmp 13), none⟩),
    (3, [], ⟨(some 132), .indexAddr 22 (.tmp 131) (.const (.int .i64 9)), none⟩),
    (4, [], ⟨(some 133), .load 3 (.tmp 132), none⟩),
    (7, [], ⟨(some 136), .move (.tmp 13), none⟩),
    (8, [], ⟨(some 137), .indexAddr 22 (.tmp 136) (.const (.int .i64 7)), none⟩),
    (9, [], ⟨(some 138), .load 3 (.tmp 137), none⟩),
    (5, [1, 9], ⟨(some 134), .call ⟨.value (.func 41), #[(.tmp 133)], #[3]⟩, none⟩),
    (6, [9], ⟨(some 135), .call ⟨.value (.func 40), #[(.tmp 130), (.tmp 134)], #[27, 27]⟩, none⟩),
    (10, [], ⟨(some 139), .build 98 #[(0, (.tmp 135)), (1, (.tmp 138)), (2, (.const (.bool true)))], none⟩),
    (11, [], ⟨none, .store 98 (.tmp 11) (.tmp 139), none⟩)]))
@[go_sem] theorem c_sheafref16_Pairs_10_at (rd : Option Nat) (K : Post3) (t : Fr) (m : Mem) : wpM E 35 192 rd c_sheafref16_Pairs_10 K t m = wpM E 35 192 rd (.cond (.tmp 117) (.draw [(0, [], ⟨(some 118), .fieldAddr 98 (.tmp 10) 0, none⟩),
    (1, [], ⟨(some 119), .load 27 (.tmp 118), none⟩),
    (2, [], ⟨(some 120), .move (.tmp 13), none⟩),
    (3, [], ⟨(some 121), .indexAddr 22 (.tmp 120) (.const (.int .i64 9)), none⟩),
    (4, [], ⟨(some 122), .load 3 (.tmp 121), none⟩),
    (7, [], ⟨(some 125), .move (.tmp 13), none⟩),
    (8, [], ⟨(some 126), .indexAddr 22 (.tmp 125) (.const (.int .i64 7)), none⟩),
    (9, [], ⟨(some 127), .load 3 (.tmp 126), none⟩),
    (5, [1, 9], ⟨(some 123), .call ⟨.value (.func 41), #[(.tmp 122)], #[3]⟩, none⟩),
    (6, [9], ⟨(some 124), .call ⟨.value (.func 40), #[(.tmp 119), (.tmp 123)], #[27, 27]⟩, none⟩),
    (10, [], ⟨(some 128), .build 98 #[(0, (.tmp 124)), (1, (.tmp 127)), (2, (.const (.bool true)))], none⟩),
    (11, [], ⟨none, .store 98 (.tmp 10) (.tmp 128), none⟩)]) (.draw [(0, [], ⟨(some 129), .fieldAddr 98 (.tmp 11) 0, none⟩),
    (1, [], ⟨(some 130), .load 27 (.tmp 129), none⟩),
    (2, [], ⟨(some 131), .move (.tmp 13), none⟩),
    (3, [], ⟨(some 132), .indexAddr 22 (.tmp 131) (.const (.int .i64 9)), none⟩),
    (4, [], ⟨(some 133), .load 3 (.tmp 132), none⟩),
    (7, [], ⟨(some 136), .move (.tmp 13), none⟩),
    (8, [], ⟨(some 137), .indexAddr 22 (.tmp 136) (.const (.int .i64 7)), none⟩),
    (9, [], ⟨(some 138), .load 3 (.tmp 137), none⟩),
    (5, [1, 9], ⟨(some 134), .call ⟨.value (.func 41), #[(.tmp 133)], #[3]⟩, none⟩),
    (6, [9], ⟨(some 135), .call ⟨.value (.func 40), #[(.tmp 130), (.tmp 134)], #[27, 27]⟩, none⟩),
    (10, [], ⟨(some 139), .build 98 #[(0, (.tmp 135)), (1, (.tmp 138)), (2, (.const (.bool true)))], none⟩),
    (11, [], ⟨none, .store 98 (.tmp 11) (.tmp 139), none⟩)])) K t m := rfl

def c_sheafref16_Pairs_11 : MC := (.seq (.ops [⟨(some 113), .move (.tmp 13), none⟩,
    ⟨(some 114), .indexAddr 22 (.tmp 113) (.const (.int .i64 1)), none⟩,
    ⟨(some 115), .load 3 (.tmp 114), none⟩,
    ⟨(some 116), .move (.tmp 8), none⟩,
    ⟨(some 117), .binOp .eql 3 (.tmp 115) (.tmp 116) 3, none⟩]) c_sheafref16_Pairs_10)
@[go_sem] theorem c_sheafref16_Pairs_11_at (rd : Option Nat) (K : Post3) (t : Fr) (m : Mem) : wpM E 35 192 rd c_sheafref16_Pairs_11 K t m = wpM E 35 192 rd (.seq (.ops [⟨(some 113), .move (.tmp 13), none⟩,
    ⟨(some 114), .indexAddr 22 (.tmp 113) (.const (.int .i64 1)), none⟩,
    ⟨(some 115), .load 3 (.tmp 114), none⟩,
    ⟨(some 116), .move (.tmp 8), none⟩,
    ⟨(some 117), .binOp .eql 3 (.tmp 115) (.tmp 116) 3, none⟩]) c_sheafref16_Pairs_10) K t m := rfl

def c_sheafref16_Pairs_12 : MC := (.seq (.ops [⟨(some 111), .move (.tmp 5), none⟩,
    ⟨(some 112), .move (.tmp 12), none⟩,
    ⟨none, .mapUpdate 79 (.tmp 111) (.tmp 112) (.const (.bool true)), none⟩]) c_sheafref16_Pairs_11)
@[go_sem] theorem c_sheafref16_Pairs_12_at (rd : Option Nat) (K : Post3) (t : Fr) (m : Mem) : wpM E 35 192 rd c_sheafref16_Pairs_12 K t m = wpM E 35 192 rd (.seq (.ops [⟨(some 111), .move (.tmp 5), none⟩,
    ⟨(some 112), .move (.tmp 12), none⟩,
    ⟨none, .mapUpdate 79 (.tmp 111) (.tmp 112) (.const (.bool true)), none⟩]) c_sheafref16_Pairs_11) K t m := rfl

def c_sheafref16_Pairs_13 : MC := (.seq c_sheafref16_Pairs_9 c_sheafref16_Pairs_12)
@[go_sem] theorem c_sheafref16_Pairs_13_at (rd : Option Nat) (K : Post3) (t : Fr) (m : Mem) : wpM E 35 192 rd c_sheafref16_Pairs_13 K t m = wpM E 35 192 rd (.seq c_sheafref16_Pairs_9 c_sheafref16_Pairs_12) K t m := rfl

def c_sheafref16_Pairs_14 : MC := (.seq (.ops [⟨(some 72), .move (.tmp 0), none⟩,
    ⟨(some 73), .move (.tmp 12), none⟩,
    ⟨(some 74), .indexAddr 40 (.tmp 72) (.tmp 73), none⟩,
    ⟨(some 75), .load 22 (.tmp 74), none⟩,
    ⟨(some 13), .assign (.tmp 75), none⟩]) c_sheafref16_Pairs_13)
@[go_sem] theorem c_sheafref16_Pairs_14_at (rd : Option Nat) (K : Post3) (t : Fr) (m : Mem) : wpM E 35 192 rd c_sheafref16_Pairs_14 K t m = wpM E 35 192 rd (.seq (.ops [⟨(some 72), .move (.tmp 0), none⟩,
    ⟨(some 73), .move (.tmp 12), none⟩,
    ⟨(some 74), .indexAddr 40 (.tmp 72) (.tmp 73), none⟩,
    ⟨(some 75), .load 22 (.tmp 74), none⟩,
    ⟨(some 13), .assign (.tmp 75), none⟩]) c_sheafref16_Pairs_13) K t m := rfl

def c_sheafref16_Pairs_15 : MC := (.block 3 c_sheafref16_Pairs_14)
@[go_sem] theorem c_sheafref16_Pairs_15_at (rd : Option Nat) (K : Post3) (t : Fr) (m : Mem) : wpM E 35 192 rd c_sheafref16_Pairs_15 K t m = wpM E 35 192 rd (.block 3 c_sheafref16_Pairs_14) K t m := rfl

def c_sheafref16_Pairs_16 : MC := (.seq c_sheafref16_Pairs_15 (.ops [⟨(some 70), .move (.tmp 12), none⟩,
    ⟨(some 71), .binOp .add 3 (.tmp 70) (.const (.int .i64 1)) 3, none⟩,
    ⟨(some 12), .assign (.tmp 71), none⟩]))
@[go_sem] theorem c_sheafref16_Pairs_16_at (rd : Option Nat) (K : Post3) (t : Fr) (m : Mem) : wpM E 35 192 rd c_sheafref16_Pairs_16 K t m = wpM E 35 192 rd (.seq c_sheafref16_Pairs_15 (.ops [⟨(some 70), .move (.tmp 12), none⟩,
    ⟨(some 71), .binOp .add 3 (.tmp 70) (.const (.int .i64 1)) 3, none⟩,
    ⟨(some 12), .assign (.tmp 71), none⟩])) K t m := rfl

def c_sheafref16_Pairs_17 : MC := (.seq c_sheafref16_Pairs_7 c_sheafref16_Pairs_16)
@[go_sem] theorem c_sheafref16_Pairs_17_at (rd : Option Nat) (K : Post3) (t : Fr) (m : Mem) : wpM E 35 192 rd c_sheafref16_Pairs_17 K t m = wpM E 35 192 rd (.seq c_sheafref16_Pairs_7 c_sheafref16_Pairs_16) K t m := rfl

def c_sheafref16_Pairs_18 : MC := (.loop c_sheafref16_Pairs_17)
theorem c_sheafref16_Pairs_18_at (rd : Option Nat) (K : Post3) (t : Fr) (m : Mem) : wpM E 35 192 rd c_sheafref16_Pairs_18 K t m = wpM E 35 192 rd (.loop c_sheafref16_Pairs_17) K t m := rfl

def c_sheafref16_Pairs_19 : MC := (.block 2 c_sheafref16_Pairs_18)
theorem c_sheafref16_Pairs_19_at (rd : Option Nat) (K : Post3) (t : Fr) (m : Mem) : wpM E 35 192 rd c_sheafref16_Pairs_19 K t m = wpM E 35 192 rd (.block 2 c_sheafref16_Pairs_18) K t m := rfl

def c_sheafref16_Pairs_20 : MC := (.seq (.ops [⟨(some 65), .move (.tmp 6), none⟩,
    ⟨(some 12), .assign (.tmp 65), none⟩]) c_sheafref16_Pairs_19)
@[go_sem] theorem c_sheafref16_Pairs_20_at (rd : Option Nat) (K : Post3) (t : Fr) (m : Mem) : wpM E 35 192 rd c_sheafref16_Pairs_20 K t m = wpM E 35 192 rd (.seq (.ops [⟨(some 65), .move (.tmp 6), none⟩,
    ⟨(some 12), .assign (.tmp 65), none⟩]) c_sheafref16_Pairs_19) K t m := rfl

def c_sheafref16_Pairs_21 : MC := (.seq (.ops [⟨(some 2), .assign (.const (.slice none 0 0)), none⟩,
    ⟨(some 3), .assign (.const (.bool false)), none⟩]) .ret)
@[go_sem] theorem c_sheafref16_Pairs_21_at (rd : Option Nat) (K : Post3) (t : Fr) (m : Mem) : wpM E 35 192 rd c_sheafref16_Pairs_21 K t m = wpM E 35 192 rd (.seq (.ops [⟨(some 2), .assign (.const (.slice none 0 0)), none⟩,
    ⟨(some 3), .assign (.const (.bool false)), none⟩]) .ret) K t m := rfl

def c_sheafref16_Pairs_22 : MC := (.cond (.tmp 163) c_sheafref16_Pairs_21 .skip)
@[go_sem] theorem c_sheafref16_Pairs_22_at (rd : Option Nat) (K : Post3) (t : Fr) (m : Mem) : wpM E 35 192 rd c_sheafref16_Pairs_22 K t m = wpM E 35 192 rd (.cond (.tmp 163) c_sheafref16_Pairs_21 .skip) K t m := rfl

def c_sheafref16_Pairs_23 : MC := (.seq (.ops [⟨(some 158), .move (.tmp 17), none⟩,
    ⟨(some 159), .unOp .not 4 (.tmp 158), none⟩,
    ⟨(some 160), .move (.tmp 159), none⟩,
    ⟨(some 161), .move (.tmp 19), (some (some 160, false))⟩,
    ⟨(some 162), .unOp .not 4 (.tmp 161), (some (some 160, false))⟩,
    ⟨(some 163), .pick (.tmp 160) (.const (.bool true)) (.tmp 162), none⟩]) c_sheafref16_Pairs_22)
@[go_sem] theorem c_sheafref16_Pairs_23_at (rd : Option Nat) (K : Post3) (t : Fr) (m : Mem) : wpM E 35 192 rd c_sheafref16_Pairs_23 K t m = wpM E 35 192 rd (.seq (.ops [⟨(some 158), .move (.tmp 17), none⟩,
    ⟨(some 159), .unOp .not 4 (.tmp 158), none⟩,
    ⟨(some 160), .move (.tmp 159), none⟩,
    ⟨(some 161), .move (.tmp 19), (some (some 160, false))⟩,
    ⟨(some 162), .unOp .not 4 (.tmp 161), (some (some 160, false))⟩,
    ⟨(some 163), .pick (.tmp 160) (.const (.bool true)) (.tmp 162), none⟩]) c_sheafref16_Pairs_22) K t m := rfl

def c_sheafref16_Pairs_24 : MC := (.cond (.tmp 165) (.ops [⟨(some 166), .move (.tmp 4), none⟩,
    ⟨(some 167), .move (.tmp 8), none⟩,
    ⟨(some 168), .fieldAddr 98 (.tmp 10) 1, none⟩,
    ⟨(some 169), .load 3 (.tmp 168), none⟩,
    ⟨(some 170), .move (.tmp 7), none⟩,
    ⟨(some 171), .indexAddr 22 (.tmp 170) (.const (.int .i64 8)), none⟩,
    ⟨(some 172), .load 3 (.tmp 171), none⟩,
    ⟨(some 173), .move (.tmp 16), none⟩,
    ⟨(some 174), .buildSlice 22 4 #[(0, (.tmp 167)), (1, (.tmp 169)), (2, (.tmp 172)), (3, (.tmp 173))], none⟩,
    ⟨(some 175), .buildSlice 40 1 #[(0, (.tmp 174))], none⟩,
    ⟨(some 176), .call ⟨.builtin .append, #[(.tmp 166), (.tmp 175)], #[40, 40]⟩, none⟩,
    ⟨(some 4), .assign (.tmp 176), none⟩]) .skip)
@[go_sem] theorem c_sheafref16_Pairs_24_at (rd : Option Nat) (K : Post3) (t : Fr) (m : Mem) : wpM E 35 192 rd c_sheafref16_Pairs_24 K t m = wpM E 35 192 rd (.cond (.tmp 165) (.ops [⟨(some 166), .move (.tmp 4), none⟩,
    ⟨(some 167), .move (.tmp 8), none⟩,
    ⟨(some 168), .fieldAddr 98 (.tmp 10) 1, none⟩,
    ⟨(some 169), .load 3 (.tmp 168), none⟩,
    ⟨(some 170), .move (.tmp 7), none⟩,
    ⟨(some 171), .indexAddr 22 (.tmp 170) (.const (.int .i64 8)), none⟩,
    ⟨(some 172), .load 3 (.tmp 171), none⟩,
    ⟨(some 173), .move (.tmp 16), none⟩,
    ⟨(some 174), .buildSlice 22 4 #[(0, (.tmp 167)), (1, (.tmp 169)), (2, (.tmp 172)), (3, (.tmp 173))], none⟩,
    ⟨(some 175), .buildSlice 40 1 #[(0, (.tmp 174))], none⟩,
    ⟨(some 176), .call ⟨.builtin .append, #[(.tmp 166), (.tmp 175)], #[40, 40]⟩, none⟩,
    ⟨(some 4), .assign (.tmp 176), none⟩]) .skip) K t m := rfl

def c_sheafref16_Pairs_25 : MC := (.seq (.ops [⟨(some 164), .fieldAddr 98 (.tmp 10) 2, none⟩,
    ⟨(some 165), .load 4 (.tmp 164), none⟩]) c_sheafref16_Pairs_24)
@[go_sem] theorem c_sheafref16_Pairs_25_at (rd : Option Nat) (K : Post3) (t : Fr) (m : Mem) : wpM E 35 192 rd c_sheafref16_Pairs_25 K t m = wpM E 35 192 rd (.seq (.ops [⟨(some 164), .fieldAddr 98 (.tmp 10) 2, none⟩,
    ⟨(some 165), .load 4 (.tmp 164), none⟩]) c_sheafref16_Pairs_24) K t m := rfl

def c_sheafref16_Pairs_26 : MC := (.cond (.tmp 178) (.ops [⟨(some 179), .move (.tmp 4), none⟩,
    ⟨(some 180), .move (.tmp 9), none⟩,
    ⟨(some 181), .fieldAddr 98 (.tmp 11) 1, none⟩,
    ⟨(some 182), .load 3 (.tmp 181), none⟩,
    ⟨(some 183), .move (.tmp 7), none⟩,
    ⟨(some 184), .indexAddr 22 (.tmp 183) (.const (.int .i64 8)), none⟩,
    ⟨(some 185), .load 3 (.tmp 184), none⟩,
    ⟨(some 186), .move (.tmp 18), none⟩,
    ⟨(some 187), .buildSlice 22 4 #[(0, (.tmp 180)), (1, (.tmp 182)), (2, (.tmp 185)), (3, (.tmp 186))], none⟩,
    ⟨(some 188), .buildSlice 40 1 #[(0, (.tmp 187))], none⟩,
    ⟨(some 189), .call ⟨.builtin .append, #[(.tmp 179), (.tmp 188)], #[40, 40]⟩, none⟩,
    ⟨(some 4), .assign (.tmp 189), none⟩]) .skip)
@[go_sem] theorem c_sheafref16_Pairs_26_at (rd : Option Nat) (K : Post3) (t : Fr) (m : Mem) : wpM E 35 192 rd c_sheafref16_Pairs_26 K t m = wpM E 35 192 rd (.cond (.tmp 178) (.ops [⟨(some 179), .move (.tmp 4), none⟩,
    ⟨(some 180), .move (.tmp 9), none⟩,
    ⟨(some 181), .fieldAddr 98 (.tmp 11) 1, none⟩,
    ⟨(some 182), .load 3 (.tmp 181), none⟩,
    ⟨(some 183), .move (.tmp 7), none⟩,
    ⟨(some 184), .indexAddr 22 (.tmp 183) (.const (.int .i64 8)), none⟩,
    ⟨(some 185), .load 3 (.tmp 184), none⟩,
    ⟨(some 186), .move (.tmp 18), none⟩,
    ⟨(some 187), .buildSlice 22 4 #[(0, (.tmp 180)), (1, (.tmp 182)), (2, (.tmp 185)), (3, (.tmp 186))], none⟩,
    ⟨(some 188), .buildSlice 40 1 #[(0, (.tmp 187))], none⟩,
    ⟨(some 189), .call ⟨.builtin .append, #[(.tmp 179), (.tmp 188)], #[40, 40]⟩, none⟩,
    ⟨(some 4), .assign (.tmp 189), none⟩]) .skip) K t m := rfl

def c_sheafref16_Pairs_27 : MC := (.seq (.ops [⟨(some 177), .fieldAddr 98 (.tmp 11) 2, none⟩,
    ⟨(some 178), .load 4 (.tmp 177), none⟩]) c_sheafref16_Pairs_26)
@[go_sem] theorem c_sheafref16_Pairs_27_at (rd : Option Nat) (K : Post3) (t : Fr) (m : Mem) : wpM E 35 192 rd c_sheafref16_Pairs_27 K t m = wpM E 35 192 rd (.seq (.ops [⟨(some 177), .fieldAddr 98 (.tmp 11) 2, none⟩,
    ⟨(some 178), .load 4 (.tmp 177), none⟩]) c_sheafref16_Pairs_26) K t m := rfl

def c_sheafref16_Pairs_28 : MC := (.seq c_sheafref16_Pairs_25 c_sheafref16_Pairs_27)
@[go_sem] theorem c_sheafref16_Pairs_28_at (rd : Option Nat) (K : Post3) (t : Fr) (m : Mem) : wpM E 35 192 rd c_sheafref16_Pairs_28 K t m = wpM E 35 192 rd (.seq c_sheafref16_Pairs_25 c_sheafref16_Pairs_27) K t m := rfl

def c_sheafref16_Pairs_29 : MC := (.seq c_sheafref16_Pairs_23 c_sheafref16_Pairs_28)
@[go_sem] theorem c_sheafref16_Pairs_29_at (rd : Option Nat) (K : Post3) (t : Fr) (m : Mem) : wpM E 35 192 rd c_sheafref16_Pairs_29 K t m = wpM E 35 192 rd (.seq c_sheafref16_Pairs_23 c_sheafref16_Pairs_28) K t m := rfl

def c_sheafref16_Pairs_30 : MC := (.seq (.ops [⟨(some 154), .load 27 (.tmp 15), none⟩,
    ⟨(some 155), .call ⟨.value (.func 42), #[(.tmp 154)], #[27]⟩, none⟩,
    ⟨(some 153), .move (.tmp 155), none⟩,
    ⟨(some 156), .extract (.tmp 153) 0, none⟩,
    ⟨(some 157), .extract (.tmp 153) 1, none⟩,
    ⟨(some 18), .assign (.tmp 156), none⟩,
    ⟨(some 19), .assign (.tmp 157), none⟩]) c_sheafref16_Pairs_29)
@[go_sem] theorem c_sheafref16_Pairs_30_at (rd : Option Nat) (K : Post3) (t : Fr) (m : Mem) : wpM E 35 192 rd c_sheafref16_Pairs_30 K t m = wpM E 35 192 rd (.seq (.ops [⟨(some 154), .load 27 (.tmp 15), none⟩,
    ⟨(some 155), .call ⟨.value (.func 42), #[(.tmp 154)], #[27]⟩, none⟩,
    ⟨(some 153), .move (.tmp 155), none⟩,
    ⟨(some 156), .extract (.tmp 153) 0, none⟩,
    ⟨(some 157), .extract (.tmp 153) 1, none⟩,
    ⟨(some 18), .assign (.tmp 156), none⟩,
    ⟨(some 19), .assign (.tmp 157), none⟩]) c_sheafref16_Pairs_29) K t m := rfl

def c_sheafref16_Pairs_31 : MC := (.seq (.ops [⟨(some 149), .load 27 (.tmp 14), none⟩,
    ⟨(some 150), .call ⟨.value (.func 42), #[(.tmp 149)], #[27]⟩, none⟩,
    ⟨(some 148), .move (.tmp 150), none⟩,
    ⟨(some 151), .extract (.tmp 148) 0, none⟩,
    ⟨(some 152), .extract (.tmp 148) 1, none⟩,
    ⟨(some 16), .assign (.tmp 151), none⟩,
    ⟨(some 17), .assign (.tmp 152), none⟩]) c_sheafref16_Pairs_30)
@[go_sem] theorem c_sheafref16_Pairs_31_at (rd : Option Nat) (K : Post3) (t : Fr) (m : Mem) : wpM E 35 192 rd c_sheafref16_Pairs_31 K t m = wpM E 35 192 rd (.seq (.ops [⟨(some 149), .load 27 (.tmp 14), none⟩,
    ⟨(some 150), .call ⟨.value (.func 42), #[(.tmp 149)], #[27]⟩, none⟩,
    ⟨(some 148), .move (.tmp 150), none⟩,
    ⟨(some 151), .extract (.tmp 148) 0, none⟩,
    ⟨(some 152), .extract (.tmp 148) 1, none⟩,
    ⟨(some 16), .assign (.tmp 151), none⟩,
    ⟨(some 17), .assign (.tmp 152), none⟩]) c_sheafref16_Pairs_30) K t m := rfl

def c_sheafref16_Pairs_32 : MC := (.seq (.ops [⟨(some 141), .fieldAddr 98 (.tmp 10) 0, none⟩,
    ⟨(some 142), .load 27 (.tmp 141), none⟩,
    ⟨(some 143), .fieldAddr 98 (.tmp 11) 0, none⟩,
    ⟨(some 144), .load 27 (.tmp 143), none⟩,
    ⟨(some 145), .call ⟨.value (.func 60), #[(.tmp 142), (.tmp 144)], #[27, 27]⟩, none⟩,
    ⟨(some 140), .move (.tmp 145), none⟩,
    ⟨(some 146), .extract (.tmp 140) 0, none⟩,
    ⟨(some 147), .extract (.tmp 140) 1, none⟩,
    ⟨(some 14), .alloc 27, none⟩,
    ⟨(some 15), .alloc 27, none⟩,
    ⟨none, .store 27 (.tmp 14) (.tmp 146), none⟩,
    ⟨none, .store 27 (.tmp 15) (.tmp 147), none⟩]) c_sheafref16_Pairs_31)
@[go_sem] theorem c_sheafref16_Pairs_32_at (rd : Option Nat) (K : Post3) (t : Fr) (m : Mem) : wpM E 35 192 rd c_sheafref16_Pairs_32 K t m = wpM E 35 192 rd (.seq (.ops [⟨(some 141), .fieldAddr 98 (.tmp 10) 0, none⟩,
    ⟨(some 142), .load 27 (.tmp 141), none⟩,
    ⟨(some 143), .fieldAddr 98 (.tmp 11) 0, none⟩,
    ⟨(some 144), .load 27 (.tmp 143), none⟩,
    ⟨(some 145), .call ⟨.value (.func 60), #[(.tmp 142), (.tmp 144)], #[27, 27]⟩, none⟩,
    ⟨(some 140), .move (.tmp 145), none⟩,
    ⟨(some 146), .extract (.tmp 140) 0, none⟩,
    ⟨(some 147), .extract (.tmp 140) 1, none⟩,
    ⟨(some 14), .alloc 27, none⟩,
    ⟨(some 15), .alloc 27, none⟩,
    ⟨none, .store 27 (.tmp 14) (.tmp 146), none⟩,
    ⟨none, .store 27 (.tmp 15) (.tmp 147), none⟩]) c_sheafref16_Pairs_31) K t m := rfl

def c_sheafref16_Pairs_33 : MC := (.seq c_sheafref16_Pairs_20 c_sheafref16_Pairs_32)
@[go_sem] theorem c_sheafref16_Pairs_33_at (rd : Option Nat) (K : Post3) (t : Fr) (m : Mem) : wpM E 35 192 rd c_sheafref16_Pairs_33 K t m = wpM E 35 192 rd (.seq c_sheafref16_Pairs_20 c_sheafref16_Pairs_32) K t m := rfl

def c_sheafref16_Pairs_34 : MC := (.seq (.ops [⟨(some 10), .alloc 98, none⟩,
    ⟨(some 11), .alloc 98, none⟩]) c_sheafref16_Pairs_33)
@[go_sem] theorem c_sheafref16_Pairs_34_at (rd : Option Nat) (K : Post3) (t : Fr) (m : Mem) : wpM E 35 192 rd c_sheafref16_Pairs_34 K t m = wpM E 35 192 rd (.seq (.ops [⟨(some 10), .alloc 98, none⟩,
    ⟨(some 11), .alloc 98, none⟩]) c_sheafref16_Pairs_33) K t m := rfl

def c_sheafref16_Pairs_35 : MC := (.seq (.ops [⟨(some 51), .move (.tmp 7), none⟩,
    ⟨(some 52), .indexAddr 22 (.tmp 51) (.const (.int .i64 1)), none⟩,
    ⟨(some 53), .load 3 (.tmp 52), none⟩,
    ⟨(some 54), .move (.tmp 7), none⟩,
    ⟨(some 55), .indexAddr 22 (.tmp 54) (.const (.int .i64 5)), none⟩,
    ⟨(some 56), .load 3 (.tmp 55), none⟩,
    ⟨(some 57), .call ⟨.builtin .min, #[(.tmp 53), (.tmp 56)], #[3, 3]⟩, none⟩,
    ⟨(some 58), .move (.tmp 7), none⟩,
    ⟨(some 59), .indexAddr 22 (.tmp 58) (.const (.int .i64 1)), none⟩,
    ⟨(some 60), .load 3 (.tmp 59), none⟩,
    ⟨(some 61), .move (.tmp 7), none⟩,
    ⟨(some 62), .indexAddr 22 (.tmp 61) (.const (.int .i64 5)), none⟩,
    ⟨(some 63), .load 3 (.tmp 62), none⟩,
    ⟨(some 64), .call ⟨.builtin .max, #[(.tmp 60), (.tmp 63)], #[3, 3]⟩, none⟩,
    ⟨(some 8), .assign (.tmp 57), none⟩,
    ⟨(some 9), .assign (.tmp 64), none⟩]) c_sheafref16_Pairs_34)
@[go_sem] theorem c_sheafref16_Pairs_35_at (rd : Option Nat) (K : Post3) (t : Fr) (m : Mem) : wpM E 35 192 rd c_sheafref16_Pairs_35 K t m = wpM E 35 192 rd (.seq (.ops [⟨(some 51), .move (.tmp 7), none⟩,
    ⟨(some 52), .indexAddr 22 (.tmp 51) (.const (.int .i64 1)), none⟩,
    ⟨(some 53), .load 3 (.tmp 52), none⟩,
    ⟨(some 54), .move (.tmp 7), none⟩,
    ⟨(some 55), .indexAddr 22 (.tmp 54) (.const (.int .i64 5)), none⟩,
    ⟨(some 56), .load 3 (.tmp 55), none⟩,
    ⟨(some 57), .call ⟨.builtin .min, #[(.tmp 53), (.tmp 56)], #[3, 3]⟩, none⟩,
    ⟨(some 58), .move (.tmp 7), none⟩,
    ⟨(some 59), .indexAddr 22 (.tmp 58) (.const (.int .i64 1)), none⟩,
    ⟨(some 60), .load 3 (.tmp 59), none⟩,
    ⟨(some 61), .move (.tmp 7), none⟩,
    ⟨(some 62), .indexAddr 22 (.tmp 61) (.const (.int .i64 5)), none⟩,
    ⟨(some 63), .load 3 (.tmp 62), none⟩,
    ⟨(some 64), .call ⟨.builtin .max, #[(.tmp 60), (.tmp 63)], #[3, 3]⟩, none⟩,
    ⟨(some 8), .assign (.tmp 57), none⟩,
    ⟨(some 9), .assign (.tmp 64), none⟩]) c_sheafref16_Pairs_34) K t m := rfl

def c_sheafref16_Pairs_36 : MC := (.seq c_sheafref16_Pairs_5 c_sheafref16_Pairs_35)
@[go_sem] theorem c_sheafref16_Pairs_36_at (rd : Option Nat) (K : Post3) (t : Fr) (m : Mem) : wpM E 35 192 rd c_sheafref16_Pairs_36 K t m = wpM E 35 192 rd (.seq c_sheafref16_Pairs_5 c_sheafref16_Pairs_35) K t m := rfl

def c_sheafref16_Pairs_37 : MC := (.seq c_sheafref16_Pairs_2 c_sheafref16_Pairs_36)
@[go_sem] theorem c_sheafref16_Pairs_37_at (rd : Option Nat) (K : Post3) (t : Fr) (m : Mem) : wpM E 35 192 rd c_sheafref16_Pairs_37 K t m = wpM E 35 192 rd (.seq c_sheafref16_Pairs_2 c_sheafref16_Pairs_36) K t m := rfl

def c_sheafref16_Pairs_38 : MC := (.seq (.ops [⟨(some 25), .move (.tmp 23), none⟩,
    ⟨(some 26), .indexAddr 40 (.tmp 21) (.tmp 23), none⟩,
    ⟨(some 27), .load 22 (.tmp 26), none⟩,
    ⟨(some 6), .assign (.tmp 25), none⟩,
    ⟨(some 7), .assign (.tmp 27), none⟩]) c_sheafref16_Pairs_37)
@[go_sem] theorem c_sheafref16_Pairs_38_at (rd : Option Nat) (K : Post3) (t : Fr) (m : Mem) : wpM E 35 192 rd c_sheafref16_Pairs_38 K t m = wpM E 35 192 rd (.seq (.ops [⟨(some 25), .move (.tmp 23), none⟩,
    ⟨(some 26), .indexAddr 40 (.tmp 21) (.tmp 23), none⟩,
    ⟨(some 27), .load 22 (.tmp 26), none⟩,
    ⟨(some 6), .assign (.tmp 25), none⟩,
    ⟨(some 7), .assign (.tmp 27), none⟩]) c_sheafref16_Pairs_37) K t m := rfl

def c_sheafref16_Pairs_39 : MC := (.block 1 c_sheafref16_Pairs_38)
@[go_sem] theorem c_sheafref16_Pairs_39_at (rd : Option Nat) (K : Post3) (t : Fr) (m : Mem) : wpM E 35 192 rd c_sheafref16_Pairs_39 K t m = wpM E 35 192 rd (.block 1 c_sheafref16_Pairs_38) K t m := rfl

def c_sheafref16_Pairs_40 : MC := (.seq c_sheafref16_Pairs_39 (.ops [⟨(some 190), .binOp .add 3 (.tmp 23) (.const (.int .i64 1)) 3, none⟩,
    ⟨(some 23), .move (.tmp 190), none⟩]))
@[go_sem] theorem c_sheafref16_Pairs_40_at (rd : Option Nat) (K : Post3) (t : Fr) (m : Mem) : wpM E 35 192 rd c_sheafref16_Pairs_40 K t m = wpM E 35 192 rd (.seq c_sheafref16_Pairs_39 (.ops [⟨(some 190), .binOp .add 3 (.tmp 23) (.const (.int .i64 1)) 3, none⟩,
    ⟨(some 23), .move (.tmp 190), none⟩])) K t m := rfl

def c_sheafref16_Pairs_41 : MC := (.seq c_sheafref16_Pairs_0 c_sheafref16_Pairs_40)
@[go_sem] theorem c_sheafref16_Pairs_41_at (rd : Option Nat) (K : Post3) (t : Fr) (m : Mem) : wpM E 35 192 rd c_sheafref16_Pairs_41 K t m = wpM E 35 192 rd (.seq c_sheafref16_Pairs_0 c_sheafref16_Pairs_40) K t m := rfl

def c_sheafref16_Pairs_42 : MC := (.seq (.ops [⟨(some 24), .binOp .lss 3 (.tmp 23) (.tmp 22) 3, none⟩]) c_sheafref16_Pairs_41)
@[go_sem] theorem c_sheafref16_Pairs_42_at (rd : Option Nat) (K : Post3) (t : Fr) (m : Mem) : wpM E 35 192 rd c_sheafref16_Pairs_42 K t m = wpM E 35 192 rd (.seq (.ops [⟨(some 24), .binOp .lss 3 (.tmp 23) (.tmp 22) 3, none⟩]) c_sheafref16_Pairs_41) K t m := rfl

def c_sheafref16_Pairs_43 : MC := (.loop c_sheafref16_Pairs_42)
theorem c_sheafref16_Pairs_43_at (rd : Option Nat) (K : Post3) (t : Fr) (m : Mem) : wpM E 35 192 rd c_sheafref16_Pairs_43 K t m = wpM E 35 192 rd (.loop c_sheafref16_Pairs_42) K t m := rfl

def c_sheafref16_Pairs_44 : MC := (.block 0 c_sheafref16_Pairs_43)
theorem c_sheafref16_Pairs_44_at (rd : Option Nat) (K : Post3) (t : Fr) (m : Mem) : wpM E 35 192 rd c_sheafref16_Pairs_44 K t m = wpM E 35 192 rd (.block 0 c_sheafref16_Pairs_43) K t m := rfl

def c_sheafref16_Pairs_45 : MC := (.seq (.ops [⟨(some 21), .move (.tmp 0), none⟩,
    ⟨(some 22), .call ⟨.builtin .len, #[(.tmp 21)], #[40]⟩, none⟩,
    ⟨(some 23), .move (.const (.int .i64 0)), none⟩]) c_sheafref16_Pairs_44)
@[go_sem] theorem c_sheafref16_Pairs_45_at (rd : Option Nat) (K : Post3) (t : Fr) (m : Mem) : wpM E 35 192 rd c_sheafref16_Pairs_45 K t m = wpM E 35 192 rd (.seq (.ops [⟨(some 21), .move (.tmp 0), none⟩,
    ⟨(some 22), .call ⟨.builtin .len, #[(.tmp 21)], #[40]⟩, none⟩,
    ⟨(some 23), .move (.const (.int .i64 0)), none⟩]) c_sheafref16_Pairs_44) K t m := rfl

def c_sheafref16_Pairs_46 : MC := (.seq (.ops [⟨(some 191), .move (.tmp 4), none⟩,
    ⟨(some 2), .assign (.tmp 191), none⟩,
    ⟨(some 3), .assign (.const (.bool true)), none⟩]) .ret)
@[go_sem] theorem c_sheafref16_Pairs_46_at (rd : Option Nat) (K : Post3) (t : Fr) (m : Mem) : wpM E 35 192 rd c_sheafref16_Pairs_46 K t m = wpM E 35 192 rd (.seq (.ops [⟨(some 191), .move (.tmp 4), none⟩,
    ⟨(some 2), .assign (.tmp 191), none⟩,
    ⟨(some 3), .assign (.const (.bool true)), none⟩]) .ret) K t m := rfl

def c_sheafref16_Pairs_47 : MC := (.seq c_sheafref16_Pairs_45 c_sheafref16_Pairs_46)
@[go_sem] theorem c_sheafref16_Pairs_47_at (rd : Option Nat) (K : Post3) (t : Fr) (m : Mem) : wpM E 35 192 rd c_sheafref16_Pairs_47 K t m = wpM E 35 192 rd (.seq c_sheafref16_Pairs_45 c_sheafref16_Pairs_46) K t m := rfl

def c_sheafref16_Pairs_48 : MC := (.seq (.ops [⟨(some 20), .makeMap 79 none, none⟩,
    ⟨(some 5), .assign (.tmp 20), none⟩]) c_sheafref16_Pairs_47)
@[go_sem] theorem c_sheafref16_Pairs_48_at (rd : Option Nat) (K : Post3) (t : Fr) (m : Mem) : wpM E 35 192 rd c_sheafref16_Pairs_48 K t m = wpM E 35 192 rd (.seq (.ops [⟨(some 20), .makeMap 79 none, none⟩,
    ⟨(some 5), .assign (.tmp 20), none⟩]) c_sheafref16_Pairs_47) K t m := rfl

def c_sheafref16_Pairs_49 : MC := (.seq (.ops [⟨(some 4), .assign (.const (.slice none 0 0)), none⟩]) c_sheafref16_Pairs_48)
@[go_sem] theorem c_sheafref16_Pairs_49_at (rd : Option Nat) (K : Post3) (t : Fr) (m : Mem) : wpM E 35 192 rd c_sheafref16_Pairs_49 K t m = wpM E 35 192 rd (.seq (.ops [⟨(some 4), .assign (.const (.slice none 0 0)), none⟩]) c_sheafref16_Pairs_48) K t m := rfl

def c_sheafref16_Pairs_50 : MC := (.seq (.ops [⟨(some 2), .assign (.const (.slice none 0 0)), none⟩,
    ⟨(some 3), .assign (.const (.bool false)), none⟩]) c_sheafref16_Pairs_49)
@[go_sem] theorem c_sheafref16_Pairs_50_at (rd : Option Nat) (K : Post3) (t : Fr) (m : Mem) : wpM E 35 192 rd c_sheafref16_Pairs_50 K t m = wpM E 35 192 rd (.seq (.ops [⟨(some 2), .assign (.const (.slice none 0 0)), none⟩,
    ⟨(some 3), .assign (.const (.bool false)), none⟩]) c_sheafref16_Pairs_49) K t m := rfl

@[go_sem] theorem some35 : (E.fn 35).isSome = true := by kernel_rfl
set_option maxRecDepth 100000 in
theorem fn_sheafref16_Pairs : FnIs E 35 192 [.tmp 2, .tmp 3] c_sheafref16_Pairs_50 := ⟨by kernel_rfl, by kernel_rfl⟩

/-! sheaf/sheafref1.Add -/
abbrev F_sheafref1_Add : FuncId := 40
def c_sheafref1_Add_0 : MC := (.cond (.tmp 20) (.ops [⟨(some 21), .move (.tmp 6), none⟩,
    ⟨(some 22), .binOp .add 2 (.tmp 21) (.const (.int .i64 1)) 2, none⟩,
    ⟨(some 6), .assign (.tmp 22), none⟩]) .skip)
@[go_sem] theorem c_sheafref1_Add_0_at (rd : Option Nat) (K : Post3) (t : Fr) (m : Mem) : wpM E 40 26 rd c_sheafref1_Add_0 K t m = wpM E 40 26 rd (.cond (.tmp 20) (.ops [⟨(some 21), .move (.tmp 6), none⟩,
    ⟨(some 22), .binOp .add 2 (.tmp 21) (.const (.int .i64 1)) 2, none⟩,
    ⟨(some 6), .assign (.tmp 22), none⟩]) .skip) K t m := rfl

def c_sheafref1_Add_1 : MC := (.seq (.ops [⟨(some 17), .move (.tmp 5), none⟩,
    ⟨(some 18), .fieldAddr 27 (.tmp 2) 1, none⟩,
    ⟨(some 19), .load 25 (.tmp 18), none⟩,
    ⟨(some 20), .binOp .lss 25 (.tmp 17) (.tmp 19) 25, none⟩]) c_sheafref1_Add_0)
@[go_sem] theorem c_sheafref1_Add_1_at (rd : Option Nat) (K : Post3) (t : Fr) (m : Mem) : wpM E 40 26 rd c_sheafref1_Add_1 K t m = wpM E 40 26 rd (.seq (.ops [⟨(some 17), .move (.tmp 5), none⟩,
    ⟨(some 18), .fieldAddr 27 (.tmp 2) 1, none⟩,
    ⟨(some 19), .load 25 (.tmp 18), none⟩,
    ⟨(some 20), .binOp .lss 25 (.tmp 17) (.tmp 19) 25, none⟩]) c_sheafref1_Add_0) K t m := rfl

def c_sheafref1_Add_2 : MC := (.seq (.ops [⟨(some 23), .move (.tmp 6), none⟩,
    ⟨(some 24), .move (.tmp 5), none⟩,
    ⟨(some 25), .build 27 #[(0, (.tmp 23)), (1, (.tmp 24))], none⟩,
    ⟨none, .store 27 (.tmp 4) (.tmp 25), none⟩]) .ret)
@[go_sem] theorem c_sheafref1_Add_2_at (rd : Option Nat) (K : Post3) (t : Fr) (m : Mem) : wpM E 40 26 rd c_sheafref1_Add_2 K t m = wpM E 40 26 rd (.seq (.ops [⟨(some 23), .move (.tmp 6), none⟩,
    ⟨(some 24), .move (.tmp 5), none⟩,
    ⟨(some 25), .build 27 #[(0, (.tmp 23)), (1, (.tmp 24))], none⟩,
    ⟨none, .store 27 (.tmp 4) (.tmp 25), none⟩]) .ret) K t m := rfl

def c_sheafref1_Add_3 : MC := (.seq c_sheafref1_Add_1 c_sheafref1_Add_2)
@[go_sem] theorem c_sheafref1_Add_3_at (rd : Option Nat) (K : Post3) (t : Fr) (m : Mem) : wpM E 40 26 rd c_sheafref1_Add_3 K t m = wpM E 40 26 rd (.seq c_sheafref1_Add_1 c_sheafref1_Add_2) K t m := rfl

def c_sheafref1_Add_4 : MC := (.seq (.ops [⟨(some 12), .fieldAddr 27 (.tmp 2) 0, none⟩,
    ⟨(some 13), .load 2 (.tmp 12), none⟩,
    ⟨(some 14), .fieldAddr 27 (.tmp 3) 0, none⟩,
    ⟨(some 15), .load 2 (.tmp 14), none⟩,
    ⟨(some 16), .binOp .add 2 (.tmp 13) (.tmp 15) 2, none⟩,
    ⟨(some 6), .assign (.tmp 16), none⟩]) c_sheafref1_Add_3)
@[go_sem] theorem c_sheafref1_Add_4_at (rd : Option Nat) (K : Post3) (t : Fr) (m : Mem) : wpM E 40 26 rd c_sheafref1_Add_4 K t m = wpM E 40 26 rd (.seq (.ops [⟨(some 12), .fieldAddr 27 (.tmp 2) 0, none⟩,
    ⟨(some 13), .load 2 (.tmp 12), none⟩,
    ⟨(some 14), .fieldAddr 27 (.tmp 3) 0, none⟩,
    ⟨(some 15), .load 2 (.tmp 14), none⟩,
    ⟨(some 16), .binOp .add 2 (.tmp 13) (.tmp 15) 2, none⟩,
    ⟨(some 6), .assign (.tmp 16), none⟩]) c_sheafref1_Add_3) K t m := rfl

def c_sheafref1_Add_5 : MC := (.seq (.ops [⟨(some 7), .fieldAddr 27 (.tmp 2) 1, none⟩,
    ⟨(some 8), .load 25 (.tmp 7), none⟩,
    ⟨(some 9), .fieldAddr 27 (.tmp 3) 1, none⟩,
    ⟨(some 10), .load 25 (.tmp 9), none⟩,
    ⟨(some 11), .binOp .add 25 (.tmp 8) (.tmp 10) 25, none⟩,
    ⟨(some 5), .assign (.tmp 11), none⟩]) c_sheafref1_Add_4)
@[go_sem] theorem c_sheafref1_Add_5_at (rd : Option Nat) (K : Post3) (t : Fr) (m : Mem) : wpM E 40 26 rd c_sheafref1_Add_5 K t m = wpM E 40 26 rd (.seq (.ops [⟨(some 7), .fieldAddr 27 (.tmp 2) 1, none⟩,
    ⟨(some 8), .load 25 (.tmp 7), none⟩,
    ⟨(some 9), .fieldAddr 27 (.tmp 3) 1, none⟩,
    ⟨(some 10), .load 25 (.tmp 9), none⟩,
    ⟨(some 11), .binOp .add 25 (.tmp 8) (.tmp 10) 25, none⟩,
    ⟨(some 5), .assign (.tmp 11), none⟩]) c_sheafref1_Add_4) K t m := rfl

def c_sheafref1_Add_6 : MC := (.seq (.ops [⟨(some 2), .box 27 (.tmp 0), none⟩,
    ⟨(some 3), .box 27 (.tmp 1), none⟩,
    ⟨(some 4), .alloc 27, none⟩]) c_sheafref1_Add_5)
@[go_sem] theorem c_sheafref1_Add_6_at (rd : Option Nat) (K : Post3) (t : Fr) (m : Mem) : wpM E 40 26 rd c_sheafref1_Add_6 K t m = wpM E 40 26 rd (.seq (.ops [⟨(some 2), .box 27 (.tmp 0), none⟩,
    ⟨(some 3), .box 27 (.tmp 1), none⟩,
    ⟨(some 4), .alloc 27, none⟩]) c_sheafref1_Add_5) K t m := rfl

@[go_sem] theorem some40 : (E.fn 40).isSome = true := by kernel_rfl
set_option maxRecDepth 100000 in
theorem fn_sheafref1_Add : FnIs E 40 26 [.cell 4 27] c_sheafref1_Add_6 := ⟨by kernel_rfl, by kernel_rfl⟩

/-! sheaf/sheafref1.Of -/
abbrev F_sheafref1_Of : FuncId := 41
def c_sheafref1_Of_0 : MC := (.seq (.ops [⟨(some 5), .move (.tmp 0), none⟩,
    ⟨(some 6), .convert 3 25 (.tmp 5), none⟩,
    ⟨(some 7), .build 27 #[(0, (.const (.int .i64 (-1)))), (1, (.tmp 6))], none⟩,
    ⟨none, .store 27 (.tmp 2) (.tmp 7), none⟩]) .ret)
@[go_sem] theorem c_sheafref1_Of_0_at (rd : Option Nat) (K : Post3) (t : Fr) (m : Mem) : wpM E 41 11 rd c_sheafref1_Of_0 K t m = wpM E 41 11 rd (.seq (.ops [⟨(some 5), .move (.tmp 0), none⟩,
    ⟨(some 6), .convert 3 25 (.tmp 5), none⟩,
    ⟨(some 7), .build 27 #[(0, (.const (.int .i64 (-1)))), (1, (.tmp 6))], none⟩,
    ⟨none, .store 27 (.tmp 2) (.tmp 7), none⟩]) .ret) K t m := rfl

def c_sheafref1_Of_1 : MC := (.cond (.tmp 4) c_sheafref1_Of_0 .skip)
@[go_sem] theorem c_sheafref1_Of_1_at (rd : Option Nat) (K : Post3) (t : Fr) (m : Mem) : wpM E 41 11 rd c_sheafref1_Of_1 K t m = wpM E 41 11 rd (.cond (.tmp 4) c_sheafref1_Of_0 .skip) K t m := rfl

def c_sheafref1_Of_2 : MC := (.seq (.ops [⟨(some 3), .move (.tmp 0), none⟩,
    ⟨(some 4), .binOp .lss 3 (.tmp 3) (.const (.int .i64 0)) 3, none⟩]) c_sheafref1_Of_1)
@[go_sem] theorem c_sheafref1_Of_2_at (rd : Option Nat) (K : Post3) (t : Fr) (m : Mem) : wpM E 41 11 rd c_sheafref1_Of_2 K t m = wpM E 41 11 rd (.seq (.ops [⟨(some 3), .move (.tmp 0), none⟩,
    ⟨(some 4), .binOp .lss 3 (.tmp 3) (.const (.int .i64 0)) 3, none⟩]) c_sheafref1_Of_1) K t m := rfl

def c_sheafref1_Of_3 : MC := (.seq (.ops [⟨(some 8), .move (.tmp 0), none⟩,
    ⟨(some 9), .convert 3 25 (.tmp 8), none⟩,
    ⟨(some 10), .build 27 #[(1, (.tmp 9))], none⟩,
    ⟨none, .store 27 (.tmp 2) (.tmp 10), none⟩]) .ret)
@[go_sem] theorem c_sheafref1_Of_3_at (rd : Option Nat) (K : Post3) (t : Fr) (m : Mem) : wpM E 41 11 rd c_sheafref1_Of_3 K t m = wpM E 41 11 rd (.seq (.ops [⟨(some 8), .move (.tmp 0), none⟩,
    ⟨(some 9), .convert 3 25 (.tmp 8), none⟩,
    ⟨(some 10), .build 27 #[(1, (.tmp 9))], none⟩,
    ⟨none, .store 27 (.tmp 2) (.tmp 10), none⟩]) .ret) K t m := rfl

def c_sheafref1_Of_4 : MC := (.seq c_sheafref1_Of_2 c_sheafref1_Of_3)
@[go_sem] theorem c_sheafref1_Of_4_at (rd : Option Nat) (K : Post3) (t : Fr) (m : Mem) : wpM E 41 11 rd c_sheafref1_Of_4 K t m = wpM E 41 11 rd (.seq c_sheafref1_Of_2 c_sheafref1_Of_3) K t m := rfl

def c_sheafref1_Of_5 : MC := (.seq (.ops [⟨(some 2), .alloc 27, none⟩]) c_sheafref1_Of_4)
@[go_sem] theorem c_sheafref1_Of_5_at (rd : Option Nat) (K : Post3) (t : Fr) (m : Mem) : wpM E 41 11 rd c_sheafref1_Of_5 K t m = wpM E 41 11 rd (.seq (.ops [⟨(some 2), .alloc 27, none⟩]) c_sheafref1_Of_4) K t m := rfl

@[go_sem] theorem some41 : (E.fn 41).isSome = true := by kernel_rfl
set_option maxRecDepth 100000 in
theorem fn_sheafref1_Of : FnIs E 41 11 [.cell 2 27] c_sheafref1_Of_5 := ⟨by kernel_rfl, by kernel_rfl⟩

/-! sheaf/sheafref1.Int -/
abbrev F_sheafref1_Int : FuncId := 42
def c_sheafref1_Int_0 : MC := (.seq (.ops [⟨(some 2), .assign (.const (.int .i64 0)), none⟩,
    ⟨(some 3), .assign (.const (.bool false)), none⟩]) .ret)
@[go_sem] theorem c_sheafref1_Int_0_at (rd : Option Nat) (K : Post3) (t : Fr) (m : Mem) : wpM E 42 13 rd c_sheafref1_Int_0 K t m = wpM E 42 13 rd (.seq (.ops [⟨(some 2), .assign (.const (.int .i64 0)), none⟩,
    ⟨(some 3), .assign (.const (.bool false)), none⟩]) .ret) K t m := rfl

def c_sheafref1_Int_1 : MC := (.cond (.tmp 11) c_sheafref1_Int_0 .skip)
@[go_sem] theorem c_sheafref1_Int_1_at (rd : Option Nat) (K : Post3) (t : Fr) (m : Mem) : wpM E 42 13 rd c_sheafref1_Int_1 K t m = wpM E 42 13 rd (.cond (.tmp 11) c_sheafref1_Int_0 .skip) K t m := rfl

def c_sheafref1_Int_2 : MC := (.seq (.draw [(0, [], ⟨(some 8), .move (.tmp 4), none⟩),
    (2, [], ⟨(some 10), .load 27 (.tmp 1), none⟩),
    (1, [2], ⟨(some 9), .call ⟨.value (.func 41), #[(.tmp 8)], #[3]⟩, none⟩),
    (3, [], ⟨(some 11), .binOp .neq 27 (.tmp 9) (.tmp 10) 27, none⟩)]) c_sheafref1_Int_1)
@[go_sem] theorem c_sheafref1_Int_2_at (rd : Option Nat) (K : Post3) (t : Fr) (m : Mem) : wpM E 42 13 rd c_sheafref1_Int_2 K t m = wpM E 42 13 rd (.seq (.draw [(0, [], ⟨(some 8), .move (.tmp 4), none⟩),
    (2, [], ⟨(some 10), .load 27 (.tmp 1), none⟩),
    (1, [2], ⟨(some 9), .call ⟨.value (.func 41), #[(.tmp 8)], #[3]⟩, none⟩),
    (3, [], ⟨(some 11), .binOp .neq 27 (.tmp 9) (.tmp 10) 27, none⟩)]) c_sheafref1_Int_1) K t m := rfl

def c_sheafref1_Int_3 : MC := (.seq (.ops [⟨(some 12), .move (.tmp 4), none⟩,
    ⟨(some 2), .assign (.tmp 12), none⟩,
    ⟨(some 3), .assign (.const (.bool true)), none⟩]) .ret)
@[go_sem] theorem c_sheafref1_Int_3_at (rd : Option Nat) (K : Post3) (t : Fr) (m : Mem) : wpM E 42 13 rd c_sheafref1_Int_3 K t m = wpM E 42 13 rd (.seq (.ops [⟨(some 12), .move (.tmp 4), none⟩,
    ⟨(some 2), .assign (.tmp 12), none⟩,
    ⟨(some 3), .assign (.const (.bool true)), none⟩]) .ret) K t m := rfl

def c_sheafref1_Int_4 : MC := (.seq c_sheafref1_Int_2 c_sheafref1_Int_3)
@[go_sem] theorem c_sheafref1_Int_4_at (rd : Option Nat) (K : Post3) (t : Fr) (m : Mem) : wpM E 42 13 rd c_sheafref1_Int_4 K t m = wpM E 42 13 rd (.seq c_sheafref1_Int_2 c_sheafref1_Int_3) K t m := rfl

def c_sheafref1_Int_5 : MC := (.seq (.ops [⟨(some 5), .fieldAddr 27 (.tmp 1) 1, none⟩,
    ⟨(some 6), .load 25 (.tmp 5), none⟩,
    ⟨(some 7), .convert 25 3 (.tmp 6), none⟩,
    ⟨(some 4), .assign (.tmp 7), none⟩]) c_sheafref1_Int_4)
@[go_sem] theorem c_sheafref1_Int_5_at (rd : Option Nat) (K : Post3) (t : Fr) (m : Mem) : wpM E 42 13 rd c_sheafref1_Int_5 K t m = wpM E 42 13 rd (.seq (.ops [⟨(some 5), .fieldAddr 27 (.tmp 1) 1, none⟩,
    ⟨(some 6), .load 25 (.tmp 5), none⟩,
    ⟨(some 7), .convert 25 3 (.tmp 6), none⟩,
    ⟨(some 4), .assign (.tmp 7), none⟩]) c_sheafref1_Int_4) K t m := rfl

def c_sheafref1_Int_6 : MC := (.seq (.ops [⟨(some 1), .box 27 (.tmp 0), none⟩,
    ⟨(some 2), .assign (.const (.int .i64 0)), none⟩,
    ⟨(some 3), .assign (.const (.bool false)), none⟩]) c_sheafref1_Int_5)
@[go_sem] theorem c_sheafref1_Int_6_at (rd : Option Nat) (K : Post3) (t : Fr) (m : Mem) : wpM E 42 13 rd c_sheafref1_Int_6 K t m = wpM E 42 13 rd (.seq (.ops [⟨(some 1), .box 27 (.tmp 0), none⟩,
    ⟨(some 2), .assign (.const (.int .i64 0)), none⟩,
    ⟨(some 3), .assign (.const (.bool false)), none⟩]) c_sheafref1_Int_5) K t m := rfl

@[go_sem] theorem some42 : (E.fn 42).isSome = true := by kernel_rfl
set_option maxRecDepth 100000 in
theorem fn_sheafref1_Int : FnIs E 42 13 [.tmp 2, .tmp 3] c_sheafref1_Int_6 := ⟨by kernel_rfl, by kernel_rfl⟩

/-! sheaf/sheafref12.Compare -/
abbrev F_sheafref12_Compare : FuncId := 43
def c_sheafref12_Compare_0 : MC := (.cond (.tmp 15) .skip (.exit 0))
@[go_sem] theorem c_sheafref12_Compare_0_at (rd : Option Nat) (K : Post3) (t : Fr) (m : Mem) : wpM E 43 45 rd c_sheafref12_Compare_0 K t m = wpM E 43 45 rd (.cond (.tmp 15) .skip (.exit 0)) K t m := rfl

def c_sheafref12_Compare_1 : MC := (.seq (.ops [⟨(some 24), .move (.tmp 9), none⟩,
    ⟨(some 6), .assign (.tmp 24), none⟩]) .ret)
@[go_sem] theorem c_sheafref12_Compare_1_at (rd : Option Nat) (K : Post3) (t : Fr) (m : Mem) : wpM E 43 45 rd c_sheafref12_Compare_1 K t m = wpM E 43 45 rd (.seq (.ops [⟨(some 24), .move (.tmp 9), none⟩,
    ⟨(some 6), .assign (.tmp 24), none⟩]) .ret) K t m := rfl

def c_sheafref12_Compare_2 : MC := (.cond (.tmp 23) c_sheafref12_Compare_1 .skip)
@[go_sem] theorem c_sheafref12_Compare_2_at (rd : Option Nat) (K : Post3) (t : Fr) (m : Mem) : wpM E 43 45 rd c_sheafref12_Compare_2 K t m = wpM E 43 45 rd (.cond (.tmp 23) c_sheafref12_Compare_1 .skip) K t m := rfl

def c_sheafref12_Compare_3 : MC := (.seq (.ops [⟨(some 22), .move (.tmp 9), none⟩,
    ⟨(some 23), .binOp .neq 3 (.tmp 22) (.const (.int .i64 0)) 3, none⟩]) c_sheafref12_Compare_2)
@[go_sem] theorem c_sheafref12_Compare_3_at (rd : Option Nat) (K : Post3) (t : Fr) (m : Mem) : wpM E 43 45 rd c_sheafref12_Compare_3 K t m = wpM E 43 45 rd (.seq (.ops [⟨(some 22), .move (.tmp 9), none⟩,
    ⟨(some 23), .binOp .neq 3 (.tmp 22) (.const (.int .i64 0)) 3, none⟩]) c_sheafref12_Compare_2) K t m := rfl

def c_sheafref12_Compare_4 : MC := (.seq (.ops [⟨(some 18), .move (.tmp 0), none⟩,
    ⟨(some 19), .move (.tmp 1), none⟩,
    ⟨(some 20), .move (.tmp 8), none⟩,
    ⟨(some 21), .call ⟨.value (.func 61), #[(.tmp 18), (.tmp 19), (.tmp 20)], #[22, 22, 3]⟩, none⟩,
    ⟨(some 9), .assign (.tmp 21), none⟩]) c_sheafref12_Compare_3)
@[go_sem] theorem c_sheafref12_Compare_4_at (rd : Option Nat) (K : Post3) (t : Fr) (m : Mem) : wpM E 43 45 rd c_sheafref12_Compare_4 K t m = wpM E 43 45 rd (.seq (.ops [⟨(some 18), .move (.tmp 0), none⟩,
    ⟨(some 19), .move (.tmp 1), none⟩,
    ⟨(some 20), .move (.tmp 8), none⟩,
    ⟨(some 21), .call ⟨.value (.func 61), #[(.tmp 18), (.tmp 19), (.tmp 20)], #[22, 22, 3]⟩, none⟩,
    ⟨(some 9), .assign (.tmp 21), none⟩]) c_sheafref12_Compare_3) K t m := rfl

def c_sheafref12_Compare_5 : MC := (.seq (.ops [⟨(some 16), .indexAddr 22 (.tmp 12) (.tmp 14), none⟩,
    ⟨(some 17), .load 3 (.tmp 16), none⟩,
    ⟨(some 8), .assign (.tmp 17), none⟩]) c_sheafref12_Compare_4)
@[go_sem] theorem c_sheafref12_Compare_5_at (rd : Option Nat) (K : Post3) (t : Fr) (m : Mem) : wpM E 43 45 rd c_sheafref12_Compare_5 K t m = wpM E 43 45 rd (.seq (.ops [⟨(some 16), .indexAddr 22 (.tmp 12) (.tmp 14), none⟩,
    ⟨(some 17), .load 3 (.tmp 16), none⟩,
    ⟨(some 8), .assign (.tmp 17), none⟩]) c_sheafref12_Compare_4) K t m := rfl

def c_sheafref12_Compare_6 : MC := (.block 1 c_sheafref12_Compare_5)
@[go_sem] theorem c_sheafref12_Compare_6_at (rd : Option Nat) (K : Post3) (t : Fr) (m : Mem) : wpM E 43 45 rd c_sheafref12_Compare_6 K t m = wpM E 43 45 rd (.block 1 c_sheafref12_Compare_5) K t m := rfl

def c_sheafref12_Compare_7 : MC := (.seq c_sheafref12_Compare_6 (.ops [⟨(some 25), .binOp .add 3 (.tmp 14) (.const (.int .i64 1)) 3, none⟩,
    ⟨(some 14), .move (.tmp 25), none⟩]))
@[go_sem] theorem c_sheafref12_Compare_7_at (rd : Option Nat) (K : Post3) (t : Fr) (m : Mem) : wpM E 43 45 rd c_sheafref12_Compare_7 K t m = wpM E 43 45 rd (.seq c_sheafref12_Compare_6 (.ops [⟨(some 25), .binOp .add 3 (.tmp 14) (.const (.int .i64 1)) 3, none⟩,
    ⟨(some 14), .move (.tmp 25), none⟩])) K t m := rfl

def c_sheafref12_Compare_8 : MC := (.seq c_sheafref12_Compare_0 c_sheafref12_Compare_7)
@[go_sem] theorem c_sheafref12_Compare_8_at (rd : Option Nat) (K : Post3) (t : Fr) (m : Mem) : wpM E 43 45 rd c_sheafref12_Compare_8 K t m = wpM E 43 45 rd (.seq c_sheafref12_Compare_0 c_sheafref12_Compare_7) K t m := rfl

def c_sheafref12_Compare_9 : MC := (.seq (.ops [⟨(some 15), .binOp .lss 3 (.tmp 14) (.tmp 13) 3, none⟩]) c_sheafref12_Compare_8)
@[go_sem] theorem c_sheafref12_Compare_9_at (rd : Option Nat) (K : Post3) (t : Fr) (m : Mem) : wpM E 43 45 rd c_sheafref12_Compare_9 K t m = wpM E 43 45 rd (.seq (.ops [⟨(some 15), .binOp .lss 3 (.tmp 14) (.tmp 13) 3, none⟩]) c_sheafref12_Compare_8) K t m := rfl

def c_sheafref12_Compare_10 : MC := (.loop c_sheafref12_Compare_9)
theorem c_sheafref12_Compare_10_at (rd : Option Nat) (K : Post3) (t : Fr) (m : Mem) : wpM E 43 45 rd c_sheafref12_Compare_10 K t m = wpM E 43 45 rd (.loop c_sheafref12_Compare_9) K t m := rfl

def c_sheafref12_Compare_11 : MC := (.block 0 c_sheafref12_Compare_10)
theorem c_sheafref12_Compare_11_at (rd : Option Nat) (K : Post3) (t : Fr) (m : Mem) : wpM E 43 45 rd c_sheafref12_Compare_11 K t m = wpM E 43 45 rd (.block 0 c_sheafref12_Compare_10) K t m := rfl

def c_sheafref12_Compare_12 : MC := (.seq (.ops [⟨(some 12), .move (.tmp 2), none⟩,
    ⟨(some 13), .call ⟨.builtin .len, #[(.tmp 12)], #[22]⟩, none⟩,
    ⟨(some 14), .move (.const (.int .i64 0)), none⟩]) c_sheafref12_Compare_11)
@[go_sem] theorem c_sheafref12_Compare_12_at (rd : Option Nat) (K : Post3) (t : Fr) (m : Mem) : wpM E 43 45 rd c_sheafref12_Compare_12 K t m = wpM E 43 45 rd (.seq (.ops [⟨(some 12), .move (.tmp 2), none⟩,
    ⟨(some 13), .call ⟨.builtin .len, #[(.tmp 12)], #[22]⟩, none⟩,
    ⟨(some 14), .move (.const (.int .i64 0)), none⟩]) c_sheafref12_Compare_11) K t m := rfl

def c_sheafref12_Compare_13 : MC := (.cond (.tmp 35) .skip (.exit 2))
@[go_sem] theorem c_sheafref12_Compare_13_at (rd : Option Nat) (K : Post3) (t : Fr) (m : Mem) : wpM E 43 45 rd c_sheafref12_Compare_13 K t m = wpM E 43 45 rd (.cond (.tmp 35) .skip (.exit 2)) K t m := rfl

def c_sheafref12_Compare_14 : MC := (.seq (.ops [⟨(some 26), .move (.tmp 10), none⟩,
    ⟨(some 27), .move (.tmp 0), none⟩,
    ⟨(some 28), .call ⟨.builtin .len, #[(.tmp 27)], #[22]⟩, none⟩,
    ⟨(some 29), .binOp .lss 3 (.tmp 26) (.tmp 28) 3, none⟩,
    ⟨(some 30), .move (.tmp 29), none⟩,
    ⟨(some 31), .move (.tmp 10), (some (some 30, false))⟩,
    ⟨(some 32), .move (.tmp 1), (some (some 30, false))⟩,
    ⟨(some 33), .call ⟨.builtin .len, #[(.tmp 32)], #[22]⟩, (some (some 30, false))⟩,
    ⟨(some 34), .binOp .lss 3 (.tmp 31) (.tmp 33) 3, (some (some 30, false))⟩,
    ⟨(some 35), .pick (.tmp 30) (.const (.bool true)) (.tmp 34), none⟩]) c_sheafref12_Compare_13)
@[go_sem] theorem c_sheafref12_Compare_14_at (rd : Option Nat) (K : Post3) (t : Fr) (m : Mem) : wpM E 43 45 rd c_sheafref12_Compare_14 K t m = wpM E 43 45 rd (.seq (.ops [⟨(some 26), .move (.tmp 10), none⟩,
    ⟨(some 27), .move (.tmp 0), none⟩,
    ⟨(some 28), .call ⟨.builtin .len, #[(.tmp 27)], #[22]⟩, none⟩,
    ⟨(some 29), .binOp .lss 3 (.tmp 26) (.tmp 28) 3, none⟩,
    ⟨(some 30), .move (.tmp 29), none⟩,
    ⟨(some 31), .move (.tmp 10), (some (some 30, false))⟩,
    ⟨(some 32), .move (.tmp 1), (some (some 30, false))⟩,
    ⟨(some 33), .call ⟨.builtin .len, #[(.tmp 32)], #[22]⟩, (some (some 30, false))⟩,
    ⟨(some 34), .binOp .lss 3 (.tmp 31) (.tmp 33) 3, (some (some 30, false))⟩,
    ⟨(some 35), .pick (.tmp 30) (.const (.bool true)) (.tmp 34), none⟩]) c_sheafref12_Compare_13) K t m := rfl

def c_sheafref12_Compare_15 : MC := (.seq (.ops [⟨(some 44), .move (.tmp 11), none⟩,
    ⟨(some 6), .assign (.tmp 44), none⟩]) .ret)
@[go_sem] theorem c_sheafref12_Compare_15_at (rd : Option Nat) (K : Post3) (t : Fr) (m : Mem) : wpM E 43 45 rd c_sheafref12_Compare_15 K t m = wpM E 43 45 rd (.seq (.ops [⟨(some 44), .move (.tmp 11), none⟩,
    ⟨(some 6), .assign (.tmp 44), none⟩]) .ret) K t m := rfl

def c_sheafref12_Compare_16 : MC := (.cond (.tmp 43) c_sheafref12_Compare_15 .skip)
@[go_sem] theorem c_sheafref12_Compare_16_at (rd : Option Nat) (K : Post3) (t : Fr) (m : Mem) : wpM E 43 45 rd c_sheafref12_Compare_16 K t m = wpM E 43 45 rd (.cond (.tmp 43) c_sheafref12_Compare_15 .skip) K t m := rfl

def c_sheafref12_Compare_17 : MC := (.seq (.ops [⟨(some 42), .move (.tmp 11), none⟩,
    ⟨(some 43), .binOp .neq 3 (.tmp 42) (.const (.int .i64 0)) 3, none⟩]) c_sheafref12_Compare_16)
@[go_sem] theorem c_sheafref12_Compare_17_at (rd : Option Nat) (K : Post3) (t : Fr) (m : Mem) : wpM E 43 45 rd c_sheafref12_Compare_17 K t m = wpM E 43 45 rd (.seq (.ops [⟨(some 42), .move (.tmp 11), none⟩,
    ⟨(some 43), .binOp .neq 3 (.tmp 42) (.const (.int .i64 0)) 3, none⟩]) c_sheafref12_Compare_16) K t m := rfl

def c_sheafref12_Compare_18 : MC := (.seq (.ops [⟨(some 38), .move (.tmp 0), none⟩,
    ⟨(some 39), .move (.tmp 1), none⟩,
    ⟨(some 40), .move (.tmp 10), none⟩,
    ⟨(some 41), .call ⟨.value (.func 61), #[(.tmp 38), (.tmp 39), (.tmp 40)], #[22, 22, 3]⟩, none⟩,
    ⟨(some 11), .assign (.tmp 41), none⟩]) c_sheafref12_Compare_17)
@[go_sem] theorem c_sheafref12_Compare_18_at (rd : Option Nat) (K : Post3) (t : Fr) (m : Mem) : wpM E 43 45 rd c_sheafref12_Compare_18 K t m = wpM E 43 45 rd (.seq (.ops [⟨(some 38), .move (.tmp 0), none⟩,
    ⟨(some 39), .move (.tmp 1), none⟩,
    ⟨(some 40), .move (.tmp 10), none⟩,
    ⟨(some 41), .call ⟨.value (.func 61), #[(.tmp 38), (.tmp 39), (.tmp 40)], #[22, 22, 3]⟩, none⟩,
    ⟨(some 11), .assign (.tmp 41), none⟩]) c_sheafref12_Compare_17) K t m := rfl

def c_sheafref12_Compare_19 : MC := (.block 3 c_sheafref12_Compare_18)
@[go_sem] theorem c_sheafref12_Compare_19_at (rd : Option Nat) (K : Post3) (t : Fr) (m : Mem) : wpM E 43 45 rd c_sheafref12_Compare_19 K t m = wpM E 43 45 rd (.block 3 c_sheafref12_Compare_18) K t m := rfl

def c_sheafref12_Compare_20 : MC := (.seq c_sheafref12_Compare_19 (.ops [⟨(some 36), .move (.tmp 10), none⟩,
    ⟨(some 37), .binOp .add 3 (.tmp 36) (.const (.int .i64 1)) 3, none⟩,
    ⟨(some 10), .assign (.tmp 37), none⟩]))
@[go_sem] theorem c_sheafref12_Compare_20_at (rd : Option Nat) (K : Post3) (t : Fr) (m : Mem) : wpM E 43 45 rd c_sheafref12_Compare_20 K t m = wpM E 43 45 rd (.seq c_sheafref12_Compare_19 (.ops [⟨(some 36), .move (.tmp 10), none⟩,
    ⟨(some 37), .binOp .add 3 (.tmp 36) (.const (.int .i64 1)) 3, none⟩,
    ⟨(some 10), .assign (.tmp 37), none⟩])) K t m := rfl

def c_sheafref12_Compare_21 : MC := (.seq c_sheafref12_Compare_14 c_sheafref12_Compare_20)
@[go_sem] theorem c_sheafref12_Compare_21_at (rd : Option Nat) (K : Post3) (t : Fr) (m : Mem) : wpM E 43 45 rd c_sheafref12_Compare_21 K t m = wpM E 43 45 rd (.seq c_sheafref12_Compare_14 c_sheafref12_Compare_20) K t m := rfl

def c_sheafref12_Compare_22 : MC := (.loop c_sheafref12_Compare_21)
theorem c_sheafref12_Compare_22_at (rd : Option Nat) (K : Post3) (t : Fr) (m : Mem) : wpM E 43 45 rd c_sheafref12_Compare_22 K t m = wpM E 43 45 rd (.loop c_sheafref12_Compare_21) K t m := rfl

def c_sheafref12_Compare_23 : MC := (.block 2 c_sheafref12_Compare_22)
theorem c_sheafref12_Compare_23_at (rd : Option Nat) (K : Post3) (t : Fr) (m : Mem) : wpM E 43 45 rd c_sheafref12_Compare_23 K t m = wpM E 43 45 rd (.block 2 c_sheafref12_Compare_22) K t m := rfl

def c_sheafref12_Compare_24 : MC := (.seq (.ops [⟨(some 10), .assign (.const (.int .i64 0)), none⟩]) c_sheafref12_Compare_23)
@[go_sem] theorem c_sheafref12_Compare_24_at (rd : Option Nat) (K : Post3) (t : Fr) (m : Mem) : wpM E 43 45 rd c_sheafref12_Compare_24 K t m = wpM E 43 45 rd (.seq (.ops [⟨(some 10), .assign (.const (.int .i64 0)), none⟩]) c_sheafref12_Compare_23) K t m := rfl

def c_sheafref12_Compare_25 : MC := (.seq (.ops [⟨(some 6), .assign (.const (.int .i64 0)), none⟩]) .ret)
@[go_sem] theorem c_sheafref12_Compare_25_at (rd : Option Nat) (K : Post3) (t : Fr) (m : Mem) : wpM E 43 45 rd c_sheafref12_Compare_25 K t m = wpM E 43 45 rd (.seq (.ops [⟨(some 6), .assign (.const (.int .i64 0)), none⟩]) .ret) K t m := rfl

def c_sheafref12_Compare_26 : MC := (.seq c_sheafref12_Compare_24 c_sheafref12_Compare_25)
@[go_sem] theorem c_sheafref12_Compare_26_at (rd : Option Nat) (K : Post3) (t : Fr) (m : Mem) : wpM E 43 45 rd c_sheafref12_Compare_26 K t m = wpM E 43 45 rd (.seq c_sheafref12_Compare_24 c_sheafref12_Compare_25) K t m := rfl

def c_sheafref12_Compare_27 : MC := (.seq c_sheafref12_Compare_12 c_sheafref12_Compare_26)
@[go_sem] theorem c_sheafref12_Compare_27_at (rd : Option Nat) (K : Post3) (t : Fr) (m : Mem) : wpM E 43 45 rd c_sheafref12_Compare_27 K t m = wpM E 43 45 rd (.seq c_sheafref12_Compare_12 c_sheafref12_Compare_26) K t m := rfl

def c_sheafref12_Compare_28 : MC := (.seq (.ops [⟨(some 6), .assign (.const (.int .i64 0)), none⟩]) c_sheafref12_Compare_27)
@[go_sem] theorem c_sheafref12_Compare_28_at (rd : Option Nat) (K : Post3) (t : Fr) (m : Mem) : wpM E 43 45 rd c_sheafref12_Compare_28 K t m = wpM E 43 45 rd (.seq (.ops [⟨(some 6), .assign (.const (.int .i64 0)), none⟩]) c_sheafref12_Compare_27) K t m := rfl

@[go_sem] theorem some43 : (E.fn 43).isSome = true := by kernel_rfl
set_option maxRecDepth 100000 in
theorem fn_sheafref12_Compare : FnIs E 43 45 [.tmp 6] c_sheafref12_Compare_28 := ⟨by kernel_rfl, by kernel_rfl⟩

/-! sheaf/sheafref16.opposite -/
abbrev F_sheafref16_opposite : FuncId := 58
def c_sheafref16_opposite_0 : MC := (.seq (.ops [⟨(some 11), .load 27 (.tmp 3), none⟩,
    ⟨(some 12), .build 27 #[(1, (.const (.int .u64 1)))], none⟩,
    ⟨(some 13), .call ⟨.value (.func 40), #[(.tmp 11), (.tmp 12)], #[27, 27]⟩, none⟩,
    ⟨none, .store 27 (.tmp 2) (.tmp 13), none⟩]) .ret)
@[go_sem] theorem c_sheafref16_opposite_0_at (rd : Option Nat) (K : Post3) (t : Fr) (m : Mem) : wpM E 58 14 rd c_sheafref16_opposite_0 K t m = wpM E 58 14 rd (.seq (.ops [⟨(some 11), .load 27 (.tmp 3), none⟩,
    ⟨(some 12), .build 27 #[(1, (.const (.int .u64 1)))], none⟩,
    ⟨(some 13), .call ⟨.value (.func 40), #[(.tmp 11), (.tmp 12)], #[27, 27]⟩, none⟩,
    ⟨none, .store 27 (.tmp 2) (.tmp 13), none⟩]) .ret) K t m := rfl

def c_sheafref16_opposite_1 : MC := (.seq (.ops [⟨(some 4), .fieldAddr 27 (.tmp 1) 0, none⟩,
    ⟨(some 5), .load 2 (.tmp 4), none⟩,
    ⟨(some 6), .unOp .xor 2 (.tmp 5), none⟩,
    ⟨(some 7), .fieldAddr 27 (.tmp 1) 1, none⟩,
    ⟨(some 8), .load 25 (.tmp 7), none⟩,
    ⟨(some 9), .unOp .xor 25 (.tmp 8), none⟩,
    ⟨(some 10), .build 27 #[(0, (.tmp 6)), (1, (.tmp 9))], none⟩,
    ⟨(some 3), .alloc 27, none⟩,
    ⟨none, .store 27 (.tmp 3) (.tmp 10), none⟩]) c_sheafref16_opposite_0)
@[go_sem] theorem c_sheafref16_opposite_1_at (rd : Option Nat) (K : Post3) (t : Fr) (m : Mem) : wpM E 58 14 rd c_sheafref16_opposite_1 K t m = wpM E 58 14 rd (.seq (.ops [⟨(some 4), .fieldAddr 27 (.tmp 1) 0, none⟩,
    ⟨(some 5), .load 2 (.tmp 4), none⟩,
    ⟨(some 6), .unOp .xor 2 (.tmp 5), none⟩,
    ⟨(some 7), .fieldAddr 27 (.tmp 1) 1, none⟩,
    ⟨(some 8), .load 25 (.tmp 7), none⟩,
    ⟨(some 9), .unOp .xor 25 (.tmp 8), none⟩,
    ⟨(some 10), .build 27 #[(0, (.tmp 6)), (1, (.tmp 9))], none⟩,
    ⟨(some 3), .alloc 27, none⟩,
    ⟨none, .store 27 (.tmp 3) (.tmp 10), none⟩]) c_sheafref16_opposite_0) K t m := rfl

def c_sheafref16_opposite_2 : MC := (.seq (.ops [⟨(some 1), .box 27 (.tmp 0), none⟩,
    ⟨(some 2), .alloc 27, none⟩]) c_sheafref16_opposite_1)
@[go_sem] theorem c_sheafref16_opposite_2_at (rd : Option Nat) (K : Post3) (t : Fr) (m : Mem) : wpM E 58 14 rd c_sheafref16_opposite_2 K t m = wpM E 58 14 rd (.seq (.ops [⟨(some 1), .box 27 (.tmp 0), none⟩,
    ⟨(some 2), .alloc 27, none⟩]) c_sheafref16_opposite_1) K t m := rfl

@[go_sem] theorem some58 : (E.fn 58).isSome = true := by kernel_rfl
set_option maxRecDepth 100000 in
theorem fn_sheafref16_opposite : FnIs E 58 14 [.cell 2 27] c_sheafref16_opposite_2 := ⟨by kernel_rfl, by kernel_rfl⟩

/-! sheaf/sheafref16.Cancel -/
abbrev F_sheafref16_Cancel : FuncId := 60
def c_sheafref16_Cancel_0 : MC := (.seq (.draw [(0, [], ⟨(some 13), .load 27 (.tmp 2), none⟩),
    (1, [], ⟨(some 14), .load 27 (.tmp 3), none⟩),
    (2, [1], ⟨none, .store 27 (.tmp 4) (.tmp 13), none⟩),
    (3, [], ⟨none, .store 27 (.tmp 5) (.tmp 14), none⟩)]) .ret)
@[go_sem] theorem c_sheafref16_Cancel_0_at (rd : Option Nat) (K : Post3) (t : Fr) (m : Mem) : wpM E 60 32 rd c_sheafref16_Cancel_0 K t m = wpM E 60 32 rd (.seq (.draw [(0, [], ⟨(some 13), .load 27 (.tmp 2), none⟩),
    (1, [], ⟨(some 14), .load 27 (.tmp 3), none⟩),
    (2, [1], ⟨none, .store 27 (.tmp 4) (.tmp 13), none⟩),
    (3, [], ⟨none, .store 27 (.tmp 5) (.tmp 14), none⟩)]) .ret) K t m := rfl

def c_sheafref16_Cancel_1 : MC := (.cond (.tmp 12) c_sheafref16_Cancel_0 .skip)
@[go_sem] theorem c_sheafref16_Cancel_1_at (rd : Option Nat) (K : Post3) (t : Fr) (m : Mem) : wpM E 60 32 rd c_sheafref16_Cancel_1 K t m = wpM E 60 32 rd (.cond (.tmp 12) c_sheafref16_Cancel_0 .skip) K t m := rfl

def c_sheafref16_Cancel_2 : MC := (.seq (.draw [(0, [], ⟨(some 7), .load 27 (.tmp 2), none⟩),
    (2, [], ⟨(some 9), .load 27 (.tmp 3), none⟩),
    (1, [2], ⟨(some 8), .call ⟨.value (.func 69), #[(.tmp 7)], #[27]⟩, none⟩),
    (3, [], ⟨(some 10), .call ⟨.value (.func 69), #[(.tmp 9)], #[27]⟩, none⟩),
    (4, [], ⟨(some 11), .binOp .mul 3 (.tmp 8) (.tmp 10) 3, none⟩),
    (5, [], ⟨(some 12), .binOp .geq 3 (.tmp 11) (.const (.int .i64 0)) 3, none⟩)]) c_sheafref16_Cancel_1)
@[go_sem] theorem c_sheafref16_Cancel_2_at (rd : Option Nat) (K : Post3) (t : Fr) (m : Mem) : wpM E 60 32 rd c_sheafref16_Cancel_2 K t m = wpM E 60 32 rd (.seq (.draw [(0, [], ⟨(some 7), .load 27 (.tmp 2), none⟩),
    (2, [], ⟨(some 9), .load 27 (.tmp 3), none⟩),
    (1, [2], ⟨(some 8), .call ⟨.value (.func 69), #[(.tmp 7)], #[27]⟩, none⟩),
    (3, [], ⟨(some 10), .call ⟨.value (.func 69), #[(.tmp 9)], #[27]⟩, none⟩),
    (4, [], ⟨(some 11), .binOp .mul 3 (.tmp 8) (.tmp 10) 3, none⟩),
    (5, [], ⟨(some 12), .binOp .geq 3 (.tmp 11) (.const (.int .i64 0)) 3, none⟩)]) c_sheafref16_Cancel_1) K t m := rfl

def c_sheafref16_Cancel_3 : MC := (.seq (.ops [⟨(some 21), .build 27 #[], none⟩,
    ⟨(some 22), .build 27 #[], none⟩,
    ⟨none, .store 27 (.tmp 4) (.tmp 21), none⟩,
    ⟨none, .store 27 (.tmp 5) (.tmp 22), none⟩]) .ret)
@[go_sem] theorem c_sheafref16_Cancel_3_at (rd : Option Nat) (K : Post3) (t : Fr) (m : Mem) : wpM E 60 32 rd c_sheafref16_Cancel_3 K t m = wpM E 60 32 rd (.seq (.ops [⟨(some 21), .build 27 #[], none⟩,
    ⟨(some 22), .build 27 #[], none⟩,
    ⟨none, .store 27 (.tmp 4) (.tmp 21), none⟩,
    ⟨none, .store 27 (.tmp 5) (.tmp 22), none⟩]) .ret) K t m := rfl

def c_sheafref16_Cancel_4 : MC := (.cond (.tmp 20) c_sheafref16_Cancel_3 .skip)
@[go_sem] theorem c_sheafref16_Cancel_4_at (rd : Option Nat) (K : Post3) (t : Fr) (m : Mem) : wpM E 60 32 rd c_sheafref16_Cancel_4 K t m = wpM E 60 32 rd (.cond (.tmp 20) c_sheafref16_Cancel_3 .skip) K t m := rfl

def c_sheafref16_Cancel_5 : MC := (.seq (.ops [⟨(some 18), .load 27 (.tmp 6), none⟩,
    ⟨(some 19), .call ⟨.value (.func 69), #[(.tmp 18)], #[27]⟩, none⟩,
    ⟨(some 20), .binOp .eql 3 (.tmp 19) (.const (.int .i64 0)) 3, none⟩]) c_sheafref16_Cancel_4)
@[go_sem] theorem c_sheafref16_Cancel_5_at (rd : Option Nat) (K : Post3) (t : Fr) (m : Mem) : wpM E 60 32 rd c_sheafref16_Cancel_5 K t m = wpM E 60 32 rd (.seq (.ops [⟨(some 18), .load 27 (.tmp 6), none⟩,
    ⟨(some 19), .call ⟨.value (.func 69), #[(.tmp 18)], #[27]⟩, none⟩,
    ⟨(some 20), .binOp .eql 3 (.tmp 19) (.const (.int .i64 0)) 3, none⟩]) c_sheafref16_Cancel_4) K t m := rfl

def c_sheafref16_Cancel_6 : MC := (.seq (.ops [⟨(some 28), .load 27 (.tmp 6), none⟩,
    ⟨(some 29), .build 27 #[], none⟩,
    ⟨none, .store 27 (.tmp 4) (.tmp 28), none⟩,
    ⟨none, .store 27 (.tmp 5) (.tmp 29), none⟩]) .ret)
@[go_sem] theorem c_sheafref16_Cancel_6_at (rd : Option Nat) (K : Post3) (t : Fr) (m : Mem) : wpM E 60 32 rd c_sheafref16_Cancel_6 K t m = wpM E 60 32 rd (.seq (.ops [⟨(some 28), .load 27 (.tmp 6), none⟩,
    ⟨(some 29), .build 27 #[], none⟩,
    ⟨none, .store 27 (.tmp 4) (.tmp 28), none⟩,
    ⟨none, .store 27 (.tmp 5) (.tmp 29), none⟩]) .ret) K t m := rfl

def c_sheafref16_Cancel_7 : MC := (.cond (.tmp 27) c_sheafref16_Cancel_6 .skip)
@[go_sem] theorem c_sheafref16_Cancel_7_at (rd : Option Nat) (K : Post3) (t : Fr) (m : Mem) : wpM E 60 32 rd c_sheafref16_Cancel_7 K t m = wpM E 60 32 rd (.cond (.tmp 27) c_sheafref16_Cancel_6 .skip) K t m := rfl

def c_sheafref16_Cancel_8 : MC := (.seq (.draw [(0, [], ⟨(some 23), .load 27 (.tmp 6), none⟩),
    (2, [], ⟨(some 25), .load 27 (.tmp 2), none⟩),
    (1, [2], ⟨(some 24), .call ⟨.value (.func 69), #[(.tmp 23)], #[27]⟩, none⟩),
    (3, [], ⟨(some 26), .call ⟨.value (.func 69), #[(.tmp 25)], #[27]⟩, none⟩),
    (4, [], ⟨(some 27), .binOp .eql 3 (.tmp 24) (.tmp 26) 3, none⟩)]) c_sheafref16_Cancel_7)
@[go_sem] theorem c_sheafref16_Cancel_8_at (rd : Option Nat) (K : Post3) (t : Fr) (m : Mem) : wpM E 60 32 rd c_sheafref16_Cancel_8 K t m = wpM E 60 32 rd (.seq (.draw [(0, [], ⟨(some 23), .load 27 (.tmp 6), none⟩),
    (2, [], ⟨(some 25), .load 27 (.tmp 2), none⟩),
    (1, [2], ⟨(some 24), .call ⟨.value (.func 69), #[(.tmp 23)], #[27]⟩, none⟩),
    (3, [], ⟨(some 26), .call ⟨.value (.func 69), #[(.tmp 25)], #[27]⟩, none⟩),
    (4, [], ⟨(some 27), .binOp .eql 3 (.tmp 24) (.tmp 26) 3, none⟩)]) c_sheafref16_Cancel_7) K t m := rfl

def c_sheafref16_Cancel_9 : MC := (.seq (.draw [(0, [], ⟨(some 30), .build 27 #[], none⟩),
    (1, [], ⟨(some 31), .load 27 (.tmp 6), none⟩),
    (2, [1], ⟨none, .store 27 (.tmp 4) (.tmp 30), none⟩),
    (3, [], ⟨none, .store 27 (.tmp 5) (.tmp 31), none⟩)]) .ret)
@[go_sem] theorem c_sheafref16_Cancel_9_at (rd : Option Nat) (K : Post3) (t : Fr) (m : Mem) : wpM E 60 32 rd c_sheafref16_Cancel_9 K t m = wpM E 60 32 rd (.seq (.draw [(0, [], ⟨(some 30), .build 27 #[], none⟩),
    (1, [], ⟨(some 31), .load 27 (.tmp 6), none⟩),
    (2, [1], ⟨none, .store 27 (.tmp 4) (.tmp 30), none⟩),
    (3, [], ⟨none, .store 27 (.tmp 5) (.tmp 31), none⟩)]) .ret) K t m := rfl

def c_sheafref16_Cancel_10 : MC := (.seq c_sheafref16_Cancel_8 c_sheafref16_Cancel_9)
@[go_sem] theorem c_sheafref16_Cancel_10_at (rd : Option Nat) (K : Post3) (t : Fr) (m : Mem) : wpM E 60 32 rd c_sheafref16_Cancel_10 K t m = wpM E 60 32 rd (.seq c_sheafref16_Cancel_8 c_sheafref16_Cancel_9) K t m := rfl

def c_sheafref16_Cancel_11 : MC := (.seq c_sheafref16_Cancel_5 c_sheafref16_Cancel_10)
@[go_sem] theorem c_sheafref16_Cancel_11_at (rd : Option Nat) (K : Post3) (t : Fr) (m : Mem) : wpM E 60 32 rd c_sheafref16_Cancel_11 K t m = wpM E 60 32 rd (.seq c_sheafref16_Cancel_5 c_sheafref16_Cancel_10) K t m := rfl

def c_sheafref16_Cancel_12 : MC := (.seq (.ops [⟨(some 15), .load 27 (.tmp 2), none⟩,
    ⟨(some 16), .load 27 (.tmp 3), none⟩,
    ⟨(some 17), .call ⟨.value (.func 40), #[(.tmp 15), (.tmp 16)], #[27, 27]⟩, none⟩,
    ⟨(some 6), .alloc 27, none⟩,
    ⟨none, .store 27 (.tmp 6) (.tmp 17), none⟩]) c_sheafref16_Cancel_11)
@[go_sem] theorem c_sheafref16_Cancel_12_at (rd : Option Nat) (K : Post3) (t : Fr) (m : Mem) : wpM E 60 32 rd c_sheafref16_Cancel_12 K t m = wpM E 60 32 rd (.seq (.ops [⟨(some 15), .load 27 (.tmp 2), none⟩,
    ⟨(some 16), .load 27 (.tmp 3), none⟩,
    ⟨(some 17), .call ⟨.value (.func 40), #[(.tmp 15), (.tmp 16)], #[27, 27]⟩, none⟩,
    ⟨(some 6), .alloc 27, none⟩,
    ⟨none, .store 27 (.tmp 6) (.tmp 17), none⟩]) c_sheafref16_Cancel_11) K t m := rfl

def c_sheafref16_Cancel_13 : MC := (.seq c_sheafref16_Cancel_2 c_sheafref16_Cancel_12)
@[go_sem] theorem c_sheafref16_Cancel_13_at (rd : Option Nat) (K : Post3) (t : Fr) (m : Mem) : wpM E 60 32 rd c_sheafref16_Cancel_13 K t m = wpM E 60 32 rd (.seq c_sheafref16_Cancel_2 c_sheafref16_Cancel_12) K t m := rfl

def c_sheafref16_Cancel_14 : MC := (.seq (.ops [⟨(some 2), .box 27 (.tmp 0), none⟩,
    ⟨(some 3), .box 27 (.tmp 1), none⟩,
    ⟨(some 4), .alloc 27, none⟩,
    ⟨(some 5), .alloc 27, none⟩]) c_sheafref16_Cancel_13)
@[go_sem] theorem c_sheafref16_Cancel_14_at (rd : Option Nat) (K : Post3) (t : Fr) (m : Mem) : wpM E 60 32 rd c_sheafref16_Cancel_14 K t m = wpM E 60 32 rd (.seq (.ops [⟨(some 2), .box 27 (.tmp 0), none⟩,
    ⟨(some 3), .box 27 (.tmp 1), none⟩,
    ⟨(some 4), .alloc 27, none⟩,
    ⟨(some 5), .alloc 27, none⟩]) c_sheafref16_Cancel_13) K t m := rfl

@[go_sem] theorem some60 : (E.fn 60).isSome = true := by kernel_rfl
set_option maxRecDepth 100000 in
theorem fn_sheafref16_Cancel : FnIs E 60 32 [.cell 4 27, .cell 5 27] c_sheafref16_Cancel_14 := ⟨by kernel_rfl, by kernel_rfl⟩

/-! sheaf/sheafref12.column -/
abbrev F_sheafref12_column : FuncId := 61
def c_sheafref12_column_0 : MC := (.seq (.ops [⟨(some 6), .assign (.const (.int .i64 0)), none⟩]) .ret)
@[go_sem] theorem c_sheafref12_column_0_at (rd : Option Nat) (K : Post3) (t : Fr) (m : Mem) : wpM E 61 63 rd c_sheafref12_column_0 K t m = wpM E 61 63 rd (.seq (.ops [⟨(some 6), .assign (.const (.int .i64 0)), none⟩]) .ret) K t m := rfl

def c_sheafref12_column_1 : MC := (.seq (.ops [⟨(some 6), .assign (.const (.int .i64 (-1))), none⟩]) .ret)
@[go_sem] theorem c_sheafref12_column_1_at (rd : Option Nat) (K : Post3) (t : Fr) (m : Mem) : wpM E 61 63 rd c_sheafref12_column_1 K t m = wpM E 61 63 rd (.seq (.ops [⟨(some 6), .assign (.const (.int .i64 (-1))), none⟩]) .ret) K t m := rfl

def c_sheafref12_column_2 : MC := (.seq (.ops [⟨(some 6), .assign (.const (.int .i64 1)), none⟩]) .ret)
@[go_sem] theorem c_sheafref12_column_2_at (rd : Option Nat) (K : Post3) (t : Fr) (m : Mem) : wpM E 61 63 rd c_sheafref12_column_2 K t m = wpM E 61 63 rd (.seq (.ops [⟨(some 6), .assign (.const (.int .i64 1)), none⟩]) .ret) K t m := rfl

def c_sheafref12_column_3 : MC := (.cond (.tmp 49) c_sheafref12_column_2 .skip)
@[go_sem] theorem c_sheafref12_column_3_at (rd : Option Nat) (K : Post3) (t : Fr) (m : Mem) : wpM E 61 63 rd c_sheafref12_column_3 K t m = wpM E 61 63 rd (.cond (.tmp 49) c_sheafref12_column_2 .skip) K t m := rfl

def c_sheafref12_column_4 : MC := (.seq (.ops [⟨(some 50), .move (.tmp 8), none⟩,
    ⟨(some 51), .unOp .not 4 (.tmp 50), none⟩,
    ⟨(some 52), .move (.tmp 51), none⟩,
    ⟨(some 53), .move (.tmp 0), (some (some 52, false))⟩,
    ⟨(some 54), .move (.tmp 2), (some (some 52, false))⟩,
    ⟨(some 55), .indexAddr 22 (.tmp 53) (.tmp 54), (some (some 52, false))⟩,
    ⟨(some 56), .load 3 (.tmp 55), (some (some 52, false))⟩,
    ⟨(some 57), .move (.tmp 1), (some (some 52, false))⟩,
    ⟨(some 58), .move (.tmp 2), (some (some 52, false))⟩,
    ⟨(some 59), .indexAddr 22 (.tmp 57) (.tmp 58), (some (some 52, false))⟩,
    ⟨(some 60), .load 3 (.tmp 59), (some (some 52, false))⟩,
    ⟨(some 61), .binOp .gtr 3 (.tmp 56) (.tmp 60) 3, (some (some 52, false))⟩,
    ⟨(some 62), .pick (.tmp 52) (.const (.bool true)) (.tmp 61), none⟩,
    ⟨(some 49), .assign (.tmp 62), none⟩]) c_sheafref12_column_3)
@[go_sem] theorem c_sheafref12_column_4_at (rd : Option Nat) (K : Post3) (t : Fr) (m : Mem) : wpM E 61 63 rd c_sheafref12_column_4 K t m = wpM E 61 63 rd (.seq (.ops [⟨(some 50), .move (.tmp 8), none⟩,
    ⟨(some 51), .unOp .not 4 (.tmp 50), none⟩,
    ⟨(some 52), .move (.tmp 51), none⟩,
    ⟨(some 53), .move (.tmp 0), (some (some 52, false))⟩,
    ⟨(some 54), .move (.tmp 2), (some (some 52, false))⟩,
    ⟨(some 55), .indexAddr 22 (.tmp 53) (.tmp 54), (some (some 52, false))⟩,
    ⟨(some 56), .load 3 (.tmp 55), (some (some 52, false))⟩,
    ⟨(some 57), .move (.tmp 1), (some (some 52, false))⟩,
    ⟨(some 58), .move (.tmp 2), (some (some 52, false))⟩,
    ⟨(some 59), .indexAddr 22 (.tmp 57) (.tmp 58), (some (some 52, false))⟩,
    ⟨(some 60), .load 3 (.tmp 59), (some (some 52, false))⟩,
    ⟨(some 61), .binOp .gtr 3 (.tmp 56) (.tmp 60) 3, (some (some 52, false))⟩,
    ⟨(some 62), .pick (.tmp 52) (.const (.bool true)) (.tmp 61), none⟩,
    ⟨(some 49), .assign (.tmp 62), none⟩]) c_sheafref12_column_3) K t m := rfl

def c_sheafref12_column_5 : MC := (.cond (.tmp 32) c_sheafref12_column_1 c_sheafref12_column_4)
@[go_sem] theorem c_sheafref12_column_5_at (rd : Option Nat) (K : Post3) (t : Fr) (m : Mem) : wpM E 61 63 rd c_sheafref12_column_5 K t m = wpM E 61 63 rd (.cond (.tmp 32) c_sheafref12_column_1 c_sheafref12_column_4) K t m := rfl

def c_sheafref12_column_6 : MC := (.seq (.ops [⟨(some 33), .move (.tmp 7), none⟩,
    ⟨(some 34), .unOp .not 4 (.tmp 33), none⟩,
    ⟨(some 35), .move (.tmp 34), none⟩,
    ⟨(some 36), .move (.tmp 8), (some (some 35, false))⟩,
    ⟨(some 37), .move (.tmp 36), (some (some 35, false))⟩,
    ⟨(some 38), .move (.tmp 0), (some (some 37, true))⟩,
    ⟨(some 39), .move (.tmp 2), (some (some 37, true))⟩,
    ⟨(some 40), .indexAddr 22 (.tmp 38) (.tmp 39), (some (some 37, true))⟩,
    ⟨(some 41), .load 3 (.tmp 40), (some (some 37, true))⟩,
    ⟨(some 42), .move (.tmp 1), (some (some 37, true))⟩,
    ⟨(some 43), .move (.tmp 2), (some (some 37, true))⟩,
    ⟨(some 44), .indexAddr 22 (.tmp 42) (.tmp 43), (some (some 37, true))⟩,
    ⟨(some 45), .load 3 (.tmp 44), (some (some 37, true))⟩,
    ⟨(some 46), .binOp .lss 3 (.tmp 41) (.tmp 45) 3, (some (some 37, true))⟩,
    ⟨(some 47), .pick (.tmp 37) (.tmp 46) (.const (.bool false)), (some (some 35, false))⟩,
    ⟨(some 48), .pick (.tmp 35) (.const (.bool true)) (.tmp 47), none⟩,
    ⟨(some 32), .assign (.tmp 48), none⟩]) c_sheafref12_column_5)
@[go_sem] theorem c_sheafref12_column_6_at (rd : Option Nat) (K : Post3) (t : Fr) (m : Mem) : wpM E 61 63 rd c_sheafref12_column_6 K t m = wpM E 61 63 rd (.seq (.ops [⟨(some 33), .move (.tmp 7), none⟩,
    ⟨(some 34), .unOp .not 4 (.tmp 33), none⟩,
    ⟨(some 35), .move (.tmp 34), none⟩,
    ⟨(some 36), .move (.tmp 8), (some (some 35, false))⟩,
    ⟨(some 37), .move (.tmp 36), (some (some 35, false))⟩,
    ⟨(some 38), .move (.tmp 0), (some (some 37, true))⟩,
    ⟨(some 39), .move (.tmp 2), (some (some 37, true))⟩,
    ⟨(some 40), .indexAddr 22 (.tmp 38) (.tmp 39), (some (some 37, true))⟩,
    ⟨(some 41), .load 3 (.tmp 40), (some (some 37, true))⟩,
    ⟨(some 42), .move (.tmp 1), (some (some 37, true))⟩,
    ⟨(some 43), .move (.tmp 2), (some (some 37, true))⟩,
    ⟨(some 44), .indexAddr 22 (.tmp 42) (.tmp 43), (some (some 37, true))⟩,
    ⟨(some 45), .load 3 (.tmp 44), (some (some 37, true))⟩,
    ⟨(some 46), .binOp .lss 3 (.tmp 41) (.tmp 45) 3, (some (some 37, true))⟩,
    ⟨(some 47), .pick (.tmp 37) (.tmp 46) (.const (.bool false)), (some (some 35, false))⟩,
    ⟨(some 48), .pick (.tmp 35) (.const (.bool true)) (.tmp 47), none⟩,
    ⟨(some 32), .assign (.tmp 48), none⟩]) c_sheafref12_column_5) K t m := rfl

def c_sheafref12_column_7 : MC := (.cond (.tmp 25) c_sheafref12_column_0 c_sheafref12_column_6)
@[go_sem] theorem c_sheafref12_column_7_at (rd : Option Nat) (K : Post3) (t : Fr) (m : Mem) : wpM E 61 63 rd c_sheafref12_column_7 K t m = wpM E 61 63 rd (.cond (.tmp 25) c_sheafref12_column_0 c_sheafref12_column_6) K t m := rfl

def c_sheafref12_column_8 : MC := (.seq (.ops [⟨(some 26), .move (.tmp 7), none⟩,
    ⟨(some 27), .unOp .not 4 (.tmp 26), none⟩,
    ⟨(some 28), .move (.tmp 27), none⟩,
    ⟨(some 29), .move (.tmp 8), (some (some 28, true))⟩,
    ⟨(some 30), .unOp .not 4 (.tmp 29), (some (some 28, true))⟩,
    ⟨(some 31), .pick (.tmp 28) (.tmp 30) (.const (.bool false)), none⟩,
    ⟨(some 25), .assign (.tmp 31), none⟩]) c_sheafref12_column_7)
@[go_sem] theorem c_sheafref12_column_8_at (rd : Option Nat) (K : Post3) (t : Fr) (m : Mem) : wpM E 61 63 rd c_sheafref12_column_8 K t m = wpM E 61 63 rd (.seq (.ops [⟨(some 26), .move (.tmp 7), none⟩,
    ⟨(some 27), .unOp .not 4 (.tmp 26), none⟩,
    ⟨(some 28), .move (.tmp 27), none⟩,
    ⟨(some 29), .move (.tmp 8), (some (some 28, true))⟩,
    ⟨(some 30), .unOp .not 4 (.tmp 29), (some (some 28, true))⟩,
    ⟨(some 31), .pick (.tmp 28) (.tmp 30) (.const (.bool false)), none⟩,
    ⟨(some 25), .assign (.tmp 31), none⟩]) c_sheafref12_column_7) K t m := rfl

def c_sheafref12_column_9 : MC := (.block 0 c_sheafref12_column_8)
@[go_sem] theorem c_sheafref12_column_9_at (rd : Option Nat) (K : Post3) (t : Fr) (m : Mem) : wpM E 61 63 rd c_sheafref12_column_9 K t m = wpM E 61 63 rd (.block 0 c_sheafref12_column_8) K t m := rfl

def c_sheafref12_column_10 : MC := (.seq (.ops [⟨(some 6), .assign (.const (.int .i64 0)), none⟩]) .ret)
@[go_sem] theorem c_sheafref12_column_10_at (rd : Option Nat) (K : Post3) (t : Fr) (m : Mem) : wpM E 61 63 rd c_sheafref12_column_10 K t m = wpM E 61 63 rd (.seq (.ops [⟨(some 6), .assign (.const (.int .i64 0)), none⟩]) .ret) K t m := rfl

def c_sheafref12_column_11 : MC := (.seq c_sheafref12_column_9 c_sheafref12_column_10)
@[go_sem] theorem c_sheafref12_column_11_at (rd : Option Nat) (K : Post3) (t : Fr) (m : Mem) : wpM E 61 63 rd c_sheafref12_column_11 K t m = wpM E 61 63 rd (.seq c_sheafref12_column_9 c_sheafref12_column_10) K t m := rfl

def c_sheafref12_column_12 : MC := (.seq (.ops [⟨(some 9), .move (.tmp 2), none⟩,
    ⟨(some 10), .binOp .geq 3 (.tmp 9) (.const (.int .i64 0)) 3, none⟩,
    ⟨(some 11), .move (.tmp 10), none⟩,
    ⟨(some 12), .move (.tmp 2), (some (some 11, true))⟩,
    ⟨(some 13), .move (.tmp 0), (some (some 11, true))⟩,
    ⟨(some 14), .call ⟨.builtin .len, #[(.tmp 13)], #[22]⟩, (some (some 11, true))⟩,
    ⟨(some 15), .binOp .lss 3 (.tmp 12) (.tmp 14) 3, (some (some 11, true))⟩,
    ⟨(some 16), .pick (.tmp 11) (.tmp 15) (.const (.bool false)), none⟩,
    ⟨(some 17), .move (.tmp 2), none⟩,
    ⟨(some 18), .binOp .geq 3 (.tmp 17) (.const (.int .i64 0)) 3, none⟩,
    ⟨(some 19), .move (.tmp 18), none⟩,
    ⟨(some 20), .move (.tmp 2), (some (some 19, true))⟩,
    ⟨(some 21), .move (.tmp 1), (some (some 19, true))⟩,
    ⟨(some 22), .call ⟨.builtin .len, #[(.tmp 21)], #[22]⟩, (some (some 19, true))⟩,
    ⟨(some 23), .binOp .lss 3 (.tmp 20) (.tmp 22) 3, (some (some 19, true))⟩,
    ⟨(some 24), .pick (.tmp 19) (.tmp 23) (.const (.bool false)), none⟩,
    ⟨(some 7), .assign (.tmp 16), none⟩,
    ⟨(some 8), .assign (.tmp 24), none⟩]) c_sheafref12_column_11)
@[go_sem] theorem c_sheafref12_column_12_at (rd : Option Nat) (K : Post3) (t : Fr) (m : Mem) : wpM E 61 63 rd c_sheafref12_column_12 K t m = wpM E 61 63 rd (.seq (.ops [⟨(some 9), .move (.tmp 2), none⟩,
    ⟨(some 10), .binOp .geq 3 (.tmp 9) (.const (.int .i64 0)) 3, none⟩,
    ⟨(some 11), .move (.tmp 10), none⟩,
    ⟨(some 12), .move (.tmp 2), (some (some 11, true))⟩,
    ⟨(some 13), .move (.tmp 0), (some (some 11, true))⟩,
    ⟨(some 14), .call ⟨.builtin .len, #[(.tmp 13)], #[22]⟩, (some (some 11, true))⟩,
    ⟨(some 15), .binOp .lss 3 (.tmp 12) (.tmp 14) 3, (some (some 11, true))⟩,
    ⟨(some 16), .pick (.tmp 11) (.tmp 15) (.const (.bool false)), none⟩,
    ⟨(some 17), .move (.tmp 2), none⟩,
    ⟨(some 18), .binOp .geq 3 (.tmp 17) (.const (.int .i64 0)) 3, none⟩,
    ⟨(some 19), .move (.tmp 18), none⟩,
    ⟨(some 20), .move (.tmp 2), (some (some 19, true))⟩,
    ⟨(some 21), .move (.tmp 1), (some (some 19, true))⟩,
    ⟨(some 22), .call ⟨.builtin .len, #[(.tmp 21)], #[22]⟩, (some (some 19, true))⟩,
    ⟨(some 23), .binOp .lss 3 (.tmp 20) (.tmp 22) 3, (some (some 19, true))⟩,
    ⟨(some 24), .pick (.tmp 19) (.tmp 23) (.const (.bool false)), none⟩,
    ⟨(some 7), .assign (.tmp 16), none⟩,
    ⟨(some 8), .assign (.tmp 24), none⟩]) c_sheafref12_column_11) K t m := rfl

def c_sheafref12_column_13 : MC := (.seq (.ops [⟨(some 6), .assign (.const (.int .i64 0)), none⟩]) c_sheafref12_column_12)
@[go_sem] theorem c_sheafref12_column_13_at (rd : Option Nat) (K : Post3) (t : Fr) (m : Mem) : wpM E 61 63 rd c_sheafref12_column_13 K t m = wpM E 61 63 rd (.seq (.ops [⟨(some 6), .assign (.const (.int .i64 0)), none⟩]) c_sheafref12_column_12) K t m := rfl

@[go_sem] theorem some61 : (E.fn 61).isSome = true := by kernel_rfl
set_option maxRecDepth 100000 in
theorem fn_sheafref12_column : FnIs E 61 63 [.tmp 6] c_sheafref12_column_13 := ⟨by kernel_rfl, by kernel_rfl⟩

/-! sheaf/sheafref16.sign -/
abbrev F_sheafref16_sign : FuncId := 69
def c_sheafref16_sign_0 : MC := (.seq (.ops [⟨(some 3), .load 27 (.tmp 1), none⟩,
    ⟨(some 4), .build 27 #[], none⟩,
    ⟨(some 5), .call ⟨.value (.func 70), #[(.tmp 3), (.tmp 4)], #[27, 27]⟩, none⟩,
    ⟨(some 2), .assign (.tmp 5), none⟩]) .ret)
@[go_sem] theorem c_sheafref16_sign_0_at (rd : Option Nat) (K : Post3) (t : Fr) (m : Mem) : wpM E 69 6 rd c_sheafref16_sign_0 K t m = wpM E 69 6 rd (.seq (.ops [⟨(some 3), .load 27 (.tmp 1), none⟩,
    ⟨(some 4), .build 27 #[], none⟩,
    ⟨(some 5), .call ⟨.value (.func 70), #[(.tmp 3), (.tmp 4)], #[27, 27]⟩, none⟩,
    ⟨(some 2), .assign (.tmp 5), none⟩]) .ret) K t m := rfl

def c_sheafref16_sign_1 : MC := (.seq (.ops [⟨(some 1), .box 27 (.tmp 0), none⟩,
    ⟨(some 2), .assign (.const (.int .i64 0)), none⟩]) c_sheafref16_sign_0)
@[go_sem] theorem c_sheafref16_sign_1_at (rd : Option Nat) (K : Post3) (t : Fr) (m : Mem) : wpM E 69 6 rd c_sheafref16_sign_1 K t m = wpM E 69 6 rd (.seq (.ops [⟨(some 1), .box 27 (.tmp 0), none⟩,
    ⟨(some 2), .assign (.const (.int .i64 0)), none⟩]) c_sheafref16_sign_0) K t m := rfl

@[go_sem] theorem some69 : (E.fn 69).isSome = true := by kernel_rfl
set_option maxRecDepth 100000 in
theorem fn_sheafref16_sign : FnIs E 69 6 [.tmp 2] c_sheafref16_sign_1 := ⟨by kernel_rfl, by kernel_rfl⟩

/-! sheaf/sheafref1.Cmp -/
abbrev F_sheafref1_Cmp : FuncId := 70
def c_sheafref1_Cmp_0 : MC := (.seq (.ops [⟨(some 4), .assign (.const (.int .i64 (-1))), none⟩]) .ret)
@[go_sem] theorem c_sheafref1_Cmp_0_at (rd : Option Nat) (K : Post3) (t : Fr) (m : Mem) : wpM E 70 29 rd c_sheafref1_Cmp_0 K t m = wpM E 70 29 rd (.seq (.ops [⟨(some 4), .assign (.const (.int .i64 (-1))), none⟩]) .ret) K t m := rfl

def c_sheafref1_Cmp_1 : MC := (.seq (.ops [⟨(some 4), .assign (.const (.int .i64 0)), none⟩]) .ret)
@[go_sem] theorem c_sheafref1_Cmp_1_at (rd : Option Nat) (K : Post3) (t : Fr) (m : Mem) : wpM E 70 29 rd c_sheafref1_Cmp_1 K t m = wpM E 70 29 rd (.seq (.ops [⟨(some 4), .assign (.const (.int .i64 0)), none⟩]) .ret) K t m := rfl

def c_sheafref1_Cmp_2 : MC := (.cond (.tmp 25) c_sheafref1_Cmp_1 .skip)
@[go_sem] theorem c_sheafref1_Cmp_2_at (rd : Option Nat) (K : Post3) (t : Fr) (m : Mem) : wpM E 70 29 rd c_sheafref1_Cmp_2 K t m = wpM E 70 29 rd (.cond (.tmp 25) c_sheafref1_Cmp_1 .skip) K t m := rfl

def c_sheafref1_Cmp_3 : MC := (.seq (.ops [⟨(some 26), .load 27 (.tmp 2), none⟩,
    ⟨(some 27), .load 27 (.tmp 3), none⟩,
    ⟨(some 28), .binOp .eql 27 (.tmp 26) (.tmp 27) 27, none⟩,
    ⟨(some 25), .assign (.tmp 28), none⟩]) c_sheafref1_Cmp_2)
@[go_sem] theorem c_sheafref1_Cmp_3_at (rd : Option Nat) (K : Post3) (t : Fr) (m : Mem) : wpM E 70 29 rd c_sheafref1_Cmp_3 K t m = wpM E 70 29 rd (.seq (.ops [⟨(some 26), .load 27 (.tmp 2), none⟩,
    ⟨(some 27), .load 27 (.tmp 3), none⟩,
    ⟨(some 28), .binOp .eql 27 (.tmp 26) (.tmp 27) 27, none⟩,
    ⟨(some 25), .assign (.tmp 28), none⟩]) c_sheafref1_Cmp_2) K t m := rfl

def c_sheafref1_Cmp_4 : MC := (.cond (.tmp 5) c_sheafref1_Cmp_0 c_sheafref1_Cmp_3)
@[go_sem] theorem c_sheafref1_Cmp_4_at (rd : Option Nat) (K : Post3) (t : Fr) (m : Mem) : wpM E 70 29 rd c_sheafref1_Cmp_4 K t m = wpM E 70 29 rd (.cond (.tmp 5) c_sheafref1_Cmp_0 c_sheafref1_Cmp_3) K t m := rfl

def c_sheafref1_Cmp_5 : MC := (.seq (.ops [⟨(some 6), .fieldAddr 27 (.tmp 2) 0, none⟩,
    ⟨(some 7), .load 2 (.tmp 6), none⟩,
    ⟨(some 8), .fieldAddr 27 (.tmp 3) 0, none⟩,
    ⟨(some 9), .load 2 (.tmp 8), none⟩,
    ⟨(some 10), .binOp .lss 2 (.tmp 7) (.tmp 9) 2, none⟩,
    ⟨(some 11), .move (.tmp 10), none⟩,
    ⟨(some 12), .fieldAddr 27 (.tmp 2) 0, (some (some 11, false))⟩,
    ⟨(some 13), .load 2 (.tmp 12), (some (some 11, false))⟩,
    ⟨(some 14), .fieldAddr 27 (.tmp 3) 0, (some (some 11, false))⟩,
    ⟨(some 15), .load 2 (.tmp 14), (some (some 11, false))⟩,
    ⟨(some 16), .binOp .eql 2 (.tmp 13) (.tmp 15) 2, (some (some 11, false))⟩,
    ⟨(some 17), .move (.tmp 16), (some (some 11, false))⟩,
    ⟨(some 18), .fieldAddr 27 (.tmp 2) 1, (some (some 17, true))⟩,
    ⟨(some 19), .load 25 (.tmp 18), (some (some 17, true))⟩,
    ⟨(some 20), .fieldAddr 27 (.tmp 3) 1, (some (some 17, true))⟩,
    ⟨(some 21), .load 25 (.tmp 20), (some (some 17, true))⟩,
    ⟨(some 22), .binOp .lss 25 (.tmp 19) (.tmp 21) 25, (some (some 17, true))⟩,
    ⟨(some 23), .pick (.tmp 17) (.tmp 22) (.const (.bool false)), (some (some 11, false))⟩,
    ⟨(some 24), .pick (.tmp 11) (.const (.bool true)) (.tmp 23), none⟩,
    ⟨(some 5), .assign (.tmp 24), none⟩]) c_sheafref1_Cmp_4)
@[go_sem] theorem c_sheafref1_Cmp_5_at (rd : Option Nat) (K : Post3) (t : Fr) (m : Mem) : wpM E 70 29 rd c_sheafref1_Cmp_5 K t m = wpM E 70 29 rd (.seq (.ops [⟨(some 6), .fieldAddr 27 (.tmp 2) 0, none⟩,
    ⟨(some 7), .load 2 (.tmp 6), none⟩,
    ⟨(some 8), .fieldAddr 27 (.tmp 3) 0, none⟩,
    ⟨(some 9), .load 2 (.tmp 8), none⟩,
    ⟨(some 10), .binOp .lss 2 (.tmp 7) (.tmp 9) 2, none⟩,
    ⟨(some 11), .move (.tmp 10), none⟩,
    ⟨(some 12), .fieldAddr 27 (.tmp 2) 0, (some (some 11, false))⟩,
    ⟨(some 13), .load 2 (.tmp 12), (some (some 11, false))⟩,
    ⟨(some 14), .fieldAddr 27 (.tmp 3) 0, (some (some 11, false))⟩,
    ⟨(some 15), .load 2 (.tmp 14), (some (some 11, false))⟩,
    ⟨(some 16), .binOp .eql 2 (.tmp 13) (.tmp 15) 2, (some (some 11, false))⟩,
    ⟨(some 17), .move (.tmp 16), (some (some 11, false))⟩,
    ⟨(some 18), .fieldAddr 27 (.tmp 2) 1, (some (some 17, true))⟩,
    ⟨(some 19), .load 25 (.tmp 18), (some (some 17, true))⟩,
    ⟨(some 20), .fieldAddr 27 (.tmp 3) 1, (some (some 17, true))⟩,
    ⟨(some 21), .load 25 (.tmp 20), (some (some 17, true))⟩,
    ⟨(some 22), .binOp .lss 25 (.tmp 19) (.tmp 21) 25, (some (some 17, true))⟩,
    ⟨(some 23), .pick (.tmp 17) (.tmp 22) (.const (.bool false)), (some (some 11, false))⟩,
    ⟨(some 24), .pick (.tmp 11) (.const (.bool true)) (.tmp 23), none⟩,
    ⟨(some 5), .assign (.tmp 24), none⟩]) c_sheafref1_Cmp_4) K t m := rfl

def c_sheafref1_Cmp_6 : MC := (.block 0 c_sheafref1_Cmp_5)
@[go_sem] theorem c_sheafref1_Cmp_6_at (rd : Option Nat) (K : Post3) (t : Fr) (m : Mem) : wpM E 70 29 rd c_sheafref1_Cmp_6 K t m = wpM E 70 29 rd (.block 0 c_sheafref1_Cmp_5) K t m := rfl

def c_sheafref1_Cmp_7 : MC := (.seq (.ops [⟨(some 4), .assign (.const (.int .i64 1)), none⟩]) .ret)
@[go_sem] theorem c_sheafref1_Cmp_7_at (rd : Option Nat) (K : Post3) (t : Fr) (m : Mem) : wpM E 70 29 rd c_sheafref1_Cmp_7 K t m = wpM E 70 29 rd (.seq (.ops [⟨(some 4), .assign (.const (.int .i64 1)), none⟩]) .ret) K t m := rfl

def c_sheafref1_Cmp_8 : MC := (.seq c_sheafref1_Cmp_6 c_sheafref1_Cmp_7)
@[go_sem] theorem c_sheafref1_Cmp_8_at (rd : Option Nat) (K : Post3) (t : Fr) (m : Mem) : wpM E 70 29 rd c_sheafref1_Cmp_8 K t m = wpM E 70 29 rd (.seq c_sheafref1_Cmp_6 c_sheafref1_Cmp_7) K t m := rfl

def c_sheafref1_Cmp_9 : MC := (.seq (.ops [⟨(some 2), .box 27 (.tmp 0), none⟩,
    ⟨(some 3), .box 27 (.tmp 1), none⟩,
    ⟨(some 4), .assign (.const (.int .i64 0)), none⟩]) c_sheafref1_Cmp_8)
@[go_sem] theorem c_sheafref1_Cmp_9_at (rd : Option Nat) (K : Post3) (t : Fr) (m : Mem) : wpM E 70 29 rd c_sheafref1_Cmp_9 K t m = wpM E 70 29 rd (.seq (.ops [⟨(some 2), .box 27 (.tmp 0), none⟩,
    ⟨(some 3), .box 27 (.tmp 1), none⟩,
    ⟨(some 4), .assign (.const (.int .i64 0)), none⟩]) c_sheafref1_Cmp_8) K t m := rfl

@[go_sem] theorem some70 : (E.fn 70).isSome = true := by kernel_rfl
set_option maxRecDepth 100000 in
theorem fn_sheafref1_Cmp : FnIs E 70 29 [.tmp 4] c_sheafref1_Cmp_9 := ⟨by kernel_rfl, by kernel_rfl⟩

end
end Go.Proofs.Ytjmppooebppecaa.W
