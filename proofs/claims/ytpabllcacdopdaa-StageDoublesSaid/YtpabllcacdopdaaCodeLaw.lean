/-
  Compact code, printed by a program of mine (wip/dev/AbsPrint.lean).
-/
import Derived.Test.YtpabllcacdopdaaTypes
set_option linter.unusedVariables false
namespace Go.Proofs.Ytpabllcacdopdaa.W
open Go.Abs
noncomputable section

/-! sheaf/sheaflaw17.StageDoubles -/
abbrev F_sheaflaw17_StageDoubles : FuncId := 4
def c_sheaflaw17_StageDoubles_0 : MC := (.cond (.tmp 23) .skip (.exit 0))
@[go_sem] theorem c_sheaflaw17_StageDoubles_0_at (rd : Option Nat) (K : Post3) (t : Fr) (m : Mem) : wpM E 4 109 rd c_sheaflaw17_StageDoubles_0 K t m = wpM E 4 109 rd (.cond (.tmp 23) .skip (.exit 0)) K t m := rfl

def c_sheaflaw17_StageDoubles_1 : MC := (.seq (.ops [⟨(some 16), .move (.tmp 8), none⟩,
    ⟨(some 17), .move (.tmp 0), none⟩,
    ⟨(some 18), .call ⟨.builtin .len, #[(.tmp 17)], #[22]⟩, none⟩,
    ⟨(some 19), .binOp .lss 3 (.tmp 16) (.tmp 18) 3, none⟩,
    ⟨(some 20), .move (.tmp 19), none⟩,
    ⟨(some 21), .move (.tmp 8), (some (some 20, true))⟩,
    ⟨(some 22), .binOp .lss 3 (.tmp 21) (.const (.int .i64 25)) 3, (some (some 20, true))⟩,
    ⟨(some 23), .pick (.tmp 20) (.tmp 22) (.const (.bool false)), none⟩]) c_sheaflaw17_StageDoubles_0)
@[go_sem] theorem c_sheaflaw17_StageDoubles_1_at (rd : Option Nat) (K : Post3) (t : Fr) (m : Mem) : wpM E 4 109 rd c_sheaflaw17_StageDoubles_1 K t m = wpM E 4 109 rd (.seq (.ops [⟨(some 16), .move (.tmp 8), none⟩,
    ⟨(some 17), .move (.tmp 0), none⟩,
    ⟨(some 18), .call ⟨.builtin .len, #[(.tmp 17)], #[22]⟩, none⟩,
    ⟨(some 19), .binOp .lss 3 (.tmp 16) (.tmp 18) 3, none⟩,
    ⟨(some 20), .move (.tmp 19), none⟩,
    ⟨(some 21), .move (.tmp 8), (some (some 20, true))⟩,
    ⟨(some 22), .binOp .lss 3 (.tmp 21) (.const (.int .i64 25)) 3, (some (some 20, true))⟩,
    ⟨(some 23), .pick (.tmp 20) (.tmp 22) (.const (.bool false)), none⟩]) c_sheaflaw17_StageDoubles_0) K t m := rfl

def c_sheaflaw17_StageDoubles_2 : MC := (.seq (.ops [⟨(some 33), .load 23 (.tmp 5), none⟩,
    ⟨(some 34), .move (.tmp 7), none⟩,
    ⟨(some 35), .binOp .add 3 (.tmp 34) (.const (.int .i64 1)) 3, none⟩,
    ⟨(some 36), .move (.tmp 8), none⟩,
    ⟨(some 37), .buildSlice 22 2 #[(0, (.tmp 35)), (1, (.tmp 36))], none⟩,
    ⟨(some 38), .buildSlice 23 1 #[(0, (.tmp 37))], none⟩,
    ⟨(some 39), .call ⟨.builtin .append, #[(.tmp 33), (.tmp 38)], #[23, 23]⟩, none⟩,
    ⟨none, .store 23 (.tmp 5) (.tmp 39), none⟩]) (.ops [⟨(some 40), .load 37 (.tmp 6), none⟩,
    ⟨(some 41), .move (.tmp 7), none⟩,
    ⟨(some 42), .binOp .add 3 (.tmp 41) (.const (.int .i64 1)) 3, none⟩,
    ⟨(some 43), .lookup 37 (.tmp 40) (.tmp 42) false, none⟩,
    ⟨(some 44), .binOp .add 3 (.tmp 43) (.const (.int .i64 1)) 3, none⟩,
    ⟨none, .mapUpdate 37 (.tmp 40) (.tmp 42) (.tmp 44), none⟩]))
@[go_sem] theorem c_sheaflaw17_StageDoubles_2_at (rd : Option Nat) (K : Post3) (t : Fr) (m : Mem) : wpM E 4 109 rd c_sheaflaw17_StageDoubles_2 K t m = wpM E 4 109 rd (.seq (.ops [⟨(some 33), .load 23 (.tmp 5), none⟩,
    ⟨(some 34), .move (.tmp 7), none⟩,
    ⟨(some 35), .binOp .add 3 (.tmp 34) (.const (.int .i64 1)) 3, none⟩,
    ⟨(some 36), .move (.tmp 8), none⟩,
    ⟨(some 37), .buildSlice 22 2 #[(0, (.tmp 35)), (1, (.tmp 36))], none⟩,
    ⟨(some 38), .buildSlice 23 1 #[(0, (.tmp 37))], none⟩,
    ⟨(some 39), .call ⟨.builtin .append, #[(.tmp 33), (.tmp 38)], #[23, 23]⟩, none⟩,
    ⟨none, .store 23 (.tmp 5) (.tmp 39), none⟩]) (.ops [⟨(some 40), .load 37 (.tmp 6), none⟩,
    ⟨(some 41), .move (.tmp 7), none⟩,
    ⟨(some 42), .binOp .add 3 (.tmp 41) (.const (.int .i64 1)) 3, none⟩,
    ⟨(some 43), .lookup 37 (.tmp 40) (.tmp 42) false, none⟩,
    ⟨(some 44), .binOp .add 3 (.tmp 43) (.const (.int .i64 1)) 3, none⟩,
    ⟨none, .mapUpdate 37 (.tmp 40) (.tmp 42) (.tmp 44), none⟩])) K t m := rfl

def c_sheaflaw17_StageDoubles_3 : MC := (.seq (.ops [⟨(some 26), .move (.tmp 7), none⟩,
    ⟨(some 27), .move (.tmp 0), none⟩,
    ⟨(some 28), .move (.tmp 8), none⟩,
    ⟨(some 29), .indexAddr 22 (.tmp 27) (.tmp 28), none⟩,
    ⟨(some 30), .load 3 (.tmp 29), none⟩,
    ⟨(some 31), .call ⟨.value (.func 15), #[(.tmp 30), (.const (.int .i64 0)), (.const (.int .i64 2))], #[3, 3, 3]⟩, none⟩,
    ⟨(some 32), .binOp .add 3 (.tmp 26) (.tmp 31) 3, none⟩,
    ⟨(some 7), .assign (.tmp 32), none⟩]) c_sheaflaw17_StageDoubles_2)
@[go_sem] theorem c_sheaflaw17_StageDoubles_3_at (rd : Option Nat) (K : Post3) (t : Fr) (m : Mem) : wpM E 4 109 rd c_sheaflaw17_StageDoubles_3 K t m = wpM E 4 109 rd (.seq (.ops [⟨(some 26), .move (.tmp 7), none⟩,
    ⟨(some 27), .move (.tmp 0), none⟩,
    ⟨(some 28), .move (.tmp 8), none⟩,
    ⟨(some 29), .indexAddr 22 (.tmp 27) (.tmp 28), none⟩,
    ⟨(some 30), .load 3 (.tmp 29), none⟩,
    ⟨(some 31), .call ⟨.value (.func 15), #[(.tmp 30), (.const (.int .i64 0)), (.const (.int .i64 2))], #[3, 3, 3]⟩, none⟩,
    ⟨(some 32), .binOp .add 3 (.tmp 26) (.tmp 31) 3, none⟩,
    ⟨(some 7), .assign (.tmp 32), none⟩]) c_sheaflaw17_StageDoubles_2) K t m := rfl

def c_sheaflaw17_StageDoubles_4 : MC := (.block 1 c_sheaflaw17_StageDoubles_3)
@[go_sem] theorem c_sheaflaw17_StageDoubles_4_at (rd : Option Nat) (K : Post3) (t : Fr) (m : Mem) : wpM E 4 109 rd c_sheaflaw17_StageDoubles_4 K t m = wpM E 4 109 rd (.block 1 c_sheaflaw17_StageDoubles_3) K t m := rfl

def c_sheaflaw17_StageDoubles_5 : MC := (.seq c_sheaflaw17_StageDoubles_4 (.ops [⟨(some 24), .move (.tmp 8), none⟩,
    ⟨(some 25), .binOp .add 3 (.tmp 24) (.const (.int .i64 1)) 3, none⟩,
    ⟨(some 8), .assign (.tmp 25), none⟩]))
@[go_sem] theorem c_sheaflaw17_StageDoubles_5_at (rd : Option Nat) (K : Post3) (t : Fr) (m : Mem) : wpM E 4 109 rd c_sheaflaw17_StageDoubles_5 K t m = wpM E 4 109 rd (.seq c_sheaflaw17_StageDoubles_4 (.ops [⟨(some 24), .move (.tmp 8), none⟩,
    ⟨(some 25), .binOp .add 3 (.tmp 24) (.const (.int .i64 1)) 3, none⟩,
    ⟨(some 8), .assign (.tmp 25), none⟩])) K t m := rfl

def c_sheaflaw17_StageDoubles_6 : MC := (.seq c_sheaflaw17_StageDoubles_1 c_sheaflaw17_StageDoubles_5)
@[go_sem] theorem c_sheaflaw17_StageDoubles_6_at (rd : Option Nat) (K : Post3) (t : Fr) (m : Mem) : wpM E 4 109 rd c_sheaflaw17_StageDoubles_6 K t m = wpM E 4 109 rd (.seq c_sheaflaw17_StageDoubles_1 c_sheaflaw17_StageDoubles_5) K t m := rfl

def c_sheaflaw17_StageDoubles_7 : MC := (.loop c_sheaflaw17_StageDoubles_6)
theorem c_sheaflaw17_StageDoubles_7_at (rd : Option Nat) (K : Post3) (t : Fr) (m : Mem) : wpM E 4 109 rd c_sheaflaw17_StageDoubles_7 K t m = wpM E 4 109 rd (.loop c_sheaflaw17_StageDoubles_6) K t m := rfl

def c_sheaflaw17_StageDoubles_8 : MC := (.block 0 c_sheaflaw17_StageDoubles_7)
theorem c_sheaflaw17_StageDoubles_8_at (rd : Option Nat) (K : Post3) (t : Fr) (m : Mem) : wpM E 4 109 rd c_sheaflaw17_StageDoubles_8 K t m = wpM E 4 109 rd (.block 0 c_sheaflaw17_StageDoubles_7) K t m := rfl

def c_sheaflaw17_StageDoubles_9 : MC := (.seq (.ops [⟨(some 8), .assign (.const (.int .i64 0)), none⟩]) c_sheaflaw17_StageDoubles_8)
@[go_sem] theorem c_sheaflaw17_StageDoubles_9_at (rd : Option Nat) (K : Post3) (t : Fr) (m : Mem) : wpM E 4 109 rd c_sheaflaw17_StageDoubles_9 K t m = wpM E 4 109 rd (.seq (.ops [⟨(some 8), .assign (.const (.int .i64 0)), none⟩]) c_sheaflaw17_StageDoubles_8) K t m := rfl

def c_sheaflaw17_StageDoubles_10 : MC := (.seq (.ops [⟨none, .store 4 (.tmp 4) (.const (.bool false)), none⟩]) .ret)
@[go_sem] theorem c_sheaflaw17_StageDoubles_10_at (rd : Option Nat) (K : Post3) (t : Fr) (m : Mem) : wpM E 4 109 rd c_sheaflaw17_StageDoubles_10 K t m = wpM E 4 109 rd (.seq (.ops [⟨none, .store 4 (.tmp 4) (.const (.bool false)), none⟩]) .ret) K t m := rfl

def c_sheaflaw17_StageDoubles_11 : MC := (.cond (.tmp 50) c_sheaflaw17_StageDoubles_10 .skip)
@[go_sem] theorem c_sheaflaw17_StageDoubles_11_at (rd : Option Nat) (K : Post3) (t : Fr) (m : Mem) : wpM E 4 109 rd c_sheaflaw17_StageDoubles_11 K t m = wpM E 4 109 rd (.cond (.tmp 50) c_sheaflaw17_StageDoubles_10 .skip) K t m := rfl

def c_sheaflaw17_StageDoubles_12 : MC := (.seq (.ops [⟨(some 49), .move (.tmp 12), none⟩,
    ⟨(some 50), .binOp .eql 27 (.tmp 49) (.const .nilFunc) 27, none⟩]) c_sheaflaw17_StageDoubles_11)
@[go_sem] theorem c_sheaflaw17_StageDoubles_12_at (rd : Option Nat) (K : Post3) (t : Fr) (m : Mem) : wpM E 4 109 rd c_sheaflaw17_StageDoubles_12 K t m = wpM E 4 109 rd (.seq (.ops [⟨(some 49), .move (.tmp 12), none⟩,
    ⟨(some 50), .binOp .eql 27 (.tmp 49) (.const .nilFunc) 27, none⟩]) c_sheaflaw17_StageDoubles_11) K t m := rfl

def c_sheaflaw17_StageDoubles_13 : MC := (.seq (.ops [⟨(some 13), .assign (.tmp 52), none⟩]) (.ops [⟨(some 14), .assign (.tmp 53), none⟩]))
@[go_sem] theorem c_sheaflaw17_StageDoubles_13_at (rd : Option Nat) (K : Post3) (t : Fr) (m : Mem) : wpM E 4 109 rd c_sheaflaw17_StageDoubles_13 K t m = wpM E 4 109 rd (.seq (.ops [⟨(some 13), .assign (.tmp 52), none⟩]) (.ops [⟨(some 14), .assign (.tmp 53), none⟩])) K t m := rfl

def c_sheaflaw17_StageDoubles_14 : MC := (.seq (.ops [⟨none, .store 4 (.tmp 4) (.const (.bool false)), none⟩]) .ret)
@[go_sem] theorem c_sheaflaw17_StageDoubles_14_at (rd : Option Nat) (K : Post3) (t : Fr) (m : Mem) : wpM E 4 109 rd c_sheaflaw17_StageDoubles_14 K t m = wpM E 4 109 rd (.seq (.ops [⟨none, .store 4 (.tmp 4) (.const (.bool false)), none⟩]) .ret) K t m := rfl

def c_sheaflaw17_StageDoubles_15 : MC := (.cond (.tmp 85) c_sheaflaw17_StageDoubles_14 .skip)
@[go_sem] theorem c_sheaflaw17_StageDoubles_15_at (rd : Option Nat) (K : Post3) (t : Fr) (m : Mem) : wpM E 4 109 rd c_sheaflaw17_StageDoubles_15 K t m = wpM E 4 109 rd (.cond (.tmp 85) c_sheaflaw17_StageDoubles_14 .skip) K t m := rfl

def c_sheaflaw17_StageDoubles_16 : MC := (.seq (.ops [⟨(some 54), .load 3 (.tmp 10), none⟩,
    ⟨(some 55), .load 23 (.tmp 5), none⟩,
    ⟨(some 56), .call ⟨.builtin .len, #[(.tmp 55)], #[23]⟩, none⟩,
    ⟨(some 57), .binOp .geq 3 (.tmp 54) (.tmp 56) 3, none⟩,
    ⟨(some 58), .move (.tmp 57), none⟩,
    ⟨(some 59), .move (.tmp 13), (some (some 58, false))⟩,
    ⟨(some 60), .load 23 (.tmp 5), (some (some 58, false))⟩,
    ⟨(some 61), .load 3 (.tmp 10), (some (some 58, false))⟩,
    ⟨(some 62), .indexAddr 23 (.tmp 60) (.tmp 61), (some (some 58, false))⟩,
    ⟨(some 63), .load 22 (.tmp 62), (some (some 58, false))⟩,
    ⟨(some 64), .call ⟨.value (.func 17), #[(.tmp 59), (.tmp 63)], #[22, 22]⟩, (some (some 58, false))⟩,
    ⟨(some 65), .unOp .not 4 (.tmp 64), (some (some 58, false))⟩,
    ⟨(some 66), .pick (.tmp 58) (.const (.bool true)) (.tmp 65), none⟩,
    ⟨(some 67), .move (.tmp 66), none⟩,
    ⟨(some 68), .move (.tmp 14), (some (some 67, false))⟩,
    ⟨(some 69), .binOp .eql 3 (.tmp 68) (.const (.int .i64 2)) 3, (some (some 67, false))⟩,
    ⟨(some 70), .load 37 (.tmp 6), (some (some 67, false))⟩,
    ⟨(some 71), .move (.tmp 13), (some (some 67, false))⟩,
    ⟨(some 72), .indexAddr 22 (.tmp 71) (.const (.int .i64 0)), (some (some 67, false))⟩,
    ⟨(some 73), .load 3 (.tmp 72), (some (some 67, false))⟩,
    ⟨(some 74), .lookup 37 (.tmp 70) (.tmp 73) false, (some (some 67, false))⟩,
    ⟨(some 75), .binOp .gtr 3 (.tmp 74) (.const (.int .i64 1)) 3, (some (some 67, false))⟩,
    ⟨(some 76), .binOp .neq 4 (.tmp 69) (.tmp 75) 4, (some (some 67, false))⟩,
    ⟨(some 77), .pick (.tmp 67) (.const (.bool true)) (.tmp 76), none⟩,
    ⟨(some 78), .move (.tmp 77), none⟩,
    ⟨(some 79), .move (.tmp 14), (some (some 78, false))⟩,
    ⟨(some 80), .binOp .neq 3 (.tmp 79) (.const (.int .i64 0)) 3, (some (some 78, false))⟩,
    ⟨(some 81), .move (.tmp 80), (some (some 78, false))⟩,
    ⟨(some 82), .move (.tmp 14), (some (some 81, true))⟩,
    ⟨(some 83), .binOp .neq 3 (.tmp 82) (.const (.int .i64 2)) 3, (some (some 81, true))⟩,
    ⟨(some 84), .pick (.tmp 81) (.tmp 83) (.const (.bool false)), (some (some 78, false))⟩,
    ⟨(some 85), .pick (.tmp 78) (.const (.bool true)) (.tmp 84), none⟩]) c_sheaflaw17_StageDoubles_15)
@[go_sem] theorem c_sheaflaw17_StageDoubles_16_at (rd : Option Nat) (K : Post3) (t : Fr) (m : Mem) : wpM E 4 109 rd c_sheaflaw17_StageDoubles_16 K t m = wpM E 4 109 rd (.seq (.ops [⟨(some 54), .load 3 (.tmp 10), none⟩,
    ⟨(some 55), .load 23 (.tmp 5), none⟩,
    ⟨(some 56), .call ⟨.builtin .len, #[(.tmp 55)], #[23]⟩, none⟩,
    ⟨(some 57), .binOp .geq 3 (.tmp 54) (.tmp 56) 3, none⟩,
    ⟨(some 58), .move (.tmp 57), none⟩,
    ⟨(some 59), .move (.tmp 13), (some (some 58, false))⟩,
    ⟨(some 60), .load 23 (.tmp 5), (some (some 58, false))⟩,
    ⟨(some 61), .load 3 (.tmp 10), (some (some 58, false))⟩,
    ⟨(some 62), .indexAddr 23 (.tmp 60) (.tmp 61), (some (some 58, false))⟩,
    ⟨(some 63), .load 22 (.tmp 62), (some (some 58, false))⟩,
    ⟨(some 64), .call ⟨.value (.func 17), #[(.tmp 59), (.tmp 63)], #[22, 22]⟩, (some (some 58, false))⟩,
    ⟨(some 65), .unOp .not 4 (.tmp 64), (some (some 58, false))⟩,
    ⟨(some 66), .pick (.tmp 58) (.const (.bool true)) (.tmp 65), none⟩,
    ⟨(some 67), .move (.tmp 66), none⟩,
    ⟨(some 68), .move (.tmp 14), (some (some 67, false))⟩,
    ⟨(some 69), .binOp .eql 3 (.tmp 68) (.const (.int .i64 2)) 3, (some (some 67, false))⟩,
    ⟨(some 70), .load 37 (.tmp 6), (some (some 67, false))⟩,
    ⟨(some 71), .move (.tmp 13), (some (some 67, false))⟩,
    ⟨(some 72), .indexAddr 22 (.tmp 71) (.const (.int .i64 0)), (some (some 67, false))⟩,
    ⟨(some 73), .load 3 (.tmp 72), (some (some 67, false))⟩,
    ⟨(some 74), .lookup 37 (.tmp 70) (.tmp 73) false, (some (some 67, false))⟩,
    ⟨(some 75), .binOp .gtr 3 (.tmp 74) (.const (.int .i64 1)) 3, (some (some 67, false))⟩,
    ⟨(some 76), .binOp .neq 4 (.tmp 69) (.tmp 75) 4, (some (some 67, false))⟩,
    ⟨(some 77), .pick (.tmp 67) (.const (.bool true)) (.tmp 76), none⟩,
    ⟨(some 78), .move (.tmp 77), none⟩,
    ⟨(some 79), .move (.tmp 14), (some (some 78, false))⟩,
    ⟨(some 80), .binOp .neq 3 (.tmp 79) (.const (.int .i64 0)) 3, (some (some 78, false))⟩,
    ⟨(some 81), .move (.tmp 80), (some (some 78, false))⟩,
    ⟨(some 82), .move (.tmp 14), (some (some 81, true))⟩,
    ⟨(some 83), .binOp .neq 3 (.tmp 82) (.const (.int .i64 2)) 3, (some (some 81, true))⟩,
    ⟨(some 84), .pick (.tmp 81) (.tmp 83) (.const (.bool false)), (some (some 78, false))⟩,
    ⟨(some 85), .pick (.tmp 78) (.const (.bool true)) (.tmp 84), none⟩]) c_sheaflaw17_StageDoubles_15) K t m := rfl

def c_sheaflaw17_StageDoubles_17 : MC := (.cond (.tmp 90) (.exit 2) .skip)
@[go_sem] theorem c_sheaflaw17_StageDoubles_17_at (rd : Option Nat) (K : Post3) (t : Fr) (m : Mem) : wpM E 4 109 rd c_sheaflaw17_StageDoubles_17 K t m = wpM E 4 109 rd (.cond (.tmp 90) (.exit 2) .skip) K t m := rfl

def c_sheaflaw17_StageDoubles_18 : MC := (.seq (.ops [⟨(some 88), .load 3 (.tmp 10), none⟩,
    ⟨(some 89), .load 3 (.tmp 11), none⟩,
    ⟨(some 90), .binOp .eql 3 (.tmp 88) (.tmp 89) 3, none⟩]) c_sheaflaw17_StageDoubles_17)
@[go_sem] theorem c_sheaflaw17_StageDoubles_18_at (rd : Option Nat) (K : Post3) (t : Fr) (m : Mem) : wpM E 4 109 rd c_sheaflaw17_StageDoubles_18 K t m = wpM E 4 109 rd (.seq (.ops [⟨(some 88), .load 3 (.tmp 10), none⟩,
    ⟨(some 89), .load 3 (.tmp 11), none⟩,
    ⟨(some 90), .binOp .eql 3 (.tmp 88) (.tmp 89) 3, none⟩]) c_sheaflaw17_StageDoubles_17) K t m := rfl

def c_sheaflaw17_StageDoubles_19 : MC := (.seq (.ops [⟨(some 86), .load 3 (.tmp 10), none⟩,
    ⟨(some 87), .binOp .add 3 (.tmp 86) (.const (.int .i64 1)) 3, none⟩,
    ⟨none, .store 3 (.tmp 10) (.tmp 87), none⟩]) c_sheaflaw17_StageDoubles_18)
@[go_sem] theorem c_sheaflaw17_StageDoubles_19_at (rd : Option Nat) (K : Post3) (t : Fr) (m : Mem) : wpM E 4 109 rd c_sheaflaw17_StageDoubles_19 K t m = wpM E 4 109 rd (.seq (.ops [⟨(some 86), .load 3 (.tmp 10), none⟩,
    ⟨(some 87), .binOp .add 3 (.tmp 86) (.const (.int .i64 1)) 3, none⟩,
    ⟨none, .store 3 (.tmp 10) (.tmp 87), none⟩]) c_sheaflaw17_StageDoubles_18) K t m := rfl

def c_sheaflaw17_StageDoubles_20 : MC := (.seq c_sheaflaw17_StageDoubles_16 c_sheaflaw17_StageDoubles_19)
@[go_sem] theorem c_sheaflaw17_StageDoubles_20_at (rd : Option Nat) (K : Post3) (t : Fr) (m : Mem) : wpM E 4 109 rd c_sheaflaw17_StageDoubles_20 K t m = wpM E 4 109 rd (.seq c_sheaflaw17_StageDoubles_16 c_sheaflaw17_StageDoubles_19) K t m := rfl

def c_sheaflaw17_StageDoubles_21 : MC := (.block 3 c_sheaflaw17_StageDoubles_20)
@[go_sem] theorem c_sheaflaw17_StageDoubles_21_at (rd : Option Nat) (K : Post3) (t : Fr) (m : Mem) : wpM E 4 109 rd c_sheaflaw17_StageDoubles_21 K t m = wpM E 4 109 rd (.block 3 c_sheaflaw17_StageDoubles_20) K t m := rfl

theorem asg_sheaflaw17_StageDoubles_0 : compile E 4 109 (asgAt E 4 0) = some c_sheaflaw17_StageDoubles_13 := by kernel_rfl

theorem body_sheaflaw17_StageDoubles_0 : compile E 4 109 (bodyAt E 4 0) = some c_sheaflaw17_StageDoubles_21 := by kernel_rfl

def c_sheaflaw17_StageDoubles_22 : MC := (.range (.tmp 51) #[52, 53] (asgAt E 4 0) (bodyAt E 4 0))
theorem c_sheaflaw17_StageDoubles_22_at (rd : Option Nat) (K : Post3) (t : Fr) (m : Mem) : wpM E 4 109 rd c_sheaflaw17_StageDoubles_22 K t m = wpM E 4 109 rd (.range (.tmp 51) #[52, 53] (asgAt E 4 0) (bodyAt E 4 0)) K t m := rfl

def c_sheaflaw17_StageDoubles_23 : MC := (.block 2 c_sheaflaw17_StageDoubles_22)
@[go_sem] theorem c_sheaflaw17_StageDoubles_23_at (rd : Option Nat) (K : Post3) (t : Fr) (m : Mem) : wpM E 4 109 rd c_sheaflaw17_StageDoubles_23 K t m = wpM E 4 109 rd (.block 2 c_sheaflaw17_StageDoubles_22) K t m := rfl

def c_sheaflaw17_StageDoubles_24 : MC := (.seq (.ops [⟨(some 51), .move (.tmp 12), none⟩]) c_sheaflaw17_StageDoubles_23)
@[go_sem] theorem c_sheaflaw17_StageDoubles_24_at (rd : Option Nat) (K : Post3) (t : Fr) (m : Mem) : wpM E 4 109 rd c_sheaflaw17_StageDoubles_24 K t m = wpM E 4 109 rd (.seq (.ops [⟨(some 51), .move (.tmp 12), none⟩]) c_sheaflaw17_StageDoubles_23) K t m := rfl

def c_sheaflaw17_StageDoubles_25 : MC := (.seq (.ops [⟨(some 91), .load 3 (.tmp 10), none⟩,
    ⟨(some 92), .load 3 (.tmp 11), none⟩,
    ⟨(some 93), .load 23 (.tmp 5), none⟩,
    ⟨(some 94), .call ⟨.builtin .len, #[(.tmp 93)], #[23]⟩, none⟩,
    ⟨(some 95), .call ⟨.builtin .min, #[(.tmp 92), (.tmp 94)], #[3, 3]⟩, none⟩,
    ⟨(some 96), .binOp .eql 3 (.tmp 91) (.tmp 95) 3, none⟩,
    ⟨(some 97), .move (.tmp 96), none⟩,
    ⟨(some 98), .load 3 (.tmp 9), (some (some 97, true))⟩,
    ⟨(some 99), .load 3 (.tmp 11), (some (some 97, true))⟩,
    ⟨(some 100), .binOp .add 3 (.tmp 99) (.const (.int .i64 1)) 3, (some (some 97, true))⟩,
    ⟨(some 101), .load 23 (.tmp 5), (some (some 97, true))⟩,
    ⟨(some 102), .call ⟨.builtin .len, #[(.tmp 101)], #[23]⟩, (some (some 97, true))⟩,
    ⟨(some 103), .call ⟨.builtin .min, #[(.tmp 100), (.tmp 102)], #[3, 3]⟩, (some (some 97, true))⟩,
    ⟨(some 104), .binOp .leq 3 (.tmp 98) (.tmp 103) 3, (some (some 97, true))⟩,
    ⟨(some 105), .pick (.tmp 97) (.tmp 104) (.const (.bool false)), none⟩,
    ⟨(some 106), .move (.tmp 105), none⟩,
    ⟨(some 107), .call ⟨.value (.func 3), #[], #[]⟩, (some (some 106, true))⟩,
    ⟨(some 108), .pick (.tmp 106) (.tmp 107) (.const (.bool false)), none⟩,
    ⟨none, .store 4 (.tmp 4) (.tmp 108), none⟩]) .ret)
@[go_sem] theorem c_sheaflaw17_StageDoubles_25_at (rd : Option Nat) (K : Post3) (t : Fr) (m : Mem) : wpM E 4 109 rd c_sheaflaw17_StageDoubles_25 K t m = wpM E 4 109 rd (.seq (.ops [⟨(some 91), .load 3 (.tmp 10), none⟩,
    ⟨(some 92), .load 3 (.tmp 11), none⟩,
    ⟨(some 93), .load 23 (.tmp 5), none⟩,
    ⟨(some 94), .call ⟨.builtin .len, #[(.tmp 93)], #[23]⟩, none⟩,
    ⟨(some 95), .call ⟨.builtin .min, #[(.tmp 92), (.tmp 94)], #[3, 3]⟩, none⟩,
    ⟨(some 96), .binOp .eql 3 (.tmp 91) (.tmp 95) 3, none⟩,
    ⟨(some 97), .move (.tmp 96), none⟩,
    ⟨(some 98), .load 3 (.tmp 9), (some (some 97, true))⟩,
    ⟨(some 99), .load 3 (.tmp 11), (some (some 97, true))⟩,
    ⟨(some 100), .binOp .add 3 (.tmp 99) (.const (.int .i64 1)) 3, (some (some 97, true))⟩,
    ⟨(some 101), .load 23 (.tmp 5), (some (some 97, true))⟩,
    ⟨(some 102), .call ⟨.builtin .len, #[(.tmp 101)], #[23]⟩, (some (some 97, true))⟩,
    ⟨(some 103), .call ⟨.builtin .min, #[(.tmp 100), (.tmp 102)], #[3, 3]⟩, (some (some 97, true))⟩,
    ⟨(some 104), .binOp .leq 3 (.tmp 98) (.tmp 103) 3, (some (some 97, true))⟩,
    ⟨(some 105), .pick (.tmp 97) (.tmp 104) (.const (.bool false)), none⟩,
    ⟨(some 106), .move (.tmp 105), none⟩,
    ⟨(some 107), .call ⟨.value (.func 3), #[], #[]⟩, (some (some 106, true))⟩,
    ⟨(some 108), .pick (.tmp 106) (.tmp 107) (.const (.bool false)), none⟩,
    ⟨none, .store 4 (.tmp 4) (.tmp 108), none⟩]) .ret) K t m := rfl

def c_sheaflaw17_StageDoubles_26 : MC := (.seq c_sheaflaw17_StageDoubles_24 c_sheaflaw17_StageDoubles_25)
@[go_sem] theorem c_sheaflaw17_StageDoubles_26_at (rd : Option Nat) (K : Post3) (t : Fr) (m : Mem) : wpM E 4 109 rd c_sheaflaw17_StageDoubles_26 K t m = wpM E 4 109 rd (.seq c_sheaflaw17_StageDoubles_24 c_sheaflaw17_StageDoubles_25) K t m := rfl

def c_sheaflaw17_StageDoubles_27 : MC := (.seq c_sheaflaw17_StageDoubles_12 c_sheaflaw17_StageDoubles_26)
@[go_sem] theorem c_sheaflaw17_StageDoubles_27_at (rd : Option Nat) (K : Post3) (t : Fr) (m : Mem) : wpM E 4 109 rd c_sheaflaw17_StageDoubles_27 K t m = wpM E 4 109 rd (.seq c_sheaflaw17_StageDoubles_12 c_sheaflaw17_StageDoubles_26) K t m := rfl

def c_sheaflaw17_StageDoubles_28 : MC := (.seq (.ops [⟨(some 47), .makeFunc (.func 16) #[] #[(.tmp 5), (.tmp 9)], none⟩,
    ⟨(some 48), .call ⟨.value (.func 10), #[(.tmp 47)], #[30]⟩, none⟩,
    ⟨(some 12), .assign (.tmp 48), none⟩]) c_sheaflaw17_StageDoubles_27)
@[go_sem] theorem c_sheaflaw17_StageDoubles_28_at (rd : Option Nat) (K : Post3) (t : Fr) (m : Mem) : wpM E 4 109 rd c_sheaflaw17_StageDoubles_28 K t m = wpM E 4 109 rd (.seq (.ops [⟨(some 47), .makeFunc (.func 16) #[] #[(.tmp 5), (.tmp 9)], none⟩,
    ⟨(some 48), .call ⟨.value (.func 10), #[(.tmp 47)], #[30]⟩, none⟩,
    ⟨(some 12), .assign (.tmp 48), none⟩]) c_sheaflaw17_StageDoubles_27) K t m := rfl

def c_sheaflaw17_StageDoubles_29 : MC := (.seq (.ops [⟨(some 45), .move (.tmp 1), none⟩,
    ⟨(some 46), .call ⟨.value (.func 15), #[(.tmp 45), (.const (.int .i64 1)), (.const (.int .i64 30))], #[3, 3, 3]⟩, none⟩,
    ⟨(some 11), .alloc 3, none⟩,
    ⟨none, .store 3 (.tmp 11) (.tmp 46), none⟩]) c_sheaflaw17_StageDoubles_28)
@[go_sem] theorem c_sheaflaw17_StageDoubles_29_at (rd : Option Nat) (K : Post3) (t : Fr) (m : Mem) : wpM E 4 109 rd c_sheaflaw17_StageDoubles_29 K t m = wpM E 4 109 rd (.seq (.ops [⟨(some 45), .move (.tmp 1), none⟩,
    ⟨(some 46), .call ⟨.value (.func 15), #[(.tmp 45), (.const (.int .i64 1)), (.const (.int .i64 30))], #[3, 3, 3]⟩, none⟩,
    ⟨(some 11), .alloc 3, none⟩,
    ⟨none, .store 3 (.tmp 11) (.tmp 46), none⟩]) c_sheaflaw17_StageDoubles_28) K t m := rfl

def c_sheaflaw17_StageDoubles_30 : MC := (.seq (.ops [⟨(some 9), .alloc 3, none⟩,
    ⟨(some 10), .alloc 3, none⟩,
    ⟨none, .store 3 (.tmp 9) (.const (.int .i64 0)), none⟩,
    ⟨none, .store 3 (.tmp 10) (.const (.int .i64 0)), none⟩]) c_sheaflaw17_StageDoubles_29)
@[go_sem] theorem c_sheaflaw17_StageDoubles_30_at (rd : Option Nat) (K : Post3) (t : Fr) (m : Mem) : wpM E 4 109 rd c_sheaflaw17_StageDoubles_30 K t m = wpM E 4 109 rd (.seq (.ops [⟨(some 9), .alloc 3, none⟩,
    ⟨(some 10), .alloc 3, none⟩,
    ⟨none, .store 3 (.tmp 9) (.const (.int .i64 0)), none⟩,
    ⟨none, .store 3 (.tmp 10) (.const (.int .i64 0)), none⟩]) c_sheaflaw17_StageDoubles_29) K t m := rfl

def c_sheaflaw17_StageDoubles_31 : MC := (.seq c_sheaflaw17_StageDoubles_9 c_sheaflaw17_StageDoubles_30)
@[go_sem] theorem c_sheaflaw17_StageDoubles_31_at (rd : Option Nat) (K : Post3) (t : Fr) (m : Mem) : wpM E 4 109 rd c_sheaflaw17_StageDoubles_31 K t m = wpM E 4 109 rd (.seq c_sheaflaw17_StageDoubles_9 c_sheaflaw17_StageDoubles_30) K t m := rfl

def c_sheaflaw17_StageDoubles_32 : MC := (.seq (.ops [⟨(some 7), .assign (.const (.int .i64 0)), none⟩]) c_sheaflaw17_StageDoubles_31)
@[go_sem] theorem c_sheaflaw17_StageDoubles_32_at (rd : Option Nat) (K : Post3) (t : Fr) (m : Mem) : wpM E 4 109 rd c_sheaflaw17_StageDoubles_32 K t m = wpM E 4 109 rd (.seq (.ops [⟨(some 7), .assign (.const (.int .i64 0)), none⟩]) c_sheaflaw17_StageDoubles_31) K t m := rfl

def c_sheaflaw17_StageDoubles_33 : MC := (.seq (.ops [⟨(some 15), .makeMap 37 none, none⟩,
    ⟨(some 6), .alloc 37, none⟩,
    ⟨none, .store 37 (.tmp 6) (.tmp 15), none⟩]) c_sheaflaw17_StageDoubles_32)
@[go_sem] theorem c_sheaflaw17_StageDoubles_33_at (rd : Option Nat) (K : Post3) (t : Fr) (m : Mem) : wpM E 4 109 rd c_sheaflaw17_StageDoubles_33 K t m = wpM E 4 109 rd (.seq (.ops [⟨(some 15), .makeMap 37 none, none⟩,
    ⟨(some 6), .alloc 37, none⟩,
    ⟨none, .store 37 (.tmp 6) (.tmp 15), none⟩]) c_sheaflaw17_StageDoubles_32) K t m := rfl

def c_sheaflaw17_StageDoubles_34 : MC := (.seq (.ops [⟨(some 5), .alloc 23, none⟩]) c_sheaflaw17_StageDoubles_33)
@[go_sem] theorem c_sheaflaw17_StageDoubles_34_at (rd : Option Nat) (K : Post3) (t : Fr) (m : Mem) : wpM E 4 109 rd c_sheaflaw17_StageDoubles_34 K t m = wpM E 4 109 rd (.seq (.ops [⟨(some 5), .alloc 23, none⟩]) c_sheaflaw17_StageDoubles_33) K t m := rfl

def c_sheaflaw17_StageDoubles_35 : MC := (.seq (.ops [⟨(some 4), .alloc 4, none⟩]) c_sheaflaw17_StageDoubles_34)
@[go_sem] theorem c_sheaflaw17_StageDoubles_35_at (rd : Option Nat) (K : Post3) (t : Fr) (m : Mem) : wpM E 4 109 rd c_sheaflaw17_StageDoubles_35 K t m = wpM E 4 109 rd (.seq (.ops [⟨(some 4), .alloc 4, none⟩]) c_sheaflaw17_StageDoubles_34) K t m := rfl

@[go_sem] theorem some4 : (E.fn 4).isSome = true := by kernel_rfl
set_option maxRecDepth 100000 in
theorem fn_sheaflaw17_StageDoubles : FnIs E 4 109 [.cell 4 4] c_sheaflaw17_StageDoubles_35 := ⟨by kernel_rfl, by kernel_rfl⟩

/-! sheaf/sheaflaw17.StageRates -/
abbrev F_sheaflaw17_StageRates : FuncId := 5
def c_sheaflaw17_StageRates_0 : MC := (.cond (.tmp 27) .skip (.exit 0))
@[go_sem] theorem c_sheaflaw17_StageRates_0_at (rd : Option Nat) (K : Post3) (t : Fr) (m : Mem) : wpM E 5 174 rd c_sheaflaw17_StageRates_0 K t m = wpM E 5 174 rd (.cond (.tmp 27) .skip (.exit 0)) K t m := rfl

def c_sheaflaw17_StageRates_1 : MC := (.seq (.ops [⟨(some 20), .move (.tmp 10), none⟩,
    ⟨(some 21), .move (.tmp 2), none⟩,
    ⟨(some 22), .call ⟨.builtin .len, #[(.tmp 21)], #[22]⟩, none⟩,
    ⟨(some 23), .binOp .lss 3 (.tmp 20) (.tmp 22) 3, none⟩,
    ⟨(some 24), .move (.tmp 23), none⟩,
    ⟨(some 25), .move (.tmp 10), (some (some 24, true))⟩,
    ⟨(some 26), .binOp .lss 3 (.tmp 25) (.const (.int .i64 12)) 3, (some (some 24, true))⟩,
    ⟨(some 27), .pick (.tmp 24) (.tmp 26) (.const (.bool false)), none⟩]) c_sheaflaw17_StageRates_0)
@[go_sem] theorem c_sheaflaw17_StageRates_1_at (rd : Option Nat) (K : Post3) (t : Fr) (m : Mem) : wpM E 5 174 rd c_sheaflaw17_StageRates_1 K t m = wpM E 5 174 rd (.seq (.ops [⟨(some 20), .move (.tmp 10), none⟩,
    ⟨(some 21), .move (.tmp 2), none⟩,
    ⟨(some 22), .call ⟨.builtin .len, #[(.tmp 21)], #[22]⟩, none⟩,
    ⟨(some 23), .binOp .lss 3 (.tmp 20) (.tmp 22) 3, none⟩,
    ⟨(some 24), .move (.tmp 23), none⟩,
    ⟨(some 25), .move (.tmp 10), (some (some 24, true))⟩,
    ⟨(some 26), .binOp .lss 3 (.tmp 25) (.const (.int .i64 12)) 3, (some (some 24, true))⟩,
    ⟨(some 27), .pick (.tmp 24) (.tmp 26) (.const (.bool false)), none⟩]) c_sheaflaw17_StageRates_0) K t m := rfl

def c_sheaflaw17_StageRates_2 : MC := (.seq (.ops [⟨(some 30), .move (.tmp 9), none⟩,
    ⟨(some 31), .move (.tmp 2), none⟩,
    ⟨(some 32), .move (.tmp 10), none⟩,
    ⟨(some 33), .indexAddr 22 (.tmp 31) (.tmp 32), none⟩,
    ⟨(some 34), .load 3 (.tmp 33), none⟩,
    ⟨(some 35), .call ⟨.value (.func 15), #[(.tmp 34), (.const (.int .i64 1)), (.const (.int .i64 5))], #[3, 3, 3]⟩, none⟩,
    ⟨(some 36), .binOp .add 3 (.tmp 30) (.tmp 35) 3, none⟩,
    ⟨(some 9), .assign (.tmp 36), none⟩]) (.ops [⟨(some 37), .load 23 (.tmp 7), none⟩,
    ⟨(some 38), .move (.tmp 10), none⟩,
    ⟨(some 39), .binOp .quo 3 (.tmp 38) (.const (.int .i64 6)) 3, none⟩,
    ⟨(some 40), .binOp .add 3 (.const (.int .i64 1)) (.tmp 39) 3, none⟩,
    ⟨(some 41), .move (.tmp 9), none⟩,
    ⟨(some 42), .move (.tmp 10), none⟩,
    ⟨(some 43), .binOp .add 3 (.const (.int .i64 2)) (.tmp 42) 3, none⟩,
    ⟨(some 44), .buildSlice 22 4 #[(0, (.tmp 40)), (1, (.tmp 41)), (2, (.tmp 43)), (3, (.const (.int .i64 1)))], none⟩,
    ⟨(some 45), .buildSlice 23 1 #[(0, (.tmp 44))], none⟩,
    ⟨(some 46), .call ⟨.builtin .append, #[(.tmp 37), (.tmp 45)], #[23, 23]⟩, none⟩,
    ⟨none, .store 23 (.tmp 7) (.tmp 46), none⟩]))
@[go_sem] theorem c_sheaflaw17_StageRates_2_at (rd : Option Nat) (K : Post3) (t : Fr) (m : Mem) : wpM E 5 174 rd c_sheaflaw17_StageRates_2 K t m = wpM E 5 174 rd (.seq (.ops [⟨(some 30), .move (.tmp 9), none⟩,
    ⟨(some 31), .move (.tmp 2), none⟩,
    ⟨(some 32), .move (.tmp 10), none⟩,
    ⟨(some 33), .indexAddr 22 (.tmp 31) (.tmp 32), none⟩,
    ⟨(some 34), .load 3 (.tmp 33), none⟩,
    ⟨(some 35), .call ⟨.value (.func 15), #[(.tmp 34), (.const (.int .i64 1)), (.const (.int .i64 5))], #[3, 3, 3]⟩, none⟩,
    ⟨(some 36), .binOp .add 3 (.tmp 30) (.tmp 35) 3, none⟩,
    ⟨(some 9), .assign (.tmp 36), none⟩]) (.ops [⟨(some 37), .load 23 (.tmp 7), none⟩,
    ⟨(some 38), .move (.tmp 10), none⟩,
    ⟨(some 39), .binOp .quo 3 (.tmp 38) (.const (.int .i64 6)) 3, none⟩,
    ⟨(some 40), .binOp .add 3 (.const (.int .i64 1)) (.tmp 39) 3, none⟩,
    ⟨(some 41), .move (.tmp 9), none⟩,
    ⟨(some 42), .move (.tmp 10), none⟩,
    ⟨(some 43), .binOp .add 3 (.const (.int .i64 2)) (.tmp 42) 3, none⟩,
    ⟨(some 44), .buildSlice 22 4 #[(0, (.tmp 40)), (1, (.tmp 41)), (2, (.tmp 43)), (3, (.const (.int .i64 1)))], none⟩,
    ⟨(some 45), .buildSlice 23 1 #[(0, (.tmp 44))], none⟩,
    ⟨(some 46), .call ⟨.builtin .append, #[(.tmp 37), (.tmp 45)], #[23, 23]⟩, none⟩,
    ⟨none, .store 23 (.tmp 7) (.tmp 46), none⟩])) K t m := rfl

def c_sheaflaw17_StageRates_3 : MC := (.block 1 c_sheaflaw17_StageRates_2)
@[go_sem] theorem c_sheaflaw17_StageRates_3_at (rd : Option Nat) (K : Post3) (t : Fr) (m : Mem) : wpM E 5 174 rd c_sheaflaw17_StageRates_3 K t m = wpM E 5 174 rd (.block 1 c_sheaflaw17_StageRates_2) K t m := rfl

def c_sheaflaw17_StageRates_4 : MC := (.seq c_sheaflaw17_StageRates_3 (.ops [⟨(some 28), .move (.tmp 10), none⟩,
    ⟨(some 29), .binOp .add 3 (.tmp 28) (.const (.int .i64 1)) 3, none⟩,
    ⟨(some 10), .assign (.tmp 29), none⟩]))
@[go_sem] theorem c_sheaflaw17_StageRates_4_at (rd : Option Nat) (K : Post3) (t : Fr) (m : Mem) : wpM E 5 174 rd c_sheaflaw17_StageRates_4 K t m = wpM E 5 174 rd (.seq c_sheaflaw17_StageRates_3 (.ops [⟨(some 28), .move (.tmp 10), none⟩,
    ⟨(some 29), .binOp .add 3 (.tmp 28) (.const (.int .i64 1)) 3, none⟩,
    ⟨(some 10), .assign (.tmp 29), none⟩])) K t m := rfl

def c_sheaflaw17_StageRates_5 : MC := (.seq c_sheaflaw17_StageRates_1 c_sheaflaw17_StageRates_4)
@[go_sem] theorem c_sheaflaw17_StageRates_5_at (rd : Option Nat) (K : Post3) (t : Fr) (m : Mem) : wpM E 5 174 rd c_sheaflaw17_StageRates_5 K t m = wpM E 5 174 rd (.seq c_sheaflaw17_StageRates_1 c_sheaflaw17_StageRates_4) K t m := rfl

def c_sheaflaw17_StageRates_6 : MC := (.loop c_sheaflaw17_StageRates_5)
theorem c_sheaflaw17_StageRates_6_at (rd : Option Nat) (K : Post3) (t : Fr) (m : Mem) : wpM E 5 174 rd c_sheaflaw17_StageRates_6 K t m = wpM E 5 174 rd (.loop c_sheaflaw17_StageRates_5) K t m := rfl

def c_sheaflaw17_StageRates_7 : MC := (.block 0 c_sheaflaw17_StageRates_6)
theorem c_sheaflaw17_StageRates_7_at (rd : Option Nat) (K : Post3) (t : Fr) (m : Mem) : wpM E 5 174 rd c_sheaflaw17_StageRates_7 K t m = wpM E 5 174 rd (.block 0 c_sheaflaw17_StageRates_6) K t m := rfl

def c_sheaflaw17_StageRates_8 : MC := (.seq (.ops [⟨(some 10), .assign (.const (.int .i64 0)), none⟩]) c_sheaflaw17_StageRates_7)
@[go_sem] theorem c_sheaflaw17_StageRates_8_at (rd : Option Nat) (K : Post3) (t : Fr) (m : Mem) : wpM E 5 174 rd c_sheaflaw17_StageRates_8 K t m = wpM E 5 174 rd (.seq (.ops [⟨(some 10), .assign (.const (.int .i64 0)), none⟩]) c_sheaflaw17_StageRates_7) K t m := rfl

def c_sheaflaw17_StageRates_9 : MC := (.cond (.tmp 54) .skip (.exit 2))
@[go_sem] theorem c_sheaflaw17_StageRates_9_at (rd : Option Nat) (K : Post3) (t : Fr) (m : Mem) : wpM E 5 174 rd c_sheaflaw17_StageRates_9 K t m = wpM E 5 174 rd (.cond (.tmp 54) .skip (.exit 2)) K t m := rfl

def c_sheaflaw17_StageRates_10 : MC := (.seq (.ops [⟨(some 47), .move (.tmp 11), none⟩,
    ⟨(some 48), .move (.tmp 0), none⟩,
    ⟨(some 49), .call ⟨.builtin .len, #[(.tmp 48)], #[22]⟩, none⟩,
    ⟨(some 50), .binOp .lss 3 (.tmp 47) (.tmp 49) 3, none⟩,
    ⟨(some 51), .move (.tmp 50), none⟩,
    ⟨(some 52), .move (.tmp 11), (some (some 51, true))⟩,
    ⟨(some 53), .binOp .lss 3 (.tmp 52) (.const (.int .i64 15)) 3, (some (some 51, true))⟩,
    ⟨(some 54), .pick (.tmp 51) (.tmp 53) (.const (.bool false)), none⟩]) c_sheaflaw17_StageRates_9)
@[go_sem] theorem c_sheaflaw17_StageRates_10_at (rd : Option Nat) (K : Post3) (t : Fr) (m : Mem) : wpM E 5 174 rd c_sheaflaw17_StageRates_10 K t m = wpM E 5 174 rd (.seq (.ops [⟨(some 47), .move (.tmp 11), none⟩,
    ⟨(some 48), .move (.tmp 0), none⟩,
    ⟨(some 49), .call ⟨.builtin .len, #[(.tmp 48)], #[22]⟩, none⟩,
    ⟨(some 50), .binOp .lss 3 (.tmp 47) (.tmp 49) 3, none⟩,
    ⟨(some 51), .move (.tmp 50), none⟩,
    ⟨(some 52), .move (.tmp 11), (some (some 51, true))⟩,
    ⟨(some 53), .binOp .lss 3 (.tmp 52) (.const (.int .i64 15)) 3, (some (some 51, true))⟩,
    ⟨(some 54), .pick (.tmp 51) (.tmp 53) (.const (.bool false)), none⟩]) c_sheaflaw17_StageRates_9) K t m := rfl

def c_sheaflaw17_StageRates_11 : MC := (.cond (.tmp 61) (.ops [⟨(some 62), .move (.tmp 1), none⟩,
    ⟨(some 63), .move (.tmp 11), none⟩,
    ⟨(some 64), .indexAddr 22 (.tmp 62) (.tmp 63), none⟩,
    ⟨(some 65), .load 3 (.tmp 64), none⟩,
    ⟨(some 66), .call ⟨.value (.func 15), #[(.tmp 65), (.const (.int .i64 (-1000))), (.const (.int .i64 1000))], #[3, 3, 3]⟩, none⟩,
    ⟨(some 12), .assign (.tmp 66), none⟩]) .skip)
@[go_sem] theorem c_sheaflaw17_StageRates_11_at (rd : Option Nat) (K : Post3) (t : Fr) (m : Mem) : wpM E 5 174 rd c_sheaflaw17_StageRates_11 K t m = wpM E 5 174 rd (.cond (.tmp 61) (.ops [⟨(some 62), .move (.tmp 1), none⟩,
    ⟨(some 63), .move (.tmp 11), none⟩,
    ⟨(some 64), .indexAddr 22 (.tmp 62) (.tmp 63), none⟩,
    ⟨(some 65), .load 3 (.tmp 64), none⟩,
    ⟨(some 66), .call ⟨.value (.func 15), #[(.tmp 65), (.const (.int .i64 (-1000))), (.const (.int .i64 1000))], #[3, 3, 3]⟩, none⟩,
    ⟨(some 12), .assign (.tmp 66), none⟩]) .skip) K t m := rfl

def c_sheaflaw17_StageRates_12 : MC := (.seq (.ops [⟨(some 58), .move (.tmp 11), none⟩,
    ⟨(some 59), .move (.tmp 1), none⟩,
    ⟨(some 60), .call ⟨.builtin .len, #[(.tmp 59)], #[22]⟩, none⟩,
    ⟨(some 61), .binOp .lss 3 (.tmp 58) (.tmp 60) 3, none⟩]) c_sheaflaw17_StageRates_11)
@[go_sem] theorem c_sheaflaw17_StageRates_12_at (rd : Option Nat) (K : Post3) (t : Fr) (m : Mem) : wpM E 5 174 rd c_sheaflaw17_StageRates_12 K t m = wpM E 5 174 rd (.seq (.ops [⟨(some 58), .move (.tmp 11), none⟩,
    ⟨(some 59), .move (.tmp 1), none⟩,
    ⟨(some 60), .call ⟨.builtin .len, #[(.tmp 59)], #[22]⟩, none⟩,
    ⟨(some 61), .binOp .lss 3 (.tmp 58) (.tmp 60) 3, none⟩]) c_sheaflaw17_StageRates_11) K t m := rfl

def c_sheaflaw17_StageRates_13 : MC := (.seq c_sheaflaw17_StageRates_12 (.draw [(0, [], ⟨(some 67), .load 23 (.tmp 8), none⟩),
    (1, [], ⟨(some 68), .move (.tmp 11), none⟩),
    (2, [], ⟨(some 69), .binOp .add 3 (.tmp 68) (.const (.int .i64 1)) 3, none⟩),
    (3, [], ⟨(some 70), .move (.tmp 0), none⟩),
    (4, [], ⟨(some 71), .move (.tmp 11), none⟩),
    (5, [], ⟨(some 72), .indexAddr 22 (.tmp 70) (.tmp 71), none⟩),
    (6, [], ⟨(some 73), .load 3 (.tmp 72), none⟩),
    (7, [0], ⟨(some 74), .call ⟨.value (.func 15), #[(.tmp 73), (.const (.int .i64 0)), (.const (.int .i64 40))], #[3, 3, 3]⟩, none⟩),
    (8, [], ⟨(some 75), .move (.tmp 12), none⟩),
    (9, [], ⟨(some 76), .move (.tmp 11), none⟩),
    (10, [], ⟨(some 77), .binOp .rem 3 (.tmp 76) (.const (.int .i64 3)) 3, none⟩),
    (11, [], ⟨(some 78), .binOp .add 3 (.const (.int .i64 1)) (.tmp 77) 3, none⟩),
    (12, [], ⟨(some 79), .buildSlice 22 9 #[(0, (.tmp 69)), (1, (.const (.int .i64 1))), (2, (.const (.int .i64 1))), (3, (.tmp 74)), (4, (.tmp 75)), (5, (.const (.int .i64 0))), (6, (.tmp 78)), (7, (.const (.int .i64 10000))), (8, (.const (.int .i64 5)))], none⟩),
    (13, [], ⟨(some 80), .buildSlice 23 1 #[(0, (.tmp 79))], none⟩),
    (14, [], ⟨(some 81), .call ⟨.builtin .append, #[(.tmp 67), (.tmp 80)], #[23, 23]⟩, none⟩),
    (15, [], ⟨none, .store 23 (.tmp 8) (.tmp 81), none⟩)]))
@[go_sem] theorem c_sheaflaw17_StageRates_13_at (rd : Option Nat) (K : Post3) (t : Fr) (m : Mem) : wpM E 5 174 rd c_sheaflaw17_StageRates_13 K t m = wpM E 5 174 rd (.seq c_sheaflaw17_StageRates_12 (.draw [(0, [], ⟨(some 67), .load 23 (.tmp 8), none⟩),
    (1, [], ⟨(some 68), .move (.tmp 11), none⟩),
    (2, [], ⟨(some 69), .binOp .add 3 (.tmp 68) (.const (.int .i64 1)) 3, none⟩),
    (3, [], ⟨(some 70), .move (.tmp 0), none⟩),
    (4, [], ⟨(some 71), .move (.tmp 11), none⟩),
    (5, [], ⟨(some 72), .indexAddr 22 (.tmp 70) (.tmp 71), none⟩),
    (6, [], ⟨(some 73), .load 3 (.tmp 72), none⟩),
    (7, [0], ⟨(some 74), .call ⟨.value (.func 15), #[(.tmp 73), (.const (.int .i64 0)), (.const (.int .i64 40))], #[3, 3, 3]⟩, none⟩),
    (8, [], ⟨(some 75), .move (.tmp 12), none⟩),
    (9, [], ⟨(some 76), .move (.tmp 11), none⟩),
    (10, [], ⟨(some 77), .binOp .rem 3 (.tmp 76) (.const (.int .i64 3)) 3, none⟩),
    (11, [], ⟨(some 78), .binOp .add 3 (.const (.int .i64 1)) (.tmp 77) 3, none⟩),
    (12, [], ⟨(some 79), .buildSlice 22 9 #[(0, (.tmp 69)), (1, (.const (.int .i64 1))), (2, (.const (.int .i64 1))), (3, (.tmp 74)), (4, (.tmp 75)), (5, (.const (.int .i64 0))), (6, (.tmp 78)), (7, (.const (.int .i64 10000))), (8, (.const (.int .i64 5)))], none⟩),
    (13, [], ⟨(some 80), .buildSlice 23 1 #[(0, (.tmp 79))], none⟩),
    (14, [], ⟨(some 81), .call ⟨.builtin .append, #[(.tmp 67), (.tmp 80)], #[23, 23]⟩, none⟩),
    (15, [], ⟨none, .store 23 (.tmp 8) (.tmp 81), none⟩)])) K t m := rfl

def c_sheaflaw17_StageRates_14 : MC := (.seq (.ops [⟨(some 57), .move (.tmp 11), none⟩,
    ⟨(some 12), .assign (.tmp 57), none⟩]) c_sheaflaw17_StageRates_13)
@[go_sem] theorem c_sheaflaw17_StageRates_14_at (rd : Option Nat) (K : Post3) (t : Fr) (m : Mem) : wpM E 5 174 rd c_sheaflaw17_StageRates_14 K t m = wpM E 5 174 rd (.seq (.ops [⟨(some 57), .move (.tmp 11), none⟩,
    ⟨(some 12), .assign (.tmp 57), none⟩]) c_sheaflaw17_StageRates_13) K t m := rfl

def c_sheaflaw17_StageRates_15 : MC := (.block 3 c_sheaflaw17_StageRates_14)
@[go_sem] theorem c_sheaflaw17_StageRates_15_at (rd : Option Nat) (K : Post3) (t : Fr) (m : Mem) : wpM E 5 174 rd c_sheaflaw17_StageRates_15 K t m = wpM E 5 174 rd (.block 3 c_sheaflaw17_StageRates_14) K t m := rfl

def c_sheaflaw17_StageRates_16 : MC := (.seq c_sheaflaw17_StageRates_15 (.ops [⟨(some 55), .move (.tmp 11), none⟩,
    ⟨(some 56), .binOp .add 3 (.tmp 55) (.const (.int .i64 1)) 3, none⟩,
    ⟨(some 11), .assign (.tmp 56), none⟩]))
@[go_sem] theorem c_sheaflaw17_StageRates_16_at (rd : Option Nat) (K : Post3) (t : Fr) (m : Mem) : wpM E 5 174 rd c_sheaflaw17_StageRates_16 K t m = wpM E 5 174 rd (.seq c_sheaflaw17_StageRates_15 (.ops [⟨(some 55), .move (.tmp 11), none⟩,
    ⟨(some 56), .binOp .add 3 (.tmp 55) (.const (.int .i64 1)) 3, none⟩,
    ⟨(some 11), .assign (.tmp 56), none⟩])) K t m := rfl

def c_sheaflaw17_StageRates_17 : MC := (.seq c_sheaflaw17_StageRates_10 c_sheaflaw17_StageRates_16)
@[go_sem] theorem c_sheaflaw17_StageRates_17_at (rd : Option Nat) (K : Post3) (t : Fr) (m : Mem) : wpM E 5 174 rd c_sheaflaw17_StageRates_17 K t m = wpM E 5 174 rd (.seq c_sheaflaw17_StageRates_10 c_sheaflaw17_StageRates_16) K t m := rfl

def c_sheaflaw17_StageRates_18 : MC := (.loop c_sheaflaw17_StageRates_17)
theorem c_sheaflaw17_StageRates_18_at (rd : Option Nat) (K : Post3) (t : Fr) (m : Mem) : wpM E 5 174 rd c_sheaflaw17_StageRates_18 K t m = wpM E 5 174 rd (.loop c_sheaflaw17_StageRates_17) K t m := rfl

def c_sheaflaw17_StageRates_19 : MC := (.block 2 c_sheaflaw17_StageRates_18)
theorem c_sheaflaw17_StageRates_19_at (rd : Option Nat) (K : Post3) (t : Fr) (m : Mem) : wpM E 5 174 rd c_sheaflaw17_StageRates_19 K t m = wpM E 5 174 rd (.block 2 c_sheaflaw17_StageRates_18) K t m := rfl

def c_sheaflaw17_StageRates_20 : MC := (.seq (.ops [⟨(some 11), .assign (.const (.int .i64 0)), none⟩]) c_sheaflaw17_StageRates_19)
@[go_sem] theorem c_sheaflaw17_StageRates_20_at (rd : Option Nat) (K : Post3) (t : Fr) (m : Mem) : wpM E 5 174 rd c_sheaflaw17_StageRates_20 K t m = wpM E 5 174 rd (.seq (.ops [⟨(some 11), .assign (.const (.int .i64 0)), none⟩]) c_sheaflaw17_StageRates_19) K t m := rfl

def c_sheaflaw17_StageRates_21 : MC := (.seq (.ops [⟨none, .store 4 (.tmp 6) (.const (.bool false)), none⟩]) .ret)
@[go_sem] theorem c_sheaflaw17_StageRates_21_at (rd : Option Nat) (K : Post3) (t : Fr) (m : Mem) : wpM E 5 174 rd c_sheaflaw17_StageRates_21 K t m = wpM E 5 174 rd (.seq (.ops [⟨none, .store 4 (.tmp 6) (.const (.bool false)), none⟩]) .ret) K t m := rfl

def c_sheaflaw17_StageRates_22 : MC := (.cond (.tmp 91) c_sheaflaw17_StageRates_21 .skip)
@[go_sem] theorem c_sheaflaw17_StageRates_22_at (rd : Option Nat) (K : Post3) (t : Fr) (m : Mem) : wpM E 5 174 rd c_sheaflaw17_StageRates_22 K t m = wpM E 5 174 rd (.cond (.tmp 91) c_sheaflaw17_StageRates_21 .skip) K t m := rfl

def c_sheaflaw17_StageRates_23 : MC := (.seq (.ops [⟨(some 90), .move (.tmp 14), none⟩,
    ⟨(some 91), .binOp .eql 27 (.tmp 90) (.const .nilFunc) 27, none⟩]) c_sheaflaw17_StageRates_22)
@[go_sem] theorem c_sheaflaw17_StageRates_23_at (rd : Option Nat) (K : Post3) (t : Fr) (m : Mem) : wpM E 5 174 rd c_sheaflaw17_StageRates_23 K t m = wpM E 5 174 rd (.seq (.ops [⟨(some 90), .move (.tmp 14), none⟩,
    ⟨(some 91), .binOp .eql 27 (.tmp 90) (.const .nilFunc) 27, none⟩]) c_sheaflaw17_StageRates_22) K t m := rfl

def c_sheaflaw17_StageRates_24 : MC := (.seq (.ops [⟨(some 15), .assign (.tmp 93), none⟩]) (.ops [⟨(some 16), .assign (.tmp 94), none⟩]))
@[go_sem] theorem c_sheaflaw17_StageRates_24_at (rd : Option Nat) (K : Post3) (t : Fr) (m : Mem) : wpM E 5 174 rd c_sheaflaw17_StageRates_24 K t m = wpM E 5 174 rd (.seq (.ops [⟨(some 15), .assign (.tmp 93), none⟩]) (.ops [⟨(some 16), .assign (.tmp 94), none⟩])) K t m := rfl

def c_sheaflaw17_StageRates_25 : MC := (.seq (.ops [⟨none, .store 4 (.tmp 6) (.const (.bool false)), none⟩]) .ret)
@[go_sem] theorem c_sheaflaw17_StageRates_25_at (rd : Option Nat) (K : Post3) (t : Fr) (m : Mem) : wpM E 5 174 rd c_sheaflaw17_StageRates_25 K t m = wpM E 5 174 rd (.seq (.ops [⟨none, .store 4 (.tmp 6) (.const (.bool false)), none⟩]) .ret) K t m := rfl

def c_sheaflaw17_StageRates_26 : MC := (.cond (.tmp 113) c_sheaflaw17_StageRates_25 .skip)
@[go_sem] theorem c_sheaflaw17_StageRates_26_at (rd : Option Nat) (K : Post3) (t : Fr) (m : Mem) : wpM E 5 174 rd c_sheaflaw17_StageRates_26 K t m = wpM E 5 174 rd (.cond (.tmp 113) c_sheaflaw17_StageRates_25 .skip) K t m := rfl

def c_sheaflaw17_StageRates_27 : MC := (.seq (.ops [⟨(some 95), .load 3 (.tmp 13), none⟩,
    ⟨(some 96), .load 23 (.tmp 8), none⟩,
    ⟨(some 97), .call ⟨.builtin .len, #[(.tmp 96)], #[23]⟩, none⟩,
    ⟨(some 98), .binOp .geq 3 (.tmp 95) (.tmp 97) 3, none⟩,
    ⟨(some 99), .move (.tmp 98), none⟩,
    ⟨(some 100), .move (.tmp 15), (some (some 99, false))⟩,
    ⟨(some 101), .call ⟨.builtin .len, #[(.tmp 100)], #[22]⟩, (some (some 99, false))⟩,
    ⟨(some 102), .binOp .lss 3 (.tmp 101) (.const (.int .i64 9)) 3, (some (some 99, false))⟩,
    ⟨(some 103), .pick (.tmp 99) (.const (.bool true)) (.tmp 102), none⟩,
    ⟨(some 104), .move (.tmp 103), none⟩,
    ⟨(some 105), .move (.tmp 15), (some (some 104, false))⟩,
    ⟨(some 106), .slice 22 (.tmp 105) none (some (.const (.int .i64 9))) none, (some (some 104, false))⟩,
    ⟨(some 107), .load 23 (.tmp 8), (some (some 104, false))⟩,
    ⟨(some 108), .load 3 (.tmp 13), (some (some 104, false))⟩,
    ⟨(some 109), .indexAddr 23 (.tmp 107) (.tmp 108), (some (some 104, false))⟩,
    ⟨(some 110), .load 22 (.tmp 109), (some (some 104, false))⟩,
    ⟨(some 111), .call ⟨.value (.func 17), #[(.tmp 106), (.tmp 110)], #[22, 22]⟩, (some (some 104, false))⟩,
    ⟨(some 112), .unOp .not 4 (.tmp 111), (some (some 104, false))⟩,
    ⟨(some 113), .pick (.tmp 104) (.const (.bool true)) (.tmp 112), none⟩]) c_sheaflaw17_StageRates_26)
@[go_sem] theorem c_sheaflaw17_StageRates_27_at (rd : Option Nat) (K : Post3) (t : Fr) (m : Mem) : wpM E 5 174 rd c_sheaflaw17_StageRates_27 K t m = wpM E 5 174 rd (.seq (.ops [⟨(some 95), .load 3 (.tmp 13), none⟩,
    ⟨(some 96), .load 23 (.tmp 8), none⟩,
    ⟨(some 97), .call ⟨.builtin .len, #[(.tmp 96)], #[23]⟩, none⟩,
    ⟨(some 98), .binOp .geq 3 (.tmp 95) (.tmp 97) 3, none⟩,
    ⟨(some 99), .move (.tmp 98), none⟩,
    ⟨(some 100), .move (.tmp 15), (some (some 99, false))⟩,
    ⟨(some 101), .call ⟨.builtin .len, #[(.tmp 100)], #[22]⟩, (some (some 99, false))⟩,
    ⟨(some 102), .binOp .lss 3 (.tmp 101) (.const (.int .i64 9)) 3, (some (some 99, false))⟩,
    ⟨(some 103), .pick (.tmp 99) (.const (.bool true)) (.tmp 102), none⟩,
    ⟨(some 104), .move (.tmp 103), none⟩,
    ⟨(some 105), .move (.tmp 15), (some (some 104, false))⟩,
    ⟨(some 106), .slice 22 (.tmp 105) none (some (.const (.int .i64 9))) none, (some (some 104, false))⟩,
    ⟨(some 107), .load 23 (.tmp 8), (some (some 104, false))⟩,
    ⟨(some 108), .load 3 (.tmp 13), (some (some 104, false))⟩,
    ⟨(some 109), .indexAddr 23 (.tmp 107) (.tmp 108), (some (some 104, false))⟩,
    ⟨(some 110), .load 22 (.tmp 109), (some (some 104, false))⟩,
    ⟨(some 111), .call ⟨.value (.func 17), #[(.tmp 106), (.tmp 110)], #[22, 22]⟩, (some (some 104, false))⟩,
    ⟨(some 112), .unOp .not 4 (.tmp 111), (some (some 104, false))⟩,
    ⟨(some 113), .pick (.tmp 104) (.const (.bool true)) (.tmp 112), none⟩]) c_sheaflaw17_StageRates_26) K t m := rfl

def c_sheaflaw17_StageRates_28 : MC := (.cond (.tmp 117) .skip (.exit 6))
@[go_sem] theorem c_sheaflaw17_StageRates_28_at (rd : Option Nat) (K : Post3) (t : Fr) (m : Mem) : wpM E 5 174 rd c_sheaflaw17_StageRates_28 K t m = wpM E 5 174 rd (.cond (.tmp 117) .skip (.exit 6)) K t m := rfl

def c_sheaflaw17_StageRates_29 : MC := (.cond (.tmp 135) (.ops [⟨(some 136), .move (.tmp 19), none⟩,
    ⟨(some 137), .indexAddr 22 (.tmp 136) (.const (.int .i64 2)), none⟩,
    ⟨(some 138), .load 3 (.tmp 137), none⟩,
    ⟨(some 17), .assign (.tmp 138), none⟩]) .skip)
@[go_sem] theorem c_sheaflaw17_StageRates_29_at (rd : Option Nat) (K : Post3) (t : Fr) (m : Mem) : wpM E 5 174 rd c_sheaflaw17_StageRates_29 K t m = wpM E 5 174 rd (.cond (.tmp 135) (.ops [⟨(some 136), .move (.tmp 19), none⟩,
    ⟨(some 137), .indexAddr 22 (.tmp 136) (.const (.int .i64 2)), none⟩,
    ⟨(some 138), .load 3 (.tmp 137), none⟩,
    ⟨(some 17), .assign (.tmp 138), none⟩]) .skip) K t m := rfl

def c_sheaflaw17_StageRates_30 : MC := (.seq (.ops [⟨(some 120), .move (.tmp 19), none⟩,
    ⟨(some 121), .indexAddr 22 (.tmp 120) (.const (.int .i64 0)), none⟩,
    ⟨(some 122), .load 3 (.tmp 121), none⟩,
    ⟨(some 123), .move (.tmp 15), none⟩,
    ⟨(some 124), .indexAddr 22 (.tmp 123) (.const (.int .i64 6)), none⟩,
    ⟨(some 125), .load 3 (.tmp 124), none⟩,
    ⟨(some 126), .binOp .eql 3 (.tmp 122) (.tmp 125) 3, none⟩,
    ⟨(some 127), .move (.tmp 126), none⟩,
    ⟨(some 128), .move (.tmp 19), (some (some 127, true))⟩,
    ⟨(some 129), .indexAddr 22 (.tmp 128) (.const (.int .i64 1)), (some (some 127, true))⟩,
    ⟨(some 130), .load 3 (.tmp 129), (some (some 127, true))⟩,
    ⟨(some 131), .move (.tmp 15), (some (some 127, true))⟩,
    ⟨(some 132), .indexAddr 22 (.tmp 131) (.const (.int .i64 3)), (some (some 127, true))⟩,
    ⟨(some 133), .load 3 (.tmp 132), (some (some 127, true))⟩,
    ⟨(some 134), .binOp .leq 3 (.tmp 130) (.tmp 133) 3, (some (some 127, true))⟩,
    ⟨(some 135), .pick (.tmp 127) (.tmp 134) (.const (.bool false)), none⟩]) c_sheaflaw17_StageRates_29)
@[go_sem] theorem c_sheaflaw17_StageRates_30_at (rd : Option Nat) (K : Post3) (t : Fr) (m : Mem) : wpM E 5 174 rd c_sheaflaw17_StageRates_30 K t m = wpM E 5 174 rd (.seq (.ops [⟨(some 120), .move (.tmp 19), none⟩,
    ⟨(some 121), .indexAddr 22 (.tmp 120) (.const (.int .i64 0)), none⟩,
    ⟨(some 122), .load 3 (.tmp 121), none⟩,
    ⟨(some 123), .move (.tmp 15), none⟩,
    ⟨(some 124), .indexAddr 22 (.tmp 123) (.const (.int .i64 6)), none⟩,
    ⟨(some 125), .load 3 (.tmp 124), none⟩,
    ⟨(some 126), .binOp .eql 3 (.tmp 122) (.tmp 125) 3, none⟩,
    ⟨(some 127), .move (.tmp 126), none⟩,
    ⟨(some 128), .move (.tmp 19), (some (some 127, true))⟩,
    ⟨(some 129), .indexAddr 22 (.tmp 128) (.const (.int .i64 1)), (some (some 127, true))⟩,
    ⟨(some 130), .load 3 (.tmp 129), (some (some 127, true))⟩,
    ⟨(some 131), .move (.tmp 15), (some (some 127, true))⟩,
    ⟨(some 132), .indexAddr 22 (.tmp 131) (.const (.int .i64 3)), (some (some 127, true))⟩,
    ⟨(some 133), .load 3 (.tmp 132), (some (some 127, true))⟩,
    ⟨(some 134), .binOp .leq 3 (.tmp 130) (.tmp 133) 3, (some (some 127, true))⟩,
    ⟨(some 135), .pick (.tmp 127) (.tmp 134) (.const (.bool false)), none⟩]) c_sheaflaw17_StageRates_29) K t m := rfl

def c_sheaflaw17_StageRates_31 : MC := (.seq (.ops [⟨(some 118), .indexAddr 23 (.tmp 114) (.tmp 116), none⟩,
    ⟨(some 119), .load 22 (.tmp 118), none⟩,
    ⟨(some 19), .assign (.tmp 119), none⟩]) c_sheaflaw17_StageRates_30)
@[go_sem] theorem c_sheaflaw17_StageRates_31_at (rd : Option Nat) (K : Post3) (t : Fr) (m : Mem) : wpM E 5 174 rd c_sheaflaw17_StageRates_31 K t m = wpM E 5 174 rd (.seq (.ops [⟨(some 118), .indexAddr 23 (.tmp 114) (.tmp 116), none⟩,
    ⟨(some 119), .load 22 (.tmp 118), none⟩,
    ⟨(some 19), .assign (.tmp 119), none⟩]) c_sheaflaw17_StageRates_30) K t m := rfl

def c_sheaflaw17_StageRates_32 : MC := (.block 7 c_sheaflaw17_StageRates_31)
@[go_sem] theorem c_sheaflaw17_StageRates_32_at (rd : Option Nat) (K : Post3) (t : Fr) (m : Mem) : wpM E 5 174 rd c_sheaflaw17_StageRates_32 K t m = wpM E 5 174 rd (.block 7 c_sheaflaw17_StageRates_31) K t m := rfl

def c_sheaflaw17_StageRates_33 : MC := (.seq c_sheaflaw17_StageRates_32 (.ops [⟨(some 139), .binOp .add 3 (.tmp 116) (.const (.int .i64 1)) 3, none⟩,
    ⟨(some 116), .move (.tmp 139), none⟩]))
@[go_sem] theorem c_sheaflaw17_StageRates_33_at (rd : Option Nat) (K : Post3) (t : Fr) (m : Mem) : wpM E 5 174 rd c_sheaflaw17_StageRates_33 K t m = wpM E 5 174 rd (.seq c_sheaflaw17_StageRates_32 (.ops [⟨(some 139), .binOp .add 3 (.tmp 116) (.const (.int .i64 1)) 3, none⟩,
    ⟨(some 116), .move (.tmp 139), none⟩])) K t m := rfl

def c_sheaflaw17_StageRates_34 : MC := (.seq c_sheaflaw17_StageRates_28 c_sheaflaw17_StageRates_33)
@[go_sem] theorem c_sheaflaw17_StageRates_34_at (rd : Option Nat) (K : Post3) (t : Fr) (m : Mem) : wpM E 5 174 rd c_sheaflaw17_StageRates_34 K t m = wpM E 5 174 rd (.seq c_sheaflaw17_StageRates_28 c_sheaflaw17_StageRates_33) K t m := rfl

def c_sheaflaw17_StageRates_35 : MC := (.seq (.ops [⟨(some 117), .binOp .lss 3 (.tmp 116) (.tmp 115) 3, none⟩]) c_sheaflaw17_StageRates_34)
@[go_sem] theorem c_sheaflaw17_StageRates_35_at (rd : Option Nat) (K : Post3) (t : Fr) (m : Mem) : wpM E 5 174 rd c_sheaflaw17_StageRates_35 K t m = wpM E 5 174 rd (.seq (.ops [⟨(some 117), .binOp .lss 3 (.tmp 116) (.tmp 115) 3, none⟩]) c_sheaflaw17_StageRates_34) K t m := rfl

def c_sheaflaw17_StageRates_36 : MC := (.loop c_sheaflaw17_StageRates_35)
theorem c_sheaflaw17_StageRates_36_at (rd : Option Nat) (K : Post3) (t : Fr) (m : Mem) : wpM E 5 174 rd c_sheaflaw17_StageRates_36 K t m = wpM E 5 174 rd (.loop c_sheaflaw17_StageRates_35) K t m := rfl

def c_sheaflaw17_StageRates_37 : MC := (.block 6 c_sheaflaw17_StageRates_36)
theorem c_sheaflaw17_StageRates_37_at (rd : Option Nat) (K : Post3) (t : Fr) (m : Mem) : wpM E 5 174 rd c_sheaflaw17_StageRates_37 K t m = wpM E 5 174 rd (.block 6 c_sheaflaw17_StageRates_36) K t m := rfl

def c_sheaflaw17_StageRates_38 : MC := (.seq (.ops [⟨(some 114), .load 23 (.tmp 7), none⟩,
    ⟨(some 115), .call ⟨.builtin .len, #[(.tmp 114)], #[23]⟩, none⟩,
    ⟨(some 116), .move (.const (.int .i64 0)), none⟩]) c_sheaflaw17_StageRates_37)
@[go_sem] theorem c_sheaflaw17_StageRates_38_at (rd : Option Nat) (K : Post3) (t : Fr) (m : Mem) : wpM E 5 174 rd c_sheaflaw17_StageRates_38 K t m = wpM E 5 174 rd (.seq (.ops [⟨(some 114), .load 23 (.tmp 7), none⟩,
    ⟨(some 115), .call ⟨.builtin .len, #[(.tmp 114)], #[23]⟩, none⟩,
    ⟨(some 116), .move (.const (.int .i64 0)), none⟩]) c_sheaflaw17_StageRates_37) K t m := rfl

def c_sheaflaw17_StageRates_39 : MC := (.seq (.ops [⟨none, .store 4 (.tmp 6) (.const (.bool false)), none⟩]) .ret)
@[go_sem] theorem c_sheaflaw17_StageRates_39_at (rd : Option Nat) (K : Post3) (t : Fr) (m : Mem) : wpM E 5 174 rd c_sheaflaw17_StageRates_39 K t m = wpM E 5 174 rd (.seq (.ops [⟨none, .store 4 (.tmp 6) (.const (.bool false)), none⟩]) .ret) K t m := rfl

def c_sheaflaw17_StageRates_40 : MC := (.cond (.tmp 164) c_sheaflaw17_StageRates_39 .skip)
@[go_sem] theorem c_sheaflaw17_StageRates_40_at (rd : Option Nat) (K : Post3) (t : Fr) (m : Mem) : wpM E 5 174 rd c_sheaflaw17_StageRates_40 K t m = wpM E 5 174 rd (.cond (.tmp 164) c_sheaflaw17_StageRates_39 .skip) K t m := rfl

def c_sheaflaw17_StageRates_41 : MC := (.seq (.ops [⟨(some 140), .move (.tmp 16), none⟩,
    ⟨(some 141), .binOp .eql 3 (.tmp 140) (.const (.int .i64 7)) 3, none⟩,
    ⟨(some 142), .move (.tmp 17), none⟩,
    ⟨(some 143), .binOp .eql 3 (.tmp 142) (.const (.int .i64 0)) 3, none⟩,
    ⟨(some 144), .binOp .neq 4 (.tmp 141) (.tmp 143) 4, none⟩,
    ⟨(some 145), .move (.tmp 144), none⟩,
    ⟨(some 146), .move (.tmp 17), (some (some 145, false))⟩,
    ⟨(some 147), .binOp .gtr 3 (.tmp 146) (.const (.int .i64 0)) 3, (some (some 145, false))⟩,
    ⟨(some 148), .move (.tmp 147), (some (some 145, false))⟩,
    ⟨(some 149), .move (.tmp 15), (some (some 148, true))⟩,
    ⟨(some 150), .call ⟨.builtin .len, #[(.tmp 149)], #[22]⟩, (some (some 148, true))⟩,
    ⟨(some 151), .binOp .neq 3 (.tmp 150) (.const (.int .i64 10)) 3, (some (some 148, true))⟩,
    ⟨(some 152), .move (.tmp 151), (some (some 148, true))⟩,
    ⟨(some 153), .move (.tmp 15), (some (some 152, false))⟩,
    ⟨(some 154), .indexAddr 22 (.tmp 153) (.const (.int .i64 9)), (some (some 152, false))⟩,
    ⟨(some 155), .load 3 (.tmp 154), (some (some 152, false))⟩,
    ⟨(some 156), .move (.tmp 17), (some (some 152, false))⟩,
    ⟨(some 157), .move (.tmp 15), (some (some 152, false))⟩,
    ⟨(some 158), .indexAddr 22 (.tmp 157) (.const (.int .i64 4)), (some (some 152, false))⟩,
    ⟨(some 159), .load 3 (.tmp 158), (some (some 152, false))⟩,
    ⟨(some 160), .binOp .mul 3 (.tmp 156) (.tmp 159) 3, (some (some 152, false))⟩,
    ⟨(some 161), .binOp .neq 3 (.tmp 155) (.tmp 160) 3, (some (some 152, false))⟩,
    ⟨(some 162), .pick (.tmp 152) (.const (.bool true)) (.tmp 161), (some (some 148, true))⟩,
    ⟨(some 163), .pick (.tmp 148) (.tmp 162) (.const (.bool false)), (some (some 145, false))⟩,
    ⟨(some 164), .pick (.tmp 145) (.const (.bool true)) (.tmp 163), none⟩]) c_sheaflaw17_StageRates_40)
@[go_sem] theorem c_sheaflaw17_StageRates_41_at (rd : Option Nat) (K : Post3) (t : Fr) (m : Mem) : wpM E 5 174 rd c_sheaflaw17_StageRates_41 K t m = wpM E 5 174 rd (.seq (.ops [⟨(some 140), .move (.tmp 16), none⟩,
    ⟨(some 141), .binOp .eql 3 (.tmp 140) (.const (.int .i64 7)) 3, none⟩,
    ⟨(some 142), .move (.tmp 17), none⟩,
    ⟨(some 143), .binOp .eql 3 (.tmp 142) (.const (.int .i64 0)) 3, none⟩,
    ⟨(some 144), .binOp .neq 4 (.tmp 141) (.tmp 143) 4, none⟩,
    ⟨(some 145), .move (.tmp 144), none⟩,
    ⟨(some 146), .move (.tmp 17), (some (some 145, false))⟩,
    ⟨(some 147), .binOp .gtr 3 (.tmp 146) (.const (.int .i64 0)) 3, (some (some 145, false))⟩,
    ⟨(some 148), .move (.tmp 147), (some (some 145, false))⟩,
    ⟨(some 149), .move (.tmp 15), (some (some 148, true))⟩,
    ⟨(some 150), .call ⟨.builtin .len, #[(.tmp 149)], #[22]⟩, (some (some 148, true))⟩,
    ⟨(some 151), .binOp .neq 3 (.tmp 150) (.const (.int .i64 10)) 3, (some (some 148, true))⟩,
    ⟨(some 152), .move (.tmp 151), (some (some 148, true))⟩,
    ⟨(some 153), .move (.tmp 15), (some (some 152, false))⟩,
    ⟨(some 154), .indexAddr 22 (.tmp 153) (.const (.int .i64 9)), (some (some 152, false))⟩,
    ⟨(some 155), .load 3 (.tmp 154), (some (some 152, false))⟩,
    ⟨(some 156), .move (.tmp 17), (some (some 152, false))⟩,
    ⟨(some 157), .move (.tmp 15), (some (some 152, false))⟩,
    ⟨(some 158), .indexAddr 22 (.tmp 157) (.const (.int .i64 4)), (some (some 152, false))⟩,
    ⟨(some 159), .load 3 (.tmp 158), (some (some 152, false))⟩,
    ⟨(some 160), .binOp .mul 3 (.tmp 156) (.tmp 159) 3, (some (some 152, false))⟩,
    ⟨(some 161), .binOp .neq 3 (.tmp 155) (.tmp 160) 3, (some (some 152, false))⟩,
    ⟨(some 162), .pick (.tmp 152) (.const (.bool true)) (.tmp 161), (some (some 148, true))⟩,
    ⟨(some 163), .pick (.tmp 148) (.tmp 162) (.const (.bool false)), (some (some 145, false))⟩,
    ⟨(some 164), .pick (.tmp 145) (.const (.bool true)) (.tmp 163), none⟩]) c_sheaflaw17_StageRates_40) K t m := rfl

def c_sheaflaw17_StageRates_42 : MC := (.seq c_sheaflaw17_StageRates_41 (.ops [⟨(some 165), .load 3 (.tmp 13), none⟩,
    ⟨(some 166), .binOp .add 3 (.tmp 165) (.const (.int .i64 1)) 3, none⟩,
    ⟨none, .store 3 (.tmp 13) (.tmp 166), none⟩]))
@[go_sem] theorem c_sheaflaw17_StageRates_42_at (rd : Option Nat) (K : Post3) (t : Fr) (m : Mem) : wpM E 5 174 rd c_sheaflaw17_StageRates_42 K t m = wpM E 5 174 rd (.seq c_sheaflaw17_StageRates_41 (.ops [⟨(some 165), .load 3 (.tmp 13), none⟩,
    ⟨(some 166), .binOp .add 3 (.tmp 165) (.const (.int .i64 1)) 3, none⟩,
    ⟨none, .store 3 (.tmp 13) (.tmp 166), none⟩])) K t m := rfl

def c_sheaflaw17_StageRates_43 : MC := (.seq c_sheaflaw17_StageRates_38 c_sheaflaw17_StageRates_42)
@[go_sem] theorem c_sheaflaw17_StageRates_43_at (rd : Option Nat) (K : Post3) (t : Fr) (m : Mem) : wpM E 5 174 rd c_sheaflaw17_StageRates_43 K t m = wpM E 5 174 rd (.seq c_sheaflaw17_StageRates_38 c_sheaflaw17_StageRates_42) K t m := rfl

def c_sheaflaw17_StageRates_44 : MC := (.seq (.ops [⟨(some 17), .assign (.const (.int .i64 0)), none⟩]) c_sheaflaw17_StageRates_43)
@[go_sem] theorem c_sheaflaw17_StageRates_44_at (rd : Option Nat) (K : Post3) (t : Fr) (m : Mem) : wpM E 5 174 rd c_sheaflaw17_StageRates_44 K t m = wpM E 5 174 rd (.seq (.ops [⟨(some 17), .assign (.const (.int .i64 0)), none⟩]) c_sheaflaw17_StageRates_43) K t m := rfl

def c_sheaflaw17_StageRates_45 : MC := (.seq c_sheaflaw17_StageRates_27 c_sheaflaw17_StageRates_44)
@[go_sem] theorem c_sheaflaw17_StageRates_45_at (rd : Option Nat) (K : Post3) (t : Fr) (m : Mem) : wpM E 5 174 rd c_sheaflaw17_StageRates_45 K t m = wpM E 5 174 rd (.seq c_sheaflaw17_StageRates_27 c_sheaflaw17_StageRates_44) K t m := rfl

def c_sheaflaw17_StageRates_46 : MC := (.block 5 c_sheaflaw17_StageRates_45)
@[go_sem] theorem c_sheaflaw17_StageRates_46_at (rd : Option Nat) (K : Post3) (t : Fr) (m : Mem) : wpM E 5 174 rd c_sheaflaw17_StageRates_46 K t m = wpM E 5 174 rd (.block 5 c_sheaflaw17_StageRates_45) K t m := rfl

theorem asg_sheaflaw17_StageRates_0 : compile E 5 174 (asgAt E 5 0) = some c_sheaflaw17_StageRates_24 := by kernel_rfl

theorem body_sheaflaw17_StageRates_0 : compile E 5 174 (bodyAt E 5 0) = some c_sheaflaw17_StageRates_46 := by kernel_rfl

def c_sheaflaw17_StageRates_47 : MC := (.range (.tmp 92) #[93, 94] (asgAt E 5 0) (bodyAt E 5 0))
theorem c_sheaflaw17_StageRates_47_at (rd : Option Nat) (K : Post3) (t : Fr) (m : Mem) : wpM E 5 174 rd c_sheaflaw17_StageRates_47 K t m = wpM E 5 174 rd (.range (.tmp 92) #[93, 94] (asgAt E 5 0) (bodyAt E 5 0)) K t m := rfl

def c_sheaflaw17_StageRates_48 : MC := (.block 4 c_sheaflaw17_StageRates_47)
@[go_sem] theorem c_sheaflaw17_StageRates_48_at (rd : Option Nat) (K : Post3) (t : Fr) (m : Mem) : wpM E 5 174 rd c_sheaflaw17_StageRates_48 K t m = wpM E 5 174 rd (.block 4 c_sheaflaw17_StageRates_47) K t m := rfl

def c_sheaflaw17_StageRates_49 : MC := (.seq (.ops [⟨(some 92), .move (.tmp 14), none⟩]) c_sheaflaw17_StageRates_48)
@[go_sem] theorem c_sheaflaw17_StageRates_49_at (rd : Option Nat) (K : Post3) (t : Fr) (m : Mem) : wpM E 5 174 rd c_sheaflaw17_StageRates_49 K t m = wpM E 5 174 rd (.seq (.ops [⟨(some 92), .move (.tmp 14), none⟩]) c_sheaflaw17_StageRates_48) K t m := rfl

def c_sheaflaw17_StageRates_50 : MC := (.seq (.ops [⟨(some 167), .load 3 (.tmp 13), none⟩,
    ⟨(some 168), .load 23 (.tmp 8), none⟩,
    ⟨(some 169), .call ⟨.builtin .len, #[(.tmp 168)], #[23]⟩, none⟩,
    ⟨(some 170), .binOp .eql 3 (.tmp 167) (.tmp 169) 3, none⟩,
    ⟨(some 171), .move (.tmp 170), none⟩,
    ⟨(some 172), .call ⟨.value (.func 3), #[], #[]⟩, (some (some 171, true))⟩,
    ⟨(some 173), .pick (.tmp 171) (.tmp 172) (.const (.bool false)), none⟩,
    ⟨none, .store 4 (.tmp 6) (.tmp 173), none⟩]) .ret)
@[go_sem] theorem c_sheaflaw17_StageRates_50_at (rd : Option Nat) (K : Post3) (t : Fr) (m : Mem) : wpM E 5 174 rd c_sheaflaw17_StageRates_50 K t m = wpM E 5 174 rd (.seq (.ops [⟨(some 167), .load 3 (.tmp 13), none⟩,
    ⟨(some 168), .load 23 (.tmp 8), none⟩,
    ⟨(some 169), .call ⟨.builtin .len, #[(.tmp 168)], #[23]⟩, none⟩,
    ⟨(some 170), .binOp .eql 3 (.tmp 167) (.tmp 169) 3, none⟩,
    ⟨(some 171), .move (.tmp 170), none⟩,
    ⟨(some 172), .call ⟨.value (.func 3), #[], #[]⟩, (some (some 171, true))⟩,
    ⟨(some 173), .pick (.tmp 171) (.tmp 172) (.const (.bool false)), none⟩,
    ⟨none, .store 4 (.tmp 6) (.tmp 173), none⟩]) .ret) K t m := rfl

def c_sheaflaw17_StageRates_51 : MC := (.seq c_sheaflaw17_StageRates_49 c_sheaflaw17_StageRates_50)
@[go_sem] theorem c_sheaflaw17_StageRates_51_at (rd : Option Nat) (K : Post3) (t : Fr) (m : Mem) : wpM E 5 174 rd c_sheaflaw17_StageRates_51 K t m = wpM E 5 174 rd (.seq c_sheaflaw17_StageRates_49 c_sheaflaw17_StageRates_50) K t m := rfl

def c_sheaflaw17_StageRates_52 : MC := (.seq c_sheaflaw17_StageRates_23 c_sheaflaw17_StageRates_51)
@[go_sem] theorem c_sheaflaw17_StageRates_52_at (rd : Option Nat) (K : Post3) (t : Fr) (m : Mem) : wpM E 5 174 rd c_sheaflaw17_StageRates_52 K t m = wpM E 5 174 rd (.seq c_sheaflaw17_StageRates_23 c_sheaflaw17_StageRates_51) K t m := rfl

def c_sheaflaw17_StageRates_53 : MC := (.seq (.draw [(0, [], ⟨(some 85), .load 23 (.tmp 8), none⟩),
    (2, [], ⟨(some 87), .load 23 (.tmp 7), none⟩),
    (1, [2], ⟨(some 86), .call ⟨.value (.func 11), #[(.tmp 85)], #[23]⟩, none⟩),
    (3, [], ⟨(some 88), .call ⟨.value (.func 13), #[(.tmp 87)], #[23]⟩, none⟩),
    (4, [], ⟨(some 89), .call ⟨.value (.func 12), #[(.tmp 86), (.tmp 88)], #[30, 33]⟩, none⟩),
    (5, [], ⟨(some 14), .assign (.tmp 89), none⟩)]) c_sheaflaw17_StageRates_52)
@[go_sem] theorem c_sheaflaw17_StageRates_53_at (rd : Option Nat) (K : Post3) (t : Fr) (m : Mem) : wpM E 5 174 rd c_sheaflaw17_StageRates_53 K t m = wpM E 5 174 rd (.seq (.draw [(0, [], ⟨(some 85), .load 23 (.tmp 8), none⟩),
    (2, [], ⟨(some 87), .load 23 (.tmp 7), none⟩),
    (1, [2], ⟨(some 86), .call ⟨.value (.func 11), #[(.tmp 85)], #[23]⟩, none⟩),
    (3, [], ⟨(some 88), .call ⟨.value (.func 13), #[(.tmp 87)], #[23]⟩, none⟩),
    (4, [], ⟨(some 89), .call ⟨.value (.func 12), #[(.tmp 86), (.tmp 88)], #[30, 33]⟩, none⟩),
    (5, [], ⟨(some 14), .assign (.tmp 89), none⟩)]) c_sheaflaw17_StageRates_52) K t m := rfl

def c_sheaflaw17_StageRates_54 : MC := (.seq (.ops [⟨(some 13), .alloc 3, none⟩,
    ⟨none, .store 3 (.tmp 13) (.const (.int .i64 0)), none⟩]) c_sheaflaw17_StageRates_53)
@[go_sem] theorem c_sheaflaw17_StageRates_54_at (rd : Option Nat) (K : Post3) (t : Fr) (m : Mem) : wpM E 5 174 rd c_sheaflaw17_StageRates_54 K t m = wpM E 5 174 rd (.seq (.ops [⟨(some 13), .alloc 3, none⟩,
    ⟨none, .store 3 (.tmp 13) (.const (.int .i64 0)), none⟩]) c_sheaflaw17_StageRates_53) K t m := rfl

def c_sheaflaw17_StageRates_55 : MC := (.seq (.ops [⟨(some 82), .load 23 (.tmp 8), none⟩,
    ⟨(some 83), .buildSlice 22 2 #[(0, (.const (.int .i64 6))), (1, (.const (.int .i64 3)))], none⟩,
    ⟨(some 84), .call ⟨.value (.func 18), #[(.tmp 82), (.tmp 83)], #[23, 22]⟩, none⟩,
    ⟨none, .store 23 (.tmp 8) (.tmp 84), none⟩]) c_sheaflaw17_StageRates_54)
@[go_sem] theorem c_sheaflaw17_StageRates_55_at (rd : Option Nat) (K : Post3) (t : Fr) (m : Mem) : wpM E 5 174 rd c_sheaflaw17_StageRates_55 K t m = wpM E 5 174 rd (.seq (.ops [⟨(some 82), .load 23 (.tmp 8), none⟩,
    ⟨(some 83), .buildSlice 22 2 #[(0, (.const (.int .i64 6))), (1, (.const (.int .i64 3)))], none⟩,
    ⟨(some 84), .call ⟨.value (.func 18), #[(.tmp 82), (.tmp 83)], #[23, 22]⟩, none⟩,
    ⟨none, .store 23 (.tmp 8) (.tmp 84), none⟩]) c_sheaflaw17_StageRates_54) K t m := rfl

def c_sheaflaw17_StageRates_56 : MC := (.seq c_sheaflaw17_StageRates_20 c_sheaflaw17_StageRates_55)
@[go_sem] theorem c_sheaflaw17_StageRates_56_at (rd : Option Nat) (K : Post3) (t : Fr) (m : Mem) : wpM E 5 174 rd c_sheaflaw17_StageRates_56 K t m = wpM E 5 174 rd (.seq c_sheaflaw17_StageRates_20 c_sheaflaw17_StageRates_55) K t m := rfl

def c_sheaflaw17_StageRates_57 : MC := (.seq c_sheaflaw17_StageRates_8 c_sheaflaw17_StageRates_56)
@[go_sem] theorem c_sheaflaw17_StageRates_57_at (rd : Option Nat) (K : Post3) (t : Fr) (m : Mem) : wpM E 5 174 rd c_sheaflaw17_StageRates_57 K t m = wpM E 5 174 rd (.seq c_sheaflaw17_StageRates_8 c_sheaflaw17_StageRates_56) K t m := rfl

def c_sheaflaw17_StageRates_58 : MC := (.seq (.ops [⟨(some 9), .assign (.const (.int .i64 0)), none⟩]) c_sheaflaw17_StageRates_57)
@[go_sem] theorem c_sheaflaw17_StageRates_58_at (rd : Option Nat) (K : Post3) (t : Fr) (m : Mem) : wpM E 5 174 rd c_sheaflaw17_StageRates_58 K t m = wpM E 5 174 rd (.seq (.ops [⟨(some 9), .assign (.const (.int .i64 0)), none⟩]) c_sheaflaw17_StageRates_57) K t m := rfl

def c_sheaflaw17_StageRates_59 : MC := (.seq (.ops [⟨(some 7), .alloc 23, none⟩,
    ⟨(some 8), .alloc 23, none⟩]) c_sheaflaw17_StageRates_58)
@[go_sem] theorem c_sheaflaw17_StageRates_59_at (rd : Option Nat) (K : Post3) (t : Fr) (m : Mem) : wpM E 5 174 rd c_sheaflaw17_StageRates_59 K t m = wpM E 5 174 rd (.seq (.ops [⟨(some 7), .alloc 23, none⟩,
    ⟨(some 8), .alloc 23, none⟩]) c_sheaflaw17_StageRates_58) K t m := rfl

def c_sheaflaw17_StageRates_60 : MC := (.seq (.ops [⟨(some 6), .alloc 4, none⟩]) c_sheaflaw17_StageRates_59)
@[go_sem] theorem c_sheaflaw17_StageRates_60_at (rd : Option Nat) (K : Post3) (t : Fr) (m : Mem) : wpM E 5 174 rd c_sheaflaw17_StageRates_60 K t m = wpM E 5 174 rd (.seq (.ops [⟨(some 6), .alloc 4, none⟩]) c_sheaflaw17_StageRates_59) K t m := rfl

@[go_sem] theorem some5 : (E.fn 5).isSome = true := by kernel_rfl
set_option maxRecDepth 100000 in
theorem fn_sheaflaw17_StageRates : FnIs E 5 174 [.cell 6 4] c_sheaflaw17_StageRates_60 := ⟨by kernel_rfl, by kernel_rfl⟩

/-! sheaf/sheaflaw17.StageJoins -/
abbrev F_sheaflaw17_StageJoins : FuncId := 6
def c_sheaflaw17_StageJoins_0 : MC := (.cond (.tmp 21) (.ops [⟨none, .store 3 (.tmp 7) (.const (.int .i64 5)), none⟩]) .skip)
@[go_sem] theorem c_sheaflaw17_StageJoins_0_at (rd : Option Nat) (K : Post3) (t : Fr) (m : Mem) : wpM E 6 221 rd c_sheaflaw17_StageJoins_0 K t m = wpM E 6 221 rd (.cond (.tmp 21) (.ops [⟨none, .store 3 (.tmp 7) (.const (.int .i64 5)), none⟩]) .skip) K t m := rfl

def c_sheaflaw17_StageJoins_1 : MC := (.seq (.ops [⟨(some 21), .load 4 (.tmp 5), none⟩]) c_sheaflaw17_StageJoins_0)
@[go_sem] theorem c_sheaflaw17_StageJoins_1_at (rd : Option Nat) (K : Post3) (t : Fr) (m : Mem) : wpM E 6 221 rd c_sheaflaw17_StageJoins_1 K t m = wpM E 6 221 rd (.seq (.ops [⟨(some 21), .load 4 (.tmp 5), none⟩]) c_sheaflaw17_StageJoins_0) K t m := rfl

def c_sheaflaw17_StageJoins_2 : MC := (.cond (.tmp 29) .skip (.exit 0))
@[go_sem] theorem c_sheaflaw17_StageJoins_2_at (rd : Option Nat) (K : Post3) (t : Fr) (m : Mem) : wpM E 6 221 rd c_sheaflaw17_StageJoins_2 K t m = wpM E 6 221 rd (.cond (.tmp 29) .skip (.exit 0)) K t m := rfl

def c_sheaflaw17_StageJoins_3 : MC := (.seq (.ops [⟨(some 22), .move (.tmp 11), none⟩,
    ⟨(some 23), .move (.tmp 1), none⟩,
    ⟨(some 24), .call ⟨.builtin .len, #[(.tmp 23)], #[22]⟩, none⟩,
    ⟨(some 25), .binOp .lss 3 (.tmp 22) (.tmp 24) 3, none⟩,
    ⟨(some 26), .move (.tmp 25), none⟩,
    ⟨(some 27), .move (.tmp 11), (some (some 26, true))⟩,
    ⟨(some 28), .binOp .lss 3 (.tmp 27) (.const (.int .i64 8)) 3, (some (some 26, true))⟩,
    ⟨(some 29), .pick (.tmp 26) (.tmp 28) (.const (.bool false)), none⟩]) c_sheaflaw17_StageJoins_2)
@[go_sem] theorem c_sheaflaw17_StageJoins_3_at (rd : Option Nat) (K : Post3) (t : Fr) (m : Mem) : wpM E 6 221 rd c_sheaflaw17_StageJoins_3 K t m = wpM E 6 221 rd (.seq (.ops [⟨(some 22), .move (.tmp 11), none⟩,
    ⟨(some 23), .move (.tmp 1), none⟩,
    ⟨(some 24), .call ⟨.builtin .len, #[(.tmp 23)], #[22]⟩, none⟩,
    ⟨(some 25), .binOp .lss 3 (.tmp 22) (.tmp 24) 3, none⟩,
    ⟨(some 26), .move (.tmp 25), none⟩,
    ⟨(some 27), .move (.tmp 11), (some (some 26, true))⟩,
    ⟨(some 28), .binOp .lss 3 (.tmp 27) (.const (.int .i64 8)) 3, (some (some 26, true))⟩,
    ⟨(some 29), .pick (.tmp 26) (.tmp 28) (.const (.bool false)), none⟩]) c_sheaflaw17_StageJoins_2) K t m := rfl

def c_sheaflaw17_StageJoins_4 : MC := (.seq (.ops [⟨(some 32), .move (.tmp 10), none⟩,
    ⟨(some 33), .move (.tmp 1), none⟩,
    ⟨(some 34), .move (.tmp 11), none⟩,
    ⟨(some 35), .indexAddr 22 (.tmp 33) (.tmp 34), none⟩,
    ⟨(some 36), .load 3 (.tmp 35), none⟩,
    ⟨(some 37), .call ⟨.value (.func 15), #[(.tmp 36), (.const (.int .i64 1)), (.const (.int .i64 2))], #[3, 3, 3]⟩, none⟩,
    ⟨(some 38), .binOp .add 3 (.tmp 32) (.tmp 37) 3, none⟩,
    ⟨(some 10), .assign (.tmp 38), none⟩]) (.ops [⟨(some 39), .load 23 (.tmp 8), none⟩,
    ⟨(some 40), .move (.tmp 10), none⟩,
    ⟨(some 41), .move (.tmp 10), none⟩,
    ⟨(some 42), .binOp .add 3 (.const (.int .i64 50)) (.tmp 41) 3, none⟩,
    ⟨(some 43), .move (.tmp 10), none⟩,
    ⟨(some 44), .binOp .mul 3 (.const (.int .i64 100)) (.tmp 43) 3, none⟩,
    ⟨(some 45), .buildSlice 22 3 #[(0, (.tmp 40)), (1, (.tmp 42)), (2, (.tmp 44))], none⟩,
    ⟨(some 46), .buildSlice 23 1 #[(0, (.tmp 45))], none⟩,
    ⟨(some 47), .call ⟨.builtin .append, #[(.tmp 39), (.tmp 46)], #[23, 23]⟩, none⟩,
    ⟨none, .store 23 (.tmp 8) (.tmp 47), none⟩]))
@[go_sem] theorem c_sheaflaw17_StageJoins_4_at (rd : Option Nat) (K : Post3) (t : Fr) (m : Mem) : wpM E 6 221 rd c_sheaflaw17_StageJoins_4 K t m = wpM E 6 221 rd (.seq (.ops [⟨(some 32), .move (.tmp 10), none⟩,
    ⟨(some 33), .move (.tmp 1), none⟩,
    ⟨(some 34), .move (.tmp 11), none⟩,
    ⟨(some 35), .indexAddr 22 (.tmp 33) (.tmp 34), none⟩,
    ⟨(some 36), .load 3 (.tmp 35), none⟩,
    ⟨(some 37), .call ⟨.value (.func 15), #[(.tmp 36), (.const (.int .i64 1)), (.const (.int .i64 2))], #[3, 3, 3]⟩, none⟩,
    ⟨(some 38), .binOp .add 3 (.tmp 32) (.tmp 37) 3, none⟩,
    ⟨(some 10), .assign (.tmp 38), none⟩]) (.ops [⟨(some 39), .load 23 (.tmp 8), none⟩,
    ⟨(some 40), .move (.tmp 10), none⟩,
    ⟨(some 41), .move (.tmp 10), none⟩,
    ⟨(some 42), .binOp .add 3 (.const (.int .i64 50)) (.tmp 41) 3, none⟩,
    ⟨(some 43), .move (.tmp 10), none⟩,
    ⟨(some 44), .binOp .mul 3 (.const (.int .i64 100)) (.tmp 43) 3, none⟩,
    ⟨(some 45), .buildSlice 22 3 #[(0, (.tmp 40)), (1, (.tmp 42)), (2, (.tmp 44))], none⟩,
    ⟨(some 46), .buildSlice 23 1 #[(0, (.tmp 45))], none⟩,
    ⟨(some 47), .call ⟨.builtin .append, #[(.tmp 39), (.tmp 46)], #[23, 23]⟩, none⟩,
    ⟨none, .store 23 (.tmp 8) (.tmp 47), none⟩])) K t m := rfl

def c_sheaflaw17_StageJoins_5 : MC := (.block 1 c_sheaflaw17_StageJoins_4)
@[go_sem] theorem c_sheaflaw17_StageJoins_5_at (rd : Option Nat) (K : Post3) (t : Fr) (m : Mem) : wpM E 6 221 rd c_sheaflaw17_StageJoins_5 K t m = wpM E 6 221 rd (.block 1 c_sheaflaw17_StageJoins_4) K t m := rfl

def c_sheaflaw17_StageJoins_6 : MC := (.seq c_sheaflaw17_StageJoins_5 (.ops [⟨(some 30), .move (.tmp 11), none⟩,
    ⟨(some 31), .binOp .add 3 (.tmp 30) (.const (.int .i64 1)) 3, none⟩,
    ⟨(some 11), .assign (.tmp 31), none⟩]))
@[go_sem] theorem c_sheaflaw17_StageJoins_6_at (rd : Option Nat) (K : Post3) (t : Fr) (m : Mem) : wpM E 6 221 rd c_sheaflaw17_StageJoins_6 K t m = wpM E 6 221 rd (.seq c_sheaflaw17_StageJoins_5 (.ops [⟨(some 30), .move (.tmp 11), none⟩,
    ⟨(some 31), .binOp .add 3 (.tmp 30) (.const (.int .i64 1)) 3, none⟩,
    ⟨(some 11), .assign (.tmp 31), none⟩])) K t m := rfl

def c_sheaflaw17_StageJoins_7 : MC := (.seq c_sheaflaw17_StageJoins_3 c_sheaflaw17_StageJoins_6)
@[go_sem] theorem c_sheaflaw17_StageJoins_7_at (rd : Option Nat) (K : Post3) (t : Fr) (m : Mem) : wpM E 6 221 rd c_sheaflaw17_StageJoins_7 K t m = wpM E 6 221 rd (.seq c_sheaflaw17_StageJoins_3 c_sheaflaw17_StageJoins_6) K t m := rfl

def c_sheaflaw17_StageJoins_8 : MC := (.loop c_sheaflaw17_StageJoins_7)
theorem c_sheaflaw17_StageJoins_8_at (rd : Option Nat) (K : Post3) (t : Fr) (m : Mem) : wpM E 6 221 rd c_sheaflaw17_StageJoins_8 K t m = wpM E 6 221 rd (.loop c_sheaflaw17_StageJoins_7) K t m := rfl

def c_sheaflaw17_StageJoins_9 : MC := (.block 0 c_sheaflaw17_StageJoins_8)
theorem c_sheaflaw17_StageJoins_9_at (rd : Option Nat) (K : Post3) (t : Fr) (m : Mem) : wpM E 6 221 rd c_sheaflaw17_StageJoins_9 K t m = wpM E 6 221 rd (.block 0 c_sheaflaw17_StageJoins_8) K t m := rfl

def c_sheaflaw17_StageJoins_10 : MC := (.seq (.ops [⟨(some 11), .assign (.const (.int .i64 0)), none⟩]) c_sheaflaw17_StageJoins_9)
@[go_sem] theorem c_sheaflaw17_StageJoins_10_at (rd : Option Nat) (K : Post3) (t : Fr) (m : Mem) : wpM E 6 221 rd c_sheaflaw17_StageJoins_10 K t m = wpM E 6 221 rd (.seq (.ops [⟨(some 11), .assign (.const (.int .i64 0)), none⟩]) c_sheaflaw17_StageJoins_9) K t m := rfl

def c_sheaflaw17_StageJoins_11 : MC := (.cond (.tmp 55) .skip (.exit 2))
@[go_sem] theorem c_sheaflaw17_StageJoins_11_at (rd : Option Nat) (K : Post3) (t : Fr) (m : Mem) : wpM E 6 221 rd c_sheaflaw17_StageJoins_11 K t m = wpM E 6 221 rd (.cond (.tmp 55) .skip (.exit 2)) K t m := rfl

def c_sheaflaw17_StageJoins_12 : MC := (.seq (.ops [⟨(some 48), .move (.tmp 12), none⟩,
    ⟨(some 49), .move (.tmp 0), none⟩,
    ⟨(some 50), .call ⟨.builtin .len, #[(.tmp 49)], #[22]⟩, none⟩,
    ⟨(some 51), .binOp .lss 3 (.tmp 48) (.tmp 50) 3, none⟩,
    ⟨(some 52), .move (.tmp 51), none⟩,
    ⟨(some 53), .move (.tmp 12), (some (some 52, true))⟩,
    ⟨(some 54), .binOp .lss 3 (.tmp 53) (.const (.int .i64 15)) 3, (some (some 52, true))⟩,
    ⟨(some 55), .pick (.tmp 52) (.tmp 54) (.const (.bool false)), none⟩]) c_sheaflaw17_StageJoins_11)
@[go_sem] theorem c_sheaflaw17_StageJoins_12_at (rd : Option Nat) (K : Post3) (t : Fr) (m : Mem) : wpM E 6 221 rd c_sheaflaw17_StageJoins_12 K t m = wpM E 6 221 rd (.seq (.ops [⟨(some 48), .move (.tmp 12), none⟩,
    ⟨(some 49), .move (.tmp 0), none⟩,
    ⟨(some 50), .call ⟨.builtin .len, #[(.tmp 49)], #[22]⟩, none⟩,
    ⟨(some 51), .binOp .lss 3 (.tmp 48) (.tmp 50) 3, none⟩,
    ⟨(some 52), .move (.tmp 51), none⟩,
    ⟨(some 53), .move (.tmp 12), (some (some 52, true))⟩,
    ⟨(some 54), .binOp .lss 3 (.tmp 53) (.const (.int .i64 15)) 3, (some (some 52, true))⟩,
    ⟨(some 55), .pick (.tmp 52) (.tmp 54) (.const (.bool false)), none⟩]) c_sheaflaw17_StageJoins_11) K t m := rfl

def c_sheaflaw17_StageJoins_13 : MC := (.seq (.draw [(0, [], ⟨(some 61), .move (.tmp 13), none⟩),
    (1, [], ⟨(some 62), .load 3 (.tmp 7), none⟩),
    (2, [], ⟨(some 63), .move (.tmp 0), none⟩),
    (3, [], ⟨(some 64), .move (.tmp 12), none⟩),
    (4, [], ⟨(some 65), .indexAddr 22 (.tmp 63) (.tmp 64), none⟩),
    (5, [], ⟨(some 66), .load 3 (.tmp 65), none⟩),
    (6, [1], ⟨(some 67), .call ⟨.value (.func 15), #[(.tmp 66), (.const (.int .i64 0)), (.const (.int .i64 12))], #[3, 3, 3]⟩, none⟩),
    (7, [], ⟨(some 68), .indexAddr 22 (.tmp 61) (.tmp 62), none⟩),
    (8, [], ⟨none, .store 3 (.tmp 68) (.tmp 67), none⟩)]) (.ops [⟨(some 69), .load 23 (.tmp 9), none⟩,
    ⟨(some 70), .move (.tmp 13), none⟩,
    ⟨(some 71), .buildSlice 23 1 #[(0, (.tmp 70))], none⟩,
    ⟨(some 72), .call ⟨.builtin .append, #[(.tmp 69), (.tmp 71)], #[23, 23]⟩, none⟩,
    ⟨none, .store 23 (.tmp 9) (.tmp 72), none⟩]))
@[go_sem] theorem c_sheaflaw17_StageJoins_13_at (rd : Option Nat) (K : Post3) (t : Fr) (m : Mem) : wpM E 6 221 rd c_sheaflaw17_StageJoins_13 K t m = wpM E 6 221 rd (.seq (.draw [(0, [], ⟨(some 61), .move (.tmp 13), none⟩),
    (1, [], ⟨(some 62), .load 3 (.tmp 7), none⟩),
    (2, [], ⟨(some 63), .move (.tmp 0), none⟩),
    (3, [], ⟨(some 64), .move (.tmp 12), none⟩),
    (4, [], ⟨(some 65), .indexAddr 22 (.tmp 63) (.tmp 64), none⟩),
    (5, [], ⟨(some 66), .load 3 (.tmp 65), none⟩),
    (6, [1], ⟨(some 67), .call ⟨.value (.func 15), #[(.tmp 66), (.const (.int .i64 0)), (.const (.int .i64 12))], #[3, 3, 3]⟩, none⟩),
    (7, [], ⟨(some 68), .indexAddr 22 (.tmp 61) (.tmp 62), none⟩),
    (8, [], ⟨none, .store 3 (.tmp 68) (.tmp 67), none⟩)]) (.ops [⟨(some 69), .load 23 (.tmp 9), none⟩,
    ⟨(some 70), .move (.tmp 13), none⟩,
    ⟨(some 71), .buildSlice 23 1 #[(0, (.tmp 70))], none⟩,
    ⟨(some 72), .call ⟨.builtin .append, #[(.tmp 69), (.tmp 71)], #[23, 23]⟩, none⟩,
    ⟨none, .store 23 (.tmp 9) (.tmp 72), none⟩])) K t m := rfl

def c_sheaflaw17_StageJoins_14 : MC := (.seq (.ops [⟨(some 58), .move (.tmp 12), none⟩,
    ⟨(some 59), .binOp .add 3 (.tmp 58) (.const (.int .i64 1)) 3, none⟩,
    ⟨(some 60), .buildSlice 22 6 #[(0, (.tmp 59)), (1, (.const (.int .i64 99))), (2, (.const (.int .i64 1))), (3, (.const (.int .i64 10))), (4, (.const (.int .i64 5))), (5, (.const (.int .i64 0)))], none⟩,
    ⟨(some 13), .assign (.tmp 60), none⟩]) c_sheaflaw17_StageJoins_13)
@[go_sem] theorem c_sheaflaw17_StageJoins_14_at (rd : Option Nat) (K : Post3) (t : Fr) (m : Mem) : wpM E 6 221 rd c_sheaflaw17_StageJoins_14 K t m = wpM E 6 221 rd (.seq (.ops [⟨(some 58), .move (.tmp 12), none⟩,
    ⟨(some 59), .binOp .add 3 (.tmp 58) (.const (.int .i64 1)) 3, none⟩,
    ⟨(some 60), .buildSlice 22 6 #[(0, (.tmp 59)), (1, (.const (.int .i64 99))), (2, (.const (.int .i64 1))), (3, (.const (.int .i64 10))), (4, (.const (.int .i64 5))), (5, (.const (.int .i64 0)))], none⟩,
    ⟨(some 13), .assign (.tmp 60), none⟩]) c_sheaflaw17_StageJoins_13) K t m := rfl

def c_sheaflaw17_StageJoins_15 : MC := (.block 3 c_sheaflaw17_StageJoins_14)
@[go_sem] theorem c_sheaflaw17_StageJoins_15_at (rd : Option Nat) (K : Post3) (t : Fr) (m : Mem) : wpM E 6 221 rd c_sheaflaw17_StageJoins_15 K t m = wpM E 6 221 rd (.block 3 c_sheaflaw17_StageJoins_14) K t m := rfl

def c_sheaflaw17_StageJoins_16 : MC := (.seq c_sheaflaw17_StageJoins_15 (.ops [⟨(some 56), .move (.tmp 12), none⟩,
    ⟨(some 57), .binOp .add 3 (.tmp 56) (.const (.int .i64 1)) 3, none⟩,
    ⟨(some 12), .assign (.tmp 57), none⟩]))
@[go_sem] theorem c_sheaflaw17_StageJoins_16_at (rd : Option Nat) (K : Post3) (t : Fr) (m : Mem) : wpM E 6 221 rd c_sheaflaw17_StageJoins_16 K t m = wpM E 6 221 rd (.seq c_sheaflaw17_StageJoins_15 (.ops [⟨(some 56), .move (.tmp 12), none⟩,
    ⟨(some 57), .binOp .add 3 (.tmp 56) (.const (.int .i64 1)) 3, none⟩,
    ⟨(some 12), .assign (.tmp 57), none⟩])) K t m := rfl

def c_sheaflaw17_StageJoins_17 : MC := (.seq c_sheaflaw17_StageJoins_12 c_sheaflaw17_StageJoins_16)
@[go_sem] theorem c_sheaflaw17_StageJoins_17_at (rd : Option Nat) (K : Post3) (t : Fr) (m : Mem) : wpM E 6 221 rd c_sheaflaw17_StageJoins_17 K t m = wpM E 6 221 rd (.seq c_sheaflaw17_StageJoins_12 c_sheaflaw17_StageJoins_16) K t m := rfl

def c_sheaflaw17_StageJoins_18 : MC := (.loop c_sheaflaw17_StageJoins_17)
theorem c_sheaflaw17_StageJoins_18_at (rd : Option Nat) (K : Post3) (t : Fr) (m : Mem) : wpM E 6 221 rd c_sheaflaw17_StageJoins_18 K t m = wpM E 6 221 rd (.loop c_sheaflaw17_StageJoins_17) K t m := rfl

def c_sheaflaw17_StageJoins_19 : MC := (.block 2 c_sheaflaw17_StageJoins_18)
theorem c_sheaflaw17_StageJoins_19_at (rd : Option Nat) (K : Post3) (t : Fr) (m : Mem) : wpM E 6 221 rd c_sheaflaw17_StageJoins_19 K t m = wpM E 6 221 rd (.block 2 c_sheaflaw17_StageJoins_18) K t m := rfl

def c_sheaflaw17_StageJoins_20 : MC := (.seq (.ops [⟨(some 12), .assign (.const (.int .i64 0)), none⟩]) c_sheaflaw17_StageJoins_19)
@[go_sem] theorem c_sheaflaw17_StageJoins_20_at (rd : Option Nat) (K : Post3) (t : Fr) (m : Mem) : wpM E 6 221 rd c_sheaflaw17_StageJoins_20 K t m = wpM E 6 221 rd (.seq (.ops [⟨(some 12), .assign (.const (.int .i64 0)), none⟩]) c_sheaflaw17_StageJoins_19) K t m := rfl

def c_sheaflaw17_StageJoins_21 : MC := (.cond (.tmp 82) (.draw [(0, [], ⟨(some 83), .load 23 (.tmp 9), none⟩),
    (2, [], ⟨(some 85), .load 23 (.tmp 8), none⟩),
    (1, [2], ⟨(some 84), .call ⟨.value (.func 11), #[(.tmp 83)], #[23]⟩, none⟩),
    (3, [], ⟨(some 86), .call ⟨.value (.func 13), #[(.tmp 85)], #[23]⟩, none⟩),
    (4, [], ⟨(some 87), .call ⟨.value (.func 20), #[(.tmp 84), (.tmp 86)], #[30, 33]⟩, none⟩),
    (5, [], ⟨(some 14), .assign (.tmp 87), none⟩)]) .skip)
@[go_sem] theorem c_sheaflaw17_StageJoins_21_at (rd : Option Nat) (K : Post3) (t : Fr) (m : Mem) : wpM E 6 221 rd c_sheaflaw17_StageJoins_21 K t m = wpM E 6 221 rd (.cond (.tmp 82) (.draw [(0, [], ⟨(some 83), .load 23 (.tmp 9), none⟩),
    (2, [], ⟨(some 85), .load 23 (.tmp 8), none⟩),
    (1, [2], ⟨(some 84), .call ⟨.value (.func 11), #[(.tmp 83)], #[23]⟩, none⟩),
    (3, [], ⟨(some 86), .call ⟨.value (.func 13), #[(.tmp 85)], #[23]⟩, none⟩),
    (4, [], ⟨(some 87), .call ⟨.value (.func 20), #[(.tmp 84), (.tmp 86)], #[30, 33]⟩, none⟩),
    (5, [], ⟨(some 14), .assign (.tmp 87), none⟩)]) .skip) K t m := rfl

def c_sheaflaw17_StageJoins_22 : MC := (.seq (.ops [⟨(some 82), .load 4 (.tmp 5), none⟩]) c_sheaflaw17_StageJoins_21)
@[go_sem] theorem c_sheaflaw17_StageJoins_22_at (rd : Option Nat) (K : Post3) (t : Fr) (m : Mem) : wpM E 6 221 rd c_sheaflaw17_StageJoins_22 K t m = wpM E 6 221 rd (.seq (.ops [⟨(some 82), .load 4 (.tmp 5), none⟩]) c_sheaflaw17_StageJoins_21) K t m := rfl

def c_sheaflaw17_StageJoins_23 : MC := (.seq (.ops [⟨none, .store 4 (.tmp 6) (.const (.bool false)), none⟩]) .ret)
@[go_sem] theorem c_sheaflaw17_StageJoins_23_at (rd : Option Nat) (K : Post3) (t : Fr) (m : Mem) : wpM E 6 221 rd c_sheaflaw17_StageJoins_23 K t m = wpM E 6 221 rd (.seq (.ops [⟨none, .store 4 (.tmp 6) (.const (.bool false)), none⟩]) .ret) K t m := rfl

def c_sheaflaw17_StageJoins_24 : MC := (.cond (.tmp 89) c_sheaflaw17_StageJoins_23 .skip)
@[go_sem] theorem c_sheaflaw17_StageJoins_24_at (rd : Option Nat) (K : Post3) (t : Fr) (m : Mem) : wpM E 6 221 rd c_sheaflaw17_StageJoins_24 K t m = wpM E 6 221 rd (.cond (.tmp 89) c_sheaflaw17_StageJoins_23 .skip) K t m := rfl

def c_sheaflaw17_StageJoins_25 : MC := (.seq (.ops [⟨(some 88), .move (.tmp 14), none⟩,
    ⟨(some 89), .binOp .eql 27 (.tmp 88) (.const .nilFunc) 27, none⟩]) c_sheaflaw17_StageJoins_24)
@[go_sem] theorem c_sheaflaw17_StageJoins_25_at (rd : Option Nat) (K : Post3) (t : Fr) (m : Mem) : wpM E 6 221 rd c_sheaflaw17_StageJoins_25 K t m = wpM E 6 221 rd (.seq (.ops [⟨(some 88), .move (.tmp 14), none⟩,
    ⟨(some 89), .binOp .eql 27 (.tmp 88) (.const .nilFunc) 27, none⟩]) c_sheaflaw17_StageJoins_24) K t m := rfl

def c_sheaflaw17_StageJoins_26 : MC := (.seq (.ops [⟨(some 16), .assign (.tmp 91), none⟩]) (.ops [⟨(some 17), .assign (.tmp 92), none⟩]))
@[go_sem] theorem c_sheaflaw17_StageJoins_26_at (rd : Option Nat) (K : Post3) (t : Fr) (m : Mem) : wpM E 6 221 rd c_sheaflaw17_StageJoins_26 K t m = wpM E 6 221 rd (.seq (.ops [⟨(some 16), .assign (.tmp 91), none⟩]) (.ops [⟨(some 17), .assign (.tmp 92), none⟩])) K t m := rfl

def c_sheaflaw17_StageJoins_27 : MC := (.seq (.ops [⟨none, .store 4 (.tmp 6) (.const (.bool false)), none⟩]) .ret)
@[go_sem] theorem c_sheaflaw17_StageJoins_27_at (rd : Option Nat) (K : Post3) (t : Fr) (m : Mem) : wpM E 6 221 rd c_sheaflaw17_StageJoins_27 K t m = wpM E 6 221 rd (.seq (.ops [⟨none, .store 4 (.tmp 6) (.const (.bool false)), none⟩]) .ret) K t m := rfl

def c_sheaflaw17_StageJoins_28 : MC := (.cond (.tmp 111) c_sheaflaw17_StageJoins_27 .skip)
@[go_sem] theorem c_sheaflaw17_StageJoins_28_at (rd : Option Nat) (K : Post3) (t : Fr) (m : Mem) : wpM E 6 221 rd c_sheaflaw17_StageJoins_28 K t m = wpM E 6 221 rd (.cond (.tmp 111) c_sheaflaw17_StageJoins_27 .skip) K t m := rfl

def c_sheaflaw17_StageJoins_29 : MC := (.seq (.ops [⟨(some 93), .load 3 (.tmp 15), none⟩,
    ⟨(some 94), .load 23 (.tmp 9), none⟩,
    ⟨(some 95), .call ⟨.builtin .len, #[(.tmp 94)], #[23]⟩, none⟩,
    ⟨(some 96), .binOp .geq 3 (.tmp 93) (.tmp 95) 3, none⟩,
    ⟨(some 97), .move (.tmp 96), none⟩,
    ⟨(some 98), .move (.tmp 16), (some (some 97, false))⟩,
    ⟨(some 99), .call ⟨.builtin .len, #[(.tmp 98)], #[22]⟩, (some (some 97, false))⟩,
    ⟨(some 100), .binOp .lss 3 (.tmp 99) (.const (.int .i64 6)) 3, (some (some 97, false))⟩,
    ⟨(some 101), .pick (.tmp 97) (.const (.bool true)) (.tmp 100), none⟩,
    ⟨(some 102), .move (.tmp 101), none⟩,
    ⟨(some 103), .move (.tmp 16), (some (some 102, false))⟩,
    ⟨(some 104), .slice 22 (.tmp 103) none (some (.const (.int .i64 6))) none, (some (some 102, false))⟩,
    ⟨(some 105), .load 23 (.tmp 9), (some (some 102, false))⟩,
    ⟨(some 106), .load 3 (.tmp 15), (some (some 102, false))⟩,
    ⟨(some 107), .indexAddr 23 (.tmp 105) (.tmp 106), (some (some 102, false))⟩,
    ⟨(some 108), .load 22 (.tmp 107), (some (some 102, false))⟩,
    ⟨(some 109), .call ⟨.value (.func 17), #[(.tmp 104), (.tmp 108)], #[22, 22]⟩, (some (some 102, false))⟩,
    ⟨(some 110), .unOp .not 4 (.tmp 109), (some (some 102, false))⟩,
    ⟨(some 111), .pick (.tmp 102) (.const (.bool true)) (.tmp 110), none⟩]) c_sheaflaw17_StageJoins_28)
@[go_sem] theorem c_sheaflaw17_StageJoins_29_at (rd : Option Nat) (K : Post3) (t : Fr) (m : Mem) : wpM E 6 221 rd c_sheaflaw17_StageJoins_29 K t m = wpM E 6 221 rd (.seq (.ops [⟨(some 93), .load 3 (.tmp 15), none⟩,
    ⟨(some 94), .load 23 (.tmp 9), none⟩,
    ⟨(some 95), .call ⟨.builtin .len, #[(.tmp 94)], #[23]⟩, none⟩,
    ⟨(some 96), .binOp .geq 3 (.tmp 93) (.tmp 95) 3, none⟩,
    ⟨(some 97), .move (.tmp 96), none⟩,
    ⟨(some 98), .move (.tmp 16), (some (some 97, false))⟩,
    ⟨(some 99), .call ⟨.builtin .len, #[(.tmp 98)], #[22]⟩, (some (some 97, false))⟩,
    ⟨(some 100), .binOp .lss 3 (.tmp 99) (.const (.int .i64 6)) 3, (some (some 97, false))⟩,
    ⟨(some 101), .pick (.tmp 97) (.const (.bool true)) (.tmp 100), none⟩,
    ⟨(some 102), .move (.tmp 101), none⟩,
    ⟨(some 103), .move (.tmp 16), (some (some 102, false))⟩,
    ⟨(some 104), .slice 22 (.tmp 103) none (some (.const (.int .i64 6))) none, (some (some 102, false))⟩,
    ⟨(some 105), .load 23 (.tmp 9), (some (some 102, false))⟩,
    ⟨(some 106), .load 3 (.tmp 15), (some (some 102, false))⟩,
    ⟨(some 107), .indexAddr 23 (.tmp 105) (.tmp 106), (some (some 102, false))⟩,
    ⟨(some 108), .load 22 (.tmp 107), (some (some 102, false))⟩,
    ⟨(some 109), .call ⟨.value (.func 17), #[(.tmp 104), (.tmp 108)], #[22, 22]⟩, (some (some 102, false))⟩,
    ⟨(some 110), .unOp .not 4 (.tmp 109), (some (some 102, false))⟩,
    ⟨(some 111), .pick (.tmp 102) (.const (.bool true)) (.tmp 110), none⟩]) c_sheaflaw17_StageJoins_28) K t m := rfl

def c_sheaflaw17_StageJoins_30 : MC := (.cond (.tmp 115) .skip (.exit 6))
@[go_sem] theorem c_sheaflaw17_StageJoins_30_at (rd : Option Nat) (K : Post3) (t : Fr) (m : Mem) : wpM E 6 221 rd c_sheaflaw17_StageJoins_30 K t m = wpM E 6 221 rd (.cond (.tmp 115) .skip (.exit 6)) K t m := rfl

def c_sheaflaw17_StageJoins_31 : MC := (.cond (.tmp 125) (.ops [⟨(some 126), .move (.tmp 20), none⟩,
    ⟨(some 18), .assign (.tmp 126), none⟩]) .skip)
@[go_sem] theorem c_sheaflaw17_StageJoins_31_at (rd : Option Nat) (K : Post3) (t : Fr) (m : Mem) : wpM E 6 221 rd c_sheaflaw17_StageJoins_31 K t m = wpM E 6 221 rd (.cond (.tmp 125) (.ops [⟨(some 126), .move (.tmp 20), none⟩,
    ⟨(some 18), .assign (.tmp 126), none⟩]) .skip) K t m := rfl

def c_sheaflaw17_StageJoins_32 : MC := (.seq (.ops [⟨(some 118), .move (.tmp 20), none⟩,
    ⟨(some 119), .indexAddr 22 (.tmp 118) (.const (.int .i64 0)), none⟩,
    ⟨(some 120), .load 3 (.tmp 119), none⟩,
    ⟨(some 121), .move (.tmp 16), none⟩,
    ⟨(some 122), .load 3 (.tmp 7), none⟩,
    ⟨(some 123), .indexAddr 22 (.tmp 121) (.tmp 122), none⟩,
    ⟨(some 124), .load 3 (.tmp 123), none⟩,
    ⟨(some 125), .binOp .eql 3 (.tmp 120) (.tmp 124) 3, none⟩]) c_sheaflaw17_StageJoins_31)
@[go_sem] theorem c_sheaflaw17_StageJoins_32_at (rd : Option Nat) (K : Post3) (t : Fr) (m : Mem) : wpM E 6 221 rd c_sheaflaw17_StageJoins_32 K t m = wpM E 6 221 rd (.seq (.ops [⟨(some 118), .move (.tmp 20), none⟩,
    ⟨(some 119), .indexAddr 22 (.tmp 118) (.const (.int .i64 0)), none⟩,
    ⟨(some 120), .load 3 (.tmp 119), none⟩,
    ⟨(some 121), .move (.tmp 16), none⟩,
    ⟨(some 122), .load 3 (.tmp 7), none⟩,
    ⟨(some 123), .indexAddr 22 (.tmp 121) (.tmp 122), none⟩,
    ⟨(some 124), .load 3 (.tmp 123), none⟩,
    ⟨(some 125), .binOp .eql 3 (.tmp 120) (.tmp 124) 3, none⟩]) c_sheaflaw17_StageJoins_31) K t m := rfl

def c_sheaflaw17_StageJoins_33 : MC := (.seq (.ops [⟨(some 116), .indexAddr 23 (.tmp 112) (.tmp 114), none⟩,
    ⟨(some 117), .load 22 (.tmp 116), none⟩,
    ⟨(some 20), .assign (.tmp 117), none⟩]) c_sheaflaw17_StageJoins_32)
@[go_sem] theorem c_sheaflaw17_StageJoins_33_at (rd : Option Nat) (K : Post3) (t : Fr) (m : Mem) : wpM E 6 221 rd c_sheaflaw17_StageJoins_33 K t m = wpM E 6 221 rd (.seq (.ops [⟨(some 116), .indexAddr 23 (.tmp 112) (.tmp 114), none⟩,
    ⟨(some 117), .load 22 (.tmp 116), none⟩,
    ⟨(some 20), .assign (.tmp 117), none⟩]) c_sheaflaw17_StageJoins_32) K t m := rfl

def c_sheaflaw17_StageJoins_34 : MC := (.block 7 c_sheaflaw17_StageJoins_33)
@[go_sem] theorem c_sheaflaw17_StageJoins_34_at (rd : Option Nat) (K : Post3) (t : Fr) (m : Mem) : wpM E 6 221 rd c_sheaflaw17_StageJoins_34 K t m = wpM E 6 221 rd (.block 7 c_sheaflaw17_StageJoins_33) K t m := rfl

def c_sheaflaw17_StageJoins_35 : MC := (.seq c_sheaflaw17_StageJoins_34 (.ops [⟨(some 127), .binOp .add 3 (.tmp 114) (.const (.int .i64 1)) 3, none⟩,
    ⟨(some 114), .move (.tmp 127), none⟩]))
@[go_sem] theorem c_sheaflaw17_StageJoins_35_at (rd : Option Nat) (K : Post3) (t : Fr) (m : Mem) : wpM E 6 221 rd c_sheaflaw17_StageJoins_35 K t m = wpM E 6 221 rd (.seq c_sheaflaw17_StageJoins_34 (.ops [⟨(some 127), .binOp .add 3 (.tmp 114) (.const (.int .i64 1)) 3, none⟩,
    ⟨(some 114), .move (.tmp 127), none⟩])) K t m := rfl

def c_sheaflaw17_StageJoins_36 : MC := (.seq c_sheaflaw17_StageJoins_30 c_sheaflaw17_StageJoins_35)
@[go_sem] theorem c_sheaflaw17_StageJoins_36_at (rd : Option Nat) (K : Post3) (t : Fr) (m : Mem) : wpM E 6 221 rd c_sheaflaw17_StageJoins_36 K t m = wpM E 6 221 rd (.seq c_sheaflaw17_StageJoins_30 c_sheaflaw17_StageJoins_35) K t m := rfl

def c_sheaflaw17_StageJoins_37 : MC := (.seq (.ops [⟨(some 115), .binOp .lss 3 (.tmp 114) (.tmp 113) 3, none⟩]) c_sheaflaw17_StageJoins_36)
@[go_sem] theorem c_sheaflaw17_StageJoins_37_at (rd : Option Nat) (K : Post3) (t : Fr) (m : Mem) : wpM E 6 221 rd c_sheaflaw17_StageJoins_37 K t m = wpM E 6 221 rd (.seq (.ops [⟨(some 115), .binOp .lss 3 (.tmp 114) (.tmp 113) 3, none⟩]) c_sheaflaw17_StageJoins_36) K t m := rfl

def c_sheaflaw17_StageJoins_38 : MC := (.loop c_sheaflaw17_StageJoins_37)
theorem c_sheaflaw17_StageJoins_38_at (rd : Option Nat) (K : Post3) (t : Fr) (m : Mem) : wpM E 6 221 rd c_sheaflaw17_StageJoins_38 K t m = wpM E 6 221 rd (.loop c_sheaflaw17_StageJoins_37) K t m := rfl

def c_sheaflaw17_StageJoins_39 : MC := (.block 6 c_sheaflaw17_StageJoins_38)
theorem c_sheaflaw17_StageJoins_39_at (rd : Option Nat) (K : Post3) (t : Fr) (m : Mem) : wpM E 6 221 rd c_sheaflaw17_StageJoins_39 K t m = wpM E 6 221 rd (.block 6 c_sheaflaw17_StageJoins_38) K t m := rfl

def c_sheaflaw17_StageJoins_40 : MC := (.seq (.ops [⟨(some 112), .load 23 (.tmp 8), none⟩,
    ⟨(some 113), .call ⟨.builtin .len, #[(.tmp 112)], #[23]⟩, none⟩,
    ⟨(some 114), .move (.const (.int .i64 0)), none⟩]) c_sheaflaw17_StageJoins_39)
@[go_sem] theorem c_sheaflaw17_StageJoins_40_at (rd : Option Nat) (K : Post3) (t : Fr) (m : Mem) : wpM E 6 221 rd c_sheaflaw17_StageJoins_40 K t m = wpM E 6 221 rd (.seq (.ops [⟨(some 112), .load 23 (.tmp 8), none⟩,
    ⟨(some 113), .call ⟨.builtin .len, #[(.tmp 112)], #[23]⟩, none⟩,
    ⟨(some 114), .move (.const (.int .i64 0)), none⟩]) c_sheaflaw17_StageJoins_39) K t m := rfl

def c_sheaflaw17_StageJoins_41 : MC := (.seq (.ops [⟨none, .store 4 (.tmp 6) (.const (.bool false)), none⟩]) .ret)
@[go_sem] theorem c_sheaflaw17_StageJoins_41_at (rd : Option Nat) (K : Post3) (t : Fr) (m : Mem) : wpM E 6 221 rd c_sheaflaw17_StageJoins_41 K t m = wpM E 6 221 rd (.seq (.ops [⟨none, .store 4 (.tmp 6) (.const (.bool false)), none⟩]) .ret) K t m := rfl

def c_sheaflaw17_StageJoins_42 : MC := (.seq (.ops [⟨none, .store 4 (.tmp 6) (.const (.bool false)), none⟩]) .ret)
@[go_sem] theorem c_sheaflaw17_StageJoins_42_at (rd : Option Nat) (K : Post3) (t : Fr) (m : Mem) : wpM E 6 221 rd c_sheaflaw17_StageJoins_42 K t m = wpM E 6 221 rd (.seq (.ops [⟨none, .store 4 (.tmp 6) (.const (.bool false)), none⟩]) .ret) K t m := rfl

def c_sheaflaw17_StageJoins_43 : MC := (.seq (.ops [⟨none, .store 4 (.tmp 6) (.const (.bool false)), none⟩]) .ret)
@[go_sem] theorem c_sheaflaw17_StageJoins_43_at (rd : Option Nat) (K : Post3) (t : Fr) (m : Mem) : wpM E 6 221 rd c_sheaflaw17_StageJoins_43 K t m = wpM E 6 221 rd (.seq (.ops [⟨none, .store 4 (.tmp 6) (.const (.bool false)), none⟩]) .ret) K t m := rfl

def c_sheaflaw17_StageJoins_44 : MC := (.seq (.ops [⟨none, .store 4 (.tmp 6) (.const (.bool false)), none⟩]) .ret)
@[go_sem] theorem c_sheaflaw17_StageJoins_44_at (rd : Option Nat) (K : Post3) (t : Fr) (m : Mem) : wpM E 6 221 rd c_sheaflaw17_StageJoins_44 K t m = wpM E 6 221 rd (.seq (.ops [⟨none, .store 4 (.tmp 6) (.const (.bool false)), none⟩]) .ret) K t m := rfl

def c_sheaflaw17_StageJoins_45 : MC := (.cond (.tmp 177) c_sheaflaw17_StageJoins_44 .skip)
@[go_sem] theorem c_sheaflaw17_StageJoins_45_at (rd : Option Nat) (K : Post3) (t : Fr) (m : Mem) : wpM E 6 221 rd c_sheaflaw17_StageJoins_45 K t m = wpM E 6 221 rd (.cond (.tmp 177) c_sheaflaw17_StageJoins_44 .skip) K t m := rfl

def c_sheaflaw17_StageJoins_46 : MC := (.seq (.ops [⟨(some 178), .load 4 (.tmp 5), none⟩,
    ⟨(some 179), .unOp .not 4 (.tmp 178), none⟩,
    ⟨(some 180), .move (.tmp 179), none⟩,
    ⟨(some 181), .move (.tmp 18), (some (some 180, true))⟩,
    ⟨(some 182), .call ⟨.builtin .len, #[(.tmp 181)], #[22]⟩, (some (some 180, true))⟩,
    ⟨(some 183), .binOp .gtr 3 (.tmp 182) (.const (.int .i64 0)) 3, (some (some 180, true))⟩,
    ⟨(some 184), .pick (.tmp 180) (.tmp 183) (.const (.bool false)), none⟩,
    ⟨(some 185), .move (.tmp 184), none⟩,
    ⟨(some 186), .move (.tmp 17), (some (some 185, true))⟩,
    ⟨(some 187), .binOp .neq 3 (.tmp 186) (.const (.int .i64 0)) 3, (some (some 185, true))⟩,
    ⟨(some 188), .move (.tmp 187), (some (some 185, true))⟩,
    ⟨(some 189), .move (.tmp 16), (some (some 188, false))⟩,
    ⟨(some 190), .call ⟨.builtin .len, #[(.tmp 189)], #[22]⟩, (some (some 188, false))⟩,
    ⟨(some 191), .binOp .neq 3 (.tmp 190) (.const (.int .i64 8)) 3, (some (some 188, false))⟩,
    ⟨(some 192), .pick (.tmp 188) (.const (.bool true)) (.tmp 191), (some (some 185, true))⟩,
    ⟨(some 193), .move (.tmp 192), (some (some 185, true))⟩,
    ⟨(some 194), .move (.tmp 16), (some (some 193, false))⟩,
    ⟨(some 195), .indexAddr 22 (.tmp 194) (.const (.int .i64 6)), (some (some 193, false))⟩,
    ⟨(some 196), .load 3 (.tmp 195), (some (some 193, false))⟩,
    ⟨(some 197), .move (.tmp 18), (some (some 193, false))⟩,
    ⟨(some 198), .indexAddr 22 (.tmp 197) (.const (.int .i64 1)), (some (some 193, false))⟩,
    ⟨(some 199), .load 3 (.tmp 198), (some (some 193, false))⟩,
    ⟨(some 200), .binOp .neq 3 (.tmp 196) (.tmp 199) 3, (some (some 193, false))⟩,
    ⟨(some 201), .pick (.tmp 193) (.const (.bool true)) (.tmp 200), (some (some 185, true))⟩,
    ⟨(some 202), .move (.tmp 201), (some (some 185, true))⟩,
    ⟨(some 203), .move (.tmp 16), (some (some 202, false))⟩,
    ⟨(some 204), .indexAddr 22 (.tmp 203) (.const (.int .i64 7)), (some (some 202, false))⟩,
    ⟨(some 205), .load 3 (.tmp 204), (some (some 202, false))⟩,
    ⟨(some 206), .move (.tmp 18), (some (some 202, false))⟩,
    ⟨(some 207), .indexAddr 22 (.tmp 206) (.const (.int .i64 2)), (some (some 202, false))⟩,
    ⟨(some 208), .load 3 (.tmp 207), (some (some 202, false))⟩,
    ⟨(some 209), .binOp .neq 3 (.tmp 205) (.tmp 208) 3, (some (some 202, false))⟩,
    ⟨(some 210), .pick (.tmp 202) (.const (.bool true)) (.tmp 209), (some (some 185, true))⟩,
    ⟨(some 211), .pick (.tmp 185) (.tmp 210) (.const (.bool false)), none⟩,
    ⟨(some 177), .assign (.tmp 211), none⟩]) c_sheaflaw17_StageJoins_45)
@[go_sem] theorem c_sheaflaw17_StageJoins_46_at (rd : Option Nat) (K : Post3) (t : Fr) (m : Mem) : wpM E 6 221 rd c_sheaflaw17_StageJoins_46 K t m = wpM E 6 221 rd (.seq (.ops [⟨(some 178), .load 4 (.tmp 5), none⟩,
    ⟨(some 179), .unOp .not 4 (.tmp 178), none⟩,
    ⟨(some 180), .move (.tmp 179), none⟩,
    ⟨(some 181), .move (.tmp 18), (some (some 180, true))⟩,
    ⟨(some 182), .call ⟨.builtin .len, #[(.tmp 181)], #[22]⟩, (some (some 180, true))⟩,
    ⟨(some 183), .binOp .gtr 3 (.tmp 182) (.const (.int .i64 0)) 3, (some (some 180, true))⟩,
    ⟨(some 184), .pick (.tmp 180) (.tmp 183) (.const (.bool false)), none⟩,
    ⟨(some 185), .move (.tmp 184), none⟩,
    ⟨(some 186), .move (.tmp 17), (some (some 185, true))⟩,
    ⟨(some 187), .binOp .neq 3 (.tmp 186) (.const (.int .i64 0)) 3, (some (some 185, true))⟩,
    ⟨(some 188), .move (.tmp 187), (some (some 185, true))⟩,
    ⟨(some 189), .move (.tmp 16), (some (some 188, false))⟩,
    ⟨(some 190), .call ⟨.builtin .len, #[(.tmp 189)], #[22]⟩, (some (some 188, false))⟩,
    ⟨(some 191), .binOp .neq 3 (.tmp 190) (.const (.int .i64 8)) 3, (some (some 188, false))⟩,
    ⟨(some 192), .pick (.tmp 188) (.const (.bool true)) (.tmp 191), (some (some 185, true))⟩,
    ⟨(some 193), .move (.tmp 192), (some (some 185, true))⟩,
    ⟨(some 194), .move (.tmp 16), (some (some 193, false))⟩,
    ⟨(some 195), .indexAddr 22 (.tmp 194) (.const (.int .i64 6)), (some (some 193, false))⟩,
    ⟨(some 196), .load 3 (.tmp 195), (some (some 193, false))⟩,
    ⟨(some 197), .move (.tmp 18), (some (some 193, false))⟩,
    ⟨(some 198), .indexAddr 22 (.tmp 197) (.const (.int .i64 1)), (some (some 193, false))⟩,
    ⟨(some 199), .load 3 (.tmp 198), (some (some 193, false))⟩,
    ⟨(some 200), .binOp .neq 3 (.tmp 196) (.tmp 199) 3, (some (some 193, false))⟩,
    ⟨(some 201), .pick (.tmp 193) (.const (.bool true)) (.tmp 200), (some (some 185, true))⟩,
    ⟨(some 202), .move (.tmp 201), (some (some 185, true))⟩,
    ⟨(some 203), .move (.tmp 16), (some (some 202, false))⟩,
    ⟨(some 204), .indexAddr 22 (.tmp 203) (.const (.int .i64 7)), (some (some 202, false))⟩,
    ⟨(some 205), .load 3 (.tmp 204), (some (some 202, false))⟩,
    ⟨(some 206), .move (.tmp 18), (some (some 202, false))⟩,
    ⟨(some 207), .indexAddr 22 (.tmp 206) (.const (.int .i64 2)), (some (some 202, false))⟩,
    ⟨(some 208), .load 3 (.tmp 207), (some (some 202, false))⟩,
    ⟨(some 209), .binOp .neq 3 (.tmp 205) (.tmp 208) 3, (some (some 202, false))⟩,
    ⟨(some 210), .pick (.tmp 202) (.const (.bool true)) (.tmp 209), (some (some 185, true))⟩,
    ⟨(some 211), .pick (.tmp 185) (.tmp 210) (.const (.bool false)), none⟩,
    ⟨(some 177), .assign (.tmp 211), none⟩]) c_sheaflaw17_StageJoins_45) K t m := rfl

def c_sheaflaw17_StageJoins_47 : MC := (.cond (.tmp 160) c_sheaflaw17_StageJoins_43 c_sheaflaw17_StageJoins_46)
@[go_sem] theorem c_sheaflaw17_StageJoins_47_at (rd : Option Nat) (K : Post3) (t : Fr) (m : Mem) : wpM E 6 221 rd c_sheaflaw17_StageJoins_47 K t m = wpM E 6 221 rd (.cond (.tmp 160) c_sheaflaw17_StageJoins_43 c_sheaflaw17_StageJoins_46) K t m := rfl

def c_sheaflaw17_StageJoins_48 : MC := (.seq (.ops [⟨(some 161), .load 4 (.tmp 5), none⟩,
    ⟨(some 162), .unOp .not 4 (.tmp 161), none⟩,
    ⟨(some 163), .move (.tmp 162), none⟩,
    ⟨(some 164), .move (.tmp 18), (some (some 163, true))⟩,
    ⟨(some 165), .call ⟨.builtin .len, #[(.tmp 164)], #[22]⟩, (some (some 163, true))⟩,
    ⟨(some 166), .binOp .eql 3 (.tmp 165) (.const (.int .i64 0)) 3, (some (some 163, true))⟩,
    ⟨(some 167), .pick (.tmp 163) (.tmp 166) (.const (.bool false)), none⟩,
    ⟨(some 168), .move (.tmp 167), none⟩,
    ⟨(some 169), .move (.tmp 17), (some (some 168, true))⟩,
    ⟨(some 170), .binOp .neq 3 (.tmp 169) (.const (.int .i64 4)) 3, (some (some 168, true))⟩,
    ⟨(some 171), .move (.tmp 170), (some (some 168, true))⟩,
    ⟨(some 172), .move (.tmp 16), (some (some 171, false))⟩,
    ⟨(some 173), .call ⟨.builtin .len, #[(.tmp 172)], #[22]⟩, (some (some 171, false))⟩,
    ⟨(some 174), .binOp .neq 3 (.tmp 173) (.const (.int .i64 6)) 3, (some (some 171, false))⟩,
    ⟨(some 175), .pick (.tmp 171) (.const (.bool true)) (.tmp 174), (some (some 168, true))⟩,
    ⟨(some 176), .pick (.tmp 168) (.tmp 175) (.const (.bool false)), none⟩,
    ⟨(some 160), .assign (.tmp 176), none⟩]) c_sheaflaw17_StageJoins_47)
@[go_sem] theorem c_sheaflaw17_StageJoins_48_at (rd : Option Nat) (K : Post3) (t : Fr) (m : Mem) : wpM E 6 221 rd c_sheaflaw17_StageJoins_48 K t m = wpM E 6 221 rd (.seq (.ops [⟨(some 161), .load 4 (.tmp 5), none⟩,
    ⟨(some 162), .unOp .not 4 (.tmp 161), none⟩,
    ⟨(some 163), .move (.tmp 162), none⟩,
    ⟨(some 164), .move (.tmp 18), (some (some 163, true))⟩,
    ⟨(some 165), .call ⟨.builtin .len, #[(.tmp 164)], #[22]⟩, (some (some 163, true))⟩,
    ⟨(some 166), .binOp .eql 3 (.tmp 165) (.const (.int .i64 0)) 3, (some (some 163, true))⟩,
    ⟨(some 167), .pick (.tmp 163) (.tmp 166) (.const (.bool false)), none⟩,
    ⟨(some 168), .move (.tmp 167), none⟩,
    ⟨(some 169), .move (.tmp 17), (some (some 168, true))⟩,
    ⟨(some 170), .binOp .neq 3 (.tmp 169) (.const (.int .i64 4)) 3, (some (some 168, true))⟩,
    ⟨(some 171), .move (.tmp 170), (some (some 168, true))⟩,
    ⟨(some 172), .move (.tmp 16), (some (some 171, false))⟩,
    ⟨(some 173), .call ⟨.builtin .len, #[(.tmp 172)], #[22]⟩, (some (some 171, false))⟩,
    ⟨(some 174), .binOp .neq 3 (.tmp 173) (.const (.int .i64 6)) 3, (some (some 171, false))⟩,
    ⟨(some 175), .pick (.tmp 171) (.const (.bool true)) (.tmp 174), (some (some 168, true))⟩,
    ⟨(some 176), .pick (.tmp 168) (.tmp 175) (.const (.bool false)), none⟩,
    ⟨(some 160), .assign (.tmp 176), none⟩]) c_sheaflaw17_StageJoins_47) K t m := rfl

def c_sheaflaw17_StageJoins_49 : MC := (.cond (.tmp 145) c_sheaflaw17_StageJoins_42 c_sheaflaw17_StageJoins_48)
@[go_sem] theorem c_sheaflaw17_StageJoins_49_at (rd : Option Nat) (K : Post3) (t : Fr) (m : Mem) : wpM E 6 221 rd c_sheaflaw17_StageJoins_49 K t m = wpM E 6 221 rd (.cond (.tmp 145) c_sheaflaw17_StageJoins_42 c_sheaflaw17_StageJoins_48) K t m := rfl

def c_sheaflaw17_StageJoins_50 : MC := (.seq (.ops [⟨(some 146), .load 4 (.tmp 5), none⟩,
    ⟨(some 147), .move (.tmp 146), none⟩,
    ⟨(some 148), .move (.tmp 16), (some (some 147, true))⟩,
    ⟨(some 149), .call ⟨.builtin .len, #[(.tmp 148)], #[22]⟩, (some (some 147, true))⟩,
    ⟨(some 150), .binOp .neq 3 (.tmp 149) (.const (.int .i64 6)) 3, (some (some 147, true))⟩,
    ⟨(some 151), .move (.tmp 150), (some (some 147, true))⟩,
    ⟨(some 152), .move (.tmp 17), (some (some 151, false))⟩,
    ⟨(some 153), .binOp .neq 3 (.tmp 152) (.const (.int .i64 0)) 3, (some (some 151, false))⟩,
    ⟨(some 154), .move (.tmp 153), (some (some 151, false))⟩,
    ⟨(some 155), .move (.tmp 17), (some (some 154, true))⟩,
    ⟨(some 156), .binOp .neq 3 (.tmp 155) (.const (.int .i64 6)) 3, (some (some 154, true))⟩,
    ⟨(some 157), .pick (.tmp 154) (.tmp 156) (.const (.bool false)), (some (some 151, false))⟩,
    ⟨(some 158), .pick (.tmp 151) (.const (.bool true)) (.tmp 157), (some (some 147, true))⟩,
    ⟨(some 159), .pick (.tmp 147) (.tmp 158) (.const (.bool false)), none⟩,
    ⟨(some 145), .assign (.tmp 159), none⟩]) c_sheaflaw17_StageJoins_49)
@[go_sem] theorem c_sheaflaw17_StageJoins_50_at (rd : Option Nat) (K : Post3) (t : Fr) (m : Mem) : wpM E 6 221 rd c_sheaflaw17_StageJoins_50 K t m = wpM E 6 221 rd (.seq (.ops [⟨(some 146), .load 4 (.tmp 5), none⟩,
    ⟨(some 147), .move (.tmp 146), none⟩,
    ⟨(some 148), .move (.tmp 16), (some (some 147, true))⟩,
    ⟨(some 149), .call ⟨.builtin .len, #[(.tmp 148)], #[22]⟩, (some (some 147, true))⟩,
    ⟨(some 150), .binOp .neq 3 (.tmp 149) (.const (.int .i64 6)) 3, (some (some 147, true))⟩,
    ⟨(some 151), .move (.tmp 150), (some (some 147, true))⟩,
    ⟨(some 152), .move (.tmp 17), (some (some 151, false))⟩,
    ⟨(some 153), .binOp .neq 3 (.tmp 152) (.const (.int .i64 0)) 3, (some (some 151, false))⟩,
    ⟨(some 154), .move (.tmp 153), (some (some 151, false))⟩,
    ⟨(some 155), .move (.tmp 17), (some (some 154, true))⟩,
    ⟨(some 156), .binOp .neq 3 (.tmp 155) (.const (.int .i64 6)) 3, (some (some 154, true))⟩,
    ⟨(some 157), .pick (.tmp 154) (.tmp 156) (.const (.bool false)), (some (some 151, false))⟩,
    ⟨(some 158), .pick (.tmp 151) (.const (.bool true)) (.tmp 157), (some (some 147, true))⟩,
    ⟨(some 159), .pick (.tmp 147) (.tmp 158) (.const (.bool false)), none⟩,
    ⟨(some 145), .assign (.tmp 159), none⟩]) c_sheaflaw17_StageJoins_49) K t m := rfl

def c_sheaflaw17_StageJoins_51 : MC := (.cond (.tmp 128) c_sheaflaw17_StageJoins_41 c_sheaflaw17_StageJoins_50)
@[go_sem] theorem c_sheaflaw17_StageJoins_51_at (rd : Option Nat) (K : Post3) (t : Fr) (m : Mem) : wpM E 6 221 rd c_sheaflaw17_StageJoins_51 K t m = wpM E 6 221 rd (.cond (.tmp 128) c_sheaflaw17_StageJoins_41 c_sheaflaw17_StageJoins_50) K t m := rfl

def c_sheaflaw17_StageJoins_52 : MC := (.seq (.ops [⟨(some 129), .load 4 (.tmp 5), none⟩,
    ⟨(some 130), .move (.tmp 129), none⟩,
    ⟨(some 131), .move (.tmp 17), (some (some 130, true))⟩,
    ⟨(some 132), .binOp .neq 3 (.tmp 131) (.const (.int .i64 0)) 3, (some (some 130, true))⟩,
    ⟨(some 133), .move (.tmp 16), (some (some 130, true))⟩,
    ⟨(some 134), .load 3 (.tmp 7), (some (some 130, true))⟩,
    ⟨(some 135), .indexAddr 22 (.tmp 133) (.tmp 134), (some (some 130, true))⟩,
    ⟨(some 136), .load 3 (.tmp 135), (some (some 130, true))⟩,
    ⟨(some 137), .binOp .neq 3 (.tmp 136) (.const (.int .i64 0)) 3, (some (some 130, true))⟩,
    ⟨(some 138), .move (.tmp 137), (some (some 130, true))⟩,
    ⟨(some 139), .move (.tmp 18), (some (some 138, true))⟩,
    ⟨(some 140), .call ⟨.builtin .len, #[(.tmp 139)], #[22]⟩, (some (some 138, true))⟩,
    ⟨(some 141), .binOp .eql 3 (.tmp 140) (.const (.int .i64 0)) 3, (some (some 138, true))⟩,
    ⟨(some 142), .pick (.tmp 138) (.tmp 141) (.const (.bool false)), (some (some 130, true))⟩,
    ⟨(some 143), .binOp .neq 4 (.tmp 132) (.tmp 142) 4, (some (some 130, true))⟩,
    ⟨(some 144), .pick (.tmp 130) (.tmp 143) (.const (.bool false)), none⟩,
    ⟨(some 128), .assign (.tmp 144), none⟩]) c_sheaflaw17_StageJoins_51)
@[go_sem] theorem c_sheaflaw17_StageJoins_52_at (rd : Option Nat) (K : Post3) (t : Fr) (m : Mem) : wpM E 6 221 rd c_sheaflaw17_StageJoins_52 K t m = wpM E 6 221 rd (.seq (.ops [⟨(some 129), .load 4 (.tmp 5), none⟩,
    ⟨(some 130), .move (.tmp 129), none⟩,
    ⟨(some 131), .move (.tmp 17), (some (some 130, true))⟩,
    ⟨(some 132), .binOp .neq 3 (.tmp 131) (.const (.int .i64 0)) 3, (some (some 130, true))⟩,
    ⟨(some 133), .move (.tmp 16), (some (some 130, true))⟩,
    ⟨(some 134), .load 3 (.tmp 7), (some (some 130, true))⟩,
    ⟨(some 135), .indexAddr 22 (.tmp 133) (.tmp 134), (some (some 130, true))⟩,
    ⟨(some 136), .load 3 (.tmp 135), (some (some 130, true))⟩,
    ⟨(some 137), .binOp .neq 3 (.tmp 136) (.const (.int .i64 0)) 3, (some (some 130, true))⟩,
    ⟨(some 138), .move (.tmp 137), (some (some 130, true))⟩,
    ⟨(some 139), .move (.tmp 18), (some (some 138, true))⟩,
    ⟨(some 140), .call ⟨.builtin .len, #[(.tmp 139)], #[22]⟩, (some (some 138, true))⟩,
    ⟨(some 141), .binOp .eql 3 (.tmp 140) (.const (.int .i64 0)) 3, (some (some 138, true))⟩,
    ⟨(some 142), .pick (.tmp 138) (.tmp 141) (.const (.bool false)), (some (some 130, true))⟩,
    ⟨(some 143), .binOp .neq 4 (.tmp 132) (.tmp 142) 4, (some (some 130, true))⟩,
    ⟨(some 144), .pick (.tmp 130) (.tmp 143) (.const (.bool false)), none⟩,
    ⟨(some 128), .assign (.tmp 144), none⟩]) c_sheaflaw17_StageJoins_51) K t m := rfl

def c_sheaflaw17_StageJoins_53 : MC := (.block 8 c_sheaflaw17_StageJoins_52)
@[go_sem] theorem c_sheaflaw17_StageJoins_53_at (rd : Option Nat) (K : Post3) (t : Fr) (m : Mem) : wpM E 6 221 rd c_sheaflaw17_StageJoins_53 K t m = wpM E 6 221 rd (.block 8 c_sheaflaw17_StageJoins_52) K t m := rfl

def c_sheaflaw17_StageJoins_54 : MC := (.seq c_sheaflaw17_StageJoins_53 (.ops [⟨(some 212), .load 3 (.tmp 15), none⟩,
    ⟨(some 213), .binOp .add 3 (.tmp 212) (.const (.int .i64 1)) 3, none⟩,
    ⟨none, .store 3 (.tmp 15) (.tmp 213), none⟩]))
@[go_sem] theorem c_sheaflaw17_StageJoins_54_at (rd : Option Nat) (K : Post3) (t : Fr) (m : Mem) : wpM E 6 221 rd c_sheaflaw17_StageJoins_54 K t m = wpM E 6 221 rd (.seq c_sheaflaw17_StageJoins_53 (.ops [⟨(some 212), .load 3 (.tmp 15), none⟩,
    ⟨(some 213), .binOp .add 3 (.tmp 212) (.const (.int .i64 1)) 3, none⟩,
    ⟨none, .store 3 (.tmp 15) (.tmp 213), none⟩])) K t m := rfl

def c_sheaflaw17_StageJoins_55 : MC := (.seq c_sheaflaw17_StageJoins_40 c_sheaflaw17_StageJoins_54)
@[go_sem] theorem c_sheaflaw17_StageJoins_55_at (rd : Option Nat) (K : Post3) (t : Fr) (m : Mem) : wpM E 6 221 rd c_sheaflaw17_StageJoins_55 K t m = wpM E 6 221 rd (.seq c_sheaflaw17_StageJoins_40 c_sheaflaw17_StageJoins_54) K t m := rfl

def c_sheaflaw17_StageJoins_56 : MC := (.seq (.ops [⟨(some 18), .assign (.const (.slice none 0 0)), none⟩]) c_sheaflaw17_StageJoins_55)
@[go_sem] theorem c_sheaflaw17_StageJoins_56_at (rd : Option Nat) (K : Post3) (t : Fr) (m : Mem) : wpM E 6 221 rd c_sheaflaw17_StageJoins_56 K t m = wpM E 6 221 rd (.seq (.ops [⟨(some 18), .assign (.const (.slice none 0 0)), none⟩]) c_sheaflaw17_StageJoins_55) K t m := rfl

def c_sheaflaw17_StageJoins_57 : MC := (.seq c_sheaflaw17_StageJoins_29 c_sheaflaw17_StageJoins_56)
@[go_sem] theorem c_sheaflaw17_StageJoins_57_at (rd : Option Nat) (K : Post3) (t : Fr) (m : Mem) : wpM E 6 221 rd c_sheaflaw17_StageJoins_57 K t m = wpM E 6 221 rd (.seq c_sheaflaw17_StageJoins_29 c_sheaflaw17_StageJoins_56) K t m := rfl

def c_sheaflaw17_StageJoins_58 : MC := (.block 5 c_sheaflaw17_StageJoins_57)
@[go_sem] theorem c_sheaflaw17_StageJoins_58_at (rd : Option Nat) (K : Post3) (t : Fr) (m : Mem) : wpM E 6 221 rd c_sheaflaw17_StageJoins_58 K t m = wpM E 6 221 rd (.block 5 c_sheaflaw17_StageJoins_57) K t m := rfl

theorem asg_sheaflaw17_StageJoins_0 : compile E 6 221 (asgAt E 6 0) = some c_sheaflaw17_StageJoins_26 := by kernel_rfl

theorem body_sheaflaw17_StageJoins_0 : compile E 6 221 (bodyAt E 6 0) = some c_sheaflaw17_StageJoins_58 := by kernel_rfl

def c_sheaflaw17_StageJoins_59 : MC := (.range (.tmp 90) #[91, 92] (asgAt E 6 0) (bodyAt E 6 0))
theorem c_sheaflaw17_StageJoins_59_at (rd : Option Nat) (K : Post3) (t : Fr) (m : Mem) : wpM E 6 221 rd c_sheaflaw17_StageJoins_59 K t m = wpM E 6 221 rd (.range (.tmp 90) #[91, 92] (asgAt E 6 0) (bodyAt E 6 0)) K t m := rfl

def c_sheaflaw17_StageJoins_60 : MC := (.block 4 c_sheaflaw17_StageJoins_59)
@[go_sem] theorem c_sheaflaw17_StageJoins_60_at (rd : Option Nat) (K : Post3) (t : Fr) (m : Mem) : wpM E 6 221 rd c_sheaflaw17_StageJoins_60 K t m = wpM E 6 221 rd (.block 4 c_sheaflaw17_StageJoins_59) K t m := rfl

def c_sheaflaw17_StageJoins_61 : MC := (.seq (.ops [⟨(some 90), .move (.tmp 14), none⟩]) c_sheaflaw17_StageJoins_60)
@[go_sem] theorem c_sheaflaw17_StageJoins_61_at (rd : Option Nat) (K : Post3) (t : Fr) (m : Mem) : wpM E 6 221 rd c_sheaflaw17_StageJoins_61 K t m = wpM E 6 221 rd (.seq (.ops [⟨(some 90), .move (.tmp 14), none⟩]) c_sheaflaw17_StageJoins_60) K t m := rfl

def c_sheaflaw17_StageJoins_62 : MC := (.seq (.ops [⟨(some 214), .load 3 (.tmp 15), none⟩,
    ⟨(some 215), .load 23 (.tmp 9), none⟩,
    ⟨(some 216), .call ⟨.builtin .len, #[(.tmp 215)], #[23]⟩, none⟩,
    ⟨(some 217), .binOp .eql 3 (.tmp 214) (.tmp 216) 3, none⟩,
    ⟨(some 218), .move (.tmp 217), none⟩,
    ⟨(some 219), .call ⟨.value (.func 3), #[], #[]⟩, (some (some 218, true))⟩,
    ⟨(some 220), .pick (.tmp 218) (.tmp 219) (.const (.bool false)), none⟩,
    ⟨none, .store 4 (.tmp 6) (.tmp 220), none⟩]) .ret)
@[go_sem] theorem c_sheaflaw17_StageJoins_62_at (rd : Option Nat) (K : Post3) (t : Fr) (m : Mem) : wpM E 6 221 rd c_sheaflaw17_StageJoins_62 K t m = wpM E 6 221 rd (.seq (.ops [⟨(some 214), .load 3 (.tmp 15), none⟩,
    ⟨(some 215), .load 23 (.tmp 9), none⟩,
    ⟨(some 216), .call ⟨.builtin .len, #[(.tmp 215)], #[23]⟩, none⟩,
    ⟨(some 217), .binOp .eql 3 (.tmp 214) (.tmp 216) 3, none⟩,
    ⟨(some 218), .move (.tmp 217), none⟩,
    ⟨(some 219), .call ⟨.value (.func 3), #[], #[]⟩, (some (some 218, true))⟩,
    ⟨(some 220), .pick (.tmp 218) (.tmp 219) (.const (.bool false)), none⟩,
    ⟨none, .store 4 (.tmp 6) (.tmp 220), none⟩]) .ret) K t m := rfl

def c_sheaflaw17_StageJoins_63 : MC := (.seq c_sheaflaw17_StageJoins_61 c_sheaflaw17_StageJoins_62)
@[go_sem] theorem c_sheaflaw17_StageJoins_63_at (rd : Option Nat) (K : Post3) (t : Fr) (m : Mem) : wpM E 6 221 rd c_sheaflaw17_StageJoins_63 K t m = wpM E 6 221 rd (.seq c_sheaflaw17_StageJoins_61 c_sheaflaw17_StageJoins_62) K t m := rfl

def c_sheaflaw17_StageJoins_64 : MC := (.seq (.ops [⟨(some 15), .alloc 3, none⟩,
    ⟨none, .store 3 (.tmp 15) (.const (.int .i64 0)), none⟩]) c_sheaflaw17_StageJoins_63)
@[go_sem] theorem c_sheaflaw17_StageJoins_64_at (rd : Option Nat) (K : Post3) (t : Fr) (m : Mem) : wpM E 6 221 rd c_sheaflaw17_StageJoins_64 K t m = wpM E 6 221 rd (.seq (.ops [⟨(some 15), .alloc 3, none⟩,
    ⟨none, .store 3 (.tmp 15) (.const (.int .i64 0)), none⟩]) c_sheaflaw17_StageJoins_63) K t m := rfl

def c_sheaflaw17_StageJoins_65 : MC := (.seq c_sheaflaw17_StageJoins_25 c_sheaflaw17_StageJoins_64)
@[go_sem] theorem c_sheaflaw17_StageJoins_65_at (rd : Option Nat) (K : Post3) (t : Fr) (m : Mem) : wpM E 6 221 rd c_sheaflaw17_StageJoins_65 K t m = wpM E 6 221 rd (.seq c_sheaflaw17_StageJoins_25 c_sheaflaw17_StageJoins_64) K t m := rfl

def c_sheaflaw17_StageJoins_66 : MC := (.seq c_sheaflaw17_StageJoins_22 c_sheaflaw17_StageJoins_65)
@[go_sem] theorem c_sheaflaw17_StageJoins_66_at (rd : Option Nat) (K : Post3) (t : Fr) (m : Mem) : wpM E 6 221 rd c_sheaflaw17_StageJoins_66 K t m = wpM E 6 221 rd (.seq c_sheaflaw17_StageJoins_22 c_sheaflaw17_StageJoins_65) K t m := rfl

def c_sheaflaw17_StageJoins_67 : MC := (.seq (.draw [(0, [], ⟨(some 77), .load 23 (.tmp 9), none⟩),
    (2, [], ⟨(some 79), .load 23 (.tmp 8), none⟩),
    (1, [2], ⟨(some 78), .call ⟨.value (.func 11), #[(.tmp 77)], #[23]⟩, none⟩),
    (3, [], ⟨(some 80), .call ⟨.value (.func 13), #[(.tmp 79)], #[23]⟩, none⟩),
    (4, [], ⟨(some 81), .call ⟨.value (.func 19), #[(.tmp 78), (.tmp 80)], #[30, 33]⟩, none⟩),
    (5, [], ⟨(some 14), .assign (.tmp 81), none⟩)]) c_sheaflaw17_StageJoins_66)
@[go_sem] theorem c_sheaflaw17_StageJoins_67_at (rd : Option Nat) (K : Post3) (t : Fr) (m : Mem) : wpM E 6 221 rd c_sheaflaw17_StageJoins_67 K t m = wpM E 6 221 rd (.seq (.draw [(0, [], ⟨(some 77), .load 23 (.tmp 9), none⟩),
    (2, [], ⟨(some 79), .load 23 (.tmp 8), none⟩),
    (1, [2], ⟨(some 78), .call ⟨.value (.func 11), #[(.tmp 77)], #[23]⟩, none⟩),
    (3, [], ⟨(some 80), .call ⟨.value (.func 13), #[(.tmp 79)], #[23]⟩, none⟩),
    (4, [], ⟨(some 81), .call ⟨.value (.func 19), #[(.tmp 78), (.tmp 80)], #[30, 33]⟩, none⟩),
    (5, [], ⟨(some 14), .assign (.tmp 81), none⟩)]) c_sheaflaw17_StageJoins_66) K t m := rfl

def c_sheaflaw17_StageJoins_68 : MC := (.seq (.ops [⟨(some 73), .load 23 (.tmp 9), none⟩,
    ⟨(some 74), .load 3 (.tmp 7), none⟩,
    ⟨(some 75), .buildSlice 22 1 #[(0, (.tmp 74))], none⟩,
    ⟨(some 76), .call ⟨.value (.func 18), #[(.tmp 73), (.tmp 75)], #[23, 22]⟩, none⟩,
    ⟨none, .store 23 (.tmp 9) (.tmp 76), none⟩]) c_sheaflaw17_StageJoins_67)
@[go_sem] theorem c_sheaflaw17_StageJoins_68_at (rd : Option Nat) (K : Post3) (t : Fr) (m : Mem) : wpM E 6 221 rd c_sheaflaw17_StageJoins_68 K t m = wpM E 6 221 rd (.seq (.ops [⟨(some 73), .load 23 (.tmp 9), none⟩,
    ⟨(some 74), .load 3 (.tmp 7), none⟩,
    ⟨(some 75), .buildSlice 22 1 #[(0, (.tmp 74))], none⟩,
    ⟨(some 76), .call ⟨.value (.func 18), #[(.tmp 73), (.tmp 75)], #[23, 22]⟩, none⟩,
    ⟨none, .store 23 (.tmp 9) (.tmp 76), none⟩]) c_sheaflaw17_StageJoins_67) K t m := rfl

def c_sheaflaw17_StageJoins_69 : MC := (.seq c_sheaflaw17_StageJoins_20 c_sheaflaw17_StageJoins_68)
@[go_sem] theorem c_sheaflaw17_StageJoins_69_at (rd : Option Nat) (K : Post3) (t : Fr) (m : Mem) : wpM E 6 221 rd c_sheaflaw17_StageJoins_69 K t m = wpM E 6 221 rd (.seq c_sheaflaw17_StageJoins_20 c_sheaflaw17_StageJoins_68) K t m := rfl

def c_sheaflaw17_StageJoins_70 : MC := (.seq c_sheaflaw17_StageJoins_10 c_sheaflaw17_StageJoins_69)
@[go_sem] theorem c_sheaflaw17_StageJoins_70_at (rd : Option Nat) (K : Post3) (t : Fr) (m : Mem) : wpM E 6 221 rd c_sheaflaw17_StageJoins_70 K t m = wpM E 6 221 rd (.seq c_sheaflaw17_StageJoins_10 c_sheaflaw17_StageJoins_69) K t m := rfl

def c_sheaflaw17_StageJoins_71 : MC := (.seq (.ops [⟨(some 10), .assign (.const (.int .i64 0)), none⟩]) c_sheaflaw17_StageJoins_70)
@[go_sem] theorem c_sheaflaw17_StageJoins_71_at (rd : Option Nat) (K : Post3) (t : Fr) (m : Mem) : wpM E 6 221 rd c_sheaflaw17_StageJoins_71 K t m = wpM E 6 221 rd (.seq (.ops [⟨(some 10), .assign (.const (.int .i64 0)), none⟩]) c_sheaflaw17_StageJoins_70) K t m := rfl

def c_sheaflaw17_StageJoins_72 : MC := (.seq (.ops [⟨(some 8), .alloc 23, none⟩,
    ⟨(some 9), .alloc 23, none⟩]) c_sheaflaw17_StageJoins_71)
@[go_sem] theorem c_sheaflaw17_StageJoins_72_at (rd : Option Nat) (K : Post3) (t : Fr) (m : Mem) : wpM E 6 221 rd c_sheaflaw17_StageJoins_72 K t m = wpM E 6 221 rd (.seq (.ops [⟨(some 8), .alloc 23, none⟩,
    ⟨(some 9), .alloc 23, none⟩]) c_sheaflaw17_StageJoins_71) K t m := rfl

def c_sheaflaw17_StageJoins_73 : MC := (.seq c_sheaflaw17_StageJoins_1 c_sheaflaw17_StageJoins_72)
@[go_sem] theorem c_sheaflaw17_StageJoins_73_at (rd : Option Nat) (K : Post3) (t : Fr) (m : Mem) : wpM E 6 221 rd c_sheaflaw17_StageJoins_73 K t m = wpM E 6 221 rd (.seq c_sheaflaw17_StageJoins_1 c_sheaflaw17_StageJoins_72) K t m := rfl

def c_sheaflaw17_StageJoins_74 : MC := (.seq (.ops [⟨(some 7), .alloc 3, none⟩,
    ⟨none, .store 3 (.tmp 7) (.const (.int .i64 1)), none⟩]) c_sheaflaw17_StageJoins_73)
@[go_sem] theorem c_sheaflaw17_StageJoins_74_at (rd : Option Nat) (K : Post3) (t : Fr) (m : Mem) : wpM E 6 221 rd c_sheaflaw17_StageJoins_74 K t m = wpM E 6 221 rd (.seq (.ops [⟨(some 7), .alloc 3, none⟩,
    ⟨none, .store 3 (.tmp 7) (.const (.int .i64 1)), none⟩]) c_sheaflaw17_StageJoins_73) K t m := rfl

def c_sheaflaw17_StageJoins_75 : MC := (.seq (.ops [⟨(some 5), .box 4 (.tmp 2), none⟩,
    ⟨(some 6), .alloc 4, none⟩]) c_sheaflaw17_StageJoins_74)
@[go_sem] theorem c_sheaflaw17_StageJoins_75_at (rd : Option Nat) (K : Post3) (t : Fr) (m : Mem) : wpM E 6 221 rd c_sheaflaw17_StageJoins_75 K t m = wpM E 6 221 rd (.seq (.ops [⟨(some 5), .box 4 (.tmp 2), none⟩,
    ⟨(some 6), .alloc 4, none⟩]) c_sheaflaw17_StageJoins_74) K t m := rfl

@[go_sem] theorem some6 : (E.fn 6).isSome = true := by kernel_rfl
set_option maxRecDepth 100000 in
theorem fn_sheaflaw17_StageJoins : FnIs E 6 221 [.cell 6 4] c_sheaflaw17_StageJoins_75 := ⟨by kernel_rfl, by kernel_rfl⟩

/-! sheaf/sheaflaw17.StageSimple -/
abbrev F_sheaflaw17_StageSimple : FuncId := 7
def c_sheaflaw17_StageSimple_0 : MC := (.cond (.tmp 37) .skip (.exit 0))
@[go_sem] theorem c_sheaflaw17_StageSimple_0_at (rd : Option Nat) (K : Post3) (t : Fr) (m : Mem) : wpM E 7 196 rd c_sheaflaw17_StageSimple_0 K t m = wpM E 7 196 rd (.cond (.tmp 37) .skip (.exit 0)) K t m := rfl

def c_sheaflaw17_StageSimple_1 : MC := (.seq (.ops [⟨(some 30), .move (.tmp 10), none⟩,
    ⟨(some 31), .move (.tmp 0), none⟩,
    ⟨(some 32), .call ⟨.builtin .len, #[(.tmp 31)], #[23]⟩, none⟩,
    ⟨(some 33), .binOp .lss 3 (.tmp 30) (.tmp 32) 3, none⟩,
    ⟨(some 34), .move (.tmp 33), none⟩,
    ⟨(some 35), .move (.tmp 10), (some (some 34, true))⟩,
    ⟨(some 36), .binOp .lss 3 (.tmp 35) (.const (.int .i64 20)) 3, (some (some 34, true))⟩,
    ⟨(some 37), .pick (.tmp 34) (.tmp 36) (.const (.bool false)), none⟩]) c_sheaflaw17_StageSimple_0)
@[go_sem] theorem c_sheaflaw17_StageSimple_1_at (rd : Option Nat) (K : Post3) (t : Fr) (m : Mem) : wpM E 7 196 rd c_sheaflaw17_StageSimple_1 K t m = wpM E 7 196 rd (.seq (.ops [⟨(some 30), .move (.tmp 10), none⟩,
    ⟨(some 31), .move (.tmp 0), none⟩,
    ⟨(some 32), .call ⟨.builtin .len, #[(.tmp 31)], #[23]⟩, none⟩,
    ⟨(some 33), .binOp .lss 3 (.tmp 30) (.tmp 32) 3, none⟩,
    ⟨(some 34), .move (.tmp 33), none⟩,
    ⟨(some 35), .move (.tmp 10), (some (some 34, true))⟩,
    ⟨(some 36), .binOp .lss 3 (.tmp 35) (.const (.int .i64 20)) 3, (some (some 34, true))⟩,
    ⟨(some 37), .pick (.tmp 34) (.tmp 36) (.const (.bool false)), none⟩]) c_sheaflaw17_StageSimple_0) K t m := rfl

def c_sheaflaw17_StageSimple_2 : MC := (.block 1 (.draw [(0, [], ⟨(some 40), .load 23 (.tmp 8), none⟩),
    (1, [], ⟨(some 41), .buildSlice 22 0 #[], none⟩),
    (2, [], ⟨(some 42), .move (.tmp 0), none⟩),
    (3, [], ⟨(some 43), .move (.tmp 10), none⟩),
    (4, [], ⟨(some 44), .indexAddr 23 (.tmp 42) (.tmp 43), none⟩),
    (5, [], ⟨(some 45), .load 22 (.tmp 44), none⟩),
    (6, [], ⟨(some 46), .move (.tmp 0), none⟩),
    (7, [], ⟨(some 47), .move (.tmp 10), none⟩),
    (8, [], ⟨(some 48), .indexAddr 23 (.tmp 46) (.tmp 47), none⟩),
    (9, [], ⟨(some 49), .load 22 (.tmp 48), none⟩),
    (10, [], ⟨(some 50), .call ⟨.builtin .len, #[(.tmp 49)], #[22]⟩, none⟩),
    (11, [], ⟨(some 51), .call ⟨.builtin .min, #[(.tmp 50), (.const (.int .i64 10))], #[3, 3]⟩, none⟩),
    (12, [], ⟨(some 52), .slice 22 (.tmp 45) none (some (.tmp 51)) none, none⟩),
    (13, [0], ⟨(some 53), .call ⟨.builtin .append, #[(.tmp 41), (.tmp 52)], #[22, 22]⟩, none⟩),
    (14, [], ⟨(some 54), .buildSlice 23 1 #[(0, (.tmp 53))], none⟩),
    (15, [], ⟨(some 55), .call ⟨.builtin .append, #[(.tmp 40), (.tmp 54)], #[23, 23]⟩, none⟩),
    (16, [], ⟨none, .store 23 (.tmp 8) (.tmp 55), none⟩)]))
@[go_sem] theorem c_sheaflaw17_StageSimple_2_at (rd : Option Nat) (K : Post3) (t : Fr) (m : Mem) : wpM E 7 196 rd c_sheaflaw17_StageSimple_2 K t m = wpM E 7 196 rd (.block 1 (.draw [(0, [], ⟨(some 40), .load 23 (.tmp 8), none⟩),
    (1, [], ⟨(some 41), .buildSlice 22 0 #[], none⟩),
    (2, [], ⟨(some 42), .move (.tmp 0), none⟩),
    (3, [], ⟨(some 43), .move (.tmp 10), none⟩),
    (4, [], ⟨(some 44), .indexAddr 23 (.tmp 42) (.tmp 43), none⟩),
    (5, [], ⟨(some 45), .load 22 (.tmp 44), none⟩),
    (6, [], ⟨(some 46), .move (.tmp 0), none⟩),
    (7, [], ⟨(some 47), .move (.tmp 10), none⟩),
    (8, [], ⟨(some 48), .indexAddr 23 (.tmp 46) (.tmp 47), none⟩),
    (9, [], ⟨(some 49), .load 22 (.tmp 48), none⟩),
    (10, [], ⟨(some 50), .call ⟨.builtin .len, #[(.tmp 49)], #[22]⟩, none⟩),
    (11, [], ⟨(some 51), .call ⟨.builtin .min, #[(.tmp 50), (.const (.int .i64 10))], #[3, 3]⟩, none⟩),
    (12, [], ⟨(some 52), .slice 22 (.tmp 45) none (some (.tmp 51)) none, none⟩),
    (13, [0], ⟨(some 53), .call ⟨.builtin .append, #[(.tmp 41), (.tmp 52)], #[22, 22]⟩, none⟩),
    (14, [], ⟨(some 54), .buildSlice 23 1 #[(0, (.tmp 53))], none⟩),
    (15, [], ⟨(some 55), .call ⟨.builtin .append, #[(.tmp 40), (.tmp 54)], #[23, 23]⟩, none⟩),
    (16, [], ⟨none, .store 23 (.tmp 8) (.tmp 55), none⟩)])) K t m := rfl

def c_sheaflaw17_StageSimple_3 : MC := (.seq c_sheaflaw17_StageSimple_2 (.ops [⟨(some 38), .move (.tmp 10), none⟩,
    ⟨(some 39), .binOp .add 3 (.tmp 38) (.const (.int .i64 1)) 3, none⟩,
    ⟨(some 10), .assign (.tmp 39), none⟩]))
@[go_sem] theorem c_sheaflaw17_StageSimple_3_at (rd : Option Nat) (K : Post3) (t : Fr) (m : Mem) : wpM E 7 196 rd c_sheaflaw17_StageSimple_3 K t m = wpM E 7 196 rd (.seq c_sheaflaw17_StageSimple_2 (.ops [⟨(some 38), .move (.tmp 10), none⟩,
    ⟨(some 39), .binOp .add 3 (.tmp 38) (.const (.int .i64 1)) 3, none⟩,
    ⟨(some 10), .assign (.tmp 39), none⟩])) K t m := rfl

def c_sheaflaw17_StageSimple_4 : MC := (.seq c_sheaflaw17_StageSimple_1 c_sheaflaw17_StageSimple_3)
@[go_sem] theorem c_sheaflaw17_StageSimple_4_at (rd : Option Nat) (K : Post3) (t : Fr) (m : Mem) : wpM E 7 196 rd c_sheaflaw17_StageSimple_4 K t m = wpM E 7 196 rd (.seq c_sheaflaw17_StageSimple_1 c_sheaflaw17_StageSimple_3) K t m := rfl

def c_sheaflaw17_StageSimple_5 : MC := (.loop c_sheaflaw17_StageSimple_4)
theorem c_sheaflaw17_StageSimple_5_at (rd : Option Nat) (K : Post3) (t : Fr) (m : Mem) : wpM E 7 196 rd c_sheaflaw17_StageSimple_5 K t m = wpM E 7 196 rd (.loop c_sheaflaw17_StageSimple_4) K t m := rfl

def c_sheaflaw17_StageSimple_6 : MC := (.block 0 c_sheaflaw17_StageSimple_5)
theorem c_sheaflaw17_StageSimple_6_at (rd : Option Nat) (K : Post3) (t : Fr) (m : Mem) : wpM E 7 196 rd c_sheaflaw17_StageSimple_6 K t m = wpM E 7 196 rd (.block 0 c_sheaflaw17_StageSimple_5) K t m := rfl

def c_sheaflaw17_StageSimple_7 : MC := (.seq (.ops [⟨(some 10), .assign (.const (.int .i64 0)), none⟩]) c_sheaflaw17_StageSimple_6)
@[go_sem] theorem c_sheaflaw17_StageSimple_7_at (rd : Option Nat) (K : Post3) (t : Fr) (m : Mem) : wpM E 7 196 rd c_sheaflaw17_StageSimple_7 K t m = wpM E 7 196 rd (.seq (.ops [⟨(some 10), .assign (.const (.int .i64 0)), none⟩]) c_sheaflaw17_StageSimple_6) K t m := rfl

def c_sheaflaw17_StageSimple_8 : MC := (.seq (.ops [⟨none, .store 4 (.tmp 6) (.const (.bool false)), none⟩]) .ret)
@[go_sem] theorem c_sheaflaw17_StageSimple_8_at (rd : Option Nat) (K : Post3) (t : Fr) (m : Mem) : wpM E 7 196 rd c_sheaflaw17_StageSimple_8 K t m = wpM E 7 196 rd (.seq (.ops [⟨none, .store 4 (.tmp 6) (.const (.bool false)), none⟩]) .ret) K t m := rfl

def c_sheaflaw17_StageSimple_9 : MC := (.cond (.tmp 60) c_sheaflaw17_StageSimple_8 .skip)
@[go_sem] theorem c_sheaflaw17_StageSimple_9_at (rd : Option Nat) (K : Post3) (t : Fr) (m : Mem) : wpM E 7 196 rd c_sheaflaw17_StageSimple_9 K t m = wpM E 7 196 rd (.cond (.tmp 60) c_sheaflaw17_StageSimple_8 .skip) K t m := rfl

def c_sheaflaw17_StageSimple_10 : MC := (.seq (.ops [⟨(some 59), .move (.tmp 12), none⟩,
    ⟨(some 60), .binOp .eql 27 (.tmp 59) (.const .nilFunc) 27, none⟩]) c_sheaflaw17_StageSimple_9)
@[go_sem] theorem c_sheaflaw17_StageSimple_10_at (rd : Option Nat) (K : Post3) (t : Fr) (m : Mem) : wpM E 7 196 rd c_sheaflaw17_StageSimple_10 K t m = wpM E 7 196 rd (.seq (.ops [⟨(some 59), .move (.tmp 12), none⟩,
    ⟨(some 60), .binOp .eql 27 (.tmp 59) (.const .nilFunc) 27, none⟩]) c_sheaflaw17_StageSimple_9) K t m := rfl

def c_sheaflaw17_StageSimple_11 : MC := (.seq (.ops [⟨(some 13), .assign (.tmp 62), none⟩]) (.ops [⟨(some 14), .assign (.tmp 63), none⟩]))
@[go_sem] theorem c_sheaflaw17_StageSimple_11_at (rd : Option Nat) (K : Post3) (t : Fr) (m : Mem) : wpM E 7 196 rd c_sheaflaw17_StageSimple_11 K t m = wpM E 7 196 rd (.seq (.ops [⟨(some 13), .assign (.tmp 62), none⟩]) (.ops [⟨(some 14), .assign (.tmp 63), none⟩])) K t m := rfl

def c_sheaflaw17_StageSimple_12 : MC := (.seq (.ops [⟨none, .store 4 (.tmp 6) (.const (.bool false)), none⟩]) .ret)
@[go_sem] theorem c_sheaflaw17_StageSimple_12_at (rd : Option Nat) (K : Post3) (t : Fr) (m : Mem) : wpM E 7 196 rd c_sheaflaw17_StageSimple_12 K t m = wpM E 7 196 rd (.seq (.ops [⟨none, .store 4 (.tmp 6) (.const (.bool false)), none⟩]) .ret) K t m := rfl

def c_sheaflaw17_StageSimple_13 : MC := (.cond (.tmp 91) c_sheaflaw17_StageSimple_12 .skip)
@[go_sem] theorem c_sheaflaw17_StageSimple_13_at (rd : Option Nat) (K : Post3) (t : Fr) (m : Mem) : wpM E 7 196 rd c_sheaflaw17_StageSimple_13 K t m = wpM E 7 196 rd (.cond (.tmp 91) c_sheaflaw17_StageSimple_12 .skip) K t m := rfl

def c_sheaflaw17_StageSimple_14 : MC := (.seq (.ops [⟨(some 64), .load 3 (.tmp 11), none⟩,
    ⟨(some 65), .load 23 (.tmp 8), none⟩,
    ⟨(some 66), .call ⟨.builtin .len, #[(.tmp 65)], #[23]⟩, none⟩,
    ⟨(some 67), .binOp .geq 3 (.tmp 64) (.tmp 66) 3, none⟩,
    ⟨(some 68), .move (.tmp 67), none⟩,
    ⟨(some 69), .move (.tmp 13), (some (some 68, false))⟩,
    ⟨(some 70), .load 23 (.tmp 8), (some (some 68, false))⟩,
    ⟨(some 71), .load 3 (.tmp 11), (some (some 68, false))⟩,
    ⟨(some 72), .indexAddr 23 (.tmp 70) (.tmp 71), (some (some 68, false))⟩,
    ⟨(some 73), .load 22 (.tmp 72), (some (some 68, false))⟩,
    ⟨(some 74), .call ⟨.value (.func 17), #[(.tmp 69), (.tmp 73)], #[22, 22]⟩, (some (some 68, false))⟩,
    ⟨(some 75), .unOp .not 4 (.tmp 74), (some (some 68, false))⟩,
    ⟨(some 76), .pick (.tmp 68) (.const (.bool true)) (.tmp 75), none⟩,
    ⟨(some 77), .move (.tmp 76), none⟩,
    ⟨(some 78), .move (.tmp 14), (some (some 77, false))⟩,
    ⟨(some 79), .binOp .eql 3 (.tmp 78) (.const (.int .i64 0)) 3, (some (some 77, false))⟩,
    ⟨(some 80), .move (.tmp 13), (some (some 77, false))⟩,
    ⟨(some 81), .call ⟨.value (.func 22), #[(.const (.int .i64 1)), (.tmp 80)], #[3, 22]⟩, (some (some 77, false))⟩,
    ⟨(some 82), .binOp .neq 4 (.tmp 79) (.tmp 81) 4, (some (some 77, false))⟩,
    ⟨(some 83), .pick (.tmp 77) (.const (.bool true)) (.tmp 82), none⟩,
    ⟨(some 84), .move (.tmp 83), none⟩,
    ⟨(some 85), .move (.tmp 14), (some (some 84, false))⟩,
    ⟨(some 86), .binOp .neq 3 (.tmp 85) (.const (.int .i64 0)) 3, (some (some 84, false))⟩,
    ⟨(some 87), .move (.tmp 86), (some (some 84, false))⟩,
    ⟨(some 88), .move (.tmp 14), (some (some 87, true))⟩,
    ⟨(some 89), .binOp .neq 3 (.tmp 88) (.const (.int .i64 1)) 3, (some (some 87, true))⟩,
    ⟨(some 90), .pick (.tmp 87) (.tmp 89) (.const (.bool false)), (some (some 84, false))⟩,
    ⟨(some 91), .pick (.tmp 84) (.const (.bool true)) (.tmp 90), none⟩]) c_sheaflaw17_StageSimple_13)
@[go_sem] theorem c_sheaflaw17_StageSimple_14_at (rd : Option Nat) (K : Post3) (t : Fr) (m : Mem) : wpM E 7 196 rd c_sheaflaw17_StageSimple_14 K t m = wpM E 7 196 rd (.seq (.ops [⟨(some 64), .load 3 (.tmp 11), none⟩,
    ⟨(some 65), .load 23 (.tmp 8), none⟩,
    ⟨(some 66), .call ⟨.builtin .len, #[(.tmp 65)], #[23]⟩, none⟩,
    ⟨(some 67), .binOp .geq 3 (.tmp 64) (.tmp 66) 3, none⟩,
    ⟨(some 68), .move (.tmp 67), none⟩,
    ⟨(some 69), .move (.tmp 13), (some (some 68, false))⟩,
    ⟨(some 70), .load 23 (.tmp 8), (some (some 68, false))⟩,
    ⟨(some 71), .load 3 (.tmp 11), (some (some 68, false))⟩,
    ⟨(some 72), .indexAddr 23 (.tmp 70) (.tmp 71), (some (some 68, false))⟩,
    ⟨(some 73), .load 22 (.tmp 72), (some (some 68, false))⟩,
    ⟨(some 74), .call ⟨.value (.func 17), #[(.tmp 69), (.tmp 73)], #[22, 22]⟩, (some (some 68, false))⟩,
    ⟨(some 75), .unOp .not 4 (.tmp 74), (some (some 68, false))⟩,
    ⟨(some 76), .pick (.tmp 68) (.const (.bool true)) (.tmp 75), none⟩,
    ⟨(some 77), .move (.tmp 76), none⟩,
    ⟨(some 78), .move (.tmp 14), (some (some 77, false))⟩,
    ⟨(some 79), .binOp .eql 3 (.tmp 78) (.const (.int .i64 0)) 3, (some (some 77, false))⟩,
    ⟨(some 80), .move (.tmp 13), (some (some 77, false))⟩,
    ⟨(some 81), .call ⟨.value (.func 22), #[(.const (.int .i64 1)), (.tmp 80)], #[3, 22]⟩, (some (some 77, false))⟩,
    ⟨(some 82), .binOp .neq 4 (.tmp 79) (.tmp 81) 4, (some (some 77, false))⟩,
    ⟨(some 83), .pick (.tmp 77) (.const (.bool true)) (.tmp 82), none⟩,
    ⟨(some 84), .move (.tmp 83), none⟩,
    ⟨(some 85), .move (.tmp 14), (some (some 84, false))⟩,
    ⟨(some 86), .binOp .neq 3 (.tmp 85) (.const (.int .i64 0)) 3, (some (some 84, false))⟩,
    ⟨(some 87), .move (.tmp 86), (some (some 84, false))⟩,
    ⟨(some 88), .move (.tmp 14), (some (some 87, true))⟩,
    ⟨(some 89), .binOp .neq 3 (.tmp 88) (.const (.int .i64 1)) 3, (some (some 87, true))⟩,
    ⟨(some 90), .pick (.tmp 87) (.tmp 89) (.const (.bool false)), (some (some 84, false))⟩,
    ⟨(some 91), .pick (.tmp 84) (.const (.bool true)) (.tmp 90), none⟩]) c_sheaflaw17_StageSimple_13) K t m := rfl

def c_sheaflaw17_StageSimple_15 : MC := (.seq (.ops [⟨none, .store 4 (.tmp 6) (.const (.bool false)), none⟩]) .ret)
@[go_sem] theorem c_sheaflaw17_StageSimple_15_at (rd : Option Nat) (K : Post3) (t : Fr) (m : Mem) : wpM E 7 196 rd c_sheaflaw17_StageSimple_15 K t m = wpM E 7 196 rd (.seq (.ops [⟨none, .store 4 (.tmp 6) (.const (.bool false)), none⟩]) .ret) K t m := rfl

def c_sheaflaw17_StageSimple_16 : MC := (.cond (.tmp 117) c_sheaflaw17_StageSimple_15 .skip)
@[go_sem] theorem c_sheaflaw17_StageSimple_16_at (rd : Option Nat) (K : Post3) (t : Fr) (m : Mem) : wpM E 7 196 rd c_sheaflaw17_StageSimple_16 K t m = wpM E 7 196 rd (.cond (.tmp 117) c_sheaflaw17_StageSimple_15 .skip) K t m := rfl

def c_sheaflaw17_StageSimple_17 : MC := (.seq (.ops [⟨(some 94), .move (.tmp 15), none⟩,
    ⟨(some 95), .call ⟨.builtin .len, #[(.tmp 94)], #[22]⟩, none⟩,
    ⟨(some 96), .move (.tmp 13), none⟩,
    ⟨(some 97), .call ⟨.builtin .len, #[(.tmp 96)], #[22]⟩, none⟩,
    ⟨(some 98), .binOp .add 3 (.tmp 97) (.const (.int .i64 1)) 3, none⟩,
    ⟨(some 99), .call ⟨.builtin .min, #[(.tmp 98), (.const (.int .i64 10))], #[3, 3]⟩, none⟩,
    ⟨(some 100), .binOp .neq 3 (.tmp 95) (.tmp 99) 3, none⟩,
    ⟨(some 101), .move (.tmp 100), none⟩,
    ⟨(some 102), .move (.tmp 15), (some (some 101, false))⟩,
    ⟨(some 103), .indexAddr 22 (.tmp 102) (.const (.int .i64 0)), (some (some 101, false))⟩,
    ⟨(some 104), .load 3 (.tmp 103), (some (some 101, false))⟩,
    ⟨(some 105), .binOp .neq 3 (.tmp 104) (.const (.int .i64 7)) 3, (some (some 101, false))⟩,
    ⟨(some 106), .pick (.tmp 101) (.const (.bool true)) (.tmp 105), none⟩,
    ⟨(some 107), .move (.tmp 106), none⟩,
    ⟨(some 108), .move (.tmp 15), (some (some 107, false))⟩,
    ⟨(some 109), .slice 22 (.tmp 108) (some (.const (.int .i64 1))) none none, (some (some 107, false))⟩,
    ⟨(some 110), .move (.tmp 13), (some (some 107, false))⟩,
    ⟨(some 111), .move (.tmp 15), (some (some 107, false))⟩,
    ⟨(some 112), .call ⟨.builtin .len, #[(.tmp 111)], #[22]⟩, (some (some 107, false))⟩,
    ⟨(some 113), .binOp .sub 3 (.tmp 112) (.const (.int .i64 1)) 3, (some (some 107, false))⟩,
    ⟨(some 114), .slice 22 (.tmp 110) none (some (.tmp 113)) none, (some (some 107, false))⟩,
    ⟨(some 115), .call ⟨.value (.func 17), #[(.tmp 109), (.tmp 114)], #[22, 22]⟩, (some (some 107, false))⟩,
    ⟨(some 116), .unOp .not 4 (.tmp 115), (some (some 107, false))⟩,
    ⟨(some 117), .pick (.tmp 107) (.const (.bool true)) (.tmp 116), none⟩]) c_sheaflaw17_StageSimple_16)
@[go_sem] theorem c_sheaflaw17_StageSimple_17_at (rd : Option Nat) (K : Post3) (t : Fr) (m : Mem) : wpM E 7 196 rd c_sheaflaw17_StageSimple_17 K t m = wpM E 7 196 rd (.seq (.ops [⟨(some 94), .move (.tmp 15), none⟩,
    ⟨(some 95), .call ⟨.builtin .len, #[(.tmp 94)], #[22]⟩, none⟩,
    ⟨(some 96), .move (.tmp 13), none⟩,
    ⟨(some 97), .call ⟨.builtin .len, #[(.tmp 96)], #[22]⟩, none⟩,
    ⟨(some 98), .binOp .add 3 (.tmp 97) (.const (.int .i64 1)) 3, none⟩,
    ⟨(some 99), .call ⟨.builtin .min, #[(.tmp 98), (.const (.int .i64 10))], #[3, 3]⟩, none⟩,
    ⟨(some 100), .binOp .neq 3 (.tmp 95) (.tmp 99) 3, none⟩,
    ⟨(some 101), .move (.tmp 100), none⟩,
    ⟨(some 102), .move (.tmp 15), (some (some 101, false))⟩,
    ⟨(some 103), .indexAddr 22 (.tmp 102) (.const (.int .i64 0)), (some (some 101, false))⟩,
    ⟨(some 104), .load 3 (.tmp 103), (some (some 101, false))⟩,
    ⟨(some 105), .binOp .neq 3 (.tmp 104) (.const (.int .i64 7)) 3, (some (some 101, false))⟩,
    ⟨(some 106), .pick (.tmp 101) (.const (.bool true)) (.tmp 105), none⟩,
    ⟨(some 107), .move (.tmp 106), none⟩,
    ⟨(some 108), .move (.tmp 15), (some (some 107, false))⟩,
    ⟨(some 109), .slice 22 (.tmp 108) (some (.const (.int .i64 1))) none none, (some (some 107, false))⟩,
    ⟨(some 110), .move (.tmp 13), (some (some 107, false))⟩,
    ⟨(some 111), .move (.tmp 15), (some (some 107, false))⟩,
    ⟨(some 112), .call ⟨.builtin .len, #[(.tmp 111)], #[22]⟩, (some (some 107, false))⟩,
    ⟨(some 113), .binOp .sub 3 (.tmp 112) (.const (.int .i64 1)) 3, (some (some 107, false))⟩,
    ⟨(some 114), .slice 22 (.tmp 110) none (some (.tmp 113)) none, (some (some 107, false))⟩,
    ⟨(some 115), .call ⟨.value (.func 17), #[(.tmp 109), (.tmp 114)], #[22, 22]⟩, (some (some 107, false))⟩,
    ⟨(some 116), .unOp .not 4 (.tmp 115), (some (some 107, false))⟩,
    ⟨(some 117), .pick (.tmp 107) (.const (.bool true)) (.tmp 116), none⟩]) c_sheaflaw17_StageSimple_16) K t m := rfl

def c_sheaflaw17_StageSimple_18 : MC := (.cond (.tmp 119) (.ops [⟨(some 120), .load 23 (.tmp 9), none⟩,
    ⟨(some 121), .move (.tmp 13), none⟩,
    ⟨(some 122), .buildSlice 23 1 #[(0, (.tmp 121))], none⟩,
    ⟨(some 123), .call ⟨.builtin .append, #[(.tmp 120), (.tmp 122)], #[23, 23]⟩, none⟩,
    ⟨none, .store 23 (.tmp 9) (.tmp 123), none⟩]) .skip)
@[go_sem] theorem c_sheaflaw17_StageSimple_18_at (rd : Option Nat) (K : Post3) (t : Fr) (m : Mem) : wpM E 7 196 rd c_sheaflaw17_StageSimple_18 K t m = wpM E 7 196 rd (.cond (.tmp 119) (.ops [⟨(some 120), .load 23 (.tmp 9), none⟩,
    ⟨(some 121), .move (.tmp 13), none⟩,
    ⟨(some 122), .buildSlice 23 1 #[(0, (.tmp 121))], none⟩,
    ⟨(some 123), .call ⟨.builtin .append, #[(.tmp 120), (.tmp 122)], #[23, 23]⟩, none⟩,
    ⟨none, .store 23 (.tmp 9) (.tmp 123), none⟩]) .skip) K t m := rfl

def c_sheaflaw17_StageSimple_19 : MC := (.seq (.ops [⟨(some 118), .move (.tmp 14), none⟩,
    ⟨(some 119), .binOp .eql 3 (.tmp 118) (.const (.int .i64 0)) 3, none⟩]) c_sheaflaw17_StageSimple_18)
@[go_sem] theorem c_sheaflaw17_StageSimple_19_at (rd : Option Nat) (K : Post3) (t : Fr) (m : Mem) : wpM E 7 196 rd c_sheaflaw17_StageSimple_19 K t m = wpM E 7 196 rd (.seq (.ops [⟨(some 118), .move (.tmp 14), none⟩,
    ⟨(some 119), .binOp .eql 3 (.tmp 118) (.const (.int .i64 0)) 3, none⟩]) c_sheaflaw17_StageSimple_18) K t m := rfl

def c_sheaflaw17_StageSimple_20 : MC := (.seq c_sheaflaw17_StageSimple_19 (.ops [⟨(some 124), .load 3 (.tmp 11), none⟩,
    ⟨(some 125), .binOp .add 3 (.tmp 124) (.const (.int .i64 1)) 3, none⟩,
    ⟨none, .store 3 (.tmp 11) (.tmp 125), none⟩]))
@[go_sem] theorem c_sheaflaw17_StageSimple_20_at (rd : Option Nat) (K : Post3) (t : Fr) (m : Mem) : wpM E 7 196 rd c_sheaflaw17_StageSimple_20 K t m = wpM E 7 196 rd (.seq c_sheaflaw17_StageSimple_19 (.ops [⟨(some 124), .load 3 (.tmp 11), none⟩,
    ⟨(some 125), .binOp .add 3 (.tmp 124) (.const (.int .i64 1)) 3, none⟩,
    ⟨none, .store 3 (.tmp 11) (.tmp 125), none⟩])) K t m := rfl

def c_sheaflaw17_StageSimple_21 : MC := (.seq c_sheaflaw17_StageSimple_17 c_sheaflaw17_StageSimple_20)
@[go_sem] theorem c_sheaflaw17_StageSimple_21_at (rd : Option Nat) (K : Post3) (t : Fr) (m : Mem) : wpM E 7 196 rd c_sheaflaw17_StageSimple_21 K t m = wpM E 7 196 rd (.seq c_sheaflaw17_StageSimple_17 c_sheaflaw17_StageSimple_20) K t m := rfl

def c_sheaflaw17_StageSimple_22 : MC := (.seq (.ops [⟨(some 92), .move (.tmp 13), none⟩,
    ⟨(some 93), .call ⟨.value (.func 23), #[(.const (.int .i64 7)), (.tmp 92)], #[3, 22]⟩, none⟩,
    ⟨(some 15), .assign (.tmp 93), none⟩]) c_sheaflaw17_StageSimple_21)
@[go_sem] theorem c_sheaflaw17_StageSimple_22_at (rd : Option Nat) (K : Post3) (t : Fr) (m : Mem) : wpM E 7 196 rd c_sheaflaw17_StageSimple_22 K t m = wpM E 7 196 rd (.seq (.ops [⟨(some 92), .move (.tmp 13), none⟩,
    ⟨(some 93), .call ⟨.value (.func 23), #[(.const (.int .i64 7)), (.tmp 92)], #[3, 22]⟩, none⟩,
    ⟨(some 15), .assign (.tmp 93), none⟩]) c_sheaflaw17_StageSimple_21) K t m := rfl

def c_sheaflaw17_StageSimple_23 : MC := (.seq c_sheaflaw17_StageSimple_14 c_sheaflaw17_StageSimple_22)
@[go_sem] theorem c_sheaflaw17_StageSimple_23_at (rd : Option Nat) (K : Post3) (t : Fr) (m : Mem) : wpM E 7 196 rd c_sheaflaw17_StageSimple_23 K t m = wpM E 7 196 rd (.seq c_sheaflaw17_StageSimple_14 c_sheaflaw17_StageSimple_22) K t m := rfl

def c_sheaflaw17_StageSimple_24 : MC := (.block 3 c_sheaflaw17_StageSimple_23)
@[go_sem] theorem c_sheaflaw17_StageSimple_24_at (rd : Option Nat) (K : Post3) (t : Fr) (m : Mem) : wpM E 7 196 rd c_sheaflaw17_StageSimple_24 K t m = wpM E 7 196 rd (.block 3 c_sheaflaw17_StageSimple_23) K t m := rfl

theorem asg_sheaflaw17_StageSimple_0 : compile E 7 196 (asgAt E 7 0) = some c_sheaflaw17_StageSimple_11 := by kernel_rfl

theorem body_sheaflaw17_StageSimple_0 : compile E 7 196 (bodyAt E 7 0) = some c_sheaflaw17_StageSimple_24 := by kernel_rfl

def c_sheaflaw17_StageSimple_25 : MC := (.range (.tmp 61) #[62, 63] (asgAt E 7 0) (bodyAt E 7 0))
theorem c_sheaflaw17_StageSimple_25_at (rd : Option Nat) (K : Post3) (t : Fr) (m : Mem) : wpM E 7 196 rd c_sheaflaw17_StageSimple_25 K t m = wpM E 7 196 rd (.range (.tmp 61) #[62, 63] (asgAt E 7 0) (bodyAt E 7 0)) K t m := rfl

def c_sheaflaw17_StageSimple_26 : MC := (.block 2 c_sheaflaw17_StageSimple_25)
@[go_sem] theorem c_sheaflaw17_StageSimple_26_at (rd : Option Nat) (K : Post3) (t : Fr) (m : Mem) : wpM E 7 196 rd c_sheaflaw17_StageSimple_26 K t m = wpM E 7 196 rd (.block 2 c_sheaflaw17_StageSimple_25) K t m := rfl

def c_sheaflaw17_StageSimple_27 : MC := (.seq (.ops [⟨(some 61), .move (.tmp 12), none⟩]) c_sheaflaw17_StageSimple_26)
@[go_sem] theorem c_sheaflaw17_StageSimple_27_at (rd : Option Nat) (K : Post3) (t : Fr) (m : Mem) : wpM E 7 196 rd c_sheaflaw17_StageSimple_27 K t m = wpM E 7 196 rd (.seq (.ops [⟨(some 61), .move (.tmp 12), none⟩]) c_sheaflaw17_StageSimple_26) K t m := rfl

def c_sheaflaw17_StageSimple_28 : MC := (.seq (.ops [⟨none, .store 4 (.tmp 6) (.const (.bool false)), none⟩]) .ret)
@[go_sem] theorem c_sheaflaw17_StageSimple_28_at (rd : Option Nat) (K : Post3) (t : Fr) (m : Mem) : wpM E 7 196 rd c_sheaflaw17_StageSimple_28 K t m = wpM E 7 196 rd (.seq (.ops [⟨none, .store 4 (.tmp 6) (.const (.bool false)), none⟩]) .ret) K t m := rfl

def c_sheaflaw17_StageSimple_29 : MC := (.cond (.tmp 131) c_sheaflaw17_StageSimple_28 .skip)
@[go_sem] theorem c_sheaflaw17_StageSimple_29_at (rd : Option Nat) (K : Post3) (t : Fr) (m : Mem) : wpM E 7 196 rd c_sheaflaw17_StageSimple_29 K t m = wpM E 7 196 rd (.cond (.tmp 131) c_sheaflaw17_StageSimple_28 .skip) K t m := rfl

def c_sheaflaw17_StageSimple_30 : MC := (.seq (.ops [⟨(some 130), .move (.tmp 17), none⟩,
    ⟨(some 131), .binOp .eql 27 (.tmp 130) (.const .nilFunc) 27, none⟩]) c_sheaflaw17_StageSimple_29)
@[go_sem] theorem c_sheaflaw17_StageSimple_30_at (rd : Option Nat) (K : Post3) (t : Fr) (m : Mem) : wpM E 7 196 rd c_sheaflaw17_StageSimple_30 K t m = wpM E 7 196 rd (.seq (.ops [⟨(some 130), .move (.tmp 17), none⟩,
    ⟨(some 131), .binOp .eql 27 (.tmp 130) (.const .nilFunc) 27, none⟩]) c_sheaflaw17_StageSimple_29) K t m := rfl

def c_sheaflaw17_StageSimple_31 : MC := (.seq (.ops [⟨(some 18), .assign (.tmp 133), none⟩]) (.ops [⟨(some 19), .assign (.tmp 134), none⟩]))
@[go_sem] theorem c_sheaflaw17_StageSimple_31_at (rd : Option Nat) (K : Post3) (t : Fr) (m : Mem) : wpM E 7 196 rd c_sheaflaw17_StageSimple_31 K t m = wpM E 7 196 rd (.seq (.ops [⟨(some 18), .assign (.tmp 133), none⟩]) (.ops [⟨(some 19), .assign (.tmp 134), none⟩])) K t m := rfl

def c_sheaflaw17_StageSimple_32 : MC := (.seq (.ops [⟨none, .store 4 (.tmp 6) (.const (.bool false)), none⟩]) .ret)
@[go_sem] theorem c_sheaflaw17_StageSimple_32_at (rd : Option Nat) (K : Post3) (t : Fr) (m : Mem) : wpM E 7 196 rd c_sheaflaw17_StageSimple_32 K t m = wpM E 7 196 rd (.seq (.ops [⟨none, .store 4 (.tmp 6) (.const (.bool false)), none⟩]) .ret) K t m := rfl

def c_sheaflaw17_StageSimple_33 : MC := (.cond (.tmp 180) c_sheaflaw17_StageSimple_32 .skip)
@[go_sem] theorem c_sheaflaw17_StageSimple_33_at (rd : Option Nat) (K : Post3) (t : Fr) (m : Mem) : wpM E 7 196 rd c_sheaflaw17_StageSimple_33 K t m = wpM E 7 196 rd (.cond (.tmp 180) c_sheaflaw17_StageSimple_32 .skip) K t m := rfl

def c_sheaflaw17_StageSimple_34 : MC := (.seq (.ops [⟨(some 154), .load 3 (.tmp 16), none⟩,
    ⟨(some 155), .load 23 (.tmp 9), none⟩,
    ⟨(some 156), .call ⟨.builtin .len, #[(.tmp 155)], #[23]⟩, none⟩,
    ⟨(some 157), .binOp .geq 3 (.tmp 154) (.tmp 156) 3, none⟩,
    ⟨(some 158), .move (.tmp 157), none⟩,
    ⟨(some 159), .move (.tmp 18), (some (some 158, false))⟩,
    ⟨(some 160), .load 23 (.tmp 9), (some (some 158, false))⟩,
    ⟨(some 161), .load 3 (.tmp 16), (some (some 158, false))⟩,
    ⟨(some 162), .indexAddr 23 (.tmp 160) (.tmp 161), (some (some 158, false))⟩,
    ⟨(some 163), .load 22 (.tmp 162), (some (some 158, false))⟩,
    ⟨(some 164), .call ⟨.value (.func 17), #[(.tmp 159), (.tmp 163)], #[22, 22]⟩, (some (some 158, false))⟩,
    ⟨(some 165), .unOp .not 4 (.tmp 164), (some (some 158, false))⟩,
    ⟨(some 166), .pick (.tmp 158) (.const (.bool true)) (.tmp 165), none⟩,
    ⟨(some 167), .move (.tmp 166), none⟩,
    ⟨(some 168), .move (.tmp 19), (some (some 167, false))⟩,
    ⟨(some 169), .binOp .eql 3 (.tmp 168) (.const (.int .i64 0)) 3, (some (some 167, false))⟩,
    ⟨(some 170), .move (.tmp 20), (some (some 167, false))⟩,
    ⟨(some 171), .binOp .neq 4 (.tmp 169) (.tmp 170) 4, (some (some 167, false))⟩,
    ⟨(some 172), .pick (.tmp 167) (.const (.bool true)) (.tmp 171), none⟩,
    ⟨(some 173), .move (.tmp 172), none⟩,
    ⟨(some 174), .move (.tmp 19), (some (some 173, false))⟩,
    ⟨(some 175), .binOp .neq 3 (.tmp 174) (.const (.int .i64 0)) 3, (some (some 173, false))⟩,
    ⟨(some 176), .move (.tmp 175), (some (some 173, false))⟩,
    ⟨(some 177), .move (.tmp 19), (some (some 176, true))⟩,
    ⟨(some 178), .binOp .neq 3 (.tmp 177) (.const (.int .i64 3)) 3, (some (some 176, true))⟩,
    ⟨(some 179), .pick (.tmp 176) (.tmp 178) (.const (.bool false)), (some (some 173, false))⟩,
    ⟨(some 180), .pick (.tmp 173) (.const (.bool true)) (.tmp 179), none⟩]) c_sheaflaw17_StageSimple_33)
@[go_sem] theorem c_sheaflaw17_StageSimple_34_at (rd : Option Nat) (K : Post3) (t : Fr) (m : Mem) : wpM E 7 196 rd c_sheaflaw17_StageSimple_34 K t m = wpM E 7 196 rd (.seq (.ops [⟨(some 154), .load 3 (.tmp 16), none⟩,
    ⟨(some 155), .load 23 (.tmp 9), none⟩,
    ⟨(some 156), .call ⟨.builtin .len, #[(.tmp 155)], #[23]⟩, none⟩,
    ⟨(some 157), .binOp .geq 3 (.tmp 154) (.tmp 156) 3, none⟩,
    ⟨(some 158), .move (.tmp 157), none⟩,
    ⟨(some 159), .move (.tmp 18), (some (some 158, false))⟩,
    ⟨(some 160), .load 23 (.tmp 9), (some (some 158, false))⟩,
    ⟨(some 161), .load 3 (.tmp 16), (some (some 158, false))⟩,
    ⟨(some 162), .indexAddr 23 (.tmp 160) (.tmp 161), (some (some 158, false))⟩,
    ⟨(some 163), .load 22 (.tmp 162), (some (some 158, false))⟩,
    ⟨(some 164), .call ⟨.value (.func 17), #[(.tmp 159), (.tmp 163)], #[22, 22]⟩, (some (some 158, false))⟩,
    ⟨(some 165), .unOp .not 4 (.tmp 164), (some (some 158, false))⟩,
    ⟨(some 166), .pick (.tmp 158) (.const (.bool true)) (.tmp 165), none⟩,
    ⟨(some 167), .move (.tmp 166), none⟩,
    ⟨(some 168), .move (.tmp 19), (some (some 167, false))⟩,
    ⟨(some 169), .binOp .eql 3 (.tmp 168) (.const (.int .i64 0)) 3, (some (some 167, false))⟩,
    ⟨(some 170), .move (.tmp 20), (some (some 167, false))⟩,
    ⟨(some 171), .binOp .neq 4 (.tmp 169) (.tmp 170) 4, (some (some 167, false))⟩,
    ⟨(some 172), .pick (.tmp 167) (.const (.bool true)) (.tmp 171), none⟩,
    ⟨(some 173), .move (.tmp 172), none⟩,
    ⟨(some 174), .move (.tmp 19), (some (some 173, false))⟩,
    ⟨(some 175), .binOp .neq 3 (.tmp 174) (.const (.int .i64 0)) 3, (some (some 173, false))⟩,
    ⟨(some 176), .move (.tmp 175), (some (some 173, false))⟩,
    ⟨(some 177), .move (.tmp 19), (some (some 176, true))⟩,
    ⟨(some 178), .binOp .neq 3 (.tmp 177) (.const (.int .i64 3)) 3, (some (some 176, true))⟩,
    ⟨(some 179), .pick (.tmp 176) (.tmp 178) (.const (.bool false)), (some (some 173, false))⟩,
    ⟨(some 180), .pick (.tmp 173) (.const (.bool true)) (.tmp 179), none⟩]) c_sheaflaw17_StageSimple_33) K t m := rfl

def c_sheaflaw17_StageSimple_35 : MC := (.seq c_sheaflaw17_StageSimple_34 (.ops [⟨(some 181), .load 3 (.tmp 16), none⟩,
    ⟨(some 182), .binOp .add 3 (.tmp 181) (.const (.int .i64 1)) 3, none⟩,
    ⟨none, .store 3 (.tmp 16) (.tmp 182), none⟩]))
@[go_sem] theorem c_sheaflaw17_StageSimple_35_at (rd : Option Nat) (K : Post3) (t : Fr) (m : Mem) : wpM E 7 196 rd c_sheaflaw17_StageSimple_35 K t m = wpM E 7 196 rd (.seq c_sheaflaw17_StageSimple_34 (.ops [⟨(some 181), .load 3 (.tmp 16), none⟩,
    ⟨(some 182), .binOp .add 3 (.tmp 181) (.const (.int .i64 1)) 3, none⟩,
    ⟨none, .store 3 (.tmp 16) (.tmp 182), none⟩])) K t m := rfl

def c_sheaflaw17_StageSimple_36 : MC := (.seq (.ops [⟨(some 135), .move (.tmp 18), none⟩,
    ⟨(some 136), .call ⟨.builtin .len, #[(.tmp 135)], #[22]⟩, none⟩,
    ⟨(some 137), .binOp .eql 3 (.tmp 136) (.const (.int .i64 6)) 3, none⟩,
    ⟨(some 138), .move (.tmp 137), none⟩,
    ⟨(some 139), .move (.tmp 18), (some (some 138, true))⟩,
    ⟨(some 140), .indexAddr 22 (.tmp 139) (.const (.int .i64 3)), (some (some 138, true))⟩,
    ⟨(some 141), .load 3 (.tmp 140), (some (some 138, true))⟩,
    ⟨(some 142), .fieldAddr 46 (.tmp 7) 0, (some (some 138, true))⟩,
    ⟨(some 143), .load 3 (.tmp 142), (some (some 138, true))⟩,
    ⟨(some 144), .binOp .geq 3 (.tmp 141) (.tmp 143) 3, (some (some 138, true))⟩,
    ⟨(some 145), .pick (.tmp 138) (.tmp 144) (.const (.bool false)), none⟩,
    ⟨(some 146), .move (.tmp 145), none⟩,
    ⟨(some 147), .move (.tmp 18), (some (some 146, true))⟩,
    ⟨(some 148), .indexAddr 22 (.tmp 147) (.const (.int .i64 3)), (some (some 146, true))⟩,
    ⟨(some 149), .load 3 (.tmp 148), (some (some 146, true))⟩,
    ⟨(some 150), .fieldAddr 46 (.tmp 7) 1, (some (some 146, true))⟩,
    ⟨(some 151), .load 3 (.tmp 150), (some (some 146, true))⟩,
    ⟨(some 152), .binOp .leq 3 (.tmp 149) (.tmp 151) 3, (some (some 146, true))⟩,
    ⟨(some 153), .pick (.tmp 146) (.tmp 152) (.const (.bool false)), none⟩,
    ⟨(some 20), .assign (.tmp 153), none⟩]) c_sheaflaw17_StageSimple_35)
@[go_sem] theorem c_sheaflaw17_StageSimple_36_at (rd : Option Nat) (K : Post3) (t : Fr) (m : Mem) : wpM E 7 196 rd c_sheaflaw17_StageSimple_36 K t m = wpM E 7 196 rd (.seq (.ops [⟨(some 135), .move (.tmp 18), none⟩,
    ⟨(some 136), .call ⟨.builtin .len, #[(.tmp 135)], #[22]⟩, none⟩,
    ⟨(some 137), .binOp .eql 3 (.tmp 136) (.const (.int .i64 6)) 3, none⟩,
    ⟨(some 138), .move (.tmp 137), none⟩,
    ⟨(some 139), .move (.tmp 18), (some (some 138, true))⟩,
    ⟨(some 140), .indexAddr 22 (.tmp 139) (.const (.int .i64 3)), (some (some 138, true))⟩,
    ⟨(some 141), .load 3 (.tmp 140), (some (some 138, true))⟩,
    ⟨(some 142), .fieldAddr 46 (.tmp 7) 0, (some (some 138, true))⟩,
    ⟨(some 143), .load 3 (.tmp 142), (some (some 138, true))⟩,
    ⟨(some 144), .binOp .geq 3 (.tmp 141) (.tmp 143) 3, (some (some 138, true))⟩,
    ⟨(some 145), .pick (.tmp 138) (.tmp 144) (.const (.bool false)), none⟩,
    ⟨(some 146), .move (.tmp 145), none⟩,
    ⟨(some 147), .move (.tmp 18), (some (some 146, true))⟩,
    ⟨(some 148), .indexAddr 22 (.tmp 147) (.const (.int .i64 3)), (some (some 146, true))⟩,
    ⟨(some 149), .load 3 (.tmp 148), (some (some 146, true))⟩,
    ⟨(some 150), .fieldAddr 46 (.tmp 7) 1, (some (some 146, true))⟩,
    ⟨(some 151), .load 3 (.tmp 150), (some (some 146, true))⟩,
    ⟨(some 152), .binOp .leq 3 (.tmp 149) (.tmp 151) 3, (some (some 146, true))⟩,
    ⟨(some 153), .pick (.tmp 146) (.tmp 152) (.const (.bool false)), none⟩,
    ⟨(some 20), .assign (.tmp 153), none⟩]) c_sheaflaw17_StageSimple_35) K t m := rfl

def c_sheaflaw17_StageSimple_37 : MC := (.block 5 c_sheaflaw17_StageSimple_36)
@[go_sem] theorem c_sheaflaw17_StageSimple_37_at (rd : Option Nat) (K : Post3) (t : Fr) (m : Mem) : wpM E 7 196 rd c_sheaflaw17_StageSimple_37 K t m = wpM E 7 196 rd (.block 5 c_sheaflaw17_StageSimple_36) K t m := rfl

theorem asg_sheaflaw17_StageSimple_1 : compile E 7 196 (asgAt E 7 1) = some c_sheaflaw17_StageSimple_31 := by kernel_rfl

theorem body_sheaflaw17_StageSimple_1 : compile E 7 196 (bodyAt E 7 1) = some c_sheaflaw17_StageSimple_37 := by kernel_rfl

def c_sheaflaw17_StageSimple_38 : MC := (.range (.tmp 132) #[133, 134] (asgAt E 7 1) (bodyAt E 7 1))
theorem c_sheaflaw17_StageSimple_38_at (rd : Option Nat) (K : Post3) (t : Fr) (m : Mem) : wpM E 7 196 rd c_sheaflaw17_StageSimple_38 K t m = wpM E 7 196 rd (.range (.tmp 132) #[133, 134] (asgAt E 7 1) (bodyAt E 7 1)) K t m := rfl

def c_sheaflaw17_StageSimple_39 : MC := (.block 4 c_sheaflaw17_StageSimple_38)
@[go_sem] theorem c_sheaflaw17_StageSimple_39_at (rd : Option Nat) (K : Post3) (t : Fr) (m : Mem) : wpM E 7 196 rd c_sheaflaw17_StageSimple_39 K t m = wpM E 7 196 rd (.block 4 c_sheaflaw17_StageSimple_38) K t m := rfl

def c_sheaflaw17_StageSimple_40 : MC := (.seq (.ops [⟨(some 132), .move (.tmp 17), none⟩]) c_sheaflaw17_StageSimple_39)
@[go_sem] theorem c_sheaflaw17_StageSimple_40_at (rd : Option Nat) (K : Post3) (t : Fr) (m : Mem) : wpM E 7 196 rd c_sheaflaw17_StageSimple_40 K t m = wpM E 7 196 rd (.seq (.ops [⟨(some 132), .move (.tmp 17), none⟩]) c_sheaflaw17_StageSimple_39) K t m := rfl

def c_sheaflaw17_StageSimple_41 : MC := (.seq (.ops [⟨(some 183), .load 3 (.tmp 11), none⟩,
    ⟨(some 184), .load 23 (.tmp 8), none⟩,
    ⟨(some 185), .call ⟨.builtin .len, #[(.tmp 184)], #[23]⟩, none⟩,
    ⟨(some 186), .binOp .eql 3 (.tmp 183) (.tmp 185) 3, none⟩,
    ⟨(some 187), .move (.tmp 186), none⟩,
    ⟨(some 188), .load 3 (.tmp 16), (some (some 187, true))⟩,
    ⟨(some 189), .load 23 (.tmp 9), (some (some 187, true))⟩,
    ⟨(some 190), .call ⟨.builtin .len, #[(.tmp 189)], #[23]⟩, (some (some 187, true))⟩,
    ⟨(some 191), .binOp .eql 3 (.tmp 188) (.tmp 190) 3, (some (some 187, true))⟩,
    ⟨(some 192), .pick (.tmp 187) (.tmp 191) (.const (.bool false)), none⟩,
    ⟨(some 193), .move (.tmp 192), none⟩,
    ⟨(some 194), .call ⟨.value (.func 3), #[], #[]⟩, (some (some 193, true))⟩,
    ⟨(some 195), .pick (.tmp 193) (.tmp 194) (.const (.bool false)), none⟩,
    ⟨none, .store 4 (.tmp 6) (.tmp 195), none⟩]) .ret)
@[go_sem] theorem c_sheaflaw17_StageSimple_41_at (rd : Option Nat) (K : Post3) (t : Fr) (m : Mem) : wpM E 7 196 rd c_sheaflaw17_StageSimple_41 K t m = wpM E 7 196 rd (.seq (.ops [⟨(some 183), .load 3 (.tmp 11), none⟩,
    ⟨(some 184), .load 23 (.tmp 8), none⟩,
    ⟨(some 185), .call ⟨.builtin .len, #[(.tmp 184)], #[23]⟩, none⟩,
    ⟨(some 186), .binOp .eql 3 (.tmp 183) (.tmp 185) 3, none⟩,
    ⟨(some 187), .move (.tmp 186), none⟩,
    ⟨(some 188), .load 3 (.tmp 16), (some (some 187, true))⟩,
    ⟨(some 189), .load 23 (.tmp 9), (some (some 187, true))⟩,
    ⟨(some 190), .call ⟨.builtin .len, #[(.tmp 189)], #[23]⟩, (some (some 187, true))⟩,
    ⟨(some 191), .binOp .eql 3 (.tmp 188) (.tmp 190) 3, (some (some 187, true))⟩,
    ⟨(some 192), .pick (.tmp 187) (.tmp 191) (.const (.bool false)), none⟩,
    ⟨(some 193), .move (.tmp 192), none⟩,
    ⟨(some 194), .call ⟨.value (.func 3), #[], #[]⟩, (some (some 193, true))⟩,
    ⟨(some 195), .pick (.tmp 193) (.tmp 194) (.const (.bool false)), none⟩,
    ⟨none, .store 4 (.tmp 6) (.tmp 195), none⟩]) .ret) K t m := rfl

def c_sheaflaw17_StageSimple_42 : MC := (.seq c_sheaflaw17_StageSimple_40 c_sheaflaw17_StageSimple_41)
@[go_sem] theorem c_sheaflaw17_StageSimple_42_at (rd : Option Nat) (K : Post3) (t : Fr) (m : Mem) : wpM E 7 196 rd c_sheaflaw17_StageSimple_42 K t m = wpM E 7 196 rd (.seq c_sheaflaw17_StageSimple_40 c_sheaflaw17_StageSimple_41) K t m := rfl

def c_sheaflaw17_StageSimple_43 : MC := (.seq c_sheaflaw17_StageSimple_30 c_sheaflaw17_StageSimple_42)
@[go_sem] theorem c_sheaflaw17_StageSimple_43_at (rd : Option Nat) (K : Post3) (t : Fr) (m : Mem) : wpM E 7 196 rd c_sheaflaw17_StageSimple_43 K t m = wpM E 7 196 rd (.seq c_sheaflaw17_StageSimple_30 c_sheaflaw17_StageSimple_42) K t m := rfl

def c_sheaflaw17_StageSimple_44 : MC := (.seq (.draw [(0, [], ⟨(some 126), .load 23 (.tmp 9), none⟩),
    (2, [], ⟨(some 128), .load 46 (.tmp 7), none⟩),
    (1, [2], ⟨(some 127), .call ⟨.value (.func 11), #[(.tmp 126)], #[23]⟩, none⟩),
    (3, [], ⟨(some 129), .call ⟨.value (.func 24), #[(.tmp 127), (.tmp 128)], #[30, 46]⟩, none⟩),
    (4, [], ⟨(some 17), .assign (.tmp 129), none⟩)]) c_sheaflaw17_StageSimple_43)
@[go_sem] theorem c_sheaflaw17_StageSimple_44_at (rd : Option Nat) (K : Post3) (t : Fr) (m : Mem) : wpM E 7 196 rd c_sheaflaw17_StageSimple_44 K t m = wpM E 7 196 rd (.seq (.draw [(0, [], ⟨(some 126), .load 23 (.tmp 9), none⟩),
    (2, [], ⟨(some 128), .load 46 (.tmp 7), none⟩),
    (1, [2], ⟨(some 127), .call ⟨.value (.func 11), #[(.tmp 126)], #[23]⟩, none⟩),
    (3, [], ⟨(some 129), .call ⟨.value (.func 24), #[(.tmp 127), (.tmp 128)], #[30, 46]⟩, none⟩),
    (4, [], ⟨(some 17), .assign (.tmp 129), none⟩)]) c_sheaflaw17_StageSimple_43) K t m := rfl

def c_sheaflaw17_StageSimple_45 : MC := (.seq (.ops [⟨(some 16), .alloc 3, none⟩,
    ⟨none, .store 3 (.tmp 16) (.const (.int .i64 0)), none⟩]) c_sheaflaw17_StageSimple_44)
@[go_sem] theorem c_sheaflaw17_StageSimple_45_at (rd : Option Nat) (K : Post3) (t : Fr) (m : Mem) : wpM E 7 196 rd c_sheaflaw17_StageSimple_45 K t m = wpM E 7 196 rd (.seq (.ops [⟨(some 16), .alloc 3, none⟩,
    ⟨none, .store 3 (.tmp 16) (.const (.int .i64 0)), none⟩]) c_sheaflaw17_StageSimple_44) K t m := rfl

def c_sheaflaw17_StageSimple_46 : MC := (.seq c_sheaflaw17_StageSimple_27 c_sheaflaw17_StageSimple_45)
@[go_sem] theorem c_sheaflaw17_StageSimple_46_at (rd : Option Nat) (K : Post3) (t : Fr) (m : Mem) : wpM E 7 196 rd c_sheaflaw17_StageSimple_46 K t m = wpM E 7 196 rd (.seq c_sheaflaw17_StageSimple_27 c_sheaflaw17_StageSimple_45) K t m := rfl

def c_sheaflaw17_StageSimple_47 : MC := (.seq c_sheaflaw17_StageSimple_10 c_sheaflaw17_StageSimple_46)
@[go_sem] theorem c_sheaflaw17_StageSimple_47_at (rd : Option Nat) (K : Post3) (t : Fr) (m : Mem) : wpM E 7 196 rd c_sheaflaw17_StageSimple_47 K t m = wpM E 7 196 rd (.seq c_sheaflaw17_StageSimple_10 c_sheaflaw17_StageSimple_46) K t m := rfl

def c_sheaflaw17_StageSimple_48 : MC := (.seq (.ops [⟨(some 56), .load 23 (.tmp 8), none⟩,
    ⟨(some 57), .call ⟨.value (.func 11), #[(.tmp 56)], #[23]⟩, none⟩,
    ⟨(some 58), .call ⟨.value (.func 21), #[(.tmp 57)], #[30]⟩, none⟩,
    ⟨(some 12), .assign (.tmp 58), none⟩]) c_sheaflaw17_StageSimple_47)
@[go_sem] theorem c_sheaflaw17_StageSimple_48_at (rd : Option Nat) (K : Post3) (t : Fr) (m : Mem) : wpM E 7 196 rd c_sheaflaw17_StageSimple_48 K t m = wpM E 7 196 rd (.seq (.ops [⟨(some 56), .load 23 (.tmp 8), none⟩,
    ⟨(some 57), .call ⟨.value (.func 11), #[(.tmp 56)], #[23]⟩, none⟩,
    ⟨(some 58), .call ⟨.value (.func 21), #[(.tmp 57)], #[30]⟩, none⟩,
    ⟨(some 12), .assign (.tmp 58), none⟩]) c_sheaflaw17_StageSimple_47) K t m := rfl

def c_sheaflaw17_StageSimple_49 : MC := (.seq (.ops [⟨(some 11), .alloc 3, none⟩,
    ⟨none, .store 3 (.tmp 11) (.const (.int .i64 0)), none⟩]) c_sheaflaw17_StageSimple_48)
@[go_sem] theorem c_sheaflaw17_StageSimple_49_at (rd : Option Nat) (K : Post3) (t : Fr) (m : Mem) : wpM E 7 196 rd c_sheaflaw17_StageSimple_49 K t m = wpM E 7 196 rd (.seq (.ops [⟨(some 11), .alloc 3, none⟩,
    ⟨none, .store 3 (.tmp 11) (.const (.int .i64 0)), none⟩]) c_sheaflaw17_StageSimple_48) K t m := rfl

def c_sheaflaw17_StageSimple_50 : MC := (.seq c_sheaflaw17_StageSimple_7 c_sheaflaw17_StageSimple_49)
@[go_sem] theorem c_sheaflaw17_StageSimple_50_at (rd : Option Nat) (K : Post3) (t : Fr) (m : Mem) : wpM E 7 196 rd c_sheaflaw17_StageSimple_50 K t m = wpM E 7 196 rd (.seq c_sheaflaw17_StageSimple_7 c_sheaflaw17_StageSimple_49) K t m := rfl

def c_sheaflaw17_StageSimple_51 : MC := (.seq (.ops [⟨(some 8), .alloc 23, none⟩,
    ⟨(some 9), .alloc 23, none⟩]) c_sheaflaw17_StageSimple_50)
@[go_sem] theorem c_sheaflaw17_StageSimple_51_at (rd : Option Nat) (K : Post3) (t : Fr) (m : Mem) : wpM E 7 196 rd c_sheaflaw17_StageSimple_51 K t m = wpM E 7 196 rd (.seq (.ops [⟨(some 8), .alloc 23, none⟩,
    ⟨(some 9), .alloc 23, none⟩]) c_sheaflaw17_StageSimple_50) K t m := rfl

def c_sheaflaw17_StageSimple_52 : MC := (.seq (.draw [(0, [], ⟨(some 24), .fieldAddr 46 (.tmp 7) 0, none⟩),
    (1, [], ⟨(some 25), .load 3 (.tmp 24), none⟩),
    (2, [], ⟨(some 26), .move (.tmp 2), none⟩),
    (3, [1], ⟨(some 27), .call ⟨.value (.func 15), #[(.tmp 26), (.const (.int .i64 0)), (.const (.int .i64 20))], #[3, 3, 3]⟩, none⟩),
    (4, [], ⟨(some 28), .binOp .add 3 (.tmp 25) (.tmp 27) 3, none⟩),
    (5, [], ⟨(some 29), .fieldAddr 46 (.tmp 7) 1, none⟩),
    (6, [], ⟨none, .store 3 (.tmp 29) (.tmp 28), none⟩)]) c_sheaflaw17_StageSimple_51)
@[go_sem] theorem c_sheaflaw17_StageSimple_52_at (rd : Option Nat) (K : Post3) (t : Fr) (m : Mem) : wpM E 7 196 rd c_sheaflaw17_StageSimple_52 K t m = wpM E 7 196 rd (.seq (.draw [(0, [], ⟨(some 24), .fieldAddr 46 (.tmp 7) 0, none⟩),
    (1, [], ⟨(some 25), .load 3 (.tmp 24), none⟩),
    (2, [], ⟨(some 26), .move (.tmp 2), none⟩),
    (3, [1], ⟨(some 27), .call ⟨.value (.func 15), #[(.tmp 26), (.const (.int .i64 0)), (.const (.int .i64 20))], #[3, 3, 3]⟩, none⟩),
    (4, [], ⟨(some 28), .binOp .add 3 (.tmp 25) (.tmp 27) 3, none⟩),
    (5, [], ⟨(some 29), .fieldAddr 46 (.tmp 7) 1, none⟩),
    (6, [], ⟨none, .store 3 (.tmp 29) (.tmp 28), none⟩)]) c_sheaflaw17_StageSimple_51) K t m := rfl

def c_sheaflaw17_StageSimple_53 : MC := (.seq (.ops [⟨(some 21), .move (.tmp 1), none⟩,
    ⟨(some 22), .call ⟨.value (.func 15), #[(.tmp 21), (.const (.int .i64 0)), (.const (.int .i64 50))], #[3, 3, 3]⟩, none⟩,
    ⟨(some 23), .build 46 #[(0, (.tmp 22))], none⟩,
    ⟨(some 7), .alloc 46, none⟩,
    ⟨none, .store 46 (.tmp 7) (.tmp 23), none⟩]) c_sheaflaw17_StageSimple_52)
@[go_sem] theorem c_sheaflaw17_StageSimple_53_at (rd : Option Nat) (K : Post3) (t : Fr) (m : Mem) : wpM E 7 196 rd c_sheaflaw17_StageSimple_53 K t m = wpM E 7 196 rd (.seq (.ops [⟨(some 21), .move (.tmp 1), none⟩,
    ⟨(some 22), .call ⟨.value (.func 15), #[(.tmp 21), (.const (.int .i64 0)), (.const (.int .i64 50))], #[3, 3, 3]⟩, none⟩,
    ⟨(some 23), .build 46 #[(0, (.tmp 22))], none⟩,
    ⟨(some 7), .alloc 46, none⟩,
    ⟨none, .store 46 (.tmp 7) (.tmp 23), none⟩]) c_sheaflaw17_StageSimple_52) K t m := rfl

def c_sheaflaw17_StageSimple_54 : MC := (.seq (.ops [⟨(some 6), .alloc 4, none⟩]) c_sheaflaw17_StageSimple_53)
@[go_sem] theorem c_sheaflaw17_StageSimple_54_at (rd : Option Nat) (K : Post3) (t : Fr) (m : Mem) : wpM E 7 196 rd c_sheaflaw17_StageSimple_54 K t m = wpM E 7 196 rd (.seq (.ops [⟨(some 6), .alloc 4, none⟩]) c_sheaflaw17_StageSimple_53) K t m := rfl

@[go_sem] theorem some7 : (E.fn 7).isSome = true := by kernel_rfl
set_option maxRecDepth 100000 in
theorem fn_sheaflaw17_StageSimple : FnIs E 7 196 [.cell 6 4] c_sheaflaw17_StageSimple_54 := ⟨by kernel_rfl, by kernel_rfl⟩

/-! sheaf/sheaflaw17.StageAll -/
abbrev F_sheaflaw17_StageAll : FuncId := 8
def c_sheaflaw17_StageAll_0 : MC := (.cond (.tmp 124) .skip (.exit 0))
@[go_sem] theorem c_sheaflaw17_StageAll_0_at (rd : Option Nat) (K : Post3) (t : Fr) (m : Mem) : wpM E 8 195 rd c_sheaflaw17_StageAll_0 K t m = wpM E 8 195 rd (.cond (.tmp 124) .skip (.exit 0)) K t m := rfl

def c_sheaflaw17_StageAll_1 : MC := (.cond (.tmp 135) (.ops [⟨(some 136), .move (.tmp 10), none⟩,
    ⟨(some 137), .move (.tmp 14), none⟩,
    ⟨(some 138), .move (.tmp 12), none⟩,
    ⟨(some 139), .call ⟨.value (.func 29), #[(.tmp 137), (.tmp 138)], #[3, 22]⟩, none⟩,
    ⟨(some 140), .buildSlice 23 1 #[(0, (.tmp 139))], none⟩,
    ⟨(some 141), .call ⟨.builtin .append, #[(.tmp 136), (.tmp 140)], #[23, 23]⟩, none⟩,
    ⟨(some 10), .assign (.tmp 141), none⟩]) (.ops [⟨(some 142), .move (.tmp 9), none⟩,
    ⟨(some 143), .move (.tmp 13), none⟩,
    ⟨(some 144), .buildSlice 23 1 #[(0, (.tmp 143))], none⟩,
    ⟨(some 145), .call ⟨.builtin .append, #[(.tmp 142), (.tmp 144)], #[23, 23]⟩, none⟩,
    ⟨(some 9), .assign (.tmp 145), none⟩]))
@[go_sem] theorem c_sheaflaw17_StageAll_1_at (rd : Option Nat) (K : Post3) (t : Fr) (m : Mem) : wpM E 8 195 rd c_sheaflaw17_StageAll_1 K t m = wpM E 8 195 rd (.cond (.tmp 135) (.ops [⟨(some 136), .move (.tmp 10), none⟩,
    ⟨(some 137), .move (.tmp 14), none⟩,
    ⟨(some 138), .move (.tmp 12), none⟩,
    ⟨(some 139), .call ⟨.value (.func 29), #[(.tmp 137), (.tmp 138)], #[3, 22]⟩, none⟩,
    ⟨(some 140), .buildSlice 23 1 #[(0, (.tmp 139))], none⟩,
    ⟨(some 141), .call ⟨.builtin .append, #[(.tmp 136), (.tmp 140)], #[23, 23]⟩, none⟩,
    ⟨(some 10), .assign (.tmp 141), none⟩]) (.ops [⟨(some 142), .move (.tmp 9), none⟩,
    ⟨(some 143), .move (.tmp 13), none⟩,
    ⟨(some 144), .buildSlice 23 1 #[(0, (.tmp 143))], none⟩,
    ⟨(some 145), .call ⟨.builtin .append, #[(.tmp 142), (.tmp 144)], #[23, 23]⟩, none⟩,
    ⟨(some 9), .assign (.tmp 145), none⟩])) K t m := rfl

def c_sheaflaw17_StageAll_2 : MC := (.seq (.ops [⟨(some 134), .move (.tmp 14), none⟩,
    ⟨(some 135), .binOp .neq 3 (.tmp 134) (.const (.int .i64 0)) 3, none⟩]) c_sheaflaw17_StageAll_1)
@[go_sem] theorem c_sheaflaw17_StageAll_2_at (rd : Option Nat) (K : Post3) (t : Fr) (m : Mem) : wpM E 8 195 rd c_sheaflaw17_StageAll_2 K t m = wpM E 8 195 rd (.seq (.ops [⟨(some 134), .move (.tmp 14), none⟩,
    ⟨(some 135), .binOp .neq 3 (.tmp 134) (.const (.int .i64 0)) 3, none⟩]) c_sheaflaw17_StageAll_1) K t m := rfl

def c_sheaflaw17_StageAll_3 : MC := (.seq (.ops [⟨(some 128), .load 55 (.tmp 3), none⟩,
    ⟨(some 129), .load 46 (.tmp 4), none⟩,
    ⟨(some 130), .move (.tmp 12), none⟩,
    ⟨(some 131), .call ⟨.value (.func 28), #[(.tmp 128), (.tmp 129), (.tmp 130)], #[55, 46, 22]⟩, none⟩,
    ⟨(some 127), .move (.tmp 131), none⟩,
    ⟨(some 132), .extract (.tmp 127) 0, none⟩,
    ⟨(some 133), .extract (.tmp 127) 1, none⟩,
    ⟨(some 13), .assign (.tmp 132), none⟩,
    ⟨(some 14), .assign (.tmp 133), none⟩]) c_sheaflaw17_StageAll_2)
@[go_sem] theorem c_sheaflaw17_StageAll_3_at (rd : Option Nat) (K : Post3) (t : Fr) (m : Mem) : wpM E 8 195 rd c_sheaflaw17_StageAll_3 K t m = wpM E 8 195 rd (.seq (.ops [⟨(some 128), .load 55 (.tmp 3), none⟩,
    ⟨(some 129), .load 46 (.tmp 4), none⟩,
    ⟨(some 130), .move (.tmp 12), none⟩,
    ⟨(some 131), .call ⟨.value (.func 28), #[(.tmp 128), (.tmp 129), (.tmp 130)], #[55, 46, 22]⟩, none⟩,
    ⟨(some 127), .move (.tmp 131), none⟩,
    ⟨(some 132), .extract (.tmp 127) 0, none⟩,
    ⟨(some 133), .extract (.tmp 127) 1, none⟩,
    ⟨(some 13), .assign (.tmp 132), none⟩,
    ⟨(some 14), .assign (.tmp 133), none⟩]) c_sheaflaw17_StageAll_2) K t m := rfl

def c_sheaflaw17_StageAll_4 : MC := (.seq (.ops [⟨(some 125), .indexAddr 23 (.tmp 121) (.tmp 123), none⟩,
    ⟨(some 126), .load 22 (.tmp 125), none⟩,
    ⟨(some 12), .assign (.tmp 126), none⟩]) c_sheaflaw17_StageAll_3)
@[go_sem] theorem c_sheaflaw17_StageAll_4_at (rd : Option Nat) (K : Post3) (t : Fr) (m : Mem) : wpM E 8 195 rd c_sheaflaw17_StageAll_4 K t m = wpM E 8 195 rd (.seq (.ops [⟨(some 125), .indexAddr 23 (.tmp 121) (.tmp 123), none⟩,
    ⟨(some 126), .load 22 (.tmp 125), none⟩,
    ⟨(some 12), .assign (.tmp 126), none⟩]) c_sheaflaw17_StageAll_3) K t m := rfl

def c_sheaflaw17_StageAll_5 : MC := (.block 1 c_sheaflaw17_StageAll_4)
@[go_sem] theorem c_sheaflaw17_StageAll_5_at (rd : Option Nat) (K : Post3) (t : Fr) (m : Mem) : wpM E 8 195 rd c_sheaflaw17_StageAll_5 K t m = wpM E 8 195 rd (.block 1 c_sheaflaw17_StageAll_4) K t m := rfl

def c_sheaflaw17_StageAll_6 : MC := (.seq c_sheaflaw17_StageAll_5 (.ops [⟨(some 146), .binOp .add 3 (.tmp 123) (.const (.int .i64 1)) 3, none⟩,
    ⟨(some 123), .move (.tmp 146), none⟩]))
@[go_sem] theorem c_sheaflaw17_StageAll_6_at (rd : Option Nat) (K : Post3) (t : Fr) (m : Mem) : wpM E 8 195 rd c_sheaflaw17_StageAll_6 K t m = wpM E 8 195 rd (.seq c_sheaflaw17_StageAll_5 (.ops [⟨(some 146), .binOp .add 3 (.tmp 123) (.const (.int .i64 1)) 3, none⟩,
    ⟨(some 123), .move (.tmp 146), none⟩])) K t m := rfl

def c_sheaflaw17_StageAll_7 : MC := (.seq c_sheaflaw17_StageAll_0 c_sheaflaw17_StageAll_6)
@[go_sem] theorem c_sheaflaw17_StageAll_7_at (rd : Option Nat) (K : Post3) (t : Fr) (m : Mem) : wpM E 8 195 rd c_sheaflaw17_StageAll_7 K t m = wpM E 8 195 rd (.seq c_sheaflaw17_StageAll_0 c_sheaflaw17_StageAll_6) K t m := rfl

def c_sheaflaw17_StageAll_8 : MC := (.seq (.ops [⟨(some 124), .binOp .lss 3 (.tmp 123) (.tmp 122) 3, none⟩]) c_sheaflaw17_StageAll_7)
@[go_sem] theorem c_sheaflaw17_StageAll_8_at (rd : Option Nat) (K : Post3) (t : Fr) (m : Mem) : wpM E 8 195 rd c_sheaflaw17_StageAll_8 K t m = wpM E 8 195 rd (.seq (.ops [⟨(some 124), .binOp .lss 3 (.tmp 123) (.tmp 122) 3, none⟩]) c_sheaflaw17_StageAll_7) K t m := rfl

def c_sheaflaw17_StageAll_9 : MC := (.loop c_sheaflaw17_StageAll_8)
theorem c_sheaflaw17_StageAll_9_at (rd : Option Nat) (K : Post3) (t : Fr) (m : Mem) : wpM E 8 195 rd c_sheaflaw17_StageAll_9 K t m = wpM E 8 195 rd (.loop c_sheaflaw17_StageAll_8) K t m := rfl

def c_sheaflaw17_StageAll_10 : MC := (.block 0 c_sheaflaw17_StageAll_9)
theorem c_sheaflaw17_StageAll_10_at (rd : Option Nat) (K : Post3) (t : Fr) (m : Mem) : wpM E 8 195 rd c_sheaflaw17_StageAll_10 K t m = wpM E 8 195 rd (.block 0 c_sheaflaw17_StageAll_9) K t m := rfl

def c_sheaflaw17_StageAll_11 : MC := (.seq (.ops [⟨(some 120), .fieldAddr 55 (.tmp 3) 0, none⟩,
    ⟨(some 121), .load 23 (.tmp 120), none⟩,
    ⟨(some 122), .call ⟨.builtin .len, #[(.tmp 121)], #[23]⟩, none⟩,
    ⟨(some 123), .move (.const (.int .i64 0)), none⟩]) c_sheaflaw17_StageAll_10)
@[go_sem] theorem c_sheaflaw17_StageAll_11_at (rd : Option Nat) (K : Post3) (t : Fr) (m : Mem) : wpM E 8 195 rd c_sheaflaw17_StageAll_11 K t m = wpM E 8 195 rd (.seq (.ops [⟨(some 120), .fieldAddr 55 (.tmp 3) 0, none⟩,
    ⟨(some 121), .load 23 (.tmp 120), none⟩,
    ⟨(some 122), .call ⟨.builtin .len, #[(.tmp 121)], #[23]⟩, none⟩,
    ⟨(some 123), .move (.const (.int .i64 0)), none⟩]) c_sheaflaw17_StageAll_10) K t m := rfl

def c_sheaflaw17_StageAll_12 : MC := (.cond (.tmp 150) .skip (.exit 2))
@[go_sem] theorem c_sheaflaw17_StageAll_12_at (rd : Option Nat) (K : Post3) (t : Fr) (m : Mem) : wpM E 8 195 rd c_sheaflaw17_StageAll_12 K t m = wpM E 8 195 rd (.cond (.tmp 150) .skip (.exit 2)) K t m := rfl

def c_sheaflaw17_StageAll_13 : MC := (.seq (.ops [⟨(some 2), .assign (.const (.bool false)), none⟩]) .ret)
@[go_sem] theorem c_sheaflaw17_StageAll_13_at (rd : Option Nat) (K : Post3) (t : Fr) (m : Mem) : wpM E 8 195 rd c_sheaflaw17_StageAll_13 K t m = wpM E 8 195 rd (.seq (.ops [⟨(some 2), .assign (.const (.bool false)), none⟩]) .ret) K t m := rfl

def c_sheaflaw17_StageAll_14 : MC := (.cond (.tmp 157) c_sheaflaw17_StageAll_13 .skip)
@[go_sem] theorem c_sheaflaw17_StageAll_14_at (rd : Option Nat) (K : Post3) (t : Fr) (m : Mem) : wpM E 8 195 rd c_sheaflaw17_StageAll_14 K t m = wpM E 8 195 rd (.cond (.tmp 157) c_sheaflaw17_StageAll_13 .skip) K t m := rfl

def c_sheaflaw17_StageAll_15 : MC := (.seq (.ops [⟨(some 152), .move (.tmp 5), none⟩,
    ⟨(some 153), .move (.tmp 15), none⟩,
    ⟨(some 154), .indexAddr 23 (.tmp 152) (.tmp 153), none⟩,
    ⟨(some 155), .load 22 (.tmp 154), none⟩,
    ⟨(some 156), .call ⟨.builtin .len, #[(.tmp 155)], #[22]⟩, none⟩,
    ⟨(some 157), .binOp .lss 3 (.tmp 156) (.const (.int .i64 1)) 3, none⟩]) c_sheaflaw17_StageAll_14)
@[go_sem] theorem c_sheaflaw17_StageAll_15_at (rd : Option Nat) (K : Post3) (t : Fr) (m : Mem) : wpM E 8 195 rd c_sheaflaw17_StageAll_15 K t m = wpM E 8 195 rd (.seq (.ops [⟨(some 152), .move (.tmp 5), none⟩,
    ⟨(some 153), .move (.tmp 15), none⟩,
    ⟨(some 154), .indexAddr 23 (.tmp 152) (.tmp 153), none⟩,
    ⟨(some 155), .load 22 (.tmp 154), none⟩,
    ⟨(some 156), .call ⟨.builtin .len, #[(.tmp 155)], #[22]⟩, none⟩,
    ⟨(some 157), .binOp .lss 3 (.tmp 156) (.const (.int .i64 1)) 3, none⟩]) c_sheaflaw17_StageAll_14) K t m := rfl

def c_sheaflaw17_StageAll_16 : MC := (.cond (.tmp 164) (.ops [⟨(some 165), .move (.tmp 5), none⟩,
    ⟨(some 166), .move (.tmp 15), none⟩,
    ⟨(some 167), .move (.tmp 5), none⟩,
    ⟨(some 168), .move (.tmp 15), none⟩,
    ⟨(some 169), .indexAddr 23 (.tmp 167) (.tmp 168), none⟩,
    ⟨(some 170), .load 22 (.tmp 169), none⟩,
    ⟨(some 171), .move (.tmp 5), none⟩,
    ⟨(some 172), .move (.tmp 15), none⟩,
    ⟨(some 173), .indexAddr 23 (.tmp 171) (.tmp 172), none⟩,
    ⟨(some 174), .load 22 (.tmp 173), none⟩,
    ⟨(some 175), .call ⟨.builtin .len, #[(.tmp 174)], #[22]⟩, none⟩,
    ⟨(some 176), .call ⟨.builtin .min, #[(.tmp 175), (.const (.int .i64 7))], #[3, 3]⟩, none⟩,
    ⟨(some 177), .slice 22 (.tmp 170) none (some (.tmp 176)) none, none⟩,
    ⟨(some 178), .indexAddr 23 (.tmp 165) (.tmp 166), none⟩,
    ⟨none, .store 22 (.tmp 178) (.tmp 177), none⟩]) .skip)
@[go_sem] theorem c_sheaflaw17_StageAll_16_at (rd : Option Nat) (K : Post3) (t : Fr) (m : Mem) : wpM E 8 195 rd c_sheaflaw17_StageAll_16 K t m = wpM E 8 195 rd (.cond (.tmp 164) (.ops [⟨(some 165), .move (.tmp 5), none⟩,
    ⟨(some 166), .move (.tmp 15), none⟩,
    ⟨(some 167), .move (.tmp 5), none⟩,
    ⟨(some 168), .move (.tmp 15), none⟩,
    ⟨(some 169), .indexAddr 23 (.tmp 167) (.tmp 168), none⟩,
    ⟨(some 170), .load 22 (.tmp 169), none⟩,
    ⟨(some 171), .move (.tmp 5), none⟩,
    ⟨(some 172), .move (.tmp 15), none⟩,
    ⟨(some 173), .indexAddr 23 (.tmp 171) (.tmp 172), none⟩,
    ⟨(some 174), .load 22 (.tmp 173), none⟩,
    ⟨(some 175), .call ⟨.builtin .len, #[(.tmp 174)], #[22]⟩, none⟩,
    ⟨(some 176), .call ⟨.builtin .min, #[(.tmp 175), (.const (.int .i64 7))], #[3, 3]⟩, none⟩,
    ⟨(some 177), .slice 22 (.tmp 170) none (some (.tmp 176)) none, none⟩,
    ⟨(some 178), .indexAddr 23 (.tmp 165) (.tmp 166), none⟩,
    ⟨none, .store 22 (.tmp 178) (.tmp 177), none⟩]) .skip) K t m := rfl

def c_sheaflaw17_StageAll_17 : MC := (.seq (.ops [⟨(some 158), .move (.tmp 5), none⟩,
    ⟨(some 159), .move (.tmp 15), none⟩,
    ⟨(some 160), .indexAddr 23 (.tmp 158) (.tmp 159), none⟩,
    ⟨(some 161), .load 22 (.tmp 160), none⟩,
    ⟨(some 162), .indexAddr 22 (.tmp 161) (.const (.int .i64 0)), none⟩,
    ⟨(some 163), .load 3 (.tmp 162), none⟩,
    ⟨(some 164), .binOp .gtr 3 (.tmp 163) (.const (.int .i64 3)) 3, none⟩]) c_sheaflaw17_StageAll_16)
@[go_sem] theorem c_sheaflaw17_StageAll_17_at (rd : Option Nat) (K : Post3) (t : Fr) (m : Mem) : wpM E 8 195 rd c_sheaflaw17_StageAll_17 K t m = wpM E 8 195 rd (.seq (.ops [⟨(some 158), .move (.tmp 5), none⟩,
    ⟨(some 159), .move (.tmp 15), none⟩,
    ⟨(some 160), .indexAddr 23 (.tmp 158) (.tmp 159), none⟩,
    ⟨(some 161), .load 22 (.tmp 160), none⟩,
    ⟨(some 162), .indexAddr 22 (.tmp 161) (.const (.int .i64 0)), none⟩,
    ⟨(some 163), .load 3 (.tmp 162), none⟩,
    ⟨(some 164), .binOp .gtr 3 (.tmp 163) (.const (.int .i64 3)) 3, none⟩]) c_sheaflaw17_StageAll_16) K t m := rfl

def c_sheaflaw17_StageAll_18 : MC := (.seq c_sheaflaw17_StageAll_15 c_sheaflaw17_StageAll_17)
@[go_sem] theorem c_sheaflaw17_StageAll_18_at (rd : Option Nat) (K : Post3) (t : Fr) (m : Mem) : wpM E 8 195 rd c_sheaflaw17_StageAll_18 K t m = wpM E 8 195 rd (.seq c_sheaflaw17_StageAll_15 c_sheaflaw17_StageAll_17) K t m := rfl

def c_sheaflaw17_StageAll_19 : MC := (.seq (.ops [⟨(some 151), .move (.tmp 149), none⟩,
    ⟨(some 15), .assign (.tmp 151), none⟩]) c_sheaflaw17_StageAll_18)
@[go_sem] theorem c_sheaflaw17_StageAll_19_at (rd : Option Nat) (K : Post3) (t : Fr) (m : Mem) : wpM E 8 195 rd c_sheaflaw17_StageAll_19 K t m = wpM E 8 195 rd (.seq (.ops [⟨(some 151), .move (.tmp 149), none⟩,
    ⟨(some 15), .assign (.tmp 151), none⟩]) c_sheaflaw17_StageAll_18) K t m := rfl

def c_sheaflaw17_StageAll_20 : MC := (.block 3 c_sheaflaw17_StageAll_19)
@[go_sem] theorem c_sheaflaw17_StageAll_20_at (rd : Option Nat) (K : Post3) (t : Fr) (m : Mem) : wpM E 8 195 rd c_sheaflaw17_StageAll_20 K t m = wpM E 8 195 rd (.block 3 c_sheaflaw17_StageAll_19) K t m := rfl

def c_sheaflaw17_StageAll_21 : MC := (.seq c_sheaflaw17_StageAll_20 (.ops [⟨(some 179), .binOp .add 3 (.tmp 149) (.const (.int .i64 1)) 3, none⟩,
    ⟨(some 149), .move (.tmp 179), none⟩]))
@[go_sem] theorem c_sheaflaw17_StageAll_21_at (rd : Option Nat) (K : Post3) (t : Fr) (m : Mem) : wpM E 8 195 rd c_sheaflaw17_StageAll_21 K t m = wpM E 8 195 rd (.seq c_sheaflaw17_StageAll_20 (.ops [⟨(some 179), .binOp .add 3 (.tmp 149) (.const (.int .i64 1)) 3, none⟩,
    ⟨(some 149), .move (.tmp 179), none⟩])) K t m := rfl

def c_sheaflaw17_StageAll_22 : MC := (.seq c_sheaflaw17_StageAll_12 c_sheaflaw17_StageAll_21)
@[go_sem] theorem c_sheaflaw17_StageAll_22_at (rd : Option Nat) (K : Post3) (t : Fr) (m : Mem) : wpM E 8 195 rd c_sheaflaw17_StageAll_22 K t m = wpM E 8 195 rd (.seq c_sheaflaw17_StageAll_12 c_sheaflaw17_StageAll_21) K t m := rfl

def c_sheaflaw17_StageAll_23 : MC := (.seq (.ops [⟨(some 150), .binOp .lss 3 (.tmp 149) (.tmp 148) 3, none⟩]) c_sheaflaw17_StageAll_22)
@[go_sem] theorem c_sheaflaw17_StageAll_23_at (rd : Option Nat) (K : Post3) (t : Fr) (m : Mem) : wpM E 8 195 rd c_sheaflaw17_StageAll_23 K t m = wpM E 8 195 rd (.seq (.ops [⟨(some 150), .binOp .lss 3 (.tmp 149) (.tmp 148) 3, none⟩]) c_sheaflaw17_StageAll_22) K t m := rfl

def c_sheaflaw17_StageAll_24 : MC := (.loop c_sheaflaw17_StageAll_23)
theorem c_sheaflaw17_StageAll_24_at (rd : Option Nat) (K : Post3) (t : Fr) (m : Mem) : wpM E 8 195 rd c_sheaflaw17_StageAll_24 K t m = wpM E 8 195 rd (.loop c_sheaflaw17_StageAll_23) K t m := rfl

def c_sheaflaw17_StageAll_25 : MC := (.block 2 c_sheaflaw17_StageAll_24)
theorem c_sheaflaw17_StageAll_25_at (rd : Option Nat) (K : Post3) (t : Fr) (m : Mem) : wpM E 8 195 rd c_sheaflaw17_StageAll_25 K t m = wpM E 8 195 rd (.block 2 c_sheaflaw17_StageAll_24) K t m := rfl

def c_sheaflaw17_StageAll_26 : MC := (.seq (.ops [⟨(some 147), .move (.tmp 5), none⟩,
    ⟨(some 148), .call ⟨.builtin .len, #[(.tmp 147)], #[23]⟩, none⟩,
    ⟨(some 149), .move (.const (.int .i64 0)), none⟩]) c_sheaflaw17_StageAll_25)
@[go_sem] theorem c_sheaflaw17_StageAll_26_at (rd : Option Nat) (K : Post3) (t : Fr) (m : Mem) : wpM E 8 195 rd c_sheaflaw17_StageAll_26 K t m = wpM E 8 195 rd (.seq (.ops [⟨(some 147), .move (.tmp 5), none⟩,
    ⟨(some 148), .call ⟨.builtin .len, #[(.tmp 147)], #[23]⟩, none⟩,
    ⟨(some 149), .move (.const (.int .i64 0)), none⟩]) c_sheaflaw17_StageAll_25) K t m := rfl

def c_sheaflaw17_StageAll_27 : MC := (.seq (.ops [⟨(some 180), .move (.tmp 6), none⟩,
    ⟨(some 181), .call ⟨.value (.func 18), #[(.tmp 180), (.const (.slice none 0 0))], #[23, 22]⟩, none⟩,
    ⟨(some 182), .move (.tmp 9), none⟩,
    ⟨(some 183), .call ⟨.value (.func 18), #[(.tmp 182), (.const (.slice none 0 0))], #[23, 22]⟩, none⟩,
    ⟨(some 184), .call ⟨.value (.func 14), #[(.tmp 181), (.tmp 183)], #[23, 23]⟩, none⟩,
    ⟨(some 185), .move (.tmp 184), none⟩,
    ⟨(some 186), .move (.tmp 5), (some (some 185, true))⟩,
    ⟨(some 187), .call ⟨.value (.func 18), #[(.tmp 186), (.const (.slice none 0 0))], #[23, 22]⟩, (some (some 185, true))⟩,
    ⟨(some 188), .move (.tmp 10), (some (some 185, true))⟩,
    ⟨(some 189), .call ⟨.value (.func 18), #[(.tmp 188), (.const (.slice none 0 0))], #[23, 22]⟩, (some (some 185, true))⟩,
    ⟨(some 190), .call ⟨.value (.func 14), #[(.tmp 187), (.tmp 189)], #[23, 23]⟩, (some (some 185, true))⟩,
    ⟨(some 191), .pick (.tmp 185) (.tmp 190) (.const (.bool false)), none⟩,
    ⟨(some 192), .move (.tmp 191), none⟩,
    ⟨(some 193), .call ⟨.value (.func 3), #[], #[]⟩, (some (some 192, true))⟩,
    ⟨(some 194), .pick (.tmp 192) (.tmp 193) (.const (.bool false)), none⟩,
    ⟨(some 2), .assign (.tmp 194), none⟩]) .ret)
@[go_sem] theorem c_sheaflaw17_StageAll_27_at (rd : Option Nat) (K : Post3) (t : Fr) (m : Mem) : wpM E 8 195 rd c_sheaflaw17_StageAll_27 K t m = wpM E 8 195 rd (.seq (.ops [⟨(some 180), .move (.tmp 6), none⟩,
    ⟨(some 181), .call ⟨.value (.func 18), #[(.tmp 180), (.const (.slice none 0 0))], #[23, 22]⟩, none⟩,
    ⟨(some 182), .move (.tmp 9), none⟩,
    ⟨(some 183), .call ⟨.value (.func 18), #[(.tmp 182), (.const (.slice none 0 0))], #[23, 22]⟩, none⟩,
    ⟨(some 184), .call ⟨.value (.func 14), #[(.tmp 181), (.tmp 183)], #[23, 23]⟩, none⟩,
    ⟨(some 185), .move (.tmp 184), none⟩,
    ⟨(some 186), .move (.tmp 5), (some (some 185, true))⟩,
    ⟨(some 187), .call ⟨.value (.func 18), #[(.tmp 186), (.const (.slice none 0 0))], #[23, 22]⟩, (some (some 185, true))⟩,
    ⟨(some 188), .move (.tmp 10), (some (some 185, true))⟩,
    ⟨(some 189), .call ⟨.value (.func 18), #[(.tmp 188), (.const (.slice none 0 0))], #[23, 22]⟩, (some (some 185, true))⟩,
    ⟨(some 190), .call ⟨.value (.func 14), #[(.tmp 187), (.tmp 189)], #[23, 23]⟩, (some (some 185, true))⟩,
    ⟨(some 191), .pick (.tmp 185) (.tmp 190) (.const (.bool false)), none⟩,
    ⟨(some 192), .move (.tmp 191), none⟩,
    ⟨(some 193), .call ⟨.value (.func 3), #[], #[]⟩, (some (some 192, true))⟩,
    ⟨(some 194), .pick (.tmp 192) (.tmp 193) (.const (.bool false)), none⟩,
    ⟨(some 2), .assign (.tmp 194), none⟩]) .ret) K t m := rfl

def c_sheaflaw17_StageAll_28 : MC := (.seq c_sheaflaw17_StageAll_26 c_sheaflaw17_StageAll_27)
@[go_sem] theorem c_sheaflaw17_StageAll_28_at (rd : Option Nat) (K : Post3) (t : Fr) (m : Mem) : wpM E 8 195 rd c_sheaflaw17_StageAll_28 K t m = wpM E 8 195 rd (.seq c_sheaflaw17_StageAll_26 c_sheaflaw17_StageAll_27) K t m := rfl

def c_sheaflaw17_StageAll_29 : MC := (.seq c_sheaflaw17_StageAll_11 c_sheaflaw17_StageAll_28)
@[go_sem] theorem c_sheaflaw17_StageAll_29_at (rd : Option Nat) (K : Post3) (t : Fr) (m : Mem) : wpM E 8 195 rd c_sheaflaw17_StageAll_29 K t m = wpM E 8 195 rd (.seq c_sheaflaw17_StageAll_11 c_sheaflaw17_StageAll_28) K t m := rfl

def c_sheaflaw17_StageAll_30 : MC := (.seq (.ops [⟨(some 9), .assign (.const (.slice none 0 0)), none⟩,
    ⟨(some 10), .assign (.const (.slice none 0 0)), none⟩]) c_sheaflaw17_StageAll_29)
@[go_sem] theorem c_sheaflaw17_StageAll_30_at (rd : Option Nat) (K : Post3) (t : Fr) (m : Mem) : wpM E 8 195 rd c_sheaflaw17_StageAll_30 K t m = wpM E 8 195 rd (.seq (.ops [⟨(some 9), .assign (.const (.slice none 0 0)), none⟩,
    ⟨(some 10), .assign (.const (.slice none 0 0)), none⟩]) c_sheaflaw17_StageAll_29) K t m := rfl

def c_sheaflaw17_StageAll_31 : MC := (.seq (.ops [⟨(some 117), .move (.tmp 5), none⟩,
    ⟨(some 118), .move (.tmp 7), none⟩,
    ⟨(some 119), .call ⟨.builtin .append, #[(.tmp 117), (.tmp 118)], #[23, 23]⟩, none⟩,
    ⟨(some 5), .assign (.tmp 119), none⟩]) c_sheaflaw17_StageAll_30)
@[go_sem] theorem c_sheaflaw17_StageAll_31_at (rd : Option Nat) (K : Post3) (t : Fr) (m : Mem) : wpM E 8 195 rd c_sheaflaw17_StageAll_31 K t m = wpM E 8 195 rd (.seq (.ops [⟨(some 117), .move (.tmp 5), none⟩,
    ⟨(some 118), .move (.tmp 7), none⟩,
    ⟨(some 119), .call ⟨.builtin .append, #[(.tmp 117), (.tmp 118)], #[23, 23]⟩, none⟩,
    ⟨(some 5), .assign (.tmp 119), none⟩]) c_sheaflaw17_StageAll_30) K t m := rfl

def c_sheaflaw17_StageAll_32 : MC := (.seq (.draw [(0, [], ⟨(some 105), .move (.tmp 6), none⟩),
    (1, [], ⟨(some 106), .buildSlice 22 2 #[(0, (.const (.int .i64 6))), (1, (.const (.int .i64 3)))], none⟩),
    (4, [], ⟨(some 109), .fieldAddr 55 (.tmp 3) 3, none⟩),
    (5, [], ⟨(some 110), .load 23 (.tmp 109), none⟩),
    (2, [5], ⟨(some 107), .call ⟨.value (.func 18), #[(.tmp 105), (.tmp 106)], #[23, 22]⟩, none⟩),
    (3, [5], ⟨(some 108), .call ⟨.value (.func 11), #[(.tmp 107)], #[23]⟩, none⟩),
    (6, [], ⟨(some 111), .call ⟨.value (.func 18), #[(.tmp 110), (.const (.slice none 0 0))], #[23, 22]⟩, none⟩),
    (7, [], ⟨(some 112), .call ⟨.value (.func 13), #[(.tmp 111)], #[23]⟩, none⟩),
    (8, [], ⟨(some 113), .call ⟨.value (.func 12), #[(.tmp 108), (.tmp 112)], #[30, 33]⟩, none⟩),
    (9, [], ⟨(some 114), .call ⟨.value (.func 9), #[(.tmp 113)], #[26]⟩, none⟩),
    (10, [], ⟨(some 104), .move (.tmp 114), none⟩),
    (11, [], ⟨(some 115), .extract (.tmp 104) 0, none⟩),
    (12, [], ⟨(some 116), .extract (.tmp 104) 1, none⟩),
    (13, [], ⟨(some 6), .assign (.tmp 115), none⟩),
    (14, [], ⟨(some 7), .assign (.tmp 116), none⟩)]) c_sheaflaw17_StageAll_31)
@[go_sem] theorem c_sheaflaw17_StageAll_32_at (rd : Option Nat) (K : Post3) (t : Fr) (m : Mem) : wpM E 8 195 rd c_sheaflaw17_StageAll_32 K t m = wpM E 8 195 rd (.seq (.draw [(0, [], ⟨(some 105), .move (.tmp 6), none⟩),
    (1, [], ⟨(some 106), .buildSlice 22 2 #[(0, (.const (.int .i64 6))), (1, (.const (.int .i64 3)))], none⟩),
    (4, [], ⟨(some 109), .fieldAddr 55 (.tmp 3) 3, none⟩),
    (5, [], ⟨(some 110), .load 23 (.tmp 109), none⟩),
    (2, [5], ⟨(some 107), .call ⟨.value (.func 18), #[(.tmp 105), (.tmp 106)], #[23, 22]⟩, none⟩),
    (3, [5], ⟨(some 108), .call ⟨.value (.func 11), #[(.tmp 107)], #[23]⟩, none⟩),
    (6, [], ⟨(some 111), .call ⟨.value (.func 18), #[(.tmp 110), (.const (.slice none 0 0))], #[23, 22]⟩, none⟩),
    (7, [], ⟨(some 112), .call ⟨.value (.func 13), #[(.tmp 111)], #[23]⟩, none⟩),
    (8, [], ⟨(some 113), .call ⟨.value (.func 12), #[(.tmp 108), (.tmp 112)], #[30, 33]⟩, none⟩),
    (9, [], ⟨(some 114), .call ⟨.value (.func 9), #[(.tmp 113)], #[26]⟩, none⟩),
    (10, [], ⟨(some 104), .move (.tmp 114), none⟩),
    (11, [], ⟨(some 115), .extract (.tmp 104) 0, none⟩),
    (12, [], ⟨(some 116), .extract (.tmp 104) 1, none⟩),
    (13, [], ⟨(some 6), .assign (.tmp 115), none⟩),
    (14, [], ⟨(some 7), .assign (.tmp 116), none⟩)]) c_sheaflaw17_StageAll_31) K t m := rfl

def c_sheaflaw17_StageAll_33 : MC := (.seq (.ops [⟨(some 101), .move (.tmp 5), none⟩,
    ⟨(some 102), .move (.tmp 7), none⟩,
    ⟨(some 103), .call ⟨.builtin .append, #[(.tmp 101), (.tmp 102)], #[23, 23]⟩, none⟩,
    ⟨(some 5), .assign (.tmp 103), none⟩]) c_sheaflaw17_StageAll_32)
@[go_sem] theorem c_sheaflaw17_StageAll_33_at (rd : Option Nat) (K : Post3) (t : Fr) (m : Mem) : wpM E 8 195 rd c_sheaflaw17_StageAll_33 K t m = wpM E 8 195 rd (.seq (.ops [⟨(some 101), .move (.tmp 5), none⟩,
    ⟨(some 102), .move (.tmp 7), none⟩,
    ⟨(some 103), .call ⟨.builtin .append, #[(.tmp 101), (.tmp 102)], #[23, 23]⟩, none⟩,
    ⟨(some 5), .assign (.tmp 103), none⟩]) c_sheaflaw17_StageAll_32) K t m := rfl

def c_sheaflaw17_StageAll_34 : MC := (.seq (.ops [⟨(some 91), .move (.tmp 6), none⟩,
    ⟨(some 92), .buildSlice 22 1 #[(0, (.const (.int .i64 5)))], none⟩,
    ⟨(some 93), .call ⟨.value (.func 18), #[(.tmp 91), (.tmp 92)], #[23, 22]⟩, none⟩,
    ⟨(some 94), .call ⟨.value (.func 11), #[(.tmp 93)], #[23]⟩, none⟩,
    ⟨(some 95), .move (.tmp 8), none⟩,
    ⟨(some 96), .call ⟨.value (.func 13), #[(.tmp 95)], #[23]⟩, none⟩,
    ⟨(some 97), .call ⟨.value (.func 20), #[(.tmp 94), (.tmp 96)], #[30, 33]⟩, none⟩,
    ⟨(some 98), .call ⟨.value (.func 9), #[(.tmp 97)], #[26]⟩, none⟩,
    ⟨(some 90), .move (.tmp 98), none⟩,
    ⟨(some 99), .extract (.tmp 90) 0, none⟩,
    ⟨(some 100), .extract (.tmp 90) 1, none⟩,
    ⟨(some 6), .assign (.tmp 99), none⟩,
    ⟨(some 7), .assign (.tmp 100), none⟩]) c_sheaflaw17_StageAll_33)
@[go_sem] theorem c_sheaflaw17_StageAll_34_at (rd : Option Nat) (K : Post3) (t : Fr) (m : Mem) : wpM E 8 195 rd c_sheaflaw17_StageAll_34 K t m = wpM E 8 195 rd (.seq (.ops [⟨(some 91), .move (.tmp 6), none⟩,
    ⟨(some 92), .buildSlice 22 1 #[(0, (.const (.int .i64 5)))], none⟩,
    ⟨(some 93), .call ⟨.value (.func 18), #[(.tmp 91), (.tmp 92)], #[23, 22]⟩, none⟩,
    ⟨(some 94), .call ⟨.value (.func 11), #[(.tmp 93)], #[23]⟩, none⟩,
    ⟨(some 95), .move (.tmp 8), none⟩,
    ⟨(some 96), .call ⟨.value (.func 13), #[(.tmp 95)], #[23]⟩, none⟩,
    ⟨(some 97), .call ⟨.value (.func 20), #[(.tmp 94), (.tmp 96)], #[30, 33]⟩, none⟩,
    ⟨(some 98), .call ⟨.value (.func 9), #[(.tmp 97)], #[26]⟩, none⟩,
    ⟨(some 90), .move (.tmp 98), none⟩,
    ⟨(some 99), .extract (.tmp 90) 0, none⟩,
    ⟨(some 100), .extract (.tmp 90) 1, none⟩,
    ⟨(some 6), .assign (.tmp 99), none⟩,
    ⟨(some 7), .assign (.tmp 100), none⟩]) c_sheaflaw17_StageAll_33) K t m := rfl

def c_sheaflaw17_StageAll_35 : MC := (.seq (.ops [⟨(some 87), .move (.tmp 5), none⟩,
    ⟨(some 88), .move (.tmp 7), none⟩,
    ⟨(some 89), .call ⟨.builtin .append, #[(.tmp 87), (.tmp 88)], #[23, 23]⟩, none⟩,
    ⟨(some 5), .assign (.tmp 89), none⟩]) c_sheaflaw17_StageAll_34)
@[go_sem] theorem c_sheaflaw17_StageAll_35_at (rd : Option Nat) (K : Post3) (t : Fr) (m : Mem) : wpM E 8 195 rd c_sheaflaw17_StageAll_35 K t m = wpM E 8 195 rd (.seq (.ops [⟨(some 87), .move (.tmp 5), none⟩,
    ⟨(some 88), .move (.tmp 7), none⟩,
    ⟨(some 89), .call ⟨.builtin .append, #[(.tmp 87), (.tmp 88)], #[23, 23]⟩, none⟩,
    ⟨(some 5), .assign (.tmp 89), none⟩]) c_sheaflaw17_StageAll_34) K t m := rfl

def c_sheaflaw17_StageAll_36 : MC := (.seq (.draw [(0, [], ⟨(some 75), .move (.tmp 6), none⟩),
    (1, [], ⟨(some 76), .buildSlice 22 1 #[(0, (.const (.int .i64 2)))], none⟩),
    (4, [], ⟨(some 79), .fieldAddr 55 (.tmp 3) 2, none⟩),
    (5, [], ⟨(some 80), .load 23 (.tmp 79), none⟩),
    (2, [5], ⟨(some 77), .call ⟨.value (.func 18), #[(.tmp 75), (.tmp 76)], #[23, 22]⟩, none⟩),
    (3, [5], ⟨(some 78), .call ⟨.value (.func 11), #[(.tmp 77)], #[23]⟩, none⟩),
    (6, [], ⟨(some 81), .call ⟨.value (.func 18), #[(.tmp 80), (.const (.slice none 0 0))], #[23, 22]⟩, none⟩),
    (7, [], ⟨(some 82), .call ⟨.value (.func 13), #[(.tmp 81)], #[23]⟩, none⟩),
    (8, [], ⟨(some 83), .call ⟨.value (.func 27), #[(.tmp 78), (.tmp 82)], #[30, 33]⟩, none⟩),
    (9, [], ⟨(some 84), .call ⟨.value (.func 9), #[(.tmp 83)], #[26]⟩, none⟩),
    (10, [], ⟨(some 74), .move (.tmp 84), none⟩),
    (11, [], ⟨(some 85), .extract (.tmp 74) 0, none⟩),
    (12, [], ⟨(some 86), .extract (.tmp 74) 1, none⟩),
    (13, [], ⟨(some 6), .assign (.tmp 85), none⟩),
    (14, [], ⟨(some 7), .assign (.tmp 86), none⟩)]) c_sheaflaw17_StageAll_35)
@[go_sem] theorem c_sheaflaw17_StageAll_36_at (rd : Option Nat) (K : Post3) (t : Fr) (m : Mem) : wpM E 8 195 rd c_sheaflaw17_StageAll_36 K t m = wpM E 8 195 rd (.seq (.draw [(0, [], ⟨(some 75), .move (.tmp 6), none⟩),
    (1, [], ⟨(some 76), .buildSlice 22 1 #[(0, (.const (.int .i64 2)))], none⟩),
    (4, [], ⟨(some 79), .fieldAddr 55 (.tmp 3) 2, none⟩),
    (5, [], ⟨(some 80), .load 23 (.tmp 79), none⟩),
    (2, [5], ⟨(some 77), .call ⟨.value (.func 18), #[(.tmp 75), (.tmp 76)], #[23, 22]⟩, none⟩),
    (3, [5], ⟨(some 78), .call ⟨.value (.func 11), #[(.tmp 77)], #[23]⟩, none⟩),
    (6, [], ⟨(some 81), .call ⟨.value (.func 18), #[(.tmp 80), (.const (.slice none 0 0))], #[23, 22]⟩, none⟩),
    (7, [], ⟨(some 82), .call ⟨.value (.func 13), #[(.tmp 81)], #[23]⟩, none⟩),
    (8, [], ⟨(some 83), .call ⟨.value (.func 27), #[(.tmp 78), (.tmp 82)], #[30, 33]⟩, none⟩),
    (9, [], ⟨(some 84), .call ⟨.value (.func 9), #[(.tmp 83)], #[26]⟩, none⟩),
    (10, [], ⟨(some 74), .move (.tmp 84), none⟩),
    (11, [], ⟨(some 85), .extract (.tmp 74) 0, none⟩),
    (12, [], ⟨(some 86), .extract (.tmp 74) 1, none⟩),
    (13, [], ⟨(some 6), .assign (.tmp 85), none⟩),
    (14, [], ⟨(some 7), .assign (.tmp 86), none⟩)]) c_sheaflaw17_StageAll_35) K t m := rfl

def c_sheaflaw17_StageAll_37 : MC := (.seq (.ops [⟨(some 71), .move (.tmp 5), none⟩,
    ⟨(some 72), .move (.tmp 7), none⟩,
    ⟨(some 73), .call ⟨.builtin .append, #[(.tmp 71), (.tmp 72)], #[23, 23]⟩, none⟩,
    ⟨(some 5), .assign (.tmp 73), none⟩]) c_sheaflaw17_StageAll_36)
@[go_sem] theorem c_sheaflaw17_StageAll_37_at (rd : Option Nat) (K : Post3) (t : Fr) (m : Mem) : wpM E 8 195 rd c_sheaflaw17_StageAll_37 K t m = wpM E 8 195 rd (.seq (.ops [⟨(some 71), .move (.tmp 5), none⟩,
    ⟨(some 72), .move (.tmp 7), none⟩,
    ⟨(some 73), .call ⟨.builtin .append, #[(.tmp 71), (.tmp 72)], #[23, 23]⟩, none⟩,
    ⟨(some 5), .assign (.tmp 73), none⟩]) c_sheaflaw17_StageAll_36) K t m := rfl

def c_sheaflaw17_StageAll_38 : MC := (.seq (.ops [⟨(some 61), .move (.tmp 6), none⟩,
    ⟨(some 62), .buildSlice 22 1 #[(0, (.const (.int .i64 1)))], none⟩,
    ⟨(some 63), .call ⟨.value (.func 18), #[(.tmp 61), (.tmp 62)], #[23, 22]⟩, none⟩,
    ⟨(some 64), .call ⟨.value (.func 11), #[(.tmp 63)], #[23]⟩, none⟩,
    ⟨(some 65), .move (.tmp 8), none⟩,
    ⟨(some 66), .call ⟨.value (.func 13), #[(.tmp 65)], #[23]⟩, none⟩,
    ⟨(some 67), .call ⟨.value (.func 19), #[(.tmp 64), (.tmp 66)], #[30, 33]⟩, none⟩,
    ⟨(some 68), .call ⟨.value (.func 9), #[(.tmp 67)], #[26]⟩, none⟩,
    ⟨(some 60), .move (.tmp 68), none⟩,
    ⟨(some 69), .extract (.tmp 60) 0, none⟩,
    ⟨(some 70), .extract (.tmp 60) 1, none⟩,
    ⟨(some 6), .assign (.tmp 69), none⟩,
    ⟨(some 7), .assign (.tmp 70), none⟩]) c_sheaflaw17_StageAll_37)
@[go_sem] theorem c_sheaflaw17_StageAll_38_at (rd : Option Nat) (K : Post3) (t : Fr) (m : Mem) : wpM E 8 195 rd c_sheaflaw17_StageAll_38 K t m = wpM E 8 195 rd (.seq (.ops [⟨(some 61), .move (.tmp 6), none⟩,
    ⟨(some 62), .buildSlice 22 1 #[(0, (.const (.int .i64 1)))], none⟩,
    ⟨(some 63), .call ⟨.value (.func 18), #[(.tmp 61), (.tmp 62)], #[23, 22]⟩, none⟩,
    ⟨(some 64), .call ⟨.value (.func 11), #[(.tmp 63)], #[23]⟩, none⟩,
    ⟨(some 65), .move (.tmp 8), none⟩,
    ⟨(some 66), .call ⟨.value (.func 13), #[(.tmp 65)], #[23]⟩, none⟩,
    ⟨(some 67), .call ⟨.value (.func 19), #[(.tmp 64), (.tmp 66)], #[30, 33]⟩, none⟩,
    ⟨(some 68), .call ⟨.value (.func 9), #[(.tmp 67)], #[26]⟩, none⟩,
    ⟨(some 60), .move (.tmp 68), none⟩,
    ⟨(some 69), .extract (.tmp 60) 0, none⟩,
    ⟨(some 70), .extract (.tmp 60) 1, none⟩,
    ⟨(some 6), .assign (.tmp 69), none⟩,
    ⟨(some 7), .assign (.tmp 70), none⟩]) c_sheaflaw17_StageAll_37) K t m := rfl

def c_sheaflaw17_StageAll_39 : MC := (.seq (.ops [⟨(some 57), .fieldAddr 55 (.tmp 3) 1, none⟩,
    ⟨(some 58), .load 23 (.tmp 57), none⟩,
    ⟨(some 59), .call ⟨.value (.func 18), #[(.tmp 58), (.const (.slice none 0 0))], #[23, 22]⟩, none⟩,
    ⟨(some 8), .assign (.tmp 59), none⟩]) c_sheaflaw17_StageAll_38)
@[go_sem] theorem c_sheaflaw17_StageAll_39_at (rd : Option Nat) (K : Post3) (t : Fr) (m : Mem) : wpM E 8 195 rd c_sheaflaw17_StageAll_39 K t m = wpM E 8 195 rd (.seq (.ops [⟨(some 57), .fieldAddr 55 (.tmp 3) 1, none⟩,
    ⟨(some 58), .load 23 (.tmp 57), none⟩,
    ⟨(some 59), .call ⟨.value (.func 18), #[(.tmp 58), (.const (.slice none 0 0))], #[23, 22]⟩, none⟩,
    ⟨(some 8), .assign (.tmp 59), none⟩]) c_sheaflaw17_StageAll_38) K t m := rfl

def c_sheaflaw17_StageAll_40 : MC := (.seq (.ops [⟨(some 54), .move (.tmp 5), none⟩,
    ⟨(some 55), .move (.tmp 7), none⟩,
    ⟨(some 56), .call ⟨.builtin .append, #[(.tmp 54), (.tmp 55)], #[23, 23]⟩, none⟩,
    ⟨(some 5), .assign (.tmp 56), none⟩]) c_sheaflaw17_StageAll_39)
@[go_sem] theorem c_sheaflaw17_StageAll_40_at (rd : Option Nat) (K : Post3) (t : Fr) (m : Mem) : wpM E 8 195 rd c_sheaflaw17_StageAll_40 K t m = wpM E 8 195 rd (.seq (.ops [⟨(some 54), .move (.tmp 5), none⟩,
    ⟨(some 55), .move (.tmp 7), none⟩,
    ⟨(some 56), .call ⟨.builtin .append, #[(.tmp 54), (.tmp 55)], #[23, 23]⟩, none⟩,
    ⟨(some 5), .assign (.tmp 56), none⟩]) c_sheaflaw17_StageAll_39) K t m := rfl

def c_sheaflaw17_StageAll_41 : MC := (.seq (.draw [(0, [], ⟨(some 47), .move (.tmp 6), none⟩),
    (2, [], ⟨(some 49), .load 46 (.tmp 4), none⟩),
    (1, [2], ⟨(some 48), .call ⟨.value (.func 11), #[(.tmp 47)], #[23]⟩, none⟩),
    (3, [], ⟨(some 50), .call ⟨.value (.func 24), #[(.tmp 48), (.tmp 49)], #[30, 46]⟩, none⟩),
    (4, [], ⟨(some 51), .call ⟨.value (.func 9), #[(.tmp 50)], #[26]⟩, none⟩),
    (5, [], ⟨(some 46), .move (.tmp 51), none⟩),
    (6, [], ⟨(some 52), .extract (.tmp 46) 0, none⟩),
    (7, [], ⟨(some 53), .extract (.tmp 46) 1, none⟩),
    (8, [], ⟨(some 6), .assign (.tmp 52), none⟩),
    (9, [], ⟨(some 7), .assign (.tmp 53), none⟩)]) c_sheaflaw17_StageAll_40)
@[go_sem] theorem c_sheaflaw17_StageAll_41_at (rd : Option Nat) (K : Post3) (t : Fr) (m : Mem) : wpM E 8 195 rd c_sheaflaw17_StageAll_41 K t m = wpM E 8 195 rd (.seq (.draw [(0, [], ⟨(some 47), .move (.tmp 6), none⟩),
    (2, [], ⟨(some 49), .load 46 (.tmp 4), none⟩),
    (1, [2], ⟨(some 48), .call ⟨.value (.func 11), #[(.tmp 47)], #[23]⟩, none⟩),
    (3, [], ⟨(some 50), .call ⟨.value (.func 24), #[(.tmp 48), (.tmp 49)], #[30, 46]⟩, none⟩),
    (4, [], ⟨(some 51), .call ⟨.value (.func 9), #[(.tmp 50)], #[26]⟩, none⟩),
    (5, [], ⟨(some 46), .move (.tmp 51), none⟩),
    (6, [], ⟨(some 52), .extract (.tmp 46) 0, none⟩),
    (7, [], ⟨(some 53), .extract (.tmp 46) 1, none⟩),
    (8, [], ⟨(some 6), .assign (.tmp 52), none⟩),
    (9, [], ⟨(some 7), .assign (.tmp 53), none⟩)]) c_sheaflaw17_StageAll_40) K t m := rfl

def c_sheaflaw17_StageAll_42 : MC := (.seq (.ops [⟨(some 43), .move (.tmp 5), none⟩,
    ⟨(some 44), .move (.tmp 7), none⟩,
    ⟨(some 45), .call ⟨.builtin .append, #[(.tmp 43), (.tmp 44)], #[23, 23]⟩, none⟩,
    ⟨(some 5), .assign (.tmp 45), none⟩]) c_sheaflaw17_StageAll_41)
@[go_sem] theorem c_sheaflaw17_StageAll_42_at (rd : Option Nat) (K : Post3) (t : Fr) (m : Mem) : wpM E 8 195 rd c_sheaflaw17_StageAll_42 K t m = wpM E 8 195 rd (.seq (.ops [⟨(some 43), .move (.tmp 5), none⟩,
    ⟨(some 44), .move (.tmp 7), none⟩,
    ⟨(some 45), .call ⟨.builtin .append, #[(.tmp 43), (.tmp 44)], #[23, 23]⟩, none⟩,
    ⟨(some 5), .assign (.tmp 45), none⟩]) c_sheaflaw17_StageAll_41) K t m := rfl

def c_sheaflaw17_StageAll_43 : MC := (.seq (.ops [⟨(some 35), .move (.tmp 6), none⟩,
    ⟨(some 36), .buildSlice 22 1 #[(0, (.const (.int .i64 0)))], none⟩,
    ⟨(some 37), .call ⟨.value (.func 18), #[(.tmp 35), (.tmp 36)], #[23, 22]⟩, none⟩,
    ⟨(some 38), .call ⟨.value (.func 11), #[(.tmp 37)], #[23]⟩, none⟩,
    ⟨(some 39), .call ⟨.value (.func 10), #[(.tmp 38)], #[30]⟩, none⟩,
    ⟨(some 40), .call ⟨.value (.func 9), #[(.tmp 39)], #[26]⟩, none⟩,
    ⟨(some 34), .move (.tmp 40), none⟩,
    ⟨(some 41), .extract (.tmp 34) 0, none⟩,
    ⟨(some 42), .extract (.tmp 34) 1, none⟩,
    ⟨(some 6), .assign (.tmp 41), none⟩,
    ⟨(some 7), .assign (.tmp 42), none⟩]) c_sheaflaw17_StageAll_42)
@[go_sem] theorem c_sheaflaw17_StageAll_43_at (rd : Option Nat) (K : Post3) (t : Fr) (m : Mem) : wpM E 8 195 rd c_sheaflaw17_StageAll_43 K t m = wpM E 8 195 rd (.seq (.ops [⟨(some 35), .move (.tmp 6), none⟩,
    ⟨(some 36), .buildSlice 22 1 #[(0, (.const (.int .i64 0)))], none⟩,
    ⟨(some 37), .call ⟨.value (.func 18), #[(.tmp 35), (.tmp 36)], #[23, 22]⟩, none⟩,
    ⟨(some 38), .call ⟨.value (.func 11), #[(.tmp 37)], #[23]⟩, none⟩,
    ⟨(some 39), .call ⟨.value (.func 10), #[(.tmp 38)], #[30]⟩, none⟩,
    ⟨(some 40), .call ⟨.value (.func 9), #[(.tmp 39)], #[26]⟩, none⟩,
    ⟨(some 34), .move (.tmp 40), none⟩,
    ⟨(some 41), .extract (.tmp 34) 0, none⟩,
    ⟨(some 42), .extract (.tmp 34) 1, none⟩,
    ⟨(some 6), .assign (.tmp 41), none⟩,
    ⟨(some 7), .assign (.tmp 42), none⟩]) c_sheaflaw17_StageAll_42) K t m := rfl

def c_sheaflaw17_StageAll_44 : MC := (.seq (.ops [⟨(some 31), .move (.tmp 5), none⟩,
    ⟨(some 32), .move (.tmp 7), none⟩,
    ⟨(some 33), .call ⟨.builtin .append, #[(.tmp 31), (.tmp 32)], #[23, 23]⟩, none⟩,
    ⟨(some 5), .assign (.tmp 33), none⟩]) c_sheaflaw17_StageAll_43)
@[go_sem] theorem c_sheaflaw17_StageAll_44_at (rd : Option Nat) (K : Post3) (t : Fr) (m : Mem) : wpM E 8 195 rd c_sheaflaw17_StageAll_44 K t m = wpM E 8 195 rd (.seq (.ops [⟨(some 31), .move (.tmp 5), none⟩,
    ⟨(some 32), .move (.tmp 7), none⟩,
    ⟨(some 33), .call ⟨.builtin .append, #[(.tmp 31), (.tmp 32)], #[23, 23]⟩, none⟩,
    ⟨(some 5), .assign (.tmp 33), none⟩]) c_sheaflaw17_StageAll_43) K t m := rfl

def c_sheaflaw17_StageAll_45 : MC := (.seq (.ops [⟨(some 24), .fieldAddr 55 (.tmp 3) 0, none⟩,
    ⟨(some 25), .load 23 (.tmp 24), none⟩,
    ⟨(some 26), .call ⟨.value (.func 11), #[(.tmp 25)], #[23]⟩, none⟩,
    ⟨(some 27), .call ⟨.value (.func 21), #[(.tmp 26)], #[30]⟩, none⟩,
    ⟨(some 28), .call ⟨.value (.func 9), #[(.tmp 27)], #[26]⟩, none⟩,
    ⟨(some 23), .move (.tmp 28), none⟩,
    ⟨(some 29), .extract (.tmp 23) 0, none⟩,
    ⟨(some 30), .extract (.tmp 23) 1, none⟩,
    ⟨(some 6), .assign (.tmp 29), none⟩,
    ⟨(some 7), .assign (.tmp 30), none⟩]) c_sheaflaw17_StageAll_44)
@[go_sem] theorem c_sheaflaw17_StageAll_45_at (rd : Option Nat) (K : Post3) (t : Fr) (m : Mem) : wpM E 8 195 rd c_sheaflaw17_StageAll_45 K t m = wpM E 8 195 rd (.seq (.ops [⟨(some 24), .fieldAddr 55 (.tmp 3) 0, none⟩,
    ⟨(some 25), .load 23 (.tmp 24), none⟩,
    ⟨(some 26), .call ⟨.value (.func 11), #[(.tmp 25)], #[23]⟩, none⟩,
    ⟨(some 27), .call ⟨.value (.func 21), #[(.tmp 26)], #[30]⟩, none⟩,
    ⟨(some 28), .call ⟨.value (.func 9), #[(.tmp 27)], #[26]⟩, none⟩,
    ⟨(some 23), .move (.tmp 28), none⟩,
    ⟨(some 29), .extract (.tmp 23) 0, none⟩,
    ⟨(some 30), .extract (.tmp 23) 1, none⟩,
    ⟨(some 6), .assign (.tmp 29), none⟩,
    ⟨(some 7), .assign (.tmp 30), none⟩]) c_sheaflaw17_StageAll_44) K t m := rfl

def c_sheaflaw17_StageAll_46 : MC := (.seq (.ops [⟨(some 5), .assign (.const (.slice none 0 0)), none⟩]) c_sheaflaw17_StageAll_45)
@[go_sem] theorem c_sheaflaw17_StageAll_46_at (rd : Option Nat) (K : Post3) (t : Fr) (m : Mem) : wpM E 8 195 rd c_sheaflaw17_StageAll_46 K t m = wpM E 8 195 rd (.seq (.ops [⟨(some 5), .assign (.const (.slice none 0 0)), none⟩]) c_sheaflaw17_StageAll_45) K t m := rfl

def c_sheaflaw17_StageAll_47 : MC := (.seq (.ops [⟨(some 18), .fieldAddr 53 (.tmp 1) 0, none⟩,
    ⟨(some 19), .load 3 (.tmp 18), none⟩,
    ⟨(some 20), .fieldAddr 53 (.tmp 1) 1, none⟩,
    ⟨(some 21), .load 3 (.tmp 20), none⟩,
    ⟨(some 22), .call ⟨.value (.func 26), #[(.tmp 19), (.tmp 21)], #[3, 3]⟩, none⟩,
    ⟨(some 4), .alloc 46, none⟩,
    ⟨none, .store 46 (.tmp 4) (.tmp 22), none⟩]) c_sheaflaw17_StageAll_46)
@[go_sem] theorem c_sheaflaw17_StageAll_47_at (rd : Option Nat) (K : Post3) (t : Fr) (m : Mem) : wpM E 8 195 rd c_sheaflaw17_StageAll_47 K t m = wpM E 8 195 rd (.seq (.ops [⟨(some 18), .fieldAddr 53 (.tmp 1) 0, none⟩,
    ⟨(some 19), .load 3 (.tmp 18), none⟩,
    ⟨(some 20), .fieldAddr 53 (.tmp 1) 1, none⟩,
    ⟨(some 21), .load 3 (.tmp 20), none⟩,
    ⟨(some 22), .call ⟨.value (.func 26), #[(.tmp 19), (.tmp 21)], #[3, 3]⟩, none⟩,
    ⟨(some 4), .alloc 46, none⟩,
    ⟨none, .store 46 (.tmp 4) (.tmp 22), none⟩]) c_sheaflaw17_StageAll_46) K t m := rfl

def c_sheaflaw17_StageAll_48 : MC := (.seq (.ops [⟨(some 16), .load 53 (.tmp 1), none⟩,
    ⟨(some 17), .call ⟨.value (.func 25), #[(.tmp 16)], #[53]⟩, none⟩,
    ⟨(some 3), .alloc 55, none⟩,
    ⟨none, .store 55 (.tmp 3) (.tmp 17), none⟩]) c_sheaflaw17_StageAll_47)
@[go_sem] theorem c_sheaflaw17_StageAll_48_at (rd : Option Nat) (K : Post3) (t : Fr) (m : Mem) : wpM E 8 195 rd c_sheaflaw17_StageAll_48 K t m = wpM E 8 195 rd (.seq (.ops [⟨(some 16), .load 53 (.tmp 1), none⟩,
    ⟨(some 17), .call ⟨.value (.func 25), #[(.tmp 16)], #[53]⟩, none⟩,
    ⟨(some 3), .alloc 55, none⟩,
    ⟨none, .store 55 (.tmp 3) (.tmp 17), none⟩]) c_sheaflaw17_StageAll_47) K t m := rfl

def c_sheaflaw17_StageAll_49 : MC := (.seq (.ops [⟨(some 1), .box 53 (.tmp 0), none⟩,
    ⟨(some 2), .assign (.const (.bool false)), none⟩]) c_sheaflaw17_StageAll_48)
@[go_sem] theorem c_sheaflaw17_StageAll_49_at (rd : Option Nat) (K : Post3) (t : Fr) (m : Mem) : wpM E 8 195 rd c_sheaflaw17_StageAll_49 K t m = wpM E 8 195 rd (.seq (.ops [⟨(some 1), .box 53 (.tmp 0), none⟩,
    ⟨(some 2), .assign (.const (.bool false)), none⟩]) c_sheaflaw17_StageAll_48) K t m := rfl

@[go_sem] theorem some8 : (E.fn 8).isSome = true := by kernel_rfl
set_option maxRecDepth 100000 in
theorem fn_sheaflaw17_StageAll : FnIs E 8 195 [.tmp 2] c_sheaflaw17_StageAll_49 := ⟨by kernel_rfl, by kernel_rfl⟩

/-! sheaf/sheaflaw17.parted -/
abbrev F_sheaflaw17_parted : FuncId := 9
def c_sheaflaw17_parted_0 : MC := (.seq (.ops [⟨(some 2), .assign (.const (.slice none 0 0)), none⟩,
    ⟨(some 3), .assign (.const (.slice none 0 0)), none⟩]) .ret)
@[go_sem] theorem c_sheaflaw17_parted_0_at (rd : Option Nat) (K : Post3) (t : Fr) (m : Mem) : wpM E 9 27 rd c_sheaflaw17_parted_0 K t m = wpM E 9 27 rd (.seq (.ops [⟨(some 2), .assign (.const (.slice none 0 0)), none⟩,
    ⟨(some 3), .assign (.const (.slice none 0 0)), none⟩]) .ret) K t m := rfl

def c_sheaflaw17_parted_1 : MC := (.cond (.tmp 9) c_sheaflaw17_parted_0 .skip)
@[go_sem] theorem c_sheaflaw17_parted_1_at (rd : Option Nat) (K : Post3) (t : Fr) (m : Mem) : wpM E 9 27 rd c_sheaflaw17_parted_1 K t m = wpM E 9 27 rd (.cond (.tmp 9) c_sheaflaw17_parted_0 .skip) K t m := rfl

def c_sheaflaw17_parted_2 : MC := (.seq (.ops [⟨(some 8), .move (.tmp 0), none⟩,
    ⟨(some 9), .binOp .eql 26 (.tmp 8) (.const .nilFunc) 26, none⟩]) c_sheaflaw17_parted_1)
@[go_sem] theorem c_sheaflaw17_parted_2_at (rd : Option Nat) (K : Post3) (t : Fr) (m : Mem) : wpM E 9 27 rd c_sheaflaw17_parted_2 K t m = wpM E 9 27 rd (.seq (.ops [⟨(some 8), .move (.tmp 0), none⟩,
    ⟨(some 9), .binOp .eql 26 (.tmp 8) (.const .nilFunc) 26, none⟩]) c_sheaflaw17_parted_1) K t m := rfl

def c_sheaflaw17_parted_3 : MC := (.seq (.ops [⟨(some 6), .assign (.tmp 11), none⟩]) (.ops [⟨(some 7), .assign (.tmp 12), none⟩]))
@[go_sem] theorem c_sheaflaw17_parted_3_at (rd : Option Nat) (K : Post3) (t : Fr) (m : Mem) : wpM E 9 27 rd c_sheaflaw17_parted_3 K t m = wpM E 9 27 rd (.seq (.ops [⟨(some 6), .assign (.tmp 11), none⟩]) (.ops [⟨(some 7), .assign (.tmp 12), none⟩])) K t m := rfl

def c_sheaflaw17_parted_4 : MC := (.cond (.tmp 14) (.ops [⟨(some 15), .load 23 (.tmp 4), none⟩,
    ⟨(some 16), .move (.tmp 6), none⟩,
    ⟨(some 17), .buildSlice 23 1 #[(0, (.tmp 16))], none⟩,
    ⟨(some 18), .call ⟨.builtin .append, #[(.tmp 15), (.tmp 17)], #[23, 23]⟩, none⟩,
    ⟨none, .store 23 (.tmp 4) (.tmp 18), none⟩]) (.draw [(0, [], ⟨(some 19), .load 23 (.tmp 5), none⟩),
    (1, [], ⟨(some 20), .move (.tmp 7), none⟩),
    (2, [], ⟨(some 21), .move (.tmp 6), none⟩),
    (3, [0], ⟨(some 22), .call ⟨.value (.func 23), #[(.tmp 20), (.tmp 21)], #[3, 22]⟩, none⟩),
    (4, [], ⟨(some 23), .buildSlice 23 1 #[(0, (.tmp 22))], none⟩),
    (5, [], ⟨(some 24), .call ⟨.builtin .append, #[(.tmp 19), (.tmp 23)], #[23, 23]⟩, none⟩),
    (6, [], ⟨none, .store 23 (.tmp 5) (.tmp 24), none⟩)]))
@[go_sem] theorem c_sheaflaw17_parted_4_at (rd : Option Nat) (K : Post3) (t : Fr) (m : Mem) : wpM E 9 27 rd c_sheaflaw17_parted_4 K t m = wpM E 9 27 rd (.cond (.tmp 14) (.ops [⟨(some 15), .load 23 (.tmp 4), none⟩,
    ⟨(some 16), .move (.tmp 6), none⟩,
    ⟨(some 17), .buildSlice 23 1 #[(0, (.tmp 16))], none⟩,
    ⟨(some 18), .call ⟨.builtin .append, #[(.tmp 15), (.tmp 17)], #[23, 23]⟩, none⟩,
    ⟨none, .store 23 (.tmp 4) (.tmp 18), none⟩]) (.draw [(0, [], ⟨(some 19), .load 23 (.tmp 5), none⟩),
    (1, [], ⟨(some 20), .move (.tmp 7), none⟩),
    (2, [], ⟨(some 21), .move (.tmp 6), none⟩),
    (3, [0], ⟨(some 22), .call ⟨.value (.func 23), #[(.tmp 20), (.tmp 21)], #[3, 22]⟩, none⟩),
    (4, [], ⟨(some 23), .buildSlice 23 1 #[(0, (.tmp 22))], none⟩),
    (5, [], ⟨(some 24), .call ⟨.builtin .append, #[(.tmp 19), (.tmp 23)], #[23, 23]⟩, none⟩),
    (6, [], ⟨none, .store 23 (.tmp 5) (.tmp 24), none⟩)])) K t m := rfl

def c_sheaflaw17_parted_5 : MC := (.seq (.ops [⟨(some 13), .move (.tmp 7), none⟩,
    ⟨(some 14), .binOp .eql 3 (.tmp 13) (.const (.int .i64 0)) 3, none⟩]) c_sheaflaw17_parted_4)
@[go_sem] theorem c_sheaflaw17_parted_5_at (rd : Option Nat) (K : Post3) (t : Fr) (m : Mem) : wpM E 9 27 rd c_sheaflaw17_parted_5 K t m = wpM E 9 27 rd (.seq (.ops [⟨(some 13), .move (.tmp 7), none⟩,
    ⟨(some 14), .binOp .eql 3 (.tmp 13) (.const (.int .i64 0)) 3, none⟩]) c_sheaflaw17_parted_4) K t m := rfl

def c_sheaflaw17_parted_6 : MC := (.block 1 c_sheaflaw17_parted_5)
@[go_sem] theorem c_sheaflaw17_parted_6_at (rd : Option Nat) (K : Post3) (t : Fr) (m : Mem) : wpM E 9 27 rd c_sheaflaw17_parted_6 K t m = wpM E 9 27 rd (.block 1 c_sheaflaw17_parted_5) K t m := rfl

theorem asg_sheaflaw17_parted_0 : compile E 9 27 (asgAt E 9 0) = some c_sheaflaw17_parted_3 := by kernel_rfl

theorem body_sheaflaw17_parted_0 : compile E 9 27 (bodyAt E 9 0) = some c_sheaflaw17_parted_6 := by kernel_rfl

def c_sheaflaw17_parted_7 : MC := (.range (.tmp 10) #[11, 12] (asgAt E 9 0) (bodyAt E 9 0))
theorem c_sheaflaw17_parted_7_at (rd : Option Nat) (K : Post3) (t : Fr) (m : Mem) : wpM E 9 27 rd c_sheaflaw17_parted_7 K t m = wpM E 9 27 rd (.range (.tmp 10) #[11, 12] (asgAt E 9 0) (bodyAt E 9 0)) K t m := rfl

def c_sheaflaw17_parted_8 : MC := (.block 0 c_sheaflaw17_parted_7)
@[go_sem] theorem c_sheaflaw17_parted_8_at (rd : Option Nat) (K : Post3) (t : Fr) (m : Mem) : wpM E 9 27 rd c_sheaflaw17_parted_8 K t m = wpM E 9 27 rd (.block 0 c_sheaflaw17_parted_7) K t m := rfl

def c_sheaflaw17_parted_9 : MC := (.seq (.ops [⟨(some 10), .move (.tmp 0), none⟩]) c_sheaflaw17_parted_8)
@[go_sem] theorem c_sheaflaw17_parted_9_at (rd : Option Nat) (K : Post3) (t : Fr) (m : Mem) : wpM E 9 27 rd c_sheaflaw17_parted_9 K t m = wpM E 9 27 rd (.seq (.ops [⟨(some 10), .move (.tmp 0), none⟩]) c_sheaflaw17_parted_8) K t m := rfl

def c_sheaflaw17_parted_10 : MC := (.seq (.ops [⟨(some 25), .load 23 (.tmp 4), none⟩,
    ⟨(some 26), .load 23 (.tmp 5), none⟩,
    ⟨(some 2), .assign (.tmp 25), none⟩,
    ⟨(some 3), .assign (.tmp 26), none⟩]) .ret)
@[go_sem] theorem c_sheaflaw17_parted_10_at (rd : Option Nat) (K : Post3) (t : Fr) (m : Mem) : wpM E 9 27 rd c_sheaflaw17_parted_10 K t m = wpM E 9 27 rd (.seq (.ops [⟨(some 25), .load 23 (.tmp 4), none⟩,
    ⟨(some 26), .load 23 (.tmp 5), none⟩,
    ⟨(some 2), .assign (.tmp 25), none⟩,
    ⟨(some 3), .assign (.tmp 26), none⟩]) .ret) K t m := rfl

def c_sheaflaw17_parted_11 : MC := (.seq c_sheaflaw17_parted_9 c_sheaflaw17_parted_10)
@[go_sem] theorem c_sheaflaw17_parted_11_at (rd : Option Nat) (K : Post3) (t : Fr) (m : Mem) : wpM E 9 27 rd c_sheaflaw17_parted_11 K t m = wpM E 9 27 rd (.seq c_sheaflaw17_parted_9 c_sheaflaw17_parted_10) K t m := rfl

def c_sheaflaw17_parted_12 : MC := (.seq c_sheaflaw17_parted_2 c_sheaflaw17_parted_11)
@[go_sem] theorem c_sheaflaw17_parted_12_at (rd : Option Nat) (K : Post3) (t : Fr) (m : Mem) : wpM E 9 27 rd c_sheaflaw17_parted_12 K t m = wpM E 9 27 rd (.seq c_sheaflaw17_parted_2 c_sheaflaw17_parted_11) K t m := rfl

def c_sheaflaw17_parted_13 : MC := (.seq (.ops [⟨(some 4), .alloc 23, none⟩,
    ⟨(some 5), .alloc 23, none⟩]) c_sheaflaw17_parted_12)
@[go_sem] theorem c_sheaflaw17_parted_13_at (rd : Option Nat) (K : Post3) (t : Fr) (m : Mem) : wpM E 9 27 rd c_sheaflaw17_parted_13 K t m = wpM E 9 27 rd (.seq (.ops [⟨(some 4), .alloc 23, none⟩,
    ⟨(some 5), .alloc 23, none⟩]) c_sheaflaw17_parted_12) K t m := rfl

def c_sheaflaw17_parted_14 : MC := (.seq (.ops [⟨(some 2), .assign (.const (.slice none 0 0)), none⟩,
    ⟨(some 3), .assign (.const (.slice none 0 0)), none⟩]) c_sheaflaw17_parted_13)
@[go_sem] theorem c_sheaflaw17_parted_14_at (rd : Option Nat) (K : Post3) (t : Fr) (m : Mem) : wpM E 9 27 rd c_sheaflaw17_parted_14 K t m = wpM E 9 27 rd (.seq (.ops [⟨(some 2), .assign (.const (.slice none 0 0)), none⟩,
    ⟨(some 3), .assign (.const (.slice none 0 0)), none⟩]) c_sheaflaw17_parted_13) K t m := rfl

@[go_sem] theorem some9 : (E.fn 9).isSome = true := by kernel_rfl
set_option maxRecDepth 100000 in
theorem fn_sheaflaw17_parted : FnIs E 9 27 [.tmp 2, .tmp 3] c_sheaflaw17_parted_14 := ⟨by kernel_rfl, by kernel_rfl⟩

/-! sheaf/sheaflaw17.StageDoubles$1 -/
abbrev F_sheaflaw17_StageDoubles_1 : FuncId := 16
def c_sheaflaw17_StageDoubles_1_0 : MC := (.cond (.tmp 9) .skip (.exit 0))
@[go_sem] theorem c_sheaflaw17_StageDoubles_1_0_at (rd : Option Nat) (K : Post3) (t : Fr) (m : Mem) : wpM E 16 19 rd c_sheaflaw17_StageDoubles_1_0 K t m = wpM E 16 19 rd (.cond (.tmp 9) .skip (.exit 0)) K t m := rfl

def c_sheaflaw17_StageDoubles_1_1 : MC := (.cond (.tmp 17) .ret .skip)
@[go_sem] theorem c_sheaflaw17_StageDoubles_1_1_at (rd : Option Nat) (K : Post3) (t : Fr) (m : Mem) : wpM E 16 19 rd c_sheaflaw17_StageDoubles_1_1 K t m = wpM E 16 19 rd (.cond (.tmp 17) .ret .skip) K t m := rfl

def c_sheaflaw17_StageDoubles_1_2 : MC := (.seq (.ops [⟨(some 14), .move (.tmp 0), none⟩,
    ⟨(some 15), .move (.tmp 5), none⟩,
    ⟨(some 16), .call ⟨.value (.tmp 14), #[(.tmp 15)], #[22]⟩, none⟩,
    ⟨(some 17), .unOp .not 4 (.tmp 16), none⟩]) c_sheaflaw17_StageDoubles_1_1)
@[go_sem] theorem c_sheaflaw17_StageDoubles_1_2_at (rd : Option Nat) (K : Post3) (t : Fr) (m : Mem) : wpM E 16 19 rd c_sheaflaw17_StageDoubles_1_2 K t m = wpM E 16 19 rd (.seq (.ops [⟨(some 14), .move (.tmp 0), none⟩,
    ⟨(some 15), .move (.tmp 5), none⟩,
    ⟨(some 16), .call ⟨.value (.tmp 14), #[(.tmp 15)], #[22]⟩, none⟩,
    ⟨(some 17), .unOp .not 4 (.tmp 16), none⟩]) c_sheaflaw17_StageDoubles_1_1) K t m := rfl

def c_sheaflaw17_StageDoubles_1_3 : MC := (.seq (.ops [⟨(some 12), .load 3 (.tmp 2), none⟩,
    ⟨(some 13), .binOp .add 3 (.tmp 12) (.const (.int .i64 1)) 3, none⟩,
    ⟨none, .store 3 (.tmp 2) (.tmp 13), none⟩]) c_sheaflaw17_StageDoubles_1_2)
@[go_sem] theorem c_sheaflaw17_StageDoubles_1_3_at (rd : Option Nat) (K : Post3) (t : Fr) (m : Mem) : wpM E 16 19 rd c_sheaflaw17_StageDoubles_1_3 K t m = wpM E 16 19 rd (.seq (.ops [⟨(some 12), .load 3 (.tmp 2), none⟩,
    ⟨(some 13), .binOp .add 3 (.tmp 12) (.const (.int .i64 1)) 3, none⟩,
    ⟨none, .store 3 (.tmp 2) (.tmp 13), none⟩]) c_sheaflaw17_StageDoubles_1_2) K t m := rfl

def c_sheaflaw17_StageDoubles_1_4 : MC := (.seq (.ops [⟨(some 10), .indexAddr 23 (.tmp 6) (.tmp 8), none⟩,
    ⟨(some 11), .load 22 (.tmp 10), none⟩,
    ⟨(some 5), .assign (.tmp 11), none⟩]) c_sheaflaw17_StageDoubles_1_3)
@[go_sem] theorem c_sheaflaw17_StageDoubles_1_4_at (rd : Option Nat) (K : Post3) (t : Fr) (m : Mem) : wpM E 16 19 rd c_sheaflaw17_StageDoubles_1_4 K t m = wpM E 16 19 rd (.seq (.ops [⟨(some 10), .indexAddr 23 (.tmp 6) (.tmp 8), none⟩,
    ⟨(some 11), .load 22 (.tmp 10), none⟩,
    ⟨(some 5), .assign (.tmp 11), none⟩]) c_sheaflaw17_StageDoubles_1_3) K t m := rfl

def c_sheaflaw17_StageDoubles_1_5 : MC := (.block 1 c_sheaflaw17_StageDoubles_1_4)
@[go_sem] theorem c_sheaflaw17_StageDoubles_1_5_at (rd : Option Nat) (K : Post3) (t : Fr) (m : Mem) : wpM E 16 19 rd c_sheaflaw17_StageDoubles_1_5 K t m = wpM E 16 19 rd (.block 1 c_sheaflaw17_StageDoubles_1_4) K t m := rfl

def c_sheaflaw17_StageDoubles_1_6 : MC := (.seq c_sheaflaw17_StageDoubles_1_5 (.ops [⟨(some 18), .binOp .add 3 (.tmp 8) (.const (.int .i64 1)) 3, none⟩,
    ⟨(some 8), .move (.tmp 18), none⟩]))
@[go_sem] theorem c_sheaflaw17_StageDoubles_1_6_at (rd : Option Nat) (K : Post3) (t : Fr) (m : Mem) : wpM E 16 19 rd c_sheaflaw17_StageDoubles_1_6 K t m = wpM E 16 19 rd (.seq c_sheaflaw17_StageDoubles_1_5 (.ops [⟨(some 18), .binOp .add 3 (.tmp 8) (.const (.int .i64 1)) 3, none⟩,
    ⟨(some 8), .move (.tmp 18), none⟩])) K t m := rfl

def c_sheaflaw17_StageDoubles_1_7 : MC := (.seq c_sheaflaw17_StageDoubles_1_0 c_sheaflaw17_StageDoubles_1_6)
@[go_sem] theorem c_sheaflaw17_StageDoubles_1_7_at (rd : Option Nat) (K : Post3) (t : Fr) (m : Mem) : wpM E 16 19 rd c_sheaflaw17_StageDoubles_1_7 K t m = wpM E 16 19 rd (.seq c_sheaflaw17_StageDoubles_1_0 c_sheaflaw17_StageDoubles_1_6) K t m := rfl

def c_sheaflaw17_StageDoubles_1_8 : MC := (.seq (.ops [⟨(some 9), .binOp .lss 3 (.tmp 8) (.tmp 7) 3, none⟩]) c_sheaflaw17_StageDoubles_1_7)
@[go_sem] theorem c_sheaflaw17_StageDoubles_1_8_at (rd : Option Nat) (K : Post3) (t : Fr) (m : Mem) : wpM E 16 19 rd c_sheaflaw17_StageDoubles_1_8 K t m = wpM E 16 19 rd (.seq (.ops [⟨(some 9), .binOp .lss 3 (.tmp 8) (.tmp 7) 3, none⟩]) c_sheaflaw17_StageDoubles_1_7) K t m := rfl

def c_sheaflaw17_StageDoubles_1_9 : MC := (.loop c_sheaflaw17_StageDoubles_1_8)
theorem c_sheaflaw17_StageDoubles_1_9_at (rd : Option Nat) (K : Post3) (t : Fr) (m : Mem) : wpM E 16 19 rd c_sheaflaw17_StageDoubles_1_9 K t m = wpM E 16 19 rd (.loop c_sheaflaw17_StageDoubles_1_8) K t m := rfl

def c_sheaflaw17_StageDoubles_1_10 : MC := (.block 0 c_sheaflaw17_StageDoubles_1_9)
theorem c_sheaflaw17_StageDoubles_1_10_at (rd : Option Nat) (K : Post3) (t : Fr) (m : Mem) : wpM E 16 19 rd c_sheaflaw17_StageDoubles_1_10 K t m = wpM E 16 19 rd (.block 0 c_sheaflaw17_StageDoubles_1_9) K t m := rfl

def c_sheaflaw17_StageDoubles_1_11 : MC := (.seq (.ops [⟨(some 6), .load 23 (.tmp 1), none⟩,
    ⟨(some 7), .call ⟨.builtin .len, #[(.tmp 6)], #[23]⟩, none⟩,
    ⟨(some 8), .move (.const (.int .i64 0)), none⟩]) c_sheaflaw17_StageDoubles_1_10)
@[go_sem] theorem c_sheaflaw17_StageDoubles_1_11_at (rd : Option Nat) (K : Post3) (t : Fr) (m : Mem) : wpM E 16 19 rd c_sheaflaw17_StageDoubles_1_11 K t m = wpM E 16 19 rd (.seq (.ops [⟨(some 6), .load 23 (.tmp 1), none⟩,
    ⟨(some 7), .call ⟨.builtin .len, #[(.tmp 6)], #[23]⟩, none⟩,
    ⟨(some 8), .move (.const (.int .i64 0)), none⟩]) c_sheaflaw17_StageDoubles_1_10) K t m := rfl

@[go_sem] theorem some16 : (E.fn 16).isSome = true := by kernel_rfl
set_option maxRecDepth 100000 in
theorem fn_sheaflaw17_StageDoubles_1 : FnIs E 16 19 [] c_sheaflaw17_StageDoubles_1_11 := ⟨by kernel_rfl, by kernel_rfl⟩

end
end Go.Proofs.Ytpabllcacdopdaa.W
