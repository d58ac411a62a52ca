/-
  Compact code, printed by a program of mine (wip/dev/AbsPrint.lean).
-/
import Derived.Test.YthlcbacmbcmgfaaTypes
set_option linter.unusedVariables false
namespace Go.Proofs.Ythlcbacmbcmgfaa.W
open Go.Abs
noncomputable section

/-! sheaf/sheaflaw8.HeapPlays -/
abbrev F_sheaflaw8_HeapPlays : FuncId := 4
def c_sheaflaw8_HeapPlays_0 : MC := (.seq (.ops [⟨(some 2), .assign (.const (.bool false)), none⟩]) .ret)
@[go_sem] theorem c_sheaflaw8_HeapPlays_0_at (rd : Option Nat) (K : Post3) (t : Fr) (m : Mem) : wpM E 4 130 rd c_sheaflaw8_HeapPlays_0 K t m = wpM E 4 130 rd (.seq (.ops [⟨(some 2), .assign (.const (.bool false)), none⟩]) .ret) K t m := rfl

def c_sheaflaw8_HeapPlays_1 : MC := (.cond (.tmp 15) c_sheaflaw8_HeapPlays_0 .skip)
@[go_sem] theorem c_sheaflaw8_HeapPlays_1_at (rd : Option Nat) (K : Post3) (t : Fr) (m : Mem) : wpM E 4 130 rd c_sheaflaw8_HeapPlays_1 K t m = wpM E 4 130 rd (.cond (.tmp 15) c_sheaflaw8_HeapPlays_0 .skip) K t m := rfl

def c_sheaflaw8_HeapPlays_2 : MC := (.seq (.ops [⟨(some 14), .move (.tmp 3), none⟩,
    ⟨(some 15), .binOp .eql 22 (.tmp 14) (.const (.pointer none)) 22, none⟩]) c_sheaflaw8_HeapPlays_1)
@[go_sem] theorem c_sheaflaw8_HeapPlays_2_at (rd : Option Nat) (K : Post3) (t : Fr) (m : Mem) : wpM E 4 130 rd c_sheaflaw8_HeapPlays_2 K t m = wpM E 4 130 rd (.seq (.ops [⟨(some 14), .move (.tmp 3), none⟩,
    ⟨(some 15), .binOp .eql 22 (.tmp 14) (.const (.pointer none)) 22, none⟩]) c_sheaflaw8_HeapPlays_1) K t m := rfl

def c_sheaflaw8_HeapPlays_3 : MC := (.cond (.tmp 23) .skip (.exit 0))
@[go_sem] theorem c_sheaflaw8_HeapPlays_3_at (rd : Option Nat) (K : Post3) (t : Fr) (m : Mem) : wpM E 4 130 rd c_sheaflaw8_HeapPlays_3 K t m = wpM E 4 130 rd (.cond (.tmp 23) .skip (.exit 0)) K t m := rfl

def c_sheaflaw8_HeapPlays_4 : MC := (.seq (.ops [⟨(some 16), .move (.tmp 5), none⟩,
    ⟨(some 17), .move (.tmp 0), none⟩,
    ⟨(some 18), .call ⟨.builtin .len, #[(.tmp 17)], #[32]⟩, none⟩,
    ⟨(some 19), .binOp .lss 3 (.tmp 16) (.tmp 18) 3, none⟩,
    ⟨(some 20), .move (.tmp 19), none⟩,
    ⟨(some 21), .move (.tmp 5), (some (some 20, true))⟩,
    ⟨(some 22), .binOp .lss 3 (.tmp 21) (.const (.int .i64 60)) 3, (some (some 20, true))⟩,
    ⟨(some 23), .pick (.tmp 20) (.tmp 22) (.const (.bool false)), none⟩]) c_sheaflaw8_HeapPlays_3)
@[go_sem] theorem c_sheaflaw8_HeapPlays_4_at (rd : Option Nat) (K : Post3) (t : Fr) (m : Mem) : wpM E 4 130 rd c_sheaflaw8_HeapPlays_4 K t m = wpM E 4 130 rd (.seq (.ops [⟨(some 16), .move (.tmp 5), none⟩,
    ⟨(some 17), .move (.tmp 0), none⟩,
    ⟨(some 18), .call ⟨.builtin .len, #[(.tmp 17)], #[32]⟩, none⟩,
    ⟨(some 19), .binOp .lss 3 (.tmp 16) (.tmp 18) 3, none⟩,
    ⟨(some 20), .move (.tmp 19), none⟩,
    ⟨(some 21), .move (.tmp 5), (some (some 20, true))⟩,
    ⟨(some 22), .binOp .lss 3 (.tmp 21) (.const (.int .i64 60)) 3, (some (some 20, true))⟩,
    ⟨(some 23), .pick (.tmp 20) (.tmp 22) (.const (.bool false)), none⟩]) c_sheaflaw8_HeapPlays_3) K t m := rfl

def c_sheaflaw8_HeapPlays_5 : MC := (.cond (.tmp 33) .skip (.exit 2))
@[go_sem] theorem c_sheaflaw8_HeapPlays_5_at (rd : Option Nat) (K : Post3) (t : Fr) (m : Mem) : wpM E 4 130 rd c_sheaflaw8_HeapPlays_5 K t m = wpM E 4 130 rd (.cond (.tmp 33) .skip (.exit 2)) K t m := rfl

def c_sheaflaw8_HeapPlays_6 : MC := (.cond (.tmp 47) (.ops [⟨(some 48), .move (.tmp 8), none⟩,
    ⟨(some 7), .assign (.tmp 48), none⟩]) .skip)
@[go_sem] theorem c_sheaflaw8_HeapPlays_6_at (rd : Option Nat) (K : Post3) (t : Fr) (m : Mem) : wpM E 4 130 rd c_sheaflaw8_HeapPlays_6 K t m = wpM E 4 130 rd (.cond (.tmp 47) (.ops [⟨(some 48), .move (.tmp 8), none⟩,
    ⟨(some 7), .assign (.tmp 48), none⟩]) .skip) K t m := rfl

def c_sheaflaw8_HeapPlays_7 : MC := (.seq (.ops [⟨(some 35), .move (.tmp 7), none⟩,
    ⟨(some 36), .binOp .lss 3 (.tmp 35) (.const (.int .i64 0)) 3, none⟩,
    ⟨(some 37), .move (.tmp 36), none⟩,
    ⟨(some 38), .move (.tmp 4), (some (some 37, false))⟩,
    ⟨(some 39), .move (.tmp 8), (some (some 37, false))⟩,
    ⟨(some 40), .indexAddr 25 (.tmp 38) (.tmp 39), (some (some 37, false))⟩,
    ⟨(some 41), .load 3 (.tmp 40), (some (some 37, false))⟩,
    ⟨(some 42), .move (.tmp 4), (some (some 37, false))⟩,
    ⟨(some 43), .move (.tmp 7), (some (some 37, false))⟩,
    ⟨(some 44), .indexAddr 25 (.tmp 42) (.tmp 43), (some (some 37, false))⟩,
    ⟨(some 45), .load 3 (.tmp 44), (some (some 37, false))⟩,
    ⟨(some 46), .binOp .lss 3 (.tmp 41) (.tmp 45) 3, (some (some 37, false))⟩,
    ⟨(some 47), .pick (.tmp 37) (.const (.bool true)) (.tmp 46), none⟩]) c_sheaflaw8_HeapPlays_6)
@[go_sem] theorem c_sheaflaw8_HeapPlays_7_at (rd : Option Nat) (K : Post3) (t : Fr) (m : Mem) : wpM E 4 130 rd c_sheaflaw8_HeapPlays_7 K t m = wpM E 4 130 rd (.seq (.ops [⟨(some 35), .move (.tmp 7), none⟩,
    ⟨(some 36), .binOp .lss 3 (.tmp 35) (.const (.int .i64 0)) 3, none⟩,
    ⟨(some 37), .move (.tmp 36), none⟩,
    ⟨(some 38), .move (.tmp 4), (some (some 37, false))⟩,
    ⟨(some 39), .move (.tmp 8), (some (some 37, false))⟩,
    ⟨(some 40), .indexAddr 25 (.tmp 38) (.tmp 39), (some (some 37, false))⟩,
    ⟨(some 41), .load 3 (.tmp 40), (some (some 37, false))⟩,
    ⟨(some 42), .move (.tmp 4), (some (some 37, false))⟩,
    ⟨(some 43), .move (.tmp 7), (some (some 37, false))⟩,
    ⟨(some 44), .indexAddr 25 (.tmp 42) (.tmp 43), (some (some 37, false))⟩,
    ⟨(some 45), .load 3 (.tmp 44), (some (some 37, false))⟩,
    ⟨(some 46), .binOp .lss 3 (.tmp 41) (.tmp 45) 3, (some (some 37, false))⟩,
    ⟨(some 47), .pick (.tmp 37) (.const (.bool true)) (.tmp 46), none⟩]) c_sheaflaw8_HeapPlays_6) K t m := rfl

def c_sheaflaw8_HeapPlays_8 : MC := (.seq (.ops [⟨(some 34), .move (.tmp 32), none⟩,
    ⟨(some 8), .assign (.tmp 34), none⟩]) c_sheaflaw8_HeapPlays_7)
@[go_sem] theorem c_sheaflaw8_HeapPlays_8_at (rd : Option Nat) (K : Post3) (t : Fr) (m : Mem) : wpM E 4 130 rd c_sheaflaw8_HeapPlays_8 K t m = wpM E 4 130 rd (.seq (.ops [⟨(some 34), .move (.tmp 32), none⟩,
    ⟨(some 8), .assign (.tmp 34), none⟩]) c_sheaflaw8_HeapPlays_7) K t m := rfl

def c_sheaflaw8_HeapPlays_9 : MC := (.block 3 c_sheaflaw8_HeapPlays_8)
@[go_sem] theorem c_sheaflaw8_HeapPlays_9_at (rd : Option Nat) (K : Post3) (t : Fr) (m : Mem) : wpM E 4 130 rd c_sheaflaw8_HeapPlays_9 K t m = wpM E 4 130 rd (.block 3 c_sheaflaw8_HeapPlays_8) K t m := rfl

def c_sheaflaw8_HeapPlays_10 : MC := (.seq c_sheaflaw8_HeapPlays_9 (.ops [⟨(some 49), .binOp .add 3 (.tmp 32) (.const (.int .i64 1)) 3, none⟩,
    ⟨(some 32), .move (.tmp 49), none⟩]))
@[go_sem] theorem c_sheaflaw8_HeapPlays_10_at (rd : Option Nat) (K : Post3) (t : Fr) (m : Mem) : wpM E 4 130 rd c_sheaflaw8_HeapPlays_10 K t m = wpM E 4 130 rd (.seq c_sheaflaw8_HeapPlays_9 (.ops [⟨(some 49), .binOp .add 3 (.tmp 32) (.const (.int .i64 1)) 3, none⟩,
    ⟨(some 32), .move (.tmp 49), none⟩])) K t m := rfl

def c_sheaflaw8_HeapPlays_11 : MC := (.seq c_sheaflaw8_HeapPlays_5 c_sheaflaw8_HeapPlays_10)
@[go_sem] theorem c_sheaflaw8_HeapPlays_11_at (rd : Option Nat) (K : Post3) (t : Fr) (m : Mem) : wpM E 4 130 rd c_sheaflaw8_HeapPlays_11 K t m = wpM E 4 130 rd (.seq c_sheaflaw8_HeapPlays_5 c_sheaflaw8_HeapPlays_10) K t m := rfl

def c_sheaflaw8_HeapPlays_12 : MC := (.seq (.ops [⟨(some 33), .binOp .lss 3 (.tmp 32) (.tmp 31) 3, none⟩]) c_sheaflaw8_HeapPlays_11)
@[go_sem] theorem c_sheaflaw8_HeapPlays_12_at (rd : Option Nat) (K : Post3) (t : Fr) (m : Mem) : wpM E 4 130 rd c_sheaflaw8_HeapPlays_12 K t m = wpM E 4 130 rd (.seq (.ops [⟨(some 33), .binOp .lss 3 (.tmp 32) (.tmp 31) 3, none⟩]) c_sheaflaw8_HeapPlays_11) K t m := rfl

def c_sheaflaw8_HeapPlays_13 : MC := (.loop c_sheaflaw8_HeapPlays_12)
theorem c_sheaflaw8_HeapPlays_13_at (rd : Option Nat) (K : Post3) (t : Fr) (m : Mem) : wpM E 4 130 rd c_sheaflaw8_HeapPlays_13 K t m = wpM E 4 130 rd (.loop c_sheaflaw8_HeapPlays_12) K t m := rfl

def c_sheaflaw8_HeapPlays_14 : MC := (.block 2 c_sheaflaw8_HeapPlays_13)
theorem c_sheaflaw8_HeapPlays_14_at (rd : Option Nat) (K : Post3) (t : Fr) (m : Mem) : wpM E 4 130 rd c_sheaflaw8_HeapPlays_14 K t m = wpM E 4 130 rd (.block 2 c_sheaflaw8_HeapPlays_13) K t m := rfl

def c_sheaflaw8_HeapPlays_15 : MC := (.seq (.ops [⟨(some 30), .move (.tmp 4), none⟩,
    ⟨(some 31), .call ⟨.builtin .len, #[(.tmp 30)], #[25]⟩, none⟩,
    ⟨(some 32), .move (.const (.int .i64 0)), none⟩]) c_sheaflaw8_HeapPlays_14)
@[go_sem] theorem c_sheaflaw8_HeapPlays_15_at (rd : Option Nat) (K : Post3) (t : Fr) (m : Mem) : wpM E 4 130 rd c_sheaflaw8_HeapPlays_15 K t m = wpM E 4 130 rd (.seq (.ops [⟨(some 30), .move (.tmp 4), none⟩,
    ⟨(some 31), .call ⟨.builtin .len, #[(.tmp 30)], #[25]⟩, none⟩,
    ⟨(some 32), .move (.const (.int .i64 0)), none⟩]) c_sheaflaw8_HeapPlays_14) K t m := rfl

def c_sheaflaw8_HeapPlays_16 : MC := (.seq (.ops [⟨(some 2), .assign (.const (.bool false)), none⟩]) .ret)
@[go_sem] theorem c_sheaflaw8_HeapPlays_16_at (rd : Option Nat) (K : Post3) (t : Fr) (m : Mem) : wpM E 4 130 rd c_sheaflaw8_HeapPlays_16 K t m = wpM E 4 130 rd (.seq (.ops [⟨(some 2), .assign (.const (.bool false)), none⟩]) .ret) K t m := rfl

def c_sheaflaw8_HeapPlays_17 : MC := (.cond (.tmp 90) c_sheaflaw8_HeapPlays_16 .skip)
@[go_sem] theorem c_sheaflaw8_HeapPlays_17_at (rd : Option Nat) (K : Post3) (t : Fr) (m : Mem) : wpM E 4 130 rd c_sheaflaw8_HeapPlays_17 K t m = wpM E 4 130 rd (.cond (.tmp 90) c_sheaflaw8_HeapPlays_16 .skip) K t m := rfl

def c_sheaflaw8_HeapPlays_18 : MC := (.seq (.ops [⟨(some 68), .move (.tmp 10), none⟩,
    ⟨(some 69), .move (.tmp 7), none⟩,
    ⟨(some 70), .binOp .geq 3 (.tmp 69) (.const (.int .i64 0)) 3, none⟩,
    ⟨(some 71), .binOp .neq 4 (.tmp 68) (.tmp 70) 4, none⟩,
    ⟨(some 72), .move (.tmp 71), none⟩,
    ⟨(some 73), .move (.tmp 10), (some (some 72, false))⟩,
    ⟨(some 74), .move (.tmp 73), (some (some 72, false))⟩,
    ⟨(some 75), .move (.tmp 9), (some (some 74, true))⟩,
    ⟨(some 76), .move (.tmp 4), (some (some 74, true))⟩,
    ⟨(some 77), .move (.tmp 7), (some (some 74, true))⟩,
    ⟨(some 78), .indexAddr 25 (.tmp 76) (.tmp 77), (some (some 74, true))⟩,
    ⟨(some 79), .load 3 (.tmp 78), (some (some 74, true))⟩,
    ⟨(some 80), .binOp .neq 3 (.tmp 75) (.tmp 79) 3, (some (some 74, true))⟩,
    ⟨(some 81), .pick (.tmp 74) (.tmp 80) (.const (.bool false)), (some (some 72, false))⟩,
    ⟨(some 82), .pick (.tmp 72) (.const (.bool true)) (.tmp 81), none⟩,
    ⟨(some 83), .move (.tmp 82), none⟩,
    ⟨(some 84), .move (.tmp 10), (some (some 83, false))⟩,
    ⟨(some 85), .unOp .not 4 (.tmp 84), (some (some 83, false))⟩,
    ⟨(some 86), .move (.tmp 85), (some (some 83, false))⟩,
    ⟨(some 87), .move (.tmp 9), (some (some 86, true))⟩,
    ⟨(some 88), .binOp .neq 3 (.tmp 87) (.const (.int .i64 0)) 3, (some (some 86, true))⟩,
    ⟨(some 89), .pick (.tmp 86) (.tmp 88) (.const (.bool false)), (some (some 83, false))⟩,
    ⟨(some 90), .pick (.tmp 83) (.const (.bool true)) (.tmp 89), none⟩]) c_sheaflaw8_HeapPlays_17)
@[go_sem] theorem c_sheaflaw8_HeapPlays_18_at (rd : Option Nat) (K : Post3) (t : Fr) (m : Mem) : wpM E 4 130 rd c_sheaflaw8_HeapPlays_18 K t m = wpM E 4 130 rd (.seq (.ops [⟨(some 68), .move (.tmp 10), none⟩,
    ⟨(some 69), .move (.tmp 7), none⟩,
    ⟨(some 70), .binOp .geq 3 (.tmp 69) (.const (.int .i64 0)) 3, none⟩,
    ⟨(some 71), .binOp .neq 4 (.tmp 68) (.tmp 70) 4, none⟩,
    ⟨(some 72), .move (.tmp 71), none⟩,
    ⟨(some 73), .move (.tmp 10), (some (some 72, false))⟩,
    ⟨(some 74), .move (.tmp 73), (some (some 72, false))⟩,
    ⟨(some 75), .move (.tmp 9), (some (some 74, true))⟩,
    ⟨(some 76), .move (.tmp 4), (some (some 74, true))⟩,
    ⟨(some 77), .move (.tmp 7), (some (some 74, true))⟩,
    ⟨(some 78), .indexAddr 25 (.tmp 76) (.tmp 77), (some (some 74, true))⟩,
    ⟨(some 79), .load 3 (.tmp 78), (some (some 74, true))⟩,
    ⟨(some 80), .binOp .neq 3 (.tmp 75) (.tmp 79) 3, (some (some 74, true))⟩,
    ⟨(some 81), .pick (.tmp 74) (.tmp 80) (.const (.bool false)), (some (some 72, false))⟩,
    ⟨(some 82), .pick (.tmp 72) (.const (.bool true)) (.tmp 81), none⟩,
    ⟨(some 83), .move (.tmp 82), none⟩,
    ⟨(some 84), .move (.tmp 10), (some (some 83, false))⟩,
    ⟨(some 85), .unOp .not 4 (.tmp 84), (some (some 83, false))⟩,
    ⟨(some 86), .move (.tmp 85), (some (some 83, false))⟩,
    ⟨(some 87), .move (.tmp 9), (some (some 86, true))⟩,
    ⟨(some 88), .binOp .neq 3 (.tmp 87) (.const (.int .i64 0)) 3, (some (some 86, true))⟩,
    ⟨(some 89), .pick (.tmp 86) (.tmp 88) (.const (.bool false)), (some (some 83, false))⟩,
    ⟨(some 90), .pick (.tmp 83) (.const (.bool true)) (.tmp 89), none⟩]) c_sheaflaw8_HeapPlays_17) K t m := rfl

def c_sheaflaw8_HeapPlays_19 : MC := (.cond (.tmp 91) (.ops [⟨(some 92), .buildSlice 25 0 #[], none⟩,
    ⟨(some 93), .move (.tmp 4), none⟩,
    ⟨(some 94), .move (.tmp 7), none⟩,
    ⟨(some 95), .slice 25 (.tmp 93) none (some (.tmp 94)) none, none⟩,
    ⟨(some 96), .call ⟨.builtin .append, #[(.tmp 92), (.tmp 95)], #[25, 25]⟩, none⟩,
    ⟨(some 97), .move (.tmp 4), none⟩,
    ⟨(some 98), .move (.tmp 7), none⟩,
    ⟨(some 99), .binOp .add 3 (.tmp 98) (.const (.int .i64 1)) 3, none⟩,
    ⟨(some 100), .slice 25 (.tmp 97) (some (.tmp 99)) none none, none⟩,
    ⟨(some 101), .call ⟨.builtin .append, #[(.tmp 96), (.tmp 100)], #[25, 25]⟩, none⟩,
    ⟨(some 4), .assign (.tmp 101), none⟩]) .skip)
@[go_sem] theorem c_sheaflaw8_HeapPlays_19_at (rd : Option Nat) (K : Post3) (t : Fr) (m : Mem) : wpM E 4 130 rd c_sheaflaw8_HeapPlays_19 K t m = wpM E 4 130 rd (.cond (.tmp 91) (.ops [⟨(some 92), .buildSlice 25 0 #[], none⟩,
    ⟨(some 93), .move (.tmp 4), none⟩,
    ⟨(some 94), .move (.tmp 7), none⟩,
    ⟨(some 95), .slice 25 (.tmp 93) none (some (.tmp 94)) none, none⟩,
    ⟨(some 96), .call ⟨.builtin .append, #[(.tmp 92), (.tmp 95)], #[25, 25]⟩, none⟩,
    ⟨(some 97), .move (.tmp 4), none⟩,
    ⟨(some 98), .move (.tmp 7), none⟩,
    ⟨(some 99), .binOp .add 3 (.tmp 98) (.const (.int .i64 1)) 3, none⟩,
    ⟨(some 100), .slice 25 (.tmp 97) (some (.tmp 99)) none none, none⟩,
    ⟨(some 101), .call ⟨.builtin .append, #[(.tmp 96), (.tmp 100)], #[25, 25]⟩, none⟩,
    ⟨(some 4), .assign (.tmp 101), none⟩]) .skip) K t m := rfl

def c_sheaflaw8_HeapPlays_20 : MC := (.seq (.ops [⟨(some 91), .move (.tmp 10), none⟩]) c_sheaflaw8_HeapPlays_19)
@[go_sem] theorem c_sheaflaw8_HeapPlays_20_at (rd : Option Nat) (K : Post3) (t : Fr) (m : Mem) : wpM E 4 130 rd c_sheaflaw8_HeapPlays_20 K t m = wpM E 4 130 rd (.seq (.ops [⟨(some 91), .move (.tmp 10), none⟩]) c_sheaflaw8_HeapPlays_19) K t m := rfl

def c_sheaflaw8_HeapPlays_21 : MC := (.seq c_sheaflaw8_HeapPlays_18 c_sheaflaw8_HeapPlays_20)
@[go_sem] theorem c_sheaflaw8_HeapPlays_21_at (rd : Option Nat) (K : Post3) (t : Fr) (m : Mem) : wpM E 4 130 rd c_sheaflaw8_HeapPlays_21 K t m = wpM E 4 130 rd (.seq c_sheaflaw8_HeapPlays_18 c_sheaflaw8_HeapPlays_20) K t m := rfl

def c_sheaflaw8_HeapPlays_22 : MC := (.seq (.ops [⟨(some 64), .move (.tmp 3), none⟩,
    ⟨(some 65), .call ⟨.value (.func 16), #[(.tmp 64)], #[22]⟩, none⟩,
    ⟨(some 63), .move (.tmp 65), none⟩,
    ⟨(some 66), .extract (.tmp 63) 0, none⟩,
    ⟨(some 67), .extract (.tmp 63) 1, none⟩,
    ⟨(some 9), .assign (.tmp 66), none⟩,
    ⟨(some 10), .assign (.tmp 67), none⟩]) c_sheaflaw8_HeapPlays_21)
@[go_sem] theorem c_sheaflaw8_HeapPlays_22_at (rd : Option Nat) (K : Post3) (t : Fr) (m : Mem) : wpM E 4 130 rd c_sheaflaw8_HeapPlays_22 K t m = wpM E 4 130 rd (.seq (.ops [⟨(some 64), .move (.tmp 3), none⟩,
    ⟨(some 65), .call ⟨.value (.func 16), #[(.tmp 64)], #[22]⟩, none⟩,
    ⟨(some 63), .move (.tmp 65), none⟩,
    ⟨(some 66), .extract (.tmp 63) 0, none⟩,
    ⟨(some 67), .extract (.tmp 63) 1, none⟩,
    ⟨(some 9), .assign (.tmp 66), none⟩,
    ⟨(some 10), .assign (.tmp 67), none⟩]) c_sheaflaw8_HeapPlays_21) K t m := rfl

def c_sheaflaw8_HeapPlays_23 : MC := (.seq (.ops [⟨(some 2), .assign (.const (.bool false)), none⟩]) .ret)
@[go_sem] theorem c_sheaflaw8_HeapPlays_23_at (rd : Option Nat) (K : Post3) (t : Fr) (m : Mem) : wpM E 4 130 rd c_sheaflaw8_HeapPlays_23 K t m = wpM E 4 130 rd (.seq (.ops [⟨(some 2), .assign (.const (.bool false)), none⟩]) .ret) K t m := rfl

def c_sheaflaw8_HeapPlays_24 : MC := (.cond (.tmp 123) c_sheaflaw8_HeapPlays_23 .skip)
@[go_sem] theorem c_sheaflaw8_HeapPlays_24_at (rd : Option Nat) (K : Post3) (t : Fr) (m : Mem) : wpM E 4 130 rd c_sheaflaw8_HeapPlays_24 K t m = wpM E 4 130 rd (.cond (.tmp 123) c_sheaflaw8_HeapPlays_23 .skip) K t m := rfl

def c_sheaflaw8_HeapPlays_25 : MC := (.seq (.ops [⟨(some 109), .move (.tmp 12), none⟩,
    ⟨(some 110), .move (.tmp 7), none⟩,
    ⟨(some 111), .binOp .geq 3 (.tmp 110) (.const (.int .i64 0)) 3, none⟩,
    ⟨(some 112), .binOp .neq 4 (.tmp 109) (.tmp 111) 4, none⟩,
    ⟨(some 113), .move (.tmp 112), none⟩,
    ⟨(some 114), .move (.tmp 12), (some (some 113, false))⟩,
    ⟨(some 115), .move (.tmp 114), (some (some 113, false))⟩,
    ⟨(some 116), .move (.tmp 11), (some (some 115, true))⟩,
    ⟨(some 117), .move (.tmp 4), (some (some 115, true))⟩,
    ⟨(some 118), .move (.tmp 7), (some (some 115, true))⟩,
    ⟨(some 119), .indexAddr 25 (.tmp 117) (.tmp 118), (some (some 115, true))⟩,
    ⟨(some 120), .load 3 (.tmp 119), (some (some 115, true))⟩,
    ⟨(some 121), .binOp .neq 3 (.tmp 116) (.tmp 120) 3, (some (some 115, true))⟩,
    ⟨(some 122), .pick (.tmp 115) (.tmp 121) (.const (.bool false)), (some (some 113, false))⟩,
    ⟨(some 123), .pick (.tmp 113) (.const (.bool true)) (.tmp 122), none⟩]) c_sheaflaw8_HeapPlays_24)
@[go_sem] theorem c_sheaflaw8_HeapPlays_25_at (rd : Option Nat) (K : Post3) (t : Fr) (m : Mem) : wpM E 4 130 rd c_sheaflaw8_HeapPlays_25 K t m = wpM E 4 130 rd (.seq (.ops [⟨(some 109), .move (.tmp 12), none⟩,
    ⟨(some 110), .move (.tmp 7), none⟩,
    ⟨(some 111), .binOp .geq 3 (.tmp 110) (.const (.int .i64 0)) 3, none⟩,
    ⟨(some 112), .binOp .neq 4 (.tmp 109) (.tmp 111) 4, none⟩,
    ⟨(some 113), .move (.tmp 112), none⟩,
    ⟨(some 114), .move (.tmp 12), (some (some 113, false))⟩,
    ⟨(some 115), .move (.tmp 114), (some (some 113, false))⟩,
    ⟨(some 116), .move (.tmp 11), (some (some 115, true))⟩,
    ⟨(some 117), .move (.tmp 4), (some (some 115, true))⟩,
    ⟨(some 118), .move (.tmp 7), (some (some 115, true))⟩,
    ⟨(some 119), .indexAddr 25 (.tmp 117) (.tmp 118), (some (some 115, true))⟩,
    ⟨(some 120), .load 3 (.tmp 119), (some (some 115, true))⟩,
    ⟨(some 121), .binOp .neq 3 (.tmp 116) (.tmp 120) 3, (some (some 115, true))⟩,
    ⟨(some 122), .pick (.tmp 115) (.tmp 121) (.const (.bool false)), (some (some 113, false))⟩,
    ⟨(some 123), .pick (.tmp 113) (.const (.bool true)) (.tmp 122), none⟩]) c_sheaflaw8_HeapPlays_24) K t m := rfl

def c_sheaflaw8_HeapPlays_26 : MC := (.seq (.ops [⟨(some 105), .move (.tmp 3), none⟩,
    ⟨(some 106), .call ⟨.value (.func 19), #[(.tmp 105)], #[22]⟩, none⟩,
    ⟨(some 104), .move (.tmp 106), none⟩,
    ⟨(some 107), .extract (.tmp 104) 0, none⟩,
    ⟨(some 108), .extract (.tmp 104) 1, none⟩,
    ⟨(some 11), .assign (.tmp 107), none⟩,
    ⟨(some 12), .assign (.tmp 108), none⟩]) c_sheaflaw8_HeapPlays_25)
@[go_sem] theorem c_sheaflaw8_HeapPlays_26_at (rd : Option Nat) (K : Post3) (t : Fr) (m : Mem) : wpM E 4 130 rd c_sheaflaw8_HeapPlays_26 K t m = wpM E 4 130 rd (.seq (.ops [⟨(some 105), .move (.tmp 3), none⟩,
    ⟨(some 106), .call ⟨.value (.func 19), #[(.tmp 105)], #[22]⟩, none⟩,
    ⟨(some 104), .move (.tmp 106), none⟩,
    ⟨(some 107), .extract (.tmp 104) 0, none⟩,
    ⟨(some 108), .extract (.tmp 104) 1, none⟩,
    ⟨(some 11), .assign (.tmp 107), none⟩,
    ⟨(some 12), .assign (.tmp 108), none⟩]) c_sheaflaw8_HeapPlays_25) K t m := rfl

def c_sheaflaw8_HeapPlays_27 : MC := (.seq (.ops [⟨(some 52), .move (.tmp 3), none⟩,
    ⟨(some 53), .fieldAddr 34 (.tmp 6) 1, none⟩,
    ⟨(some 54), .load 3 (.tmp 53), none⟩,
    ⟨(some 55), .call ⟨.value (.func 15), #[(.tmp 52), (.tmp 54)], #[22, 3]⟩, none⟩]) (.ops [⟨(some 56), .move (.tmp 4), none⟩,
    ⟨(some 57), .fieldAddr 34 (.tmp 6) 1, none⟩,
    ⟨(some 58), .load 3 (.tmp 57), none⟩,
    ⟨(some 59), .buildSlice 25 1 #[(0, (.tmp 58))], none⟩,
    ⟨(some 60), .call ⟨.builtin .append, #[(.tmp 56), (.tmp 59)], #[25, 25]⟩, none⟩,
    ⟨(some 4), .assign (.tmp 60), none⟩]))
@[go_sem] theorem c_sheaflaw8_HeapPlays_27_at (rd : Option Nat) (K : Post3) (t : Fr) (m : Mem) : wpM E 4 130 rd c_sheaflaw8_HeapPlays_27 K t m = wpM E 4 130 rd (.seq (.ops [⟨(some 52), .move (.tmp 3), none⟩,
    ⟨(some 53), .fieldAddr 34 (.tmp 6) 1, none⟩,
    ⟨(some 54), .load 3 (.tmp 53), none⟩,
    ⟨(some 55), .call ⟨.value (.func 15), #[(.tmp 52), (.tmp 54)], #[22, 3]⟩, none⟩]) (.ops [⟨(some 56), .move (.tmp 4), none⟩,
    ⟨(some 57), .fieldAddr 34 (.tmp 6) 1, none⟩,
    ⟨(some 58), .load 3 (.tmp 57), none⟩,
    ⟨(some 59), .buildSlice 25 1 #[(0, (.tmp 58))], none⟩,
    ⟨(some 60), .call ⟨.builtin .append, #[(.tmp 56), (.tmp 59)], #[25, 25]⟩, none⟩,
    ⟨(some 4), .assign (.tmp 60), none⟩])) K t m := rfl

def c_sheaflaw8_HeapPlays_28 : MC := (.cond (.tmp 102) c_sheaflaw8_HeapPlays_26 c_sheaflaw8_HeapPlays_27)
@[go_sem] theorem c_sheaflaw8_HeapPlays_28_at (rd : Option Nat) (K : Post3) (t : Fr) (m : Mem) : wpM E 4 130 rd c_sheaflaw8_HeapPlays_28 K t m = wpM E 4 130 rd (.cond (.tmp 102) c_sheaflaw8_HeapPlays_26 c_sheaflaw8_HeapPlays_27) K t m := rfl

def c_sheaflaw8_HeapPlays_29 : MC := (.seq (.ops [⟨(some 103), .binOp .eql 3 (.tmp 51) (.const (.int .i64 3)) 3, none⟩,
    ⟨(some 102), .assign (.tmp 103), none⟩]) c_sheaflaw8_HeapPlays_28)
@[go_sem] theorem c_sheaflaw8_HeapPlays_29_at (rd : Option Nat) (K : Post3) (t : Fr) (m : Mem) : wpM E 4 130 rd c_sheaflaw8_HeapPlays_29 K t m = wpM E 4 130 rd (.seq (.ops [⟨(some 103), .binOp .eql 3 (.tmp 51) (.const (.int .i64 3)) 3, none⟩,
    ⟨(some 102), .assign (.tmp 103), none⟩]) c_sheaflaw8_HeapPlays_28) K t m := rfl

def c_sheaflaw8_HeapPlays_30 : MC := (.cond (.tmp 61) c_sheaflaw8_HeapPlays_22 c_sheaflaw8_HeapPlays_29)
@[go_sem] theorem c_sheaflaw8_HeapPlays_30_at (rd : Option Nat) (K : Post3) (t : Fr) (m : Mem) : wpM E 4 130 rd c_sheaflaw8_HeapPlays_30 K t m = wpM E 4 130 rd (.cond (.tmp 61) c_sheaflaw8_HeapPlays_22 c_sheaflaw8_HeapPlays_29) K t m := rfl

def c_sheaflaw8_HeapPlays_31 : MC := (.seq (.ops [⟨(some 62), .binOp .eql 3 (.tmp 51) (.const (.int .i64 2)) 3, none⟩,
    ⟨(some 61), .assign (.tmp 62), none⟩]) c_sheaflaw8_HeapPlays_30)
@[go_sem] theorem c_sheaflaw8_HeapPlays_31_at (rd : Option Nat) (K : Post3) (t : Fr) (m : Mem) : wpM E 4 130 rd c_sheaflaw8_HeapPlays_31 K t m = wpM E 4 130 rd (.seq (.ops [⟨(some 62), .binOp .eql 3 (.tmp 51) (.const (.int .i64 2)) 3, none⟩,
    ⟨(some 61), .assign (.tmp 62), none⟩]) c_sheaflaw8_HeapPlays_30) K t m := rfl

def c_sheaflaw8_HeapPlays_32 : MC := (.block 4 c_sheaflaw8_HeapPlays_31)
@[go_sem] theorem c_sheaflaw8_HeapPlays_32_at (rd : Option Nat) (K : Post3) (t : Fr) (m : Mem) : wpM E 4 130 rd c_sheaflaw8_HeapPlays_32 K t m = wpM E 4 130 rd (.block 4 c_sheaflaw8_HeapPlays_31) K t m := rfl

def c_sheaflaw8_HeapPlays_33 : MC := (.seq (.ops [⟨(some 50), .fieldAddr 34 (.tmp 6) 0, none⟩,
    ⟨(some 51), .load 3 (.tmp 50), none⟩]) c_sheaflaw8_HeapPlays_32)
@[go_sem] theorem c_sheaflaw8_HeapPlays_33_at (rd : Option Nat) (K : Post3) (t : Fr) (m : Mem) : wpM E 4 130 rd c_sheaflaw8_HeapPlays_33 K t m = wpM E 4 130 rd (.seq (.ops [⟨(some 50), .fieldAddr 34 (.tmp 6) 0, none⟩,
    ⟨(some 51), .load 3 (.tmp 50), none⟩]) c_sheaflaw8_HeapPlays_32) K t m := rfl

def c_sheaflaw8_HeapPlays_34 : MC := (.seq (.ops [⟨(some 2), .assign (.const (.bool false)), none⟩]) .ret)
@[go_sem] theorem c_sheaflaw8_HeapPlays_34_at (rd : Option Nat) (K : Post3) (t : Fr) (m : Mem) : wpM E 4 130 rd c_sheaflaw8_HeapPlays_34 K t m = wpM E 4 130 rd (.seq (.ops [⟨(some 2), .assign (.const (.bool false)), none⟩]) .ret) K t m := rfl

def c_sheaflaw8_HeapPlays_35 : MC := (.cond (.tmp 128) c_sheaflaw8_HeapPlays_34 .skip)
@[go_sem] theorem c_sheaflaw8_HeapPlays_35_at (rd : Option Nat) (K : Post3) (t : Fr) (m : Mem) : wpM E 4 130 rd c_sheaflaw8_HeapPlays_35 K t m = wpM E 4 130 rd (.cond (.tmp 128) c_sheaflaw8_HeapPlays_34 .skip) K t m := rfl

def c_sheaflaw8_HeapPlays_36 : MC := (.seq (.ops [⟨(some 124), .move (.tmp 3), none⟩,
    ⟨(some 125), .call ⟨.value (.func 18), #[(.tmp 124)], #[22]⟩, none⟩,
    ⟨(some 126), .move (.tmp 4), none⟩,
    ⟨(some 127), .call ⟨.builtin .len, #[(.tmp 126)], #[25]⟩, none⟩,
    ⟨(some 128), .binOp .neq 3 (.tmp 125) (.tmp 127) 3, none⟩]) c_sheaflaw8_HeapPlays_35)
@[go_sem] theorem c_sheaflaw8_HeapPlays_36_at (rd : Option Nat) (K : Post3) (t : Fr) (m : Mem) : wpM E 4 130 rd c_sheaflaw8_HeapPlays_36 K t m = wpM E 4 130 rd (.seq (.ops [⟨(some 124), .move (.tmp 3), none⟩,
    ⟨(some 125), .call ⟨.value (.func 18), #[(.tmp 124)], #[22]⟩, none⟩,
    ⟨(some 126), .move (.tmp 4), none⟩,
    ⟨(some 127), .call ⟨.builtin .len, #[(.tmp 126)], #[25]⟩, none⟩,
    ⟨(some 128), .binOp .neq 3 (.tmp 125) (.tmp 127) 3, none⟩]) c_sheaflaw8_HeapPlays_35) K t m := rfl

def c_sheaflaw8_HeapPlays_37 : MC := (.seq c_sheaflaw8_HeapPlays_33 c_sheaflaw8_HeapPlays_36)
@[go_sem] theorem c_sheaflaw8_HeapPlays_37_at (rd : Option Nat) (K : Post3) (t : Fr) (m : Mem) : wpM E 4 130 rd c_sheaflaw8_HeapPlays_37 K t m = wpM E 4 130 rd (.seq c_sheaflaw8_HeapPlays_33 c_sheaflaw8_HeapPlays_36) K t m := rfl

def c_sheaflaw8_HeapPlays_38 : MC := (.seq c_sheaflaw8_HeapPlays_15 c_sheaflaw8_HeapPlays_37)
@[go_sem] theorem c_sheaflaw8_HeapPlays_38_at (rd : Option Nat) (K : Post3) (t : Fr) (m : Mem) : wpM E 4 130 rd c_sheaflaw8_HeapPlays_38 K t m = wpM E 4 130 rd (.seq c_sheaflaw8_HeapPlays_15 c_sheaflaw8_HeapPlays_37) K t m := rfl

def c_sheaflaw8_HeapPlays_39 : MC := (.seq (.ops [⟨(some 7), .assign (.const (.int .i64 (-1))), none⟩]) c_sheaflaw8_HeapPlays_38)
@[go_sem] theorem c_sheaflaw8_HeapPlays_39_at (rd : Option Nat) (K : Post3) (t : Fr) (m : Mem) : wpM E 4 130 rd c_sheaflaw8_HeapPlays_39 K t m = wpM E 4 130 rd (.seq (.ops [⟨(some 7), .assign (.const (.int .i64 (-1))), none⟩]) c_sheaflaw8_HeapPlays_38) K t m := rfl

def c_sheaflaw8_HeapPlays_40 : MC := (.seq (.ops [⟨(some 26), .move (.tmp 0), none⟩,
    ⟨(some 27), .move (.tmp 5), none⟩,
    ⟨(some 28), .indexAddr 32 (.tmp 26) (.tmp 27), none⟩,
    ⟨(some 29), .load 34 (.tmp 28), none⟩,
    ⟨(some 6), .alloc 34, none⟩,
    ⟨none, .store 34 (.tmp 6) (.tmp 29), none⟩]) c_sheaflaw8_HeapPlays_39)
@[go_sem] theorem c_sheaflaw8_HeapPlays_40_at (rd : Option Nat) (K : Post3) (t : Fr) (m : Mem) : wpM E 4 130 rd c_sheaflaw8_HeapPlays_40 K t m = wpM E 4 130 rd (.seq (.ops [⟨(some 26), .move (.tmp 0), none⟩,
    ⟨(some 27), .move (.tmp 5), none⟩,
    ⟨(some 28), .indexAddr 32 (.tmp 26) (.tmp 27), none⟩,
    ⟨(some 29), .load 34 (.tmp 28), none⟩,
    ⟨(some 6), .alloc 34, none⟩,
    ⟨none, .store 34 (.tmp 6) (.tmp 29), none⟩]) c_sheaflaw8_HeapPlays_39) K t m := rfl

def c_sheaflaw8_HeapPlays_41 : MC := (.block 1 c_sheaflaw8_HeapPlays_40)
@[go_sem] theorem c_sheaflaw8_HeapPlays_41_at (rd : Option Nat) (K : Post3) (t : Fr) (m : Mem) : wpM E 4 130 rd c_sheaflaw8_HeapPlays_41 K t m = wpM E 4 130 rd (.block 1 c_sheaflaw8_HeapPlays_40) K t m := rfl

def c_sheaflaw8_HeapPlays_42 : MC := (.seq c_sheaflaw8_HeapPlays_41 (.ops [⟨(some 24), .move (.tmp 5), none⟩,
    ⟨(some 25), .binOp .add 3 (.tmp 24) (.const (.int .i64 1)) 3, none⟩,
    ⟨(some 5), .assign (.tmp 25), none⟩]))
@[go_sem] theorem c_sheaflaw8_HeapPlays_42_at (rd : Option Nat) (K : Post3) (t : Fr) (m : Mem) : wpM E 4 130 rd c_sheaflaw8_HeapPlays_42 K t m = wpM E 4 130 rd (.seq c_sheaflaw8_HeapPlays_41 (.ops [⟨(some 24), .move (.tmp 5), none⟩,
    ⟨(some 25), .binOp .add 3 (.tmp 24) (.const (.int .i64 1)) 3, none⟩,
    ⟨(some 5), .assign (.tmp 25), none⟩])) K t m := rfl

def c_sheaflaw8_HeapPlays_43 : MC := (.seq c_sheaflaw8_HeapPlays_4 c_sheaflaw8_HeapPlays_42)
@[go_sem] theorem c_sheaflaw8_HeapPlays_43_at (rd : Option Nat) (K : Post3) (t : Fr) (m : Mem) : wpM E 4 130 rd c_sheaflaw8_HeapPlays_43 K t m = wpM E 4 130 rd (.seq c_sheaflaw8_HeapPlays_4 c_sheaflaw8_HeapPlays_42) K t m := rfl

def c_sheaflaw8_HeapPlays_44 : MC := (.loop c_sheaflaw8_HeapPlays_43)
theorem c_sheaflaw8_HeapPlays_44_at (rd : Option Nat) (K : Post3) (t : Fr) (m : Mem) : wpM E 4 130 rd c_sheaflaw8_HeapPlays_44 K t m = wpM E 4 130 rd (.loop c_sheaflaw8_HeapPlays_43) K t m := rfl

def c_sheaflaw8_HeapPlays_45 : MC := (.block 0 c_sheaflaw8_HeapPlays_44)
theorem c_sheaflaw8_HeapPlays_45_at (rd : Option Nat) (K : Post3) (t : Fr) (m : Mem) : wpM E 4 130 rd c_sheaflaw8_HeapPlays_45 K t m = wpM E 4 130 rd (.block 0 c_sheaflaw8_HeapPlays_44) K t m := rfl

def c_sheaflaw8_HeapPlays_46 : MC := (.seq (.ops [⟨(some 5), .assign (.const (.int .i64 0)), none⟩]) c_sheaflaw8_HeapPlays_45)
@[go_sem] theorem c_sheaflaw8_HeapPlays_46_at (rd : Option Nat) (K : Post3) (t : Fr) (m : Mem) : wpM E 4 130 rd c_sheaflaw8_HeapPlays_46 K t m = wpM E 4 130 rd (.seq (.ops [⟨(some 5), .assign (.const (.int .i64 0)), none⟩]) c_sheaflaw8_HeapPlays_45) K t m := rfl

def c_sheaflaw8_HeapPlays_47 : MC := (.seq (.ops [⟨(some 129), .call ⟨.value (.func 3), #[], #[]⟩, none⟩,
    ⟨(some 2), .assign (.tmp 129), none⟩]) .ret)
@[go_sem] theorem c_sheaflaw8_HeapPlays_47_at (rd : Option Nat) (K : Post3) (t : Fr) (m : Mem) : wpM E 4 130 rd c_sheaflaw8_HeapPlays_47 K t m = wpM E 4 130 rd (.seq (.ops [⟨(some 129), .call ⟨.value (.func 3), #[], #[]⟩, none⟩,
    ⟨(some 2), .assign (.tmp 129), none⟩]) .ret) K t m := rfl

def c_sheaflaw8_HeapPlays_48 : MC := (.seq c_sheaflaw8_HeapPlays_46 c_sheaflaw8_HeapPlays_47)
@[go_sem] theorem c_sheaflaw8_HeapPlays_48_at (rd : Option Nat) (K : Post3) (t : Fr) (m : Mem) : wpM E 4 130 rd c_sheaflaw8_HeapPlays_48 K t m = wpM E 4 130 rd (.seq c_sheaflaw8_HeapPlays_46 c_sheaflaw8_HeapPlays_47) K t m := rfl

def c_sheaflaw8_HeapPlays_49 : MC := (.seq (.ops [⟨(some 4), .assign (.const (.slice none 0 0)), none⟩]) c_sheaflaw8_HeapPlays_48)
@[go_sem] theorem c_sheaflaw8_HeapPlays_49_at (rd : Option Nat) (K : Post3) (t : Fr) (m : Mem) : wpM E 4 130 rd c_sheaflaw8_HeapPlays_49 K t m = wpM E 4 130 rd (.seq (.ops [⟨(some 4), .assign (.const (.slice none 0 0)), none⟩]) c_sheaflaw8_HeapPlays_48) K t m := rfl

def c_sheaflaw8_HeapPlays_50 : MC := (.seq c_sheaflaw8_HeapPlays_2 c_sheaflaw8_HeapPlays_49)
@[go_sem] theorem c_sheaflaw8_HeapPlays_50_at (rd : Option Nat) (K : Post3) (t : Fr) (m : Mem) : wpM E 4 130 rd c_sheaflaw8_HeapPlays_50 K t m = wpM E 4 130 rd (.seq c_sheaflaw8_HeapPlays_2 c_sheaflaw8_HeapPlays_49) K t m := rfl

def c_sheaflaw8_HeapPlays_51 : MC := (.seq (.ops [⟨(some 13), .call ⟨.value (.func 13), #[(.func 14)], #[24]⟩, none⟩,
    ⟨(some 3), .assign (.tmp 13), none⟩]) c_sheaflaw8_HeapPlays_50)
@[go_sem] theorem c_sheaflaw8_HeapPlays_51_at (rd : Option Nat) (K : Post3) (t : Fr) (m : Mem) : wpM E 4 130 rd c_sheaflaw8_HeapPlays_51 K t m = wpM E 4 130 rd (.seq (.ops [⟨(some 13), .call ⟨.value (.func 13), #[(.func 14)], #[24]⟩, none⟩,
    ⟨(some 3), .assign (.tmp 13), none⟩]) c_sheaflaw8_HeapPlays_50) K t m := rfl

def c_sheaflaw8_HeapPlays_52 : MC := (.seq (.ops [⟨(some 2), .assign (.const (.bool false)), none⟩]) c_sheaflaw8_HeapPlays_51)
@[go_sem] theorem c_sheaflaw8_HeapPlays_52_at (rd : Option Nat) (K : Post3) (t : Fr) (m : Mem) : wpM E 4 130 rd c_sheaflaw8_HeapPlays_52 K t m = wpM E 4 130 rd (.seq (.ops [⟨(some 2), .assign (.const (.bool false)), none⟩]) c_sheaflaw8_HeapPlays_51) K t m := rfl

@[go_sem] theorem some4 : (E.fn 4).isSome = true := by kernel_rfl
set_option maxRecDepth 100000 in
theorem fn_sheaflaw8_HeapPlays : FnIs E 4 130 [.tmp 2] c_sheaflaw8_HeapPlays_52 := ⟨by kernel_rfl, by kernel_rfl⟩

/-! sheaf/sheaflaw8.HeapPairs -/
abbrev F_sheaflaw8_HeapPairs : FuncId := 5
def c_sheaflaw8_HeapPairs_0 : MC := (.seq (.ops [⟨(some 4), .assign (.const (.bool false)), none⟩]) .ret)
@[go_sem] theorem c_sheaflaw8_HeapPairs_0_at (rd : Option Nat) (K : Post3) (t : Fr) (m : Mem) : wpM E 5 122 rd c_sheaflaw8_HeapPairs_0 K t m = wpM E 5 122 rd (.seq (.ops [⟨(some 4), .assign (.const (.bool false)), none⟩]) .ret) K t m := rfl

def c_sheaflaw8_HeapPairs_1 : MC := (.cond (.tmp 19) c_sheaflaw8_HeapPairs_0 .skip)
@[go_sem] theorem c_sheaflaw8_HeapPairs_1_at (rd : Option Nat) (K : Post3) (t : Fr) (m : Mem) : wpM E 5 122 rd c_sheaflaw8_HeapPairs_1 K t m = wpM E 5 122 rd (.cond (.tmp 19) c_sheaflaw8_HeapPairs_0 .skip) K t m := rfl

def c_sheaflaw8_HeapPairs_2 : MC := (.seq (.ops [⟨(some 18), .move (.tmp 5), none⟩,
    ⟨(some 19), .binOp .eql 36 (.tmp 18) (.const (.pointer none)) 36, none⟩]) c_sheaflaw8_HeapPairs_1)
@[go_sem] theorem c_sheaflaw8_HeapPairs_2_at (rd : Option Nat) (K : Post3) (t : Fr) (m : Mem) : wpM E 5 122 rd c_sheaflaw8_HeapPairs_2 K t m = wpM E 5 122 rd (.seq (.ops [⟨(some 18), .move (.tmp 5), none⟩,
    ⟨(some 19), .binOp .eql 36 (.tmp 18) (.const (.pointer none)) 36, none⟩]) c_sheaflaw8_HeapPairs_1) K t m := rfl

def c_sheaflaw8_HeapPairs_3 : MC := (.cond (.tmp 28) .skip (.exit 0))
@[go_sem] theorem c_sheaflaw8_HeapPairs_3_at (rd : Option Nat) (K : Post3) (t : Fr) (m : Mem) : wpM E 5 122 rd c_sheaflaw8_HeapPairs_3 K t m = wpM E 5 122 rd (.cond (.tmp 28) .skip (.exit 0)) K t m := rfl

def c_sheaflaw8_HeapPairs_4 : MC := (.seq (.ops [⟨(some 29), .move (.tmp 27), none⟩,
    ⟨(some 30), .indexAddr 25 (.tmp 25) (.tmp 27), none⟩,
    ⟨(some 31), .load 3 (.tmp 30), none⟩,
    ⟨(some 7), .assign (.tmp 29), none⟩,
    ⟨(some 8), .assign (.tmp 31), none⟩]) (.ops [⟨(some 32), .move (.tmp 5), none⟩,
    ⟨(some 33), .move (.tmp 8), none⟩,
    ⟨(some 34), .move (.tmp 7), none⟩,
    ⟨(some 35), .build 39 #[(0, (.tmp 33)), (1, (.tmp 34))], none⟩,
    ⟨(some 36), .call ⟨.value (.func 22), #[(.tmp 32), (.tmp 35)], #[36, 39]⟩, none⟩]))
@[go_sem] theorem c_sheaflaw8_HeapPairs_4_at (rd : Option Nat) (K : Post3) (t : Fr) (m : Mem) : wpM E 5 122 rd c_sheaflaw8_HeapPairs_4 K t m = wpM E 5 122 rd (.seq (.ops [⟨(some 29), .move (.tmp 27), none⟩,
    ⟨(some 30), .indexAddr 25 (.tmp 25) (.tmp 27), none⟩,
    ⟨(some 31), .load 3 (.tmp 30), none⟩,
    ⟨(some 7), .assign (.tmp 29), none⟩,
    ⟨(some 8), .assign (.tmp 31), none⟩]) (.ops [⟨(some 32), .move (.tmp 5), none⟩,
    ⟨(some 33), .move (.tmp 8), none⟩,
    ⟨(some 34), .move (.tmp 7), none⟩,
    ⟨(some 35), .build 39 #[(0, (.tmp 33)), (1, (.tmp 34))], none⟩,
    ⟨(some 36), .call ⟨.value (.func 22), #[(.tmp 32), (.tmp 35)], #[36, 39]⟩, none⟩])) K t m := rfl

def c_sheaflaw8_HeapPairs_5 : MC := (.block 1 c_sheaflaw8_HeapPairs_4)
@[go_sem] theorem c_sheaflaw8_HeapPairs_5_at (rd : Option Nat) (K : Post3) (t : Fr) (m : Mem) : wpM E 5 122 rd c_sheaflaw8_HeapPairs_5 K t m = wpM E 5 122 rd (.block 1 c_sheaflaw8_HeapPairs_4) K t m := rfl

def c_sheaflaw8_HeapPairs_6 : MC := (.seq c_sheaflaw8_HeapPairs_5 (.ops [⟨(some 37), .binOp .add 3 (.tmp 27) (.const (.int .i64 1)) 3, none⟩,
    ⟨(some 27), .move (.tmp 37), none⟩]))
@[go_sem] theorem c_sheaflaw8_HeapPairs_6_at (rd : Option Nat) (K : Post3) (t : Fr) (m : Mem) : wpM E 5 122 rd c_sheaflaw8_HeapPairs_6 K t m = wpM E 5 122 rd (.seq c_sheaflaw8_HeapPairs_5 (.ops [⟨(some 37), .binOp .add 3 (.tmp 27) (.const (.int .i64 1)) 3, none⟩,
    ⟨(some 27), .move (.tmp 37), none⟩])) K t m := rfl

def c_sheaflaw8_HeapPairs_7 : MC := (.seq c_sheaflaw8_HeapPairs_3 c_sheaflaw8_HeapPairs_6)
@[go_sem] theorem c_sheaflaw8_HeapPairs_7_at (rd : Option Nat) (K : Post3) (t : Fr) (m : Mem) : wpM E 5 122 rd c_sheaflaw8_HeapPairs_7 K t m = wpM E 5 122 rd (.seq c_sheaflaw8_HeapPairs_3 c_sheaflaw8_HeapPairs_6) K t m := rfl

def c_sheaflaw8_HeapPairs_8 : MC := (.seq (.ops [⟨(some 28), .binOp .lss 3 (.tmp 27) (.tmp 26) 3, none⟩]) c_sheaflaw8_HeapPairs_7)
@[go_sem] theorem c_sheaflaw8_HeapPairs_8_at (rd : Option Nat) (K : Post3) (t : Fr) (m : Mem) : wpM E 5 122 rd c_sheaflaw8_HeapPairs_8 K t m = wpM E 5 122 rd (.seq (.ops [⟨(some 28), .binOp .lss 3 (.tmp 27) (.tmp 26) 3, none⟩]) c_sheaflaw8_HeapPairs_7) K t m := rfl

def c_sheaflaw8_HeapPairs_9 : MC := (.loop c_sheaflaw8_HeapPairs_8)
theorem c_sheaflaw8_HeapPairs_9_at (rd : Option Nat) (K : Post3) (t : Fr) (m : Mem) : wpM E 5 122 rd c_sheaflaw8_HeapPairs_9 K t m = wpM E 5 122 rd (.loop c_sheaflaw8_HeapPairs_8) K t m := rfl

def c_sheaflaw8_HeapPairs_10 : MC := (.block 0 c_sheaflaw8_HeapPairs_9)
theorem c_sheaflaw8_HeapPairs_10_at (rd : Option Nat) (K : Post3) (t : Fr) (m : Mem) : wpM E 5 122 rd c_sheaflaw8_HeapPairs_10 K t m = wpM E 5 122 rd (.block 0 c_sheaflaw8_HeapPairs_9) K t m := rfl

def c_sheaflaw8_HeapPairs_11 : MC := (.seq (.ops [⟨(some 25), .move (.tmp 6), none⟩,
    ⟨(some 26), .call ⟨.builtin .len, #[(.tmp 25)], #[25]⟩, none⟩,
    ⟨(some 27), .move (.const (.int .i64 0)), none⟩]) c_sheaflaw8_HeapPairs_10)
@[go_sem] theorem c_sheaflaw8_HeapPairs_11_at (rd : Option Nat) (K : Post3) (t : Fr) (m : Mem) : wpM E 5 122 rd c_sheaflaw8_HeapPairs_11 K t m = wpM E 5 122 rd (.seq (.ops [⟨(some 25), .move (.tmp 6), none⟩,
    ⟨(some 26), .call ⟨.builtin .len, #[(.tmp 25)], #[25]⟩, none⟩,
    ⟨(some 27), .move (.const (.int .i64 0)), none⟩]) c_sheaflaw8_HeapPairs_10) K t m := rfl

def c_sheaflaw8_HeapPairs_12 : MC := (.cond (.tmp 45) .skip (.exit 2))
@[go_sem] theorem c_sheaflaw8_HeapPairs_12_at (rd : Option Nat) (K : Post3) (t : Fr) (m : Mem) : wpM E 5 122 rd c_sheaflaw8_HeapPairs_12 K t m = wpM E 5 122 rd (.cond (.tmp 45) .skip (.exit 2)) K t m := rfl

def c_sheaflaw8_HeapPairs_13 : MC := (.seq (.ops [⟨(some 4), .assign (.const (.bool false)), none⟩]) .ret)
@[go_sem] theorem c_sheaflaw8_HeapPairs_13_at (rd : Option Nat) (K : Post3) (t : Fr) (m : Mem) : wpM E 5 122 rd c_sheaflaw8_HeapPairs_13 K t m = wpM E 5 122 rd (.seq (.ops [⟨(some 4), .assign (.const (.bool false)), none⟩]) .ret) K t m := rfl

def c_sheaflaw8_HeapPairs_14 : MC := (.cond (.tmp 82) c_sheaflaw8_HeapPairs_13 .skip)
@[go_sem] theorem c_sheaflaw8_HeapPairs_14_at (rd : Option Nat) (K : Post3) (t : Fr) (m : Mem) : wpM E 5 122 rd c_sheaflaw8_HeapPairs_14 K t m = wpM E 5 122 rd (.cond (.tmp 82) c_sheaflaw8_HeapPairs_13 .skip) K t m := rfl

def c_sheaflaw8_HeapPairs_15 : MC := (.seq (.ops [⟨(some 52), .move (.tmp 13), none⟩,
    ⟨(some 53), .unOp .not 4 (.tmp 52), none⟩,
    ⟨(some 54), .move (.tmp 53), none⟩,
    ⟨(some 55), .fieldAddr 39 (.tmp 12) 1, (some (some 54, false))⟩,
    ⟨(some 56), .load 3 (.tmp 55), (some (some 54, false))⟩,
    ⟨(some 57), .binOp .lss 3 (.tmp 56) (.const (.int .i64 0)) 3, (some (some 54, false))⟩,
    ⟨(some 58), .pick (.tmp 54) (.const (.bool true)) (.tmp 57), none⟩,
    ⟨(some 59), .move (.tmp 58), none⟩,
    ⟨(some 60), .fieldAddr 39 (.tmp 12) 1, (some (some 59, false))⟩,
    ⟨(some 61), .load 3 (.tmp 60), (some (some 59, false))⟩,
    ⟨(some 62), .move (.tmp 6), (some (some 59, false))⟩,
    ⟨(some 63), .call ⟨.builtin .len, #[(.tmp 62)], #[25]⟩, (some (some 59, false))⟩,
    ⟨(some 64), .binOp .geq 3 (.tmp 61) (.tmp 63) 3, (some (some 59, false))⟩,
    ⟨(some 65), .pick (.tmp 59) (.const (.bool true)) (.tmp 64), none⟩,
    ⟨(some 66), .move (.tmp 65), none⟩,
    ⟨(some 67), .move (.tmp 9), (some (some 66, false))⟩,
    ⟨(some 68), .fieldAddr 39 (.tmp 12) 1, (some (some 66, false))⟩,
    ⟨(some 69), .load 3 (.tmp 68), (some (some 66, false))⟩,
    ⟨(some 70), .indexAddr 42 (.tmp 67) (.tmp 69), (some (some 66, false))⟩,
    ⟨(some 71), .load 4 (.tmp 70), (some (some 66, false))⟩,
    ⟨(some 72), .pick (.tmp 66) (.const (.bool true)) (.tmp 71), none⟩,
    ⟨(some 73), .move (.tmp 72), none⟩,
    ⟨(some 74), .move (.tmp 6), (some (some 73, false))⟩,
    ⟨(some 75), .fieldAddr 39 (.tmp 12) 1, (some (some 73, false))⟩,
    ⟨(some 76), .load 3 (.tmp 75), (some (some 73, false))⟩,
    ⟨(some 77), .indexAddr 25 (.tmp 74) (.tmp 76), (some (some 73, false))⟩,
    ⟨(some 78), .load 3 (.tmp 77), (some (some 73, false))⟩,
    ⟨(some 79), .fieldAddr 39 (.tmp 12) 0, (some (some 73, false))⟩,
    ⟨(some 80), .load 3 (.tmp 79), (some (some 73, false))⟩,
    ⟨(some 81), .binOp .neq 3 (.tmp 78) (.tmp 80) 3, (some (some 73, false))⟩,
    ⟨(some 82), .pick (.tmp 73) (.const (.bool true)) (.tmp 81), none⟩]) c_sheaflaw8_HeapPairs_14)
@[go_sem] theorem c_sheaflaw8_HeapPairs_15_at (rd : Option Nat) (K : Post3) (t : Fr) (m : Mem) : wpM E 5 122 rd c_sheaflaw8_HeapPairs_15 K t m = wpM E 5 122 rd (.seq (.ops [⟨(some 52), .move (.tmp 13), none⟩,
    ⟨(some 53), .unOp .not 4 (.tmp 52), none⟩,
    ⟨(some 54), .move (.tmp 53), none⟩,
    ⟨(some 55), .fieldAddr 39 (.tmp 12) 1, (some (some 54, false))⟩,
    ⟨(some 56), .load 3 (.tmp 55), (some (some 54, false))⟩,
    ⟨(some 57), .binOp .lss 3 (.tmp 56) (.const (.int .i64 0)) 3, (some (some 54, false))⟩,
    ⟨(some 58), .pick (.tmp 54) (.const (.bool true)) (.tmp 57), none⟩,
    ⟨(some 59), .move (.tmp 58), none⟩,
    ⟨(some 60), .fieldAddr 39 (.tmp 12) 1, (some (some 59, false))⟩,
    ⟨(some 61), .load 3 (.tmp 60), (some (some 59, false))⟩,
    ⟨(some 62), .move (.tmp 6), (some (some 59, false))⟩,
    ⟨(some 63), .call ⟨.builtin .len, #[(.tmp 62)], #[25]⟩, (some (some 59, false))⟩,
    ⟨(some 64), .binOp .geq 3 (.tmp 61) (.tmp 63) 3, (some (some 59, false))⟩,
    ⟨(some 65), .pick (.tmp 59) (.const (.bool true)) (.tmp 64), none⟩,
    ⟨(some 66), .move (.tmp 65), none⟩,
    ⟨(some 67), .move (.tmp 9), (some (some 66, false))⟩,
    ⟨(some 68), .fieldAddr 39 (.tmp 12) 1, (some (some 66, false))⟩,
    ⟨(some 69), .load 3 (.tmp 68), (some (some 66, false))⟩,
    ⟨(some 70), .indexAddr 42 (.tmp 67) (.tmp 69), (some (some 66, false))⟩,
    ⟨(some 71), .load 4 (.tmp 70), (some (some 66, false))⟩,
    ⟨(some 72), .pick (.tmp 66) (.const (.bool true)) (.tmp 71), none⟩,
    ⟨(some 73), .move (.tmp 72), none⟩,
    ⟨(some 74), .move (.tmp 6), (some (some 73, false))⟩,
    ⟨(some 75), .fieldAddr 39 (.tmp 12) 1, (some (some 73, false))⟩,
    ⟨(some 76), .load 3 (.tmp 75), (some (some 73, false))⟩,
    ⟨(some 77), .indexAddr 25 (.tmp 74) (.tmp 76), (some (some 73, false))⟩,
    ⟨(some 78), .load 3 (.tmp 77), (some (some 73, false))⟩,
    ⟨(some 79), .fieldAddr 39 (.tmp 12) 0, (some (some 73, false))⟩,
    ⟨(some 80), .load 3 (.tmp 79), (some (some 73, false))⟩,
    ⟨(some 81), .binOp .neq 3 (.tmp 78) (.tmp 80) 3, (some (some 73, false))⟩,
    ⟨(some 82), .pick (.tmp 73) (.const (.bool true)) (.tmp 81), none⟩]) c_sheaflaw8_HeapPairs_14) K t m := rfl

def c_sheaflaw8_HeapPairs_16 : MC := (.seq (.ops [⟨(some 4), .assign (.const (.bool false)), none⟩]) .ret)
@[go_sem] theorem c_sheaflaw8_HeapPairs_16_at (rd : Option Nat) (K : Post3) (t : Fr) (m : Mem) : wpM E 5 122 rd c_sheaflaw8_HeapPairs_16 K t m = wpM E 5 122 rd (.seq (.ops [⟨(some 4), .assign (.const (.bool false)), none⟩]) .ret) K t m := rfl

def c_sheaflaw8_HeapPairs_17 : MC := (.cond (.tmp 105) c_sheaflaw8_HeapPairs_16 .skip)
@[go_sem] theorem c_sheaflaw8_HeapPairs_17_at (rd : Option Nat) (K : Post3) (t : Fr) (m : Mem) : wpM E 5 122 rd c_sheaflaw8_HeapPairs_17 K t m = wpM E 5 122 rd (.cond (.tmp 105) c_sheaflaw8_HeapPairs_16 .skip) K t m := rfl

def c_sheaflaw8_HeapPairs_18 : MC := (.seq (.ops [⟨(some 83), .move (.tmp 11), none⟩,
    ⟨(some 84), .binOp .gtr 3 (.tmp 83) (.const (.int .i64 0)) 3, none⟩,
    ⟨(some 85), .move (.tmp 84), none⟩,
    ⟨(some 86), .load 4 (.tmp 3), (some (some 85, true))⟩,
    ⟨(some 87), .move (.tmp 86), (some (some 85, true))⟩,
    ⟨(some 88), .fieldAddr 39 (.tmp 12) 0, (some (some 87, true))⟩,
    ⟨(some 89), .load 3 (.tmp 88), (some (some 87, true))⟩,
    ⟨(some 90), .fieldAddr 39 (.tmp 10) 0, (some (some 87, true))⟩,
    ⟨(some 91), .load 3 (.tmp 90), (some (some 87, true))⟩,
    ⟨(some 92), .binOp .gtr 3 (.tmp 89) (.tmp 91) 3, (some (some 87, true))⟩,
    ⟨(some 93), .pick (.tmp 87) (.tmp 92) (.const (.bool false)), (some (some 85, true))⟩,
    ⟨(some 94), .move (.tmp 93), (some (some 85, true))⟩,
    ⟨(some 95), .load 4 (.tmp 3), (some (some 94, false))⟩,
    ⟨(some 96), .unOp .not 4 (.tmp 95), (some (some 94, false))⟩,
    ⟨(some 97), .move (.tmp 96), (some (some 94, false))⟩,
    ⟨(some 98), .fieldAddr 39 (.tmp 12) 0, (some (some 97, true))⟩,
    ⟨(some 99), .load 3 (.tmp 98), (some (some 97, true))⟩,
    ⟨(some 100), .fieldAddr 39 (.tmp 10) 0, (some (some 97, true))⟩,
    ⟨(some 101), .load 3 (.tmp 100), (some (some 97, true))⟩,
    ⟨(some 102), .binOp .lss 3 (.tmp 99) (.tmp 101) 3, (some (some 97, true))⟩,
    ⟨(some 103), .pick (.tmp 97) (.tmp 102) (.const (.bool false)), (some (some 94, false))⟩,
    ⟨(some 104), .pick (.tmp 94) (.const (.bool true)) (.tmp 103), (some (some 85, true))⟩,
    ⟨(some 105), .pick (.tmp 85) (.tmp 104) (.const (.bool false)), none⟩]) c_sheaflaw8_HeapPairs_17)
@[go_sem] theorem c_sheaflaw8_HeapPairs_18_at (rd : Option Nat) (K : Post3) (t : Fr) (m : Mem) : wpM E 5 122 rd c_sheaflaw8_HeapPairs_18 K t m = wpM E 5 122 rd (.seq (.ops [⟨(some 83), .move (.tmp 11), none⟩,
    ⟨(some 84), .binOp .gtr 3 (.tmp 83) (.const (.int .i64 0)) 3, none⟩,
    ⟨(some 85), .move (.tmp 84), none⟩,
    ⟨(some 86), .load 4 (.tmp 3), (some (some 85, true))⟩,
    ⟨(some 87), .move (.tmp 86), (some (some 85, true))⟩,
    ⟨(some 88), .fieldAddr 39 (.tmp 12) 0, (some (some 87, true))⟩,
    ⟨(some 89), .load 3 (.tmp 88), (some (some 87, true))⟩,
    ⟨(some 90), .fieldAddr 39 (.tmp 10) 0, (some (some 87, true))⟩,
    ⟨(some 91), .load 3 (.tmp 90), (some (some 87, true))⟩,
    ⟨(some 92), .binOp .gtr 3 (.tmp 89) (.tmp 91) 3, (some (some 87, true))⟩,
    ⟨(some 93), .pick (.tmp 87) (.tmp 92) (.const (.bool false)), (some (some 85, true))⟩,
    ⟨(some 94), .move (.tmp 93), (some (some 85, true))⟩,
    ⟨(some 95), .load 4 (.tmp 3), (some (some 94, false))⟩,
    ⟨(some 96), .unOp .not 4 (.tmp 95), (some (some 94, false))⟩,
    ⟨(some 97), .move (.tmp 96), (some (some 94, false))⟩,
    ⟨(some 98), .fieldAddr 39 (.tmp 12) 0, (some (some 97, true))⟩,
    ⟨(some 99), .load 3 (.tmp 98), (some (some 97, true))⟩,
    ⟨(some 100), .fieldAddr 39 (.tmp 10) 0, (some (some 97, true))⟩,
    ⟨(some 101), .load 3 (.tmp 100), (some (some 97, true))⟩,
    ⟨(some 102), .binOp .lss 3 (.tmp 99) (.tmp 101) 3, (some (some 97, true))⟩,
    ⟨(some 103), .pick (.tmp 97) (.tmp 102) (.const (.bool false)), (some (some 94, false))⟩,
    ⟨(some 104), .pick (.tmp 94) (.const (.bool true)) (.tmp 103), (some (some 85, true))⟩,
    ⟨(some 105), .pick (.tmp 85) (.tmp 104) (.const (.bool false)), none⟩]) c_sheaflaw8_HeapPairs_17) K t m := rfl

def c_sheaflaw8_HeapPairs_19 : MC := (.seq c_sheaflaw8_HeapPairs_18 (.draw [(0, [], ⟨(some 106), .move (.tmp 9), none⟩),
    (1, [], ⟨(some 107), .fieldAddr 39 (.tmp 12) 1, none⟩),
    (2, [], ⟨(some 108), .load 3 (.tmp 107), none⟩),
    (3, [], ⟨(some 109), .load 39 (.tmp 12), none⟩),
    (4, [], ⟨(some 110), .indexAddr 42 (.tmp 106) (.tmp 108), none⟩),
    (5, [3], ⟨none, .store 4 (.tmp 110) (.const (.bool true)), none⟩),
    (6, [], ⟨none, .store 39 (.tmp 10) (.tmp 109), none⟩)]))
@[go_sem] theorem c_sheaflaw8_HeapPairs_19_at (rd : Option Nat) (K : Post3) (t : Fr) (m : Mem) : wpM E 5 122 rd c_sheaflaw8_HeapPairs_19 K t m = wpM E 5 122 rd (.seq c_sheaflaw8_HeapPairs_18 (.draw [(0, [], ⟨(some 106), .move (.tmp 9), none⟩),
    (1, [], ⟨(some 107), .fieldAddr 39 (.tmp 12) 1, none⟩),
    (2, [], ⟨(some 108), .load 3 (.tmp 107), none⟩),
    (3, [], ⟨(some 109), .load 39 (.tmp 12), none⟩),
    (4, [], ⟨(some 110), .indexAddr 42 (.tmp 106) (.tmp 108), none⟩),
    (5, [3], ⟨none, .store 4 (.tmp 110) (.const (.bool true)), none⟩),
    (6, [], ⟨none, .store 39 (.tmp 10) (.tmp 109), none⟩)])) K t m := rfl

def c_sheaflaw8_HeapPairs_20 : MC := (.seq c_sheaflaw8_HeapPairs_15 c_sheaflaw8_HeapPairs_19)
@[go_sem] theorem c_sheaflaw8_HeapPairs_20_at (rd : Option Nat) (K : Post3) (t : Fr) (m : Mem) : wpM E 5 122 rd c_sheaflaw8_HeapPairs_20 K t m = wpM E 5 122 rd (.seq c_sheaflaw8_HeapPairs_15 c_sheaflaw8_HeapPairs_19) K t m := rfl

def c_sheaflaw8_HeapPairs_21 : MC := (.seq (.ops [⟨(some 48), .move (.tmp 5), none⟩,
    ⟨(some 49), .call ⟨.value (.func 23), #[(.tmp 48)], #[36]⟩, none⟩,
    ⟨(some 47), .move (.tmp 49), none⟩,
    ⟨(some 50), .extract (.tmp 47) 0, none⟩,
    ⟨(some 51), .extract (.tmp 47) 1, none⟩,
    ⟨(some 12), .alloc 39, none⟩,
    ⟨none, .store 39 (.tmp 12) (.tmp 50), none⟩,
    ⟨(some 13), .assign (.tmp 51), none⟩]) c_sheaflaw8_HeapPairs_20)
@[go_sem] theorem c_sheaflaw8_HeapPairs_21_at (rd : Option Nat) (K : Post3) (t : Fr) (m : Mem) : wpM E 5 122 rd c_sheaflaw8_HeapPairs_21 K t m = wpM E 5 122 rd (.seq (.ops [⟨(some 48), .move (.tmp 5), none⟩,
    ⟨(some 49), .call ⟨.value (.func 23), #[(.tmp 48)], #[36]⟩, none⟩,
    ⟨(some 47), .move (.tmp 49), none⟩,
    ⟨(some 50), .extract (.tmp 47) 0, none⟩,
    ⟨(some 51), .extract (.tmp 47) 1, none⟩,
    ⟨(some 12), .alloc 39, none⟩,
    ⟨none, .store 39 (.tmp 12) (.tmp 50), none⟩,
    ⟨(some 13), .assign (.tmp 51), none⟩]) c_sheaflaw8_HeapPairs_20) K t m := rfl

def c_sheaflaw8_HeapPairs_22 : MC := (.seq (.ops [⟨(some 46), .move (.tmp 44), none⟩,
    ⟨(some 11), .assign (.tmp 46), none⟩]) c_sheaflaw8_HeapPairs_21)
@[go_sem] theorem c_sheaflaw8_HeapPairs_22_at (rd : Option Nat) (K : Post3) (t : Fr) (m : Mem) : wpM E 5 122 rd c_sheaflaw8_HeapPairs_22 K t m = wpM E 5 122 rd (.seq (.ops [⟨(some 46), .move (.tmp 44), none⟩,
    ⟨(some 11), .assign (.tmp 46), none⟩]) c_sheaflaw8_HeapPairs_21) K t m := rfl

def c_sheaflaw8_HeapPairs_23 : MC := (.block 3 c_sheaflaw8_HeapPairs_22)
@[go_sem] theorem c_sheaflaw8_HeapPairs_23_at (rd : Option Nat) (K : Post3) (t : Fr) (m : Mem) : wpM E 5 122 rd c_sheaflaw8_HeapPairs_23 K t m = wpM E 5 122 rd (.block 3 c_sheaflaw8_HeapPairs_22) K t m := rfl

def c_sheaflaw8_HeapPairs_24 : MC := (.seq c_sheaflaw8_HeapPairs_23 (.ops [⟨(some 111), .binOp .add 3 (.tmp 44) (.const (.int .i64 1)) 3, none⟩,
    ⟨(some 44), .move (.tmp 111), none⟩]))
@[go_sem] theorem c_sheaflaw8_HeapPairs_24_at (rd : Option Nat) (K : Post3) (t : Fr) (m : Mem) : wpM E 5 122 rd c_sheaflaw8_HeapPairs_24 K t m = wpM E 5 122 rd (.seq c_sheaflaw8_HeapPairs_23 (.ops [⟨(some 111), .binOp .add 3 (.tmp 44) (.const (.int .i64 1)) 3, none⟩,
    ⟨(some 44), .move (.tmp 111), none⟩])) K t m := rfl

def c_sheaflaw8_HeapPairs_25 : MC := (.seq c_sheaflaw8_HeapPairs_12 c_sheaflaw8_HeapPairs_24)
@[go_sem] theorem c_sheaflaw8_HeapPairs_25_at (rd : Option Nat) (K : Post3) (t : Fr) (m : Mem) : wpM E 5 122 rd c_sheaflaw8_HeapPairs_25 K t m = wpM E 5 122 rd (.seq c_sheaflaw8_HeapPairs_12 c_sheaflaw8_HeapPairs_24) K t m := rfl

def c_sheaflaw8_HeapPairs_26 : MC := (.seq (.ops [⟨(some 45), .binOp .lss 3 (.tmp 44) (.tmp 43) 3, none⟩]) c_sheaflaw8_HeapPairs_25)
@[go_sem] theorem c_sheaflaw8_HeapPairs_26_at (rd : Option Nat) (K : Post3) (t : Fr) (m : Mem) : wpM E 5 122 rd c_sheaflaw8_HeapPairs_26 K t m = wpM E 5 122 rd (.seq (.ops [⟨(some 45), .binOp .lss 3 (.tmp 44) (.tmp 43) 3, none⟩]) c_sheaflaw8_HeapPairs_25) K t m := rfl

def c_sheaflaw8_HeapPairs_27 : MC := (.loop c_sheaflaw8_HeapPairs_26)
theorem c_sheaflaw8_HeapPairs_27_at (rd : Option Nat) (K : Post3) (t : Fr) (m : Mem) : wpM E 5 122 rd c_sheaflaw8_HeapPairs_27 K t m = wpM E 5 122 rd (.loop c_sheaflaw8_HeapPairs_26) K t m := rfl

def c_sheaflaw8_HeapPairs_28 : MC := (.block 2 c_sheaflaw8_HeapPairs_27)
theorem c_sheaflaw8_HeapPairs_28_at (rd : Option Nat) (K : Post3) (t : Fr) (m : Mem) : wpM E 5 122 rd c_sheaflaw8_HeapPairs_28 K t m = wpM E 5 122 rd (.block 2 c_sheaflaw8_HeapPairs_27) K t m := rfl

def c_sheaflaw8_HeapPairs_29 : MC := (.seq (.ops [⟨(some 42), .move (.tmp 6), none⟩,
    ⟨(some 43), .call ⟨.builtin .len, #[(.tmp 42)], #[25]⟩, none⟩,
    ⟨(some 44), .move (.const (.int .i64 0)), none⟩]) c_sheaflaw8_HeapPairs_28)
@[go_sem] theorem c_sheaflaw8_HeapPairs_29_at (rd : Option Nat) (K : Post3) (t : Fr) (m : Mem) : wpM E 5 122 rd c_sheaflaw8_HeapPairs_29 K t m = wpM E 5 122 rd (.seq (.ops [⟨(some 42), .move (.tmp 6), none⟩,
    ⟨(some 43), .call ⟨.builtin .len, #[(.tmp 42)], #[25]⟩, none⟩,
    ⟨(some 44), .move (.const (.int .i64 0)), none⟩]) c_sheaflaw8_HeapPairs_28) K t m := rfl

def c_sheaflaw8_HeapPairs_30 : MC := (.seq (.ops [⟨(some 117), .move (.tmp 15), none⟩,
    ⟨(some 118), .unOp .not 4 (.tmp 117), none⟩,
    ⟨(some 119), .move (.tmp 118), none⟩,
    ⟨(some 120), .call ⟨.value (.func 3), #[], #[]⟩, (some (some 119, true))⟩,
    ⟨(some 121), .pick (.tmp 119) (.tmp 120) (.const (.bool false)), none⟩,
    ⟨(some 4), .assign (.tmp 121), none⟩]) .ret)
@[go_sem] theorem c_sheaflaw8_HeapPairs_30_at (rd : Option Nat) (K : Post3) (t : Fr) (m : Mem) : wpM E 5 122 rd c_sheaflaw8_HeapPairs_30 K t m = wpM E 5 122 rd (.seq (.ops [⟨(some 117), .move (.tmp 15), none⟩,
    ⟨(some 118), .unOp .not 4 (.tmp 117), none⟩,
    ⟨(some 119), .move (.tmp 118), none⟩,
    ⟨(some 120), .call ⟨.value (.func 3), #[], #[]⟩, (some (some 119, true))⟩,
    ⟨(some 121), .pick (.tmp 119) (.tmp 120) (.const (.bool false)), none⟩,
    ⟨(some 4), .assign (.tmp 121), none⟩]) .ret) K t m := rfl

def c_sheaflaw8_HeapPairs_31 : MC := (.seq (.ops [⟨(some 113), .move (.tmp 5), none⟩,
    ⟨(some 114), .call ⟨.value (.func 23), #[(.tmp 113)], #[36]⟩, none⟩,
    ⟨(some 112), .move (.tmp 114), none⟩,
    ⟨(some 115), .extract (.tmp 112) 0, none⟩,
    ⟨(some 116), .extract (.tmp 112) 1, none⟩,
    ⟨(some 14), .alloc 39, none⟩,
    ⟨none, .store 39 (.tmp 14) (.tmp 115), none⟩,
    ⟨(some 15), .assign (.tmp 116), none⟩]) c_sheaflaw8_HeapPairs_30)
@[go_sem] theorem c_sheaflaw8_HeapPairs_31_at (rd : Option Nat) (K : Post3) (t : Fr) (m : Mem) : wpM E 5 122 rd c_sheaflaw8_HeapPairs_31 K t m = wpM E 5 122 rd (.seq (.ops [⟨(some 113), .move (.tmp 5), none⟩,
    ⟨(some 114), .call ⟨.value (.func 23), #[(.tmp 113)], #[36]⟩, none⟩,
    ⟨(some 112), .move (.tmp 114), none⟩,
    ⟨(some 115), .extract (.tmp 112) 0, none⟩,
    ⟨(some 116), .extract (.tmp 112) 1, none⟩,
    ⟨(some 14), .alloc 39, none⟩,
    ⟨none, .store 39 (.tmp 14) (.tmp 115), none⟩,
    ⟨(some 15), .assign (.tmp 116), none⟩]) c_sheaflaw8_HeapPairs_30) K t m := rfl

def c_sheaflaw8_HeapPairs_32 : MC := (.seq c_sheaflaw8_HeapPairs_29 c_sheaflaw8_HeapPairs_31)
@[go_sem] theorem c_sheaflaw8_HeapPairs_32_at (rd : Option Nat) (K : Post3) (t : Fr) (m : Mem) : wpM E 5 122 rd c_sheaflaw8_HeapPairs_32 K t m = wpM E 5 122 rd (.seq c_sheaflaw8_HeapPairs_29 c_sheaflaw8_HeapPairs_31) K t m := rfl

def c_sheaflaw8_HeapPairs_33 : MC := (.seq (.ops [⟨(some 41), .build 39 #[], none⟩,
    ⟨(some 10), .alloc 39, none⟩,
    ⟨none, .store 39 (.tmp 10) (.tmp 41), none⟩]) c_sheaflaw8_HeapPairs_32)
@[go_sem] theorem c_sheaflaw8_HeapPairs_33_at (rd : Option Nat) (K : Post3) (t : Fr) (m : Mem) : wpM E 5 122 rd c_sheaflaw8_HeapPairs_33 K t m = wpM E 5 122 rd (.seq (.ops [⟨(some 41), .build 39 #[], none⟩,
    ⟨(some 10), .alloc 39, none⟩,
    ⟨none, .store 39 (.tmp 10) (.tmp 41), none⟩]) c_sheaflaw8_HeapPairs_32) K t m := rfl

def c_sheaflaw8_HeapPairs_34 : MC := (.seq (.ops [⟨(some 38), .move (.tmp 6), none⟩,
    ⟨(some 39), .call ⟨.builtin .len, #[(.tmp 38)], #[25]⟩, none⟩,
    ⟨(some 40), .makeSlice 42 (.tmp 39) (.tmp 39), none⟩,
    ⟨(some 9), .assign (.tmp 40), none⟩]) c_sheaflaw8_HeapPairs_33)
@[go_sem] theorem c_sheaflaw8_HeapPairs_34_at (rd : Option Nat) (K : Post3) (t : Fr) (m : Mem) : wpM E 5 122 rd c_sheaflaw8_HeapPairs_34 K t m = wpM E 5 122 rd (.seq (.ops [⟨(some 38), .move (.tmp 6), none⟩,
    ⟨(some 39), .call ⟨.builtin .len, #[(.tmp 38)], #[25]⟩, none⟩,
    ⟨(some 40), .makeSlice 42 (.tmp 39) (.tmp 39), none⟩,
    ⟨(some 9), .assign (.tmp 40), none⟩]) c_sheaflaw8_HeapPairs_33) K t m := rfl

def c_sheaflaw8_HeapPairs_35 : MC := (.seq c_sheaflaw8_HeapPairs_11 c_sheaflaw8_HeapPairs_34)
@[go_sem] theorem c_sheaflaw8_HeapPairs_35_at (rd : Option Nat) (K : Post3) (t : Fr) (m : Mem) : wpM E 5 122 rd c_sheaflaw8_HeapPairs_35 K t m = wpM E 5 122 rd (.seq c_sheaflaw8_HeapPairs_11 c_sheaflaw8_HeapPairs_34) K t m := rfl

def c_sheaflaw8_HeapPairs_36 : MC := (.seq (.ops [⟨(some 20), .move (.tmp 0), none⟩,
    ⟨(some 21), .move (.tmp 0), none⟩,
    ⟨(some 22), .call ⟨.builtin .len, #[(.tmp 21)], #[25]⟩, none⟩,
    ⟨(some 23), .call ⟨.builtin .min, #[(.tmp 22), (.const (.int .i64 40))], #[3, 3]⟩, none⟩,
    ⟨(some 24), .slice 25 (.tmp 20) none (some (.tmp 23)) none, none⟩,
    ⟨(some 6), .assign (.tmp 24), none⟩]) c_sheaflaw8_HeapPairs_35)
@[go_sem] theorem c_sheaflaw8_HeapPairs_36_at (rd : Option Nat) (K : Post3) (t : Fr) (m : Mem) : wpM E 5 122 rd c_sheaflaw8_HeapPairs_36 K t m = wpM E 5 122 rd (.seq (.ops [⟨(some 20), .move (.tmp 0), none⟩,
    ⟨(some 21), .move (.tmp 0), none⟩,
    ⟨(some 22), .call ⟨.builtin .len, #[(.tmp 21)], #[25]⟩, none⟩,
    ⟨(some 23), .call ⟨.builtin .min, #[(.tmp 22), (.const (.int .i64 40))], #[3, 3]⟩, none⟩,
    ⟨(some 24), .slice 25 (.tmp 20) none (some (.tmp 23)) none, none⟩,
    ⟨(some 6), .assign (.tmp 24), none⟩]) c_sheaflaw8_HeapPairs_35) K t m := rfl

def c_sheaflaw8_HeapPairs_37 : MC := (.seq c_sheaflaw8_HeapPairs_2 c_sheaflaw8_HeapPairs_36)
@[go_sem] theorem c_sheaflaw8_HeapPairs_37_at (rd : Option Nat) (K : Post3) (t : Fr) (m : Mem) : wpM E 5 122 rd c_sheaflaw8_HeapPairs_37 K t m = wpM E 5 122 rd (.seq c_sheaflaw8_HeapPairs_2 c_sheaflaw8_HeapPairs_36) K t m := rfl

def c_sheaflaw8_HeapPairs_38 : MC := (.seq (.ops [⟨(some 16), .makeFunc (.func 21) #[] #[(.tmp 3)], none⟩,
    ⟨(some 17), .call ⟨.value (.func 20), #[(.tmp 16)], #[40]⟩, none⟩,
    ⟨(some 5), .assign (.tmp 17), none⟩]) c_sheaflaw8_HeapPairs_37)
@[go_sem] theorem c_sheaflaw8_HeapPairs_38_at (rd : Option Nat) (K : Post3) (t : Fr) (m : Mem) : wpM E 5 122 rd c_sheaflaw8_HeapPairs_38 K t m = wpM E 5 122 rd (.seq (.ops [⟨(some 16), .makeFunc (.func 21) #[] #[(.tmp 3)], none⟩,
    ⟨(some 17), .call ⟨.value (.func 20), #[(.tmp 16)], #[40]⟩, none⟩,
    ⟨(some 5), .assign (.tmp 17), none⟩]) c_sheaflaw8_HeapPairs_37) K t m := rfl

def c_sheaflaw8_HeapPairs_39 : MC := (.seq (.ops [⟨(some 3), .box 4 (.tmp 1), none⟩,
    ⟨(some 4), .assign (.const (.bool false)), none⟩]) c_sheaflaw8_HeapPairs_38)
@[go_sem] theorem c_sheaflaw8_HeapPairs_39_at (rd : Option Nat) (K : Post3) (t : Fr) (m : Mem) : wpM E 5 122 rd c_sheaflaw8_HeapPairs_39 K t m = wpM E 5 122 rd (.seq (.ops [⟨(some 3), .box 4 (.tmp 1), none⟩,
    ⟨(some 4), .assign (.const (.bool false)), none⟩]) c_sheaflaw8_HeapPairs_38) K t m := rfl

@[go_sem] theorem some5 : (E.fn 5).isSome = true := by kernel_rfl
set_option maxRecDepth 100000 in
theorem fn_sheaflaw8_HeapPairs : FnIs E 5 122 [.tmp 4] c_sheaflaw8_HeapPairs_39 := ⟨by kernel_rfl, by kernel_rfl⟩

/-! sheaf/sheaflaw8.HeapTexts -/
abbrev F_sheaflaw8_HeapTexts : FuncId := 6
def c_sheaflaw8_HeapTexts_0 : MC := (.seq (.ops [⟨(some 4), .assign (.const (.bool false)), none⟩]) .ret)
@[go_sem] theorem c_sheaflaw8_HeapTexts_0_at (rd : Option Nat) (K : Post3) (t : Fr) (m : Mem) : wpM E 6 98 rd c_sheaflaw8_HeapTexts_0 K t m = wpM E 6 98 rd (.seq (.ops [⟨(some 4), .assign (.const (.bool false)), none⟩]) .ret) K t m := rfl

def c_sheaflaw8_HeapTexts_1 : MC := (.cond (.tmp 16) c_sheaflaw8_HeapTexts_0 .skip)
@[go_sem] theorem c_sheaflaw8_HeapTexts_1_at (rd : Option Nat) (K : Post3) (t : Fr) (m : Mem) : wpM E 6 98 rd c_sheaflaw8_HeapTexts_1 K t m = wpM E 6 98 rd (.cond (.tmp 16) c_sheaflaw8_HeapTexts_0 .skip) K t m := rfl

def c_sheaflaw8_HeapTexts_2 : MC := (.seq (.ops [⟨(some 15), .move (.tmp 5), none⟩,
    ⟨(some 16), .binOp .eql 47 (.tmp 15) (.const (.pointer none)) 47, none⟩]) c_sheaflaw8_HeapTexts_1)
@[go_sem] theorem c_sheaflaw8_HeapTexts_2_at (rd : Option Nat) (K : Post3) (t : Fr) (m : Mem) : wpM E 6 98 rd c_sheaflaw8_HeapTexts_2 K t m = wpM E 6 98 rd (.seq (.ops [⟨(some 15), .move (.tmp 5), none⟩,
    ⟨(some 16), .binOp .eql 47 (.tmp 15) (.const (.pointer none)) 47, none⟩]) c_sheaflaw8_HeapTexts_1) K t m := rfl

def c_sheaflaw8_HeapTexts_3 : MC := (.cond (.tmp 25) .skip (.exit 0))
@[go_sem] theorem c_sheaflaw8_HeapTexts_3_at (rd : Option Nat) (K : Post3) (t : Fr) (m : Mem) : wpM E 6 98 rd c_sheaflaw8_HeapTexts_3 K t m = wpM E 6 98 rd (.cond (.tmp 25) .skip (.exit 0)) K t m := rfl

def c_sheaflaw8_HeapTexts_4 : MC := (.seq (.ops [⟨(some 18), .move (.tmp 8), none⟩,
    ⟨(some 19), .move (.tmp 0), none⟩,
    ⟨(some 20), .call ⟨.builtin .len, #[(.tmp 19)], #[46]⟩, none⟩,
    ⟨(some 21), .binOp .lss 3 (.tmp 18) (.tmp 20) 3, none⟩,
    ⟨(some 22), .move (.tmp 21), none⟩,
    ⟨(some 23), .move (.tmp 8), (some (some 22, true))⟩,
    ⟨(some 24), .binOp .lss 3 (.tmp 23) (.const (.int .i64 40)) 3, (some (some 22, true))⟩,
    ⟨(some 25), .pick (.tmp 22) (.tmp 24) (.const (.bool false)), none⟩]) c_sheaflaw8_HeapTexts_3)
@[go_sem] theorem c_sheaflaw8_HeapTexts_4_at (rd : Option Nat) (K : Post3) (t : Fr) (m : Mem) : wpM E 6 98 rd c_sheaflaw8_HeapTexts_4 K t m = wpM E 6 98 rd (.seq (.ops [⟨(some 18), .move (.tmp 8), none⟩,
    ⟨(some 19), .move (.tmp 0), none⟩,
    ⟨(some 20), .call ⟨.builtin .len, #[(.tmp 19)], #[46]⟩, none⟩,
    ⟨(some 21), .binOp .lss 3 (.tmp 18) (.tmp 20) 3, none⟩,
    ⟨(some 22), .move (.tmp 21), none⟩,
    ⟨(some 23), .move (.tmp 8), (some (some 22, true))⟩,
    ⟨(some 24), .binOp .lss 3 (.tmp 23) (.const (.int .i64 40)) 3, (some (some 22, true))⟩,
    ⟨(some 25), .pick (.tmp 22) (.tmp 24) (.const (.bool false)), none⟩]) c_sheaflaw8_HeapTexts_3) K t m := rfl

def c_sheaflaw8_HeapTexts_5 : MC := (.seq (.ops [⟨(some 4), .assign (.const (.bool false)), none⟩]) .ret)
@[go_sem] theorem c_sheaflaw8_HeapTexts_5_at (rd : Option Nat) (K : Post3) (t : Fr) (m : Mem) : wpM E 6 98 rd c_sheaflaw8_HeapTexts_5 K t m = wpM E 6 98 rd (.seq (.ops [⟨(some 4), .assign (.const (.bool false)), none⟩]) .ret) K t m := rfl

def c_sheaflaw8_HeapTexts_6 : MC := (.cond (.tmp 70) c_sheaflaw8_HeapTexts_5 .skip)
@[go_sem] theorem c_sheaflaw8_HeapTexts_6_at (rd : Option Nat) (K : Post3) (t : Fr) (m : Mem) : wpM E 6 98 rd c_sheaflaw8_HeapTexts_6 K t m = wpM E 6 98 rd (.cond (.tmp 70) c_sheaflaw8_HeapTexts_5 .skip) K t m := rfl

def c_sheaflaw8_HeapTexts_7 : MC := (.seq (.ops [⟨(some 63), .move (.tmp 11), none⟩,
    ⟨(some 64), .unOp .not 4 (.tmp 63), none⟩,
    ⟨(some 65), .move (.tmp 64), none⟩,
    ⟨(some 66), .move (.tmp 6), (some (some 65, false))⟩,
    ⟨(some 67), .move (.tmp 10), (some (some 65, false))⟩,
    ⟨(some 68), .lookup 50 (.tmp 66) (.tmp 67) false, (some (some 65, false))⟩,
    ⟨(some 69), .binOp .lss 3 (.tmp 68) (.const (.int .i64 1)) 3, (some (some 65, false))⟩,
    ⟨(some 70), .pick (.tmp 65) (.const (.bool true)) (.tmp 69), none⟩]) c_sheaflaw8_HeapTexts_6)
@[go_sem] theorem c_sheaflaw8_HeapTexts_7_at (rd : Option Nat) (K : Post3) (t : Fr) (m : Mem) : wpM E 6 98 rd c_sheaflaw8_HeapTexts_7 K t m = wpM E 6 98 rd (.seq (.ops [⟨(some 63), .move (.tmp 11), none⟩,
    ⟨(some 64), .unOp .not 4 (.tmp 63), none⟩,
    ⟨(some 65), .move (.tmp 64), none⟩,
    ⟨(some 66), .move (.tmp 6), (some (some 65, false))⟩,
    ⟨(some 67), .move (.tmp 10), (some (some 65, false))⟩,
    ⟨(some 68), .lookup 50 (.tmp 66) (.tmp 67) false, (some (some 65, false))⟩,
    ⟨(some 69), .binOp .lss 3 (.tmp 68) (.const (.int .i64 1)) 3, (some (some 65, false))⟩,
    ⟨(some 70), .pick (.tmp 65) (.const (.bool true)) (.tmp 69), none⟩]) c_sheaflaw8_HeapTexts_6) K t m := rfl

def c_sheaflaw8_HeapTexts_8 : MC := (.cond (.tmp 80) .skip (.exit 2))
@[go_sem] theorem c_sheaflaw8_HeapTexts_8_at (rd : Option Nat) (K : Post3) (t : Fr) (m : Mem) : wpM E 6 98 rd c_sheaflaw8_HeapTexts_8 K t m = wpM E 6 98 rd (.cond (.tmp 80) .skip (.exit 2)) K t m := rfl

def c_sheaflaw8_HeapTexts_9 : MC := (.seq (.ops [⟨(some 4), .assign (.const (.bool false)), none⟩]) .ret)
@[go_sem] theorem c_sheaflaw8_HeapTexts_9_at (rd : Option Nat) (K : Post3) (t : Fr) (m : Mem) : wpM E 6 98 rd c_sheaflaw8_HeapTexts_9 K t m = wpM E 6 98 rd (.seq (.ops [⟨(some 4), .assign (.const (.bool false)), none⟩]) .ret) K t m := rfl

def c_sheaflaw8_HeapTexts_10 : MC := (.cond (.tmp 92) c_sheaflaw8_HeapTexts_9 .skip)
@[go_sem] theorem c_sheaflaw8_HeapTexts_10_at (rd : Option Nat) (K : Post3) (t : Fr) (m : Mem) : wpM E 6 98 rd c_sheaflaw8_HeapTexts_10 K t m = wpM E 6 98 rd (.cond (.tmp 92) c_sheaflaw8_HeapTexts_9 .skip) K t m := rfl

def c_sheaflaw8_HeapTexts_11 : MC := (.seq (.ops [⟨(some 84), .move (.tmp 13), none⟩,
    ⟨(some 85), .binOp .gtr 3 (.tmp 84) (.const (.int .i64 0)) 3, none⟩,
    ⟨(some 86), .move (.tmp 85), none⟩,
    ⟨(some 87), .move (.tmp 12), (some (some 86, true))⟩,
    ⟨(some 88), .call ⟨.builtin .len, #[(.tmp 87)], #[9]⟩, (some (some 86, true))⟩,
    ⟨(some 89), .move (.tmp 10), (some (some 86, true))⟩,
    ⟨(some 90), .call ⟨.builtin .len, #[(.tmp 89)], #[9]⟩, (some (some 86, true))⟩,
    ⟨(some 91), .binOp .lss 3 (.tmp 88) (.tmp 90) 3, (some (some 86, true))⟩,
    ⟨(some 92), .pick (.tmp 86) (.tmp 91) (.const (.bool false)), none⟩]) c_sheaflaw8_HeapTexts_10)
@[go_sem] theorem c_sheaflaw8_HeapTexts_11_at (rd : Option Nat) (K : Post3) (t : Fr) (m : Mem) : wpM E 6 98 rd c_sheaflaw8_HeapTexts_11 K t m = wpM E 6 98 rd (.seq (.ops [⟨(some 84), .move (.tmp 13), none⟩,
    ⟨(some 85), .binOp .gtr 3 (.tmp 84) (.const (.int .i64 0)) 3, none⟩,
    ⟨(some 86), .move (.tmp 85), none⟩,
    ⟨(some 87), .move (.tmp 12), (some (some 86, true))⟩,
    ⟨(some 88), .call ⟨.builtin .len, #[(.tmp 87)], #[9]⟩, (some (some 86, true))⟩,
    ⟨(some 89), .move (.tmp 10), (some (some 86, true))⟩,
    ⟨(some 90), .call ⟨.builtin .len, #[(.tmp 89)], #[9]⟩, (some (some 86, true))⟩,
    ⟨(some 91), .binOp .lss 3 (.tmp 88) (.tmp 90) 3, (some (some 86, true))⟩,
    ⟨(some 92), .pick (.tmp 86) (.tmp 91) (.const (.bool false)), none⟩]) c_sheaflaw8_HeapTexts_10) K t m := rfl

def c_sheaflaw8_HeapTexts_12 : MC := (.seq (.ops [⟨(some 81), .entry (.tmp 78), none⟩,
    ⟨(some 82), .extract (.tmp 81) 0, none⟩,
    ⟨(some 83), .extract (.tmp 81) 1, none⟩,
    ⟨(some 12), .assign (.tmp 82), none⟩,
    ⟨(some 13), .assign (.tmp 83), none⟩]) c_sheaflaw8_HeapTexts_11)
@[go_sem] theorem c_sheaflaw8_HeapTexts_12_at (rd : Option Nat) (K : Post3) (t : Fr) (m : Mem) : wpM E 6 98 rd c_sheaflaw8_HeapTexts_12 K t m = wpM E 6 98 rd (.seq (.ops [⟨(some 81), .entry (.tmp 78), none⟩,
    ⟨(some 82), .extract (.tmp 81) 0, none⟩,
    ⟨(some 83), .extract (.tmp 81) 1, none⟩,
    ⟨(some 12), .assign (.tmp 82), none⟩,
    ⟨(some 13), .assign (.tmp 83), none⟩]) c_sheaflaw8_HeapTexts_11) K t m := rfl

def c_sheaflaw8_HeapTexts_13 : MC := (.block 3 c_sheaflaw8_HeapTexts_12)
@[go_sem] theorem c_sheaflaw8_HeapTexts_13_at (rd : Option Nat) (K : Post3) (t : Fr) (m : Mem) : wpM E 6 98 rd c_sheaflaw8_HeapTexts_13 K t m = wpM E 6 98 rd (.block 3 c_sheaflaw8_HeapTexts_12) K t m := rfl

def c_sheaflaw8_HeapTexts_14 : MC := (.seq c_sheaflaw8_HeapTexts_8 c_sheaflaw8_HeapTexts_13)
@[go_sem] theorem c_sheaflaw8_HeapTexts_14_at (rd : Option Nat) (K : Post3) (t : Fr) (m : Mem) : wpM E 6 98 rd c_sheaflaw8_HeapTexts_14 K t m = wpM E 6 98 rd (.seq c_sheaflaw8_HeapTexts_8 c_sheaflaw8_HeapTexts_13) K t m := rfl

def c_sheaflaw8_HeapTexts_15 : MC := (.seq (.ops [⟨(some 79), .next (.tmp 78) false, none⟩,
    ⟨(some 80), .extract (.tmp 79) 0, none⟩]) c_sheaflaw8_HeapTexts_14)
@[go_sem] theorem c_sheaflaw8_HeapTexts_15_at (rd : Option Nat) (K : Post3) (t : Fr) (m : Mem) : wpM E 6 98 rd c_sheaflaw8_HeapTexts_15 K t m = wpM E 6 98 rd (.seq (.ops [⟨(some 79), .next (.tmp 78) false, none⟩,
    ⟨(some 80), .extract (.tmp 79) 0, none⟩]) c_sheaflaw8_HeapTexts_14) K t m := rfl

def c_sheaflaw8_HeapTexts_16 : MC := (.loop c_sheaflaw8_HeapTexts_15)
theorem c_sheaflaw8_HeapTexts_16_at (rd : Option Nat) (K : Post3) (t : Fr) (m : Mem) : wpM E 6 98 rd c_sheaflaw8_HeapTexts_16 K t m = wpM E 6 98 rd (.loop c_sheaflaw8_HeapTexts_15) K t m := rfl

def c_sheaflaw8_HeapTexts_17 : MC := (.block 2 c_sheaflaw8_HeapTexts_16)
theorem c_sheaflaw8_HeapTexts_17_at (rd : Option Nat) (K : Post3) (t : Fr) (m : Mem) : wpM E 6 98 rd c_sheaflaw8_HeapTexts_17 K t m = wpM E 6 98 rd (.block 2 c_sheaflaw8_HeapTexts_16) K t m := rfl

def c_sheaflaw8_HeapTexts_18 : MC := (.seq (.ops [⟨(some 77), .move (.tmp 6), none⟩,
    ⟨(some 78), .range 50 (.tmp 77), none⟩]) c_sheaflaw8_HeapTexts_17)
@[go_sem] theorem c_sheaflaw8_HeapTexts_18_at (rd : Option Nat) (K : Post3) (t : Fr) (m : Mem) : wpM E 6 98 rd c_sheaflaw8_HeapTexts_18 K t m = wpM E 6 98 rd (.seq (.ops [⟨(some 77), .move (.tmp 6), none⟩,
    ⟨(some 78), .range 50 (.tmp 77), none⟩]) c_sheaflaw8_HeapTexts_17) K t m := rfl

def c_sheaflaw8_HeapTexts_19 : MC := (.seq (.ops [⟨(some 75), .move (.tmp 7), none⟩,
    ⟨(some 76), .binOp .sub 3 (.tmp 75) (.const (.int .i64 1)) 3, none⟩,
    ⟨(some 7), .assign (.tmp 76), none⟩]) c_sheaflaw8_HeapTexts_18)
@[go_sem] theorem c_sheaflaw8_HeapTexts_19_at (rd : Option Nat) (K : Post3) (t : Fr) (m : Mem) : wpM E 6 98 rd c_sheaflaw8_HeapTexts_19 K t m = wpM E 6 98 rd (.seq (.ops [⟨(some 75), .move (.tmp 7), none⟩,
    ⟨(some 76), .binOp .sub 3 (.tmp 75) (.const (.int .i64 1)) 3, none⟩,
    ⟨(some 7), .assign (.tmp 76), none⟩]) c_sheaflaw8_HeapTexts_18) K t m := rfl

def c_sheaflaw8_HeapTexts_20 : MC := (.seq (.ops [⟨(some 71), .move (.tmp 6), none⟩,
    ⟨(some 72), .move (.tmp 10), none⟩,
    ⟨(some 73), .lookup 50 (.tmp 71) (.tmp 72) false, none⟩,
    ⟨(some 74), .binOp .sub 3 (.tmp 73) (.const (.int .i64 1)) 3, none⟩,
    ⟨none, .mapUpdate 50 (.tmp 71) (.tmp 72) (.tmp 74), none⟩]) c_sheaflaw8_HeapTexts_19)
@[go_sem] theorem c_sheaflaw8_HeapTexts_20_at (rd : Option Nat) (K : Post3) (t : Fr) (m : Mem) : wpM E 6 98 rd c_sheaflaw8_HeapTexts_20 K t m = wpM E 6 98 rd (.seq (.ops [⟨(some 71), .move (.tmp 6), none⟩,
    ⟨(some 72), .move (.tmp 10), none⟩,
    ⟨(some 73), .lookup 50 (.tmp 71) (.tmp 72) false, none⟩,
    ⟨(some 74), .binOp .sub 3 (.tmp 73) (.const (.int .i64 1)) 3, none⟩,
    ⟨none, .mapUpdate 50 (.tmp 71) (.tmp 72) (.tmp 74), none⟩]) c_sheaflaw8_HeapTexts_19) K t m := rfl

def c_sheaflaw8_HeapTexts_21 : MC := (.seq c_sheaflaw8_HeapTexts_7 c_sheaflaw8_HeapTexts_20)
@[go_sem] theorem c_sheaflaw8_HeapTexts_21_at (rd : Option Nat) (K : Post3) (t : Fr) (m : Mem) : wpM E 6 98 rd c_sheaflaw8_HeapTexts_21 K t m = wpM E 6 98 rd (.seq c_sheaflaw8_HeapTexts_7 c_sheaflaw8_HeapTexts_20) K t m := rfl

def c_sheaflaw8_HeapTexts_22 : MC := (.seq (.ops [⟨(some 59), .move (.tmp 5), none⟩,
    ⟨(some 60), .call ⟨.value (.func 27), #[(.tmp 59)], #[47]⟩, none⟩,
    ⟨(some 58), .move (.tmp 60), none⟩,
    ⟨(some 61), .extract (.tmp 58) 0, none⟩,
    ⟨(some 62), .extract (.tmp 58) 1, none⟩,
    ⟨(some 10), .assign (.tmp 61), none⟩,
    ⟨(some 11), .assign (.tmp 62), none⟩]) c_sheaflaw8_HeapTexts_21)
@[go_sem] theorem c_sheaflaw8_HeapTexts_22_at (rd : Option Nat) (K : Post3) (t : Fr) (m : Mem) : wpM E 6 98 rd c_sheaflaw8_HeapTexts_22 K t m = wpM E 6 98 rd (.seq (.ops [⟨(some 59), .move (.tmp 5), none⟩,
    ⟨(some 60), .call ⟨.value (.func 27), #[(.tmp 59)], #[47]⟩, none⟩,
    ⟨(some 58), .move (.tmp 60), none⟩,
    ⟨(some 61), .extract (.tmp 58) 0, none⟩,
    ⟨(some 62), .extract (.tmp 58) 1, none⟩,
    ⟨(some 10), .assign (.tmp 61), none⟩,
    ⟨(some 11), .assign (.tmp 62), none⟩]) c_sheaflaw8_HeapTexts_21) K t m := rfl

def c_sheaflaw8_HeapTexts_23 : MC := (.cond (.tmp 57) c_sheaflaw8_HeapTexts_22 .skip)
@[go_sem] theorem c_sheaflaw8_HeapTexts_23_at (rd : Option Nat) (K : Post3) (t : Fr) (m : Mem) : wpM E 6 98 rd c_sheaflaw8_HeapTexts_23 K t m = wpM E 6 98 rd (.cond (.tmp 57) c_sheaflaw8_HeapTexts_22 .skip) K t m := rfl

def c_sheaflaw8_HeapTexts_24 : MC := (.seq (.ops [⟨(some 48), .move (.tmp 8), none⟩,
    ⟨(some 49), .move (.tmp 1), none⟩,
    ⟨(some 50), .call ⟨.builtin .len, #[(.tmp 49)], #[42]⟩, none⟩,
    ⟨(some 51), .binOp .lss 3 (.tmp 48) (.tmp 50) 3, none⟩,
    ⟨(some 52), .move (.tmp 51), none⟩,
    ⟨(some 53), .move (.tmp 1), (some (some 52, true))⟩,
    ⟨(some 54), .move (.tmp 8), (some (some 52, true))⟩,
    ⟨(some 55), .indexAddr 42 (.tmp 53) (.tmp 54), (some (some 52, true))⟩,
    ⟨(some 56), .load 4 (.tmp 55), (some (some 52, true))⟩,
    ⟨(some 57), .pick (.tmp 52) (.tmp 56) (.const (.bool false)), none⟩]) c_sheaflaw8_HeapTexts_23)
@[go_sem] theorem c_sheaflaw8_HeapTexts_24_at (rd : Option Nat) (K : Post3) (t : Fr) (m : Mem) : wpM E 6 98 rd c_sheaflaw8_HeapTexts_24 K t m = wpM E 6 98 rd (.seq (.ops [⟨(some 48), .move (.tmp 8), none⟩,
    ⟨(some 49), .move (.tmp 1), none⟩,
    ⟨(some 50), .call ⟨.builtin .len, #[(.tmp 49)], #[42]⟩, none⟩,
    ⟨(some 51), .binOp .lss 3 (.tmp 48) (.tmp 50) 3, none⟩,
    ⟨(some 52), .move (.tmp 51), none⟩,
    ⟨(some 53), .move (.tmp 1), (some (some 52, true))⟩,
    ⟨(some 54), .move (.tmp 8), (some (some 52, true))⟩,
    ⟨(some 55), .indexAddr 42 (.tmp 53) (.tmp 54), (some (some 52, true))⟩,
    ⟨(some 56), .load 4 (.tmp 55), (some (some 52, true))⟩,
    ⟨(some 57), .pick (.tmp 52) (.tmp 56) (.const (.bool false)), none⟩]) c_sheaflaw8_HeapTexts_23) K t m := rfl

def c_sheaflaw8_HeapTexts_25 : MC := (.seq (.ops [⟨(some 4), .assign (.const (.bool false)), none⟩]) .ret)
@[go_sem] theorem c_sheaflaw8_HeapTexts_25_at (rd : Option Nat) (K : Post3) (t : Fr) (m : Mem) : wpM E 6 98 rd c_sheaflaw8_HeapTexts_25 K t m = wpM E 6 98 rd (.seq (.ops [⟨(some 4), .assign (.const (.bool false)), none⟩]) .ret) K t m := rfl

def c_sheaflaw8_HeapTexts_26 : MC := (.cond (.tmp 96) c_sheaflaw8_HeapTexts_25 .skip)
@[go_sem] theorem c_sheaflaw8_HeapTexts_26_at (rd : Option Nat) (K : Post3) (t : Fr) (m : Mem) : wpM E 6 98 rd c_sheaflaw8_HeapTexts_26 K t m = wpM E 6 98 rd (.cond (.tmp 96) c_sheaflaw8_HeapTexts_25 .skip) K t m := rfl

def c_sheaflaw8_HeapTexts_27 : MC := (.seq (.ops [⟨(some 93), .move (.tmp 5), none⟩,
    ⟨(some 94), .call ⟨.value (.func 28), #[(.tmp 93)], #[47]⟩, none⟩,
    ⟨(some 95), .move (.tmp 7), none⟩,
    ⟨(some 96), .binOp .neq 3 (.tmp 94) (.tmp 95) 3, none⟩]) c_sheaflaw8_HeapTexts_26)
@[go_sem] theorem c_sheaflaw8_HeapTexts_27_at (rd : Option Nat) (K : Post3) (t : Fr) (m : Mem) : wpM E 6 98 rd c_sheaflaw8_HeapTexts_27 K t m = wpM E 6 98 rd (.seq (.ops [⟨(some 93), .move (.tmp 5), none⟩,
    ⟨(some 94), .call ⟨.value (.func 28), #[(.tmp 93)], #[47]⟩, none⟩,
    ⟨(some 95), .move (.tmp 7), none⟩,
    ⟨(some 96), .binOp .neq 3 (.tmp 94) (.tmp 95) 3, none⟩]) c_sheaflaw8_HeapTexts_26) K t m := rfl

def c_sheaflaw8_HeapTexts_28 : MC := (.seq c_sheaflaw8_HeapTexts_24 c_sheaflaw8_HeapTexts_27)
@[go_sem] theorem c_sheaflaw8_HeapTexts_28_at (rd : Option Nat) (K : Post3) (t : Fr) (m : Mem) : wpM E 6 98 rd c_sheaflaw8_HeapTexts_28 K t m = wpM E 6 98 rd (.seq c_sheaflaw8_HeapTexts_24 c_sheaflaw8_HeapTexts_27) K t m := rfl

def c_sheaflaw8_HeapTexts_29 : MC := (.seq (.ops [⟨(some 46), .move (.tmp 7), none⟩,
    ⟨(some 47), .binOp .add 3 (.tmp 46) (.const (.int .i64 1)) 3, none⟩,
    ⟨(some 7), .assign (.tmp 47), none⟩]) c_sheaflaw8_HeapTexts_28)
@[go_sem] theorem c_sheaflaw8_HeapTexts_29_at (rd : Option Nat) (K : Post3) (t : Fr) (m : Mem) : wpM E 6 98 rd c_sheaflaw8_HeapTexts_29 K t m = wpM E 6 98 rd (.seq (.ops [⟨(some 46), .move (.tmp 7), none⟩,
    ⟨(some 47), .binOp .add 3 (.tmp 46) (.const (.int .i64 1)) 3, none⟩,
    ⟨(some 7), .assign (.tmp 47), none⟩]) c_sheaflaw8_HeapTexts_28) K t m := rfl

def c_sheaflaw8_HeapTexts_30 : MC := (.seq (.ops [⟨(some 42), .move (.tmp 6), none⟩,
    ⟨(some 43), .move (.tmp 9), none⟩,
    ⟨(some 44), .lookup 50 (.tmp 42) (.tmp 43) false, none⟩,
    ⟨(some 45), .binOp .add 3 (.tmp 44) (.const (.int .i64 1)) 3, none⟩,
    ⟨none, .mapUpdate 50 (.tmp 42) (.tmp 43) (.tmp 45), none⟩]) c_sheaflaw8_HeapTexts_29)
@[go_sem] theorem c_sheaflaw8_HeapTexts_30_at (rd : Option Nat) (K : Post3) (t : Fr) (m : Mem) : wpM E 6 98 rd c_sheaflaw8_HeapTexts_30 K t m = wpM E 6 98 rd (.seq (.ops [⟨(some 42), .move (.tmp 6), none⟩,
    ⟨(some 43), .move (.tmp 9), none⟩,
    ⟨(some 44), .lookup 50 (.tmp 42) (.tmp 43) false, none⟩,
    ⟨(some 45), .binOp .add 3 (.tmp 44) (.const (.int .i64 1)) 3, none⟩,
    ⟨none, .mapUpdate 50 (.tmp 42) (.tmp 43) (.tmp 45), none⟩]) c_sheaflaw8_HeapTexts_29) K t m := rfl

def c_sheaflaw8_HeapTexts_31 : MC := (.seq (.ops [⟨(some 39), .move (.tmp 5), none⟩,
    ⟨(some 40), .move (.tmp 9), none⟩,
    ⟨(some 41), .call ⟨.value (.func 26), #[(.tmp 39), (.tmp 40)], #[47, 9]⟩, none⟩]) c_sheaflaw8_HeapTexts_30)
@[go_sem] theorem c_sheaflaw8_HeapTexts_31_at (rd : Option Nat) (K : Post3) (t : Fr) (m : Mem) : wpM E 6 98 rd c_sheaflaw8_HeapTexts_31 K t m = wpM E 6 98 rd (.seq (.ops [⟨(some 39), .move (.tmp 5), none⟩,
    ⟨(some 40), .move (.tmp 9), none⟩,
    ⟨(some 41), .call ⟨.value (.func 26), #[(.tmp 39), (.tmp 40)], #[47, 9]⟩, none⟩]) c_sheaflaw8_HeapTexts_30) K t m := rfl

def c_sheaflaw8_HeapTexts_32 : MC := (.seq (.ops [⟨(some 28), .move (.tmp 0), none⟩,
    ⟨(some 29), .move (.tmp 8), none⟩,
    ⟨(some 30), .indexAddr 46 (.tmp 28) (.tmp 29), none⟩,
    ⟨(some 31), .load 9 (.tmp 30), none⟩,
    ⟨(some 32), .move (.tmp 0), none⟩,
    ⟨(some 33), .move (.tmp 8), none⟩,
    ⟨(some 34), .indexAddr 46 (.tmp 32) (.tmp 33), none⟩,
    ⟨(some 35), .load 9 (.tmp 34), none⟩,
    ⟨(some 36), .call ⟨.builtin .len, #[(.tmp 35)], #[9]⟩, none⟩,
    ⟨(some 37), .call ⟨.builtin .min, #[(.tmp 36), (.const (.int .i64 9))], #[3, 3]⟩, none⟩,
    ⟨(some 38), .slice 9 (.tmp 31) none (some (.tmp 37)) none, none⟩,
    ⟨(some 9), .assign (.tmp 38), none⟩]) c_sheaflaw8_HeapTexts_31)
@[go_sem] theorem c_sheaflaw8_HeapTexts_32_at (rd : Option Nat) (K : Post3) (t : Fr) (m : Mem) : wpM E 6 98 rd c_sheaflaw8_HeapTexts_32 K t m = wpM E 6 98 rd (.seq (.ops [⟨(some 28), .move (.tmp 0), none⟩,
    ⟨(some 29), .move (.tmp 8), none⟩,
    ⟨(some 30), .indexAddr 46 (.tmp 28) (.tmp 29), none⟩,
    ⟨(some 31), .load 9 (.tmp 30), none⟩,
    ⟨(some 32), .move (.tmp 0), none⟩,
    ⟨(some 33), .move (.tmp 8), none⟩,
    ⟨(some 34), .indexAddr 46 (.tmp 32) (.tmp 33), none⟩,
    ⟨(some 35), .load 9 (.tmp 34), none⟩,
    ⟨(some 36), .call ⟨.builtin .len, #[(.tmp 35)], #[9]⟩, none⟩,
    ⟨(some 37), .call ⟨.builtin .min, #[(.tmp 36), (.const (.int .i64 9))], #[3, 3]⟩, none⟩,
    ⟨(some 38), .slice 9 (.tmp 31) none (some (.tmp 37)) none, none⟩,
    ⟨(some 9), .assign (.tmp 38), none⟩]) c_sheaflaw8_HeapTexts_31) K t m := rfl

def c_sheaflaw8_HeapTexts_33 : MC := (.block 1 c_sheaflaw8_HeapTexts_32)
@[go_sem] theorem c_sheaflaw8_HeapTexts_33_at (rd : Option Nat) (K : Post3) (t : Fr) (m : Mem) : wpM E 6 98 rd c_sheaflaw8_HeapTexts_33 K t m = wpM E 6 98 rd (.block 1 c_sheaflaw8_HeapTexts_32) K t m := rfl

def c_sheaflaw8_HeapTexts_34 : MC := (.seq c_sheaflaw8_HeapTexts_33 (.ops [⟨(some 26), .move (.tmp 8), none⟩,
    ⟨(some 27), .binOp .add 3 (.tmp 26) (.const (.int .i64 1)) 3, none⟩,
    ⟨(some 8), .assign (.tmp 27), none⟩]))
@[go_sem] theorem c_sheaflaw8_HeapTexts_34_at (rd : Option Nat) (K : Post3) (t : Fr) (m : Mem) : wpM E 6 98 rd c_sheaflaw8_HeapTexts_34 K t m = wpM E 6 98 rd (.seq c_sheaflaw8_HeapTexts_33 (.ops [⟨(some 26), .move (.tmp 8), none⟩,
    ⟨(some 27), .binOp .add 3 (.tmp 26) (.const (.int .i64 1)) 3, none⟩,
    ⟨(some 8), .assign (.tmp 27), none⟩])) K t m := rfl

def c_sheaflaw8_HeapTexts_35 : MC := (.seq c_sheaflaw8_HeapTexts_4 c_sheaflaw8_HeapTexts_34)
@[go_sem] theorem c_sheaflaw8_HeapTexts_35_at (rd : Option Nat) (K : Post3) (t : Fr) (m : Mem) : wpM E 6 98 rd c_sheaflaw8_HeapTexts_35 K t m = wpM E 6 98 rd (.seq c_sheaflaw8_HeapTexts_4 c_sheaflaw8_HeapTexts_34) K t m := rfl

def c_sheaflaw8_HeapTexts_36 : MC := (.loop c_sheaflaw8_HeapTexts_35)
theorem c_sheaflaw8_HeapTexts_36_at (rd : Option Nat) (K : Post3) (t : Fr) (m : Mem) : wpM E 6 98 rd c_sheaflaw8_HeapTexts_36 K t m = wpM E 6 98 rd (.loop c_sheaflaw8_HeapTexts_35) K t m := rfl

def c_sheaflaw8_HeapTexts_37 : MC := (.block 0 c_sheaflaw8_HeapTexts_36)
theorem c_sheaflaw8_HeapTexts_37_at (rd : Option Nat) (K : Post3) (t : Fr) (m : Mem) : wpM E 6 98 rd c_sheaflaw8_HeapTexts_37 K t m = wpM E 6 98 rd (.block 0 c_sheaflaw8_HeapTexts_36) K t m := rfl

def c_sheaflaw8_HeapTexts_38 : MC := (.seq (.ops [⟨(some 8), .assign (.const (.int .i64 0)), none⟩]) c_sheaflaw8_HeapTexts_37)
@[go_sem] theorem c_sheaflaw8_HeapTexts_38_at (rd : Option Nat) (K : Post3) (t : Fr) (m : Mem) : wpM E 6 98 rd c_sheaflaw8_HeapTexts_38 K t m = wpM E 6 98 rd (.seq (.ops [⟨(some 8), .assign (.const (.int .i64 0)), none⟩]) c_sheaflaw8_HeapTexts_37) K t m := rfl

def c_sheaflaw8_HeapTexts_39 : MC := (.seq (.ops [⟨(some 97), .call ⟨.value (.func 3), #[], #[]⟩, none⟩,
    ⟨(some 4), .assign (.tmp 97), none⟩]) .ret)
@[go_sem] theorem c_sheaflaw8_HeapTexts_39_at (rd : Option Nat) (K : Post3) (t : Fr) (m : Mem) : wpM E 6 98 rd c_sheaflaw8_HeapTexts_39 K t m = wpM E 6 98 rd (.seq (.ops [⟨(some 97), .call ⟨.value (.func 3), #[], #[]⟩, none⟩,
    ⟨(some 4), .assign (.tmp 97), none⟩]) .ret) K t m := rfl

def c_sheaflaw8_HeapTexts_40 : MC := (.seq c_sheaflaw8_HeapTexts_38 c_sheaflaw8_HeapTexts_39)
@[go_sem] theorem c_sheaflaw8_HeapTexts_40_at (rd : Option Nat) (K : Post3) (t : Fr) (m : Mem) : wpM E 6 98 rd c_sheaflaw8_HeapTexts_40 K t m = wpM E 6 98 rd (.seq c_sheaflaw8_HeapTexts_38 c_sheaflaw8_HeapTexts_39) K t m := rfl

def c_sheaflaw8_HeapTexts_41 : MC := (.seq (.ops [⟨(some 7), .assign (.const (.int .i64 0)), none⟩]) c_sheaflaw8_HeapTexts_40)
@[go_sem] theorem c_sheaflaw8_HeapTexts_41_at (rd : Option Nat) (K : Post3) (t : Fr) (m : Mem) : wpM E 6 98 rd c_sheaflaw8_HeapTexts_41 K t m = wpM E 6 98 rd (.seq (.ops [⟨(some 7), .assign (.const (.int .i64 0)), none⟩]) c_sheaflaw8_HeapTexts_40) K t m := rfl

def c_sheaflaw8_HeapTexts_42 : MC := (.seq (.ops [⟨(some 17), .makeMap 50 none, none⟩,
    ⟨(some 6), .assign (.tmp 17), none⟩]) c_sheaflaw8_HeapTexts_41)
@[go_sem] theorem c_sheaflaw8_HeapTexts_42_at (rd : Option Nat) (K : Post3) (t : Fr) (m : Mem) : wpM E 6 98 rd c_sheaflaw8_HeapTexts_42 K t m = wpM E 6 98 rd (.seq (.ops [⟨(some 17), .makeMap 50 none, none⟩,
    ⟨(some 6), .assign (.tmp 17), none⟩]) c_sheaflaw8_HeapTexts_41) K t m := rfl

def c_sheaflaw8_HeapTexts_43 : MC := (.seq c_sheaflaw8_HeapTexts_2 c_sheaflaw8_HeapTexts_42)
@[go_sem] theorem c_sheaflaw8_HeapTexts_43_at (rd : Option Nat) (K : Post3) (t : Fr) (m : Mem) : wpM E 6 98 rd c_sheaflaw8_HeapTexts_43 K t m = wpM E 6 98 rd (.seq c_sheaflaw8_HeapTexts_2 c_sheaflaw8_HeapTexts_42) K t m := rfl

def c_sheaflaw8_HeapTexts_44 : MC := (.seq (.ops [⟨(some 14), .call ⟨.value (.func 24), #[(.func 25)], #[49]⟩, none⟩,
    ⟨(some 5), .assign (.tmp 14), none⟩]) c_sheaflaw8_HeapTexts_43)
@[go_sem] theorem c_sheaflaw8_HeapTexts_44_at (rd : Option Nat) (K : Post3) (t : Fr) (m : Mem) : wpM E 6 98 rd c_sheaflaw8_HeapTexts_44 K t m = wpM E 6 98 rd (.seq (.ops [⟨(some 14), .call ⟨.value (.func 24), #[(.func 25)], #[49]⟩, none⟩,
    ⟨(some 5), .assign (.tmp 14), none⟩]) c_sheaflaw8_HeapTexts_43) K t m := rfl

def c_sheaflaw8_HeapTexts_45 : MC := (.seq (.ops [⟨(some 4), .assign (.const (.bool false)), none⟩]) c_sheaflaw8_HeapTexts_44)
@[go_sem] theorem c_sheaflaw8_HeapTexts_45_at (rd : Option Nat) (K : Post3) (t : Fr) (m : Mem) : wpM E 6 98 rd c_sheaflaw8_HeapTexts_45 K t m = wpM E 6 98 rd (.seq (.ops [⟨(some 4), .assign (.const (.bool false)), none⟩]) c_sheaflaw8_HeapTexts_44) K t m := rfl

@[go_sem] theorem some6 : (E.fn 6).isSome = true := by kernel_rfl
set_option maxRecDepth 100000 in
theorem fn_sheaflaw8_HeapTexts : FnIs E 6 98 [.tmp 4] c_sheaflaw8_HeapTexts_45 := ⟨by kernel_rfl, by kernel_rfl⟩

/-! sheaf/sheaflaw8.HeapOrder -/
abbrev F_sheaflaw8_HeapOrder : FuncId := 7
def c_sheaflaw8_HeapOrder_0 : MC := (.seq (.ops [⟨(some 4), .assign (.const (.bool false)), none⟩]) .ret)
@[go_sem] theorem c_sheaflaw8_HeapOrder_0_at (rd : Option Nat) (K : Post3) (t : Fr) (m : Mem) : wpM E 7 107 rd c_sheaflaw8_HeapOrder_0 K t m = wpM E 7 107 rd (.seq (.ops [⟨(some 4), .assign (.const (.bool false)), none⟩]) .ret) K t m := rfl

def c_sheaflaw8_HeapOrder_1 : MC := (.cond (.tmp 23) c_sheaflaw8_HeapOrder_0 .skip)
@[go_sem] theorem c_sheaflaw8_HeapOrder_1_at (rd : Option Nat) (K : Post3) (t : Fr) (m : Mem) : wpM E 7 107 rd c_sheaflaw8_HeapOrder_1 K t m = wpM E 7 107 rd (.cond (.tmp 23) c_sheaflaw8_HeapOrder_0 .skip) K t m := rfl

def c_sheaflaw8_HeapOrder_2 : MC := (.seq (.ops [⟨(some 18), .move (.tmp 5), none⟩,
    ⟨(some 19), .binOp .eql 22 (.tmp 18) (.const (.pointer none)) 22, none⟩,
    ⟨(some 20), .move (.tmp 19), none⟩,
    ⟨(some 21), .move (.tmp 6), (some (some 20, false))⟩,
    ⟨(some 22), .binOp .eql 22 (.tmp 21) (.const (.pointer none)) 22, (some (some 20, false))⟩,
    ⟨(some 23), .pick (.tmp 20) (.const (.bool true)) (.tmp 22), none⟩]) c_sheaflaw8_HeapOrder_1)
@[go_sem] theorem c_sheaflaw8_HeapOrder_2_at (rd : Option Nat) (K : Post3) (t : Fr) (m : Mem) : wpM E 7 107 rd c_sheaflaw8_HeapOrder_2 K t m = wpM E 7 107 rd (.seq (.ops [⟨(some 18), .move (.tmp 5), none⟩,
    ⟨(some 19), .binOp .eql 22 (.tmp 18) (.const (.pointer none)) 22, none⟩,
    ⟨(some 20), .move (.tmp 19), none⟩,
    ⟨(some 21), .move (.tmp 6), (some (some 20, false))⟩,
    ⟨(some 22), .binOp .eql 22 (.tmp 21) (.const (.pointer none)) 22, (some (some 20, false))⟩,
    ⟨(some 23), .pick (.tmp 20) (.const (.bool true)) (.tmp 22), none⟩]) c_sheaflaw8_HeapOrder_1) K t m := rfl

def c_sheaflaw8_HeapOrder_3 : MC := (.cond (.tmp 36) .skip (.exit 0))
@[go_sem] theorem c_sheaflaw8_HeapOrder_3_at (rd : Option Nat) (K : Post3) (t : Fr) (m : Mem) : wpM E 7 107 rd c_sheaflaw8_HeapOrder_3 K t m = wpM E 7 107 rd (.cond (.tmp 36) .skip (.exit 0)) K t m := rfl

def c_sheaflaw8_HeapOrder_4 : MC := (.seq (.ops [⟨(some 38), .move (.tmp 5), none⟩,
    ⟨(some 39), .move (.tmp 7), none⟩,
    ⟨(some 40), .move (.tmp 9), none⟩,
    ⟨(some 41), .indexAddr 25 (.tmp 39) (.tmp 40), none⟩,
    ⟨(some 42), .load 3 (.tmp 41), none⟩,
    ⟨(some 43), .call ⟨.value (.func 15), #[(.tmp 38), (.tmp 42)], #[22, 3]⟩, none⟩]) (.ops [⟨(some 44), .move (.tmp 6), none⟩,
    ⟨(some 45), .move (.tmp 7), none⟩,
    ⟨(some 46), .move (.tmp 9), none⟩,
    ⟨(some 47), .move (.tmp 8), none⟩,
    ⟨(some 48), .binOp .add 3 (.tmp 46) (.tmp 47) 3, none⟩,
    ⟨(some 49), .move (.tmp 7), none⟩,
    ⟨(some 50), .call ⟨.builtin .len, #[(.tmp 49)], #[25]⟩, none⟩,
    ⟨(some 51), .binOp .rem 3 (.tmp 48) (.tmp 50) 3, none⟩,
    ⟨(some 52), .indexAddr 25 (.tmp 45) (.tmp 51), none⟩,
    ⟨(some 53), .load 3 (.tmp 52), none⟩,
    ⟨(some 54), .call ⟨.value (.func 15), #[(.tmp 44), (.tmp 53)], #[22, 3]⟩, none⟩]))
@[go_sem] theorem c_sheaflaw8_HeapOrder_4_at (rd : Option Nat) (K : Post3) (t : Fr) (m : Mem) : wpM E 7 107 rd c_sheaflaw8_HeapOrder_4 K t m = wpM E 7 107 rd (.seq (.ops [⟨(some 38), .move (.tmp 5), none⟩,
    ⟨(some 39), .move (.tmp 7), none⟩,
    ⟨(some 40), .move (.tmp 9), none⟩,
    ⟨(some 41), .indexAddr 25 (.tmp 39) (.tmp 40), none⟩,
    ⟨(some 42), .load 3 (.tmp 41), none⟩,
    ⟨(some 43), .call ⟨.value (.func 15), #[(.tmp 38), (.tmp 42)], #[22, 3]⟩, none⟩]) (.ops [⟨(some 44), .move (.tmp 6), none⟩,
    ⟨(some 45), .move (.tmp 7), none⟩,
    ⟨(some 46), .move (.tmp 9), none⟩,
    ⟨(some 47), .move (.tmp 8), none⟩,
    ⟨(some 48), .binOp .add 3 (.tmp 46) (.tmp 47) 3, none⟩,
    ⟨(some 49), .move (.tmp 7), none⟩,
    ⟨(some 50), .call ⟨.builtin .len, #[(.tmp 49)], #[25]⟩, none⟩,
    ⟨(some 51), .binOp .rem 3 (.tmp 48) (.tmp 50) 3, none⟩,
    ⟨(some 52), .indexAddr 25 (.tmp 45) (.tmp 51), none⟩,
    ⟨(some 53), .load 3 (.tmp 52), none⟩,
    ⟨(some 54), .call ⟨.value (.func 15), #[(.tmp 44), (.tmp 53)], #[22, 3]⟩, none⟩])) K t m := rfl

def c_sheaflaw8_HeapOrder_5 : MC := (.seq (.ops [⟨(some 37), .move (.tmp 35), none⟩,
    ⟨(some 9), .assign (.tmp 37), none⟩]) c_sheaflaw8_HeapOrder_4)
@[go_sem] theorem c_sheaflaw8_HeapOrder_5_at (rd : Option Nat) (K : Post3) (t : Fr) (m : Mem) : wpM E 7 107 rd c_sheaflaw8_HeapOrder_5 K t m = wpM E 7 107 rd (.seq (.ops [⟨(some 37), .move (.tmp 35), none⟩,
    ⟨(some 9), .assign (.tmp 37), none⟩]) c_sheaflaw8_HeapOrder_4) K t m := rfl

def c_sheaflaw8_HeapOrder_6 : MC := (.block 1 c_sheaflaw8_HeapOrder_5)
@[go_sem] theorem c_sheaflaw8_HeapOrder_6_at (rd : Option Nat) (K : Post3) (t : Fr) (m : Mem) : wpM E 7 107 rd c_sheaflaw8_HeapOrder_6 K t m = wpM E 7 107 rd (.block 1 c_sheaflaw8_HeapOrder_5) K t m := rfl

def c_sheaflaw8_HeapOrder_7 : MC := (.seq c_sheaflaw8_HeapOrder_6 (.ops [⟨(some 55), .binOp .add 3 (.tmp 35) (.const (.int .i64 1)) 3, none⟩,
    ⟨(some 35), .move (.tmp 55), none⟩]))
@[go_sem] theorem c_sheaflaw8_HeapOrder_7_at (rd : Option Nat) (K : Post3) (t : Fr) (m : Mem) : wpM E 7 107 rd c_sheaflaw8_HeapOrder_7 K t m = wpM E 7 107 rd (.seq c_sheaflaw8_HeapOrder_6 (.ops [⟨(some 55), .binOp .add 3 (.tmp 35) (.const (.int .i64 1)) 3, none⟩,
    ⟨(some 35), .move (.tmp 55), none⟩])) K t m := rfl

def c_sheaflaw8_HeapOrder_8 : MC := (.seq c_sheaflaw8_HeapOrder_3 c_sheaflaw8_HeapOrder_7)
@[go_sem] theorem c_sheaflaw8_HeapOrder_8_at (rd : Option Nat) (K : Post3) (t : Fr) (m : Mem) : wpM E 7 107 rd c_sheaflaw8_HeapOrder_8 K t m = wpM E 7 107 rd (.seq c_sheaflaw8_HeapOrder_3 c_sheaflaw8_HeapOrder_7) K t m := rfl

def c_sheaflaw8_HeapOrder_9 : MC := (.seq (.ops [⟨(some 36), .binOp .lss 3 (.tmp 35) (.tmp 34) 3, none⟩]) c_sheaflaw8_HeapOrder_8)
@[go_sem] theorem c_sheaflaw8_HeapOrder_9_at (rd : Option Nat) (K : Post3) (t : Fr) (m : Mem) : wpM E 7 107 rd c_sheaflaw8_HeapOrder_9 K t m = wpM E 7 107 rd (.seq (.ops [⟨(some 36), .binOp .lss 3 (.tmp 35) (.tmp 34) 3, none⟩]) c_sheaflaw8_HeapOrder_8) K t m := rfl

def c_sheaflaw8_HeapOrder_10 : MC := (.loop c_sheaflaw8_HeapOrder_9)
theorem c_sheaflaw8_HeapOrder_10_at (rd : Option Nat) (K : Post3) (t : Fr) (m : Mem) : wpM E 7 107 rd c_sheaflaw8_HeapOrder_10 K t m = wpM E 7 107 rd (.loop c_sheaflaw8_HeapOrder_9) K t m := rfl

def c_sheaflaw8_HeapOrder_11 : MC := (.block 0 c_sheaflaw8_HeapOrder_10)
theorem c_sheaflaw8_HeapOrder_11_at (rd : Option Nat) (K : Post3) (t : Fr) (m : Mem) : wpM E 7 107 rd c_sheaflaw8_HeapOrder_11 K t m = wpM E 7 107 rd (.block 0 c_sheaflaw8_HeapOrder_10) K t m := rfl

def c_sheaflaw8_HeapOrder_12 : MC := (.seq (.ops [⟨(some 33), .move (.tmp 7), none⟩,
    ⟨(some 34), .call ⟨.builtin .len, #[(.tmp 33)], #[25]⟩, none⟩,
    ⟨(some 35), .move (.const (.int .i64 0)), none⟩]) c_sheaflaw8_HeapOrder_11)
@[go_sem] theorem c_sheaflaw8_HeapOrder_12_at (rd : Option Nat) (K : Post3) (t : Fr) (m : Mem) : wpM E 7 107 rd c_sheaflaw8_HeapOrder_12 K t m = wpM E 7 107 rd (.seq (.ops [⟨(some 33), .move (.tmp 7), none⟩,
    ⟨(some 34), .call ⟨.builtin .len, #[(.tmp 33)], #[25]⟩, none⟩,
    ⟨(some 35), .move (.const (.int .i64 0)), none⟩]) c_sheaflaw8_HeapOrder_11) K t m := rfl

def c_sheaflaw8_HeapOrder_13 : MC := (.cond (.tmp 59) .skip (.exit 2))
@[go_sem] theorem c_sheaflaw8_HeapOrder_13_at (rd : Option Nat) (K : Post3) (t : Fr) (m : Mem) : wpM E 7 107 rd c_sheaflaw8_HeapOrder_13 K t m = wpM E 7 107 rd (.cond (.tmp 59) .skip (.exit 2)) K t m := rfl

def c_sheaflaw8_HeapOrder_14 : MC := (.seq (.ops [⟨(some 4), .assign (.const (.bool false)), none⟩]) .ret)
@[go_sem] theorem c_sheaflaw8_HeapOrder_14_at (rd : Option Nat) (K : Post3) (t : Fr) (m : Mem) : wpM E 7 107 rd c_sheaflaw8_HeapOrder_14 K t m = wpM E 7 107 rd (.seq (.ops [⟨(some 4), .assign (.const (.bool false)), none⟩]) .ret) K t m := rfl

def c_sheaflaw8_HeapOrder_15 : MC := (.cond (.tmp 94) c_sheaflaw8_HeapOrder_14 .skip)
@[go_sem] theorem c_sheaflaw8_HeapOrder_15_at (rd : Option Nat) (K : Post3) (t : Fr) (m : Mem) : wpM E 7 107 rd c_sheaflaw8_HeapOrder_15 K t m = wpM E 7 107 rd (.cond (.tmp 94) c_sheaflaw8_HeapOrder_14 .skip) K t m := rfl

def c_sheaflaw8_HeapOrder_16 : MC := (.seq (.ops [⟨(some 75), .move (.tmp 11), none⟩,
    ⟨(some 76), .unOp .not 4 (.tmp 75), none⟩,
    ⟨(some 77), .move (.tmp 76), none⟩,
    ⟨(some 78), .move (.tmp 13), (some (some 77, false))⟩,
    ⟨(some 79), .unOp .not 4 (.tmp 78), (some (some 77, false))⟩,
    ⟨(some 80), .pick (.tmp 77) (.const (.bool true)) (.tmp 79), none⟩,
    ⟨(some 81), .move (.tmp 80), none⟩,
    ⟨(some 82), .move (.tmp 15), (some (some 81, false))⟩,
    ⟨(some 83), .unOp .not 4 (.tmp 82), (some (some 81, false))⟩,
    ⟨(some 84), .pick (.tmp 81) (.const (.bool true)) (.tmp 83), none⟩,
    ⟨(some 85), .move (.tmp 84), none⟩,
    ⟨(some 86), .move (.tmp 12), (some (some 85, false))⟩,
    ⟨(some 87), .move (.tmp 14), (some (some 85, false))⟩,
    ⟨(some 88), .binOp .neq 3 (.tmp 86) (.tmp 87) 3, (some (some 85, false))⟩,
    ⟨(some 89), .pick (.tmp 85) (.const (.bool true)) (.tmp 88), none⟩,
    ⟨(some 90), .move (.tmp 89), none⟩,
    ⟨(some 91), .move (.tmp 10), (some (some 90, false))⟩,
    ⟨(some 92), .move (.tmp 12), (some (some 90, false))⟩,
    ⟨(some 93), .binOp .neq 3 (.tmp 91) (.tmp 92) 3, (some (some 90, false))⟩,
    ⟨(some 94), .pick (.tmp 90) (.const (.bool true)) (.tmp 93), none⟩]) c_sheaflaw8_HeapOrder_15)
@[go_sem] theorem c_sheaflaw8_HeapOrder_16_at (rd : Option Nat) (K : Post3) (t : Fr) (m : Mem) : wpM E 7 107 rd c_sheaflaw8_HeapOrder_16 K t m = wpM E 7 107 rd (.seq (.ops [⟨(some 75), .move (.tmp 11), none⟩,
    ⟨(some 76), .unOp .not 4 (.tmp 75), none⟩,
    ⟨(some 77), .move (.tmp 76), none⟩,
    ⟨(some 78), .move (.tmp 13), (some (some 77, false))⟩,
    ⟨(some 79), .unOp .not 4 (.tmp 78), (some (some 77, false))⟩,
    ⟨(some 80), .pick (.tmp 77) (.const (.bool true)) (.tmp 79), none⟩,
    ⟨(some 81), .move (.tmp 80), none⟩,
    ⟨(some 82), .move (.tmp 15), (some (some 81, false))⟩,
    ⟨(some 83), .unOp .not 4 (.tmp 82), (some (some 81, false))⟩,
    ⟨(some 84), .pick (.tmp 81) (.const (.bool true)) (.tmp 83), none⟩,
    ⟨(some 85), .move (.tmp 84), none⟩,
    ⟨(some 86), .move (.tmp 12), (some (some 85, false))⟩,
    ⟨(some 87), .move (.tmp 14), (some (some 85, false))⟩,
    ⟨(some 88), .binOp .neq 3 (.tmp 86) (.tmp 87) 3, (some (some 85, false))⟩,
    ⟨(some 89), .pick (.tmp 85) (.const (.bool true)) (.tmp 88), none⟩,
    ⟨(some 90), .move (.tmp 89), none⟩,
    ⟨(some 91), .move (.tmp 10), (some (some 90, false))⟩,
    ⟨(some 92), .move (.tmp 12), (some (some 90, false))⟩,
    ⟨(some 93), .binOp .neq 3 (.tmp 91) (.tmp 92) 3, (some (some 90, false))⟩,
    ⟨(some 94), .pick (.tmp 90) (.const (.bool true)) (.tmp 93), none⟩]) c_sheaflaw8_HeapOrder_15) K t m := rfl

def c_sheaflaw8_HeapOrder_17 : MC := (.seq (.ops [⟨(some 71), .move (.tmp 6), none⟩,
    ⟨(some 72), .call ⟨.value (.func 16), #[(.tmp 71)], #[22]⟩, none⟩,
    ⟨(some 70), .move (.tmp 72), none⟩,
    ⟨(some 73), .extract (.tmp 70) 0, none⟩,
    ⟨(some 74), .extract (.tmp 70) 1, none⟩,
    ⟨(some 14), .assign (.tmp 73), none⟩,
    ⟨(some 15), .assign (.tmp 74), none⟩]) c_sheaflaw8_HeapOrder_16)
@[go_sem] theorem c_sheaflaw8_HeapOrder_17_at (rd : Option Nat) (K : Post3) (t : Fr) (m : Mem) : wpM E 7 107 rd c_sheaflaw8_HeapOrder_17 K t m = wpM E 7 107 rd (.seq (.ops [⟨(some 71), .move (.tmp 6), none⟩,
    ⟨(some 72), .call ⟨.value (.func 16), #[(.tmp 71)], #[22]⟩, none⟩,
    ⟨(some 70), .move (.tmp 72), none⟩,
    ⟨(some 73), .extract (.tmp 70) 0, none⟩,
    ⟨(some 74), .extract (.tmp 70) 1, none⟩,
    ⟨(some 14), .assign (.tmp 73), none⟩,
    ⟨(some 15), .assign (.tmp 74), none⟩]) c_sheaflaw8_HeapOrder_16) K t m := rfl

def c_sheaflaw8_HeapOrder_18 : MC := (.seq (.ops [⟨(some 66), .move (.tmp 5), none⟩,
    ⟨(some 67), .call ⟨.value (.func 16), #[(.tmp 66)], #[22]⟩, none⟩,
    ⟨(some 65), .move (.tmp 67), none⟩,
    ⟨(some 68), .extract (.tmp 65) 0, none⟩,
    ⟨(some 69), .extract (.tmp 65) 1, none⟩,
    ⟨(some 12), .assign (.tmp 68), none⟩,
    ⟨(some 13), .assign (.tmp 69), none⟩]) c_sheaflaw8_HeapOrder_17)
@[go_sem] theorem c_sheaflaw8_HeapOrder_18_at (rd : Option Nat) (K : Post3) (t : Fr) (m : Mem) : wpM E 7 107 rd c_sheaflaw8_HeapOrder_18 K t m = wpM E 7 107 rd (.seq (.ops [⟨(some 66), .move (.tmp 5), none⟩,
    ⟨(some 67), .call ⟨.value (.func 16), #[(.tmp 66)], #[22]⟩, none⟩,
    ⟨(some 65), .move (.tmp 67), none⟩,
    ⟨(some 68), .extract (.tmp 65) 0, none⟩,
    ⟨(some 69), .extract (.tmp 65) 1, none⟩,
    ⟨(some 12), .assign (.tmp 68), none⟩,
    ⟨(some 13), .assign (.tmp 69), none⟩]) c_sheaflaw8_HeapOrder_17) K t m := rfl

def c_sheaflaw8_HeapOrder_19 : MC := (.seq (.ops [⟨(some 61), .move (.tmp 5), none⟩,
    ⟨(some 62), .call ⟨.value (.func 19), #[(.tmp 61)], #[22]⟩, none⟩,
    ⟨(some 60), .move (.tmp 62), none⟩,
    ⟨(some 63), .extract (.tmp 60) 0, none⟩,
    ⟨(some 64), .extract (.tmp 60) 1, none⟩,
    ⟨(some 10), .assign (.tmp 63), none⟩,
    ⟨(some 11), .assign (.tmp 64), none⟩]) c_sheaflaw8_HeapOrder_18)
@[go_sem] theorem c_sheaflaw8_HeapOrder_19_at (rd : Option Nat) (K : Post3) (t : Fr) (m : Mem) : wpM E 7 107 rd c_sheaflaw8_HeapOrder_19 K t m = wpM E 7 107 rd (.seq (.ops [⟨(some 61), .move (.tmp 5), none⟩,
    ⟨(some 62), .call ⟨.value (.func 19), #[(.tmp 61)], #[22]⟩, none⟩,
    ⟨(some 60), .move (.tmp 62), none⟩,
    ⟨(some 63), .extract (.tmp 60) 0, none⟩,
    ⟨(some 64), .extract (.tmp 60) 1, none⟩,
    ⟨(some 10), .assign (.tmp 63), none⟩,
    ⟨(some 11), .assign (.tmp 64), none⟩]) c_sheaflaw8_HeapOrder_18) K t m := rfl

def c_sheaflaw8_HeapOrder_20 : MC := (.block 3 c_sheaflaw8_HeapOrder_19)
@[go_sem] theorem c_sheaflaw8_HeapOrder_20_at (rd : Option Nat) (K : Post3) (t : Fr) (m : Mem) : wpM E 7 107 rd c_sheaflaw8_HeapOrder_20 K t m = wpM E 7 107 rd (.block 3 c_sheaflaw8_HeapOrder_19) K t m := rfl

def c_sheaflaw8_HeapOrder_21 : MC := (.seq c_sheaflaw8_HeapOrder_20 (.ops [⟨(some 95), .binOp .add 3 (.tmp 58) (.const (.int .i64 1)) 3, none⟩,
    ⟨(some 58), .move (.tmp 95), none⟩]))
@[go_sem] theorem c_sheaflaw8_HeapOrder_21_at (rd : Option Nat) (K : Post3) (t : Fr) (m : Mem) : wpM E 7 107 rd c_sheaflaw8_HeapOrder_21 K t m = wpM E 7 107 rd (.seq c_sheaflaw8_HeapOrder_20 (.ops [⟨(some 95), .binOp .add 3 (.tmp 58) (.const (.int .i64 1)) 3, none⟩,
    ⟨(some 58), .move (.tmp 95), none⟩])) K t m := rfl

def c_sheaflaw8_HeapOrder_22 : MC := (.seq c_sheaflaw8_HeapOrder_13 c_sheaflaw8_HeapOrder_21)
@[go_sem] theorem c_sheaflaw8_HeapOrder_22_at (rd : Option Nat) (K : Post3) (t : Fr) (m : Mem) : wpM E 7 107 rd c_sheaflaw8_HeapOrder_22 K t m = wpM E 7 107 rd (.seq c_sheaflaw8_HeapOrder_13 c_sheaflaw8_HeapOrder_21) K t m := rfl

def c_sheaflaw8_HeapOrder_23 : MC := (.seq (.ops [⟨(some 59), .binOp .lss 3 (.tmp 58) (.tmp 57) 3, none⟩]) c_sheaflaw8_HeapOrder_22)
@[go_sem] theorem c_sheaflaw8_HeapOrder_23_at (rd : Option Nat) (K : Post3) (t : Fr) (m : Mem) : wpM E 7 107 rd c_sheaflaw8_HeapOrder_23 K t m = wpM E 7 107 rd (.seq (.ops [⟨(some 59), .binOp .lss 3 (.tmp 58) (.tmp 57) 3, none⟩]) c_sheaflaw8_HeapOrder_22) K t m := rfl

def c_sheaflaw8_HeapOrder_24 : MC := (.loop c_sheaflaw8_HeapOrder_23)
theorem c_sheaflaw8_HeapOrder_24_at (rd : Option Nat) (K : Post3) (t : Fr) (m : Mem) : wpM E 7 107 rd c_sheaflaw8_HeapOrder_24 K t m = wpM E 7 107 rd (.loop c_sheaflaw8_HeapOrder_23) K t m := rfl

def c_sheaflaw8_HeapOrder_25 : MC := (.block 2 c_sheaflaw8_HeapOrder_24)
theorem c_sheaflaw8_HeapOrder_25_at (rd : Option Nat) (K : Post3) (t : Fr) (m : Mem) : wpM E 7 107 rd c_sheaflaw8_HeapOrder_25 K t m = wpM E 7 107 rd (.block 2 c_sheaflaw8_HeapOrder_24) K t m := rfl

def c_sheaflaw8_HeapOrder_26 : MC := (.seq (.ops [⟨(some 56), .move (.tmp 7), none⟩,
    ⟨(some 57), .call ⟨.builtin .len, #[(.tmp 56)], #[25]⟩, none⟩,
    ⟨(some 58), .move (.const (.int .i64 0)), none⟩]) c_sheaflaw8_HeapOrder_25)
@[go_sem] theorem c_sheaflaw8_HeapOrder_26_at (rd : Option Nat) (K : Post3) (t : Fr) (m : Mem) : wpM E 7 107 rd c_sheaflaw8_HeapOrder_26 K t m = wpM E 7 107 rd (.seq (.ops [⟨(some 56), .move (.tmp 7), none⟩,
    ⟨(some 57), .call ⟨.builtin .len, #[(.tmp 56)], #[25]⟩, none⟩,
    ⟨(some 58), .move (.const (.int .i64 0)), none⟩]) c_sheaflaw8_HeapOrder_25) K t m := rfl

def c_sheaflaw8_HeapOrder_27 : MC := (.seq (.ops [⟨(some 96), .move (.tmp 5), none⟩,
    ⟨(some 97), .call ⟨.value (.func 18), #[(.tmp 96)], #[22]⟩, none⟩,
    ⟨(some 98), .binOp .eql 3 (.tmp 97) (.const (.int .i64 0)) 3, none⟩,
    ⟨(some 99), .move (.tmp 98), none⟩,
    ⟨(some 100), .move (.tmp 6), (some (some 99, true))⟩,
    ⟨(some 101), .call ⟨.value (.func 18), #[(.tmp 100)], #[22]⟩, (some (some 99, true))⟩,
    ⟨(some 102), .binOp .eql 3 (.tmp 101) (.const (.int .i64 0)) 3, (some (some 99, true))⟩,
    ⟨(some 103), .pick (.tmp 99) (.tmp 102) (.const (.bool false)), none⟩,
    ⟨(some 104), .move (.tmp 103), none⟩,
    ⟨(some 105), .call ⟨.value (.func 3), #[], #[]⟩, (some (some 104, true))⟩,
    ⟨(some 106), .pick (.tmp 104) (.tmp 105) (.const (.bool false)), none⟩,
    ⟨(some 4), .assign (.tmp 106), none⟩]) .ret)
@[go_sem] theorem c_sheaflaw8_HeapOrder_27_at (rd : Option Nat) (K : Post3) (t : Fr) (m : Mem) : wpM E 7 107 rd c_sheaflaw8_HeapOrder_27 K t m = wpM E 7 107 rd (.seq (.ops [⟨(some 96), .move (.tmp 5), none⟩,
    ⟨(some 97), .call ⟨.value (.func 18), #[(.tmp 96)], #[22]⟩, none⟩,
    ⟨(some 98), .binOp .eql 3 (.tmp 97) (.const (.int .i64 0)) 3, none⟩,
    ⟨(some 99), .move (.tmp 98), none⟩,
    ⟨(some 100), .move (.tmp 6), (some (some 99, true))⟩,
    ⟨(some 101), .call ⟨.value (.func 18), #[(.tmp 100)], #[22]⟩, (some (some 99, true))⟩,
    ⟨(some 102), .binOp .eql 3 (.tmp 101) (.const (.int .i64 0)) 3, (some (some 99, true))⟩,
    ⟨(some 103), .pick (.tmp 99) (.tmp 102) (.const (.bool false)), none⟩,
    ⟨(some 104), .move (.tmp 103), none⟩,
    ⟨(some 105), .call ⟨.value (.func 3), #[], #[]⟩, (some (some 104, true))⟩,
    ⟨(some 106), .pick (.tmp 104) (.tmp 105) (.const (.bool false)), none⟩,
    ⟨(some 4), .assign (.tmp 106), none⟩]) .ret) K t m := rfl

def c_sheaflaw8_HeapOrder_28 : MC := (.seq c_sheaflaw8_HeapOrder_26 c_sheaflaw8_HeapOrder_27)
@[go_sem] theorem c_sheaflaw8_HeapOrder_28_at (rd : Option Nat) (K : Post3) (t : Fr) (m : Mem) : wpM E 7 107 rd c_sheaflaw8_HeapOrder_28 K t m = wpM E 7 107 rd (.seq c_sheaflaw8_HeapOrder_26 c_sheaflaw8_HeapOrder_27) K t m := rfl

def c_sheaflaw8_HeapOrder_29 : MC := (.seq c_sheaflaw8_HeapOrder_12 c_sheaflaw8_HeapOrder_28)
@[go_sem] theorem c_sheaflaw8_HeapOrder_29_at (rd : Option Nat) (K : Post3) (t : Fr) (m : Mem) : wpM E 7 107 rd c_sheaflaw8_HeapOrder_29 K t m = wpM E 7 107 rd (.seq c_sheaflaw8_HeapOrder_12 c_sheaflaw8_HeapOrder_28) K t m := rfl

def c_sheaflaw8_HeapOrder_30 : MC := (.seq (.ops [⟨(some 29), .move (.tmp 1), none⟩,
    ⟨(some 30), .move (.tmp 7), none⟩,
    ⟨(some 31), .call ⟨.builtin .len, #[(.tmp 30)], #[25]⟩, none⟩,
    ⟨(some 32), .call ⟨.value (.func 29), #[(.tmp 29), (.const (.int .i64 0)), (.tmp 31)], #[3, 3, 3]⟩, none⟩,
    ⟨(some 8), .assign (.tmp 32), none⟩]) c_sheaflaw8_HeapOrder_29)
@[go_sem] theorem c_sheaflaw8_HeapOrder_30_at (rd : Option Nat) (K : Post3) (t : Fr) (m : Mem) : wpM E 7 107 rd c_sheaflaw8_HeapOrder_30 K t m = wpM E 7 107 rd (.seq (.ops [⟨(some 29), .move (.tmp 1), none⟩,
    ⟨(some 30), .move (.tmp 7), none⟩,
    ⟨(some 31), .call ⟨.builtin .len, #[(.tmp 30)], #[25]⟩, none⟩,
    ⟨(some 32), .call ⟨.value (.func 29), #[(.tmp 29), (.const (.int .i64 0)), (.tmp 31)], #[3, 3, 3]⟩, none⟩,
    ⟨(some 8), .assign (.tmp 32), none⟩]) c_sheaflaw8_HeapOrder_29) K t m := rfl

def c_sheaflaw8_HeapOrder_31 : MC := (.seq (.ops [⟨(some 24), .move (.tmp 0), none⟩,
    ⟨(some 25), .move (.tmp 0), none⟩,
    ⟨(some 26), .call ⟨.builtin .len, #[(.tmp 25)], #[25]⟩, none⟩,
    ⟨(some 27), .call ⟨.builtin .min, #[(.tmp 26), (.const (.int .i64 40))], #[3, 3]⟩, none⟩,
    ⟨(some 28), .slice 25 (.tmp 24) none (some (.tmp 27)) none, none⟩,
    ⟨(some 7), .assign (.tmp 28), none⟩]) c_sheaflaw8_HeapOrder_30)
@[go_sem] theorem c_sheaflaw8_HeapOrder_31_at (rd : Option Nat) (K : Post3) (t : Fr) (m : Mem) : wpM E 7 107 rd c_sheaflaw8_HeapOrder_31 K t m = wpM E 7 107 rd (.seq (.ops [⟨(some 24), .move (.tmp 0), none⟩,
    ⟨(some 25), .move (.tmp 0), none⟩,
    ⟨(some 26), .call ⟨.builtin .len, #[(.tmp 25)], #[25]⟩, none⟩,
    ⟨(some 27), .call ⟨.builtin .min, #[(.tmp 26), (.const (.int .i64 40))], #[3, 3]⟩, none⟩,
    ⟨(some 28), .slice 25 (.tmp 24) none (some (.tmp 27)) none, none⟩,
    ⟨(some 7), .assign (.tmp 28), none⟩]) c_sheaflaw8_HeapOrder_30) K t m := rfl

def c_sheaflaw8_HeapOrder_32 : MC := (.seq c_sheaflaw8_HeapOrder_2 c_sheaflaw8_HeapOrder_31)
@[go_sem] theorem c_sheaflaw8_HeapOrder_32_at (rd : Option Nat) (K : Post3) (t : Fr) (m : Mem) : wpM E 7 107 rd c_sheaflaw8_HeapOrder_32 K t m = wpM E 7 107 rd (.seq c_sheaflaw8_HeapOrder_2 c_sheaflaw8_HeapOrder_31) K t m := rfl

def c_sheaflaw8_HeapOrder_33 : MC := (.seq (.ops [⟨(some 16), .call ⟨.value (.func 13), #[(.func 14)], #[24]⟩, none⟩,
    ⟨(some 17), .call ⟨.value (.func 13), #[(.func 14)], #[24]⟩, none⟩,
    ⟨(some 5), .assign (.tmp 16), none⟩,
    ⟨(some 6), .assign (.tmp 17), none⟩]) c_sheaflaw8_HeapOrder_32)
@[go_sem] theorem c_sheaflaw8_HeapOrder_33_at (rd : Option Nat) (K : Post3) (t : Fr) (m : Mem) : wpM E 7 107 rd c_sheaflaw8_HeapOrder_33 K t m = wpM E 7 107 rd (.seq (.ops [⟨(some 16), .call ⟨.value (.func 13), #[(.func 14)], #[24]⟩, none⟩,
    ⟨(some 17), .call ⟨.value (.func 13), #[(.func 14)], #[24]⟩, none⟩,
    ⟨(some 5), .assign (.tmp 16), none⟩,
    ⟨(some 6), .assign (.tmp 17), none⟩]) c_sheaflaw8_HeapOrder_32) K t m := rfl

def c_sheaflaw8_HeapOrder_34 : MC := (.seq (.ops [⟨(some 4), .assign (.const (.bool false)), none⟩]) c_sheaflaw8_HeapOrder_33)
@[go_sem] theorem c_sheaflaw8_HeapOrder_34_at (rd : Option Nat) (K : Post3) (t : Fr) (m : Mem) : wpM E 7 107 rd c_sheaflaw8_HeapOrder_34 K t m = wpM E 7 107 rd (.seq (.ops [⟨(some 4), .assign (.const (.bool false)), none⟩]) c_sheaflaw8_HeapOrder_33) K t m := rfl

@[go_sem] theorem some7 : (E.fn 7).isSome = true := by kernel_rfl
set_option maxRecDepth 100000 in
theorem fn_sheaflaw8_HeapOrder : FnIs E 7 107 [.tmp 4] c_sheaflaw8_HeapOrder_34 := ⟨by kernel_rfl, by kernel_rfl⟩

/-! sheaf/sheaflaw8.less -/
abbrev F_sheaflaw8_less : FuncId := 14
def c_sheaflaw8_less_0 : MC := (.seq (.ops [⟨(some 5), .move (.tmp 0), none⟩,
    ⟨(some 6), .move (.tmp 1), none⟩,
    ⟨(some 7), .binOp .lss 3 (.tmp 5) (.tmp 6) 3, none⟩,
    ⟨(some 4), .assign (.tmp 7), none⟩]) .ret)
@[go_sem] theorem c_sheaflaw8_less_0_at (rd : Option Nat) (K : Post3) (t : Fr) (m : Mem) : wpM E 14 8 rd c_sheaflaw8_less_0 K t m = wpM E 14 8 rd (.seq (.ops [⟨(some 5), .move (.tmp 0), none⟩,
    ⟨(some 6), .move (.tmp 1), none⟩,
    ⟨(some 7), .binOp .lss 3 (.tmp 5) (.tmp 6) 3, none⟩,
    ⟨(some 4), .assign (.tmp 7), none⟩]) .ret) K t m := rfl

def c_sheaflaw8_less_1 : MC := (.seq (.ops [⟨(some 4), .assign (.const (.bool false)), none⟩]) c_sheaflaw8_less_0)
@[go_sem] theorem c_sheaflaw8_less_1_at (rd : Option Nat) (K : Post3) (t : Fr) (m : Mem) : wpM E 14 8 rd c_sheaflaw8_less_1 K t m = wpM E 14 8 rd (.seq (.ops [⟨(some 4), .assign (.const (.bool false)), none⟩]) c_sheaflaw8_less_0) K t m := rfl

@[go_sem] theorem some14 : (E.fn 14).isSome = true := by kernel_rfl
set_option maxRecDepth 100000 in
theorem fn_sheaflaw8_less : FnIs E 14 8 [.tmp 4] c_sheaflaw8_less_1 := ⟨by kernel_rfl, by kernel_rfl⟩

/-! sheaf/sheaflaw8.HeapPairs$1 -/
abbrev F_sheaflaw8_HeapPairs_1 : FuncId := 21
def c_sheaflaw8_HeapPairs_1_0 : MC := (.seq (.ops [⟨(some 6), .load 4 (.tmp 2), none⟩,
    ⟨(some 7), .move (.tmp 6), none⟩,
    ⟨(some 8), .fieldAddr 39 (.tmp 3) 0, (some (some 7, true))⟩,
    ⟨(some 9), .load 3 (.tmp 8), (some (some 7, true))⟩,
    ⟨(some 10), .fieldAddr 39 (.tmp 4) 0, (some (some 7, true))⟩,
    ⟨(some 11), .load 3 (.tmp 10), (some (some 7, true))⟩,
    ⟨(some 12), .binOp .gtr 3 (.tmp 9) (.tmp 11) 3, (some (some 7, true))⟩,
    ⟨(some 13), .pick (.tmp 7) (.tmp 12) (.const (.bool false)), none⟩,
    ⟨(some 14), .move (.tmp 13), none⟩,
    ⟨(some 15), .load 4 (.tmp 2), (some (some 14, false))⟩,
    ⟨(some 16), .unOp .not 4 (.tmp 15), (some (some 14, false))⟩,
    ⟨(some 17), .move (.tmp 16), (some (some 14, false))⟩,
    ⟨(some 18), .fieldAddr 39 (.tmp 3) 0, (some (some 17, true))⟩,
    ⟨(some 19), .load 3 (.tmp 18), (some (some 17, true))⟩,
    ⟨(some 20), .fieldAddr 39 (.tmp 4) 0, (some (some 17, true))⟩,
    ⟨(some 21), .load 3 (.tmp 20), (some (some 17, true))⟩,
    ⟨(some 22), .binOp .lss 3 (.tmp 19) (.tmp 21) 3, (some (some 17, true))⟩,
    ⟨(some 23), .pick (.tmp 17) (.tmp 22) (.const (.bool false)), (some (some 14, false))⟩,
    ⟨(some 24), .pick (.tmp 14) (.const (.bool true)) (.tmp 23), none⟩,
    ⟨(some 5), .assign (.tmp 24), none⟩]) .ret)
@[go_sem] theorem c_sheaflaw8_HeapPairs_1_0_at (rd : Option Nat) (K : Post3) (t : Fr) (m : Mem) : wpM E 21 25 rd c_sheaflaw8_HeapPairs_1_0 K t m = wpM E 21 25 rd (.seq (.ops [⟨(some 6), .load 4 (.tmp 2), none⟩,
    ⟨(some 7), .move (.tmp 6), none⟩,
    ⟨(some 8), .fieldAddr 39 (.tmp 3) 0, (some (some 7, true))⟩,
    ⟨(some 9), .load 3 (.tmp 8), (some (some 7, true))⟩,
    ⟨(some 10), .fieldAddr 39 (.tmp 4) 0, (some (some 7, true))⟩,
    ⟨(some 11), .load 3 (.tmp 10), (some (some 7, true))⟩,
    ⟨(some 12), .binOp .gtr 3 (.tmp 9) (.tmp 11) 3, (some (some 7, true))⟩,
    ⟨(some 13), .pick (.tmp 7) (.tmp 12) (.const (.bool false)), none⟩,
    ⟨(some 14), .move (.tmp 13), none⟩,
    ⟨(some 15), .load 4 (.tmp 2), (some (some 14, false))⟩,
    ⟨(some 16), .unOp .not 4 (.tmp 15), (some (some 14, false))⟩,
    ⟨(some 17), .move (.tmp 16), (some (some 14, false))⟩,
    ⟨(some 18), .fieldAddr 39 (.tmp 3) 0, (some (some 17, true))⟩,
    ⟨(some 19), .load 3 (.tmp 18), (some (some 17, true))⟩,
    ⟨(some 20), .fieldAddr 39 (.tmp 4) 0, (some (some 17, true))⟩,
    ⟨(some 21), .load 3 (.tmp 20), (some (some 17, true))⟩,
    ⟨(some 22), .binOp .lss 3 (.tmp 19) (.tmp 21) 3, (some (some 17, true))⟩,
    ⟨(some 23), .pick (.tmp 17) (.tmp 22) (.const (.bool false)), (some (some 14, false))⟩,
    ⟨(some 24), .pick (.tmp 14) (.const (.bool true)) (.tmp 23), none⟩,
    ⟨(some 5), .assign (.tmp 24), none⟩]) .ret) K t m := rfl

def c_sheaflaw8_HeapPairs_1_1 : MC := (.seq (.ops [⟨(some 3), .box 39 (.tmp 0), none⟩,
    ⟨(some 4), .box 39 (.tmp 1), none⟩,
    ⟨(some 5), .assign (.const (.bool false)), none⟩]) c_sheaflaw8_HeapPairs_1_0)
@[go_sem] theorem c_sheaflaw8_HeapPairs_1_1_at (rd : Option Nat) (K : Post3) (t : Fr) (m : Mem) : wpM E 21 25 rd c_sheaflaw8_HeapPairs_1_1 K t m = wpM E 21 25 rd (.seq (.ops [⟨(some 3), .box 39 (.tmp 0), none⟩,
    ⟨(some 4), .box 39 (.tmp 1), none⟩,
    ⟨(some 5), .assign (.const (.bool false)), none⟩]) c_sheaflaw8_HeapPairs_1_0) K t m := rfl

@[go_sem] theorem some21 : (E.fn 21).isSome = true := by kernel_rfl
set_option maxRecDepth 100000 in
theorem fn_sheaflaw8_HeapPairs_1 : FnIs E 21 25 [.tmp 5] c_sheaflaw8_HeapPairs_1_1 := ⟨by kernel_rfl, by kernel_rfl⟩

/-! sheaf/sheaflaw8.HeapTexts$1 -/
abbrev F_sheaflaw8_HeapTexts_1 : FuncId := 25
def c_sheaflaw8_HeapTexts_1_0 : MC := (.seq (.ops [⟨(some 5), .move (.tmp 0), none⟩,
    ⟨(some 6), .call ⟨.builtin .len, #[(.tmp 5)], #[9]⟩, none⟩,
    ⟨(some 7), .move (.tmp 1), none⟩,
    ⟨(some 8), .call ⟨.builtin .len, #[(.tmp 7)], #[9]⟩, none⟩,
    ⟨(some 9), .binOp .lss 3 (.tmp 6) (.tmp 8) 3, none⟩,
    ⟨(some 4), .assign (.tmp 9), none⟩]) .ret)
@[go_sem] theorem c_sheaflaw8_HeapTexts_1_0_at (rd : Option Nat) (K : Post3) (t : Fr) (m : Mem) : wpM E 25 10 rd c_sheaflaw8_HeapTexts_1_0 K t m = wpM E 25 10 rd (.seq (.ops [⟨(some 5), .move (.tmp 0), none⟩,
    ⟨(some 6), .call ⟨.builtin .len, #[(.tmp 5)], #[9]⟩, none⟩,
    ⟨(some 7), .move (.tmp 1), none⟩,
    ⟨(some 8), .call ⟨.builtin .len, #[(.tmp 7)], #[9]⟩, none⟩,
    ⟨(some 9), .binOp .lss 3 (.tmp 6) (.tmp 8) 3, none⟩,
    ⟨(some 4), .assign (.tmp 9), none⟩]) .ret) K t m := rfl

def c_sheaflaw8_HeapTexts_1_1 : MC := (.seq (.ops [⟨(some 4), .assign (.const (.bool false)), none⟩]) c_sheaflaw8_HeapTexts_1_0)
@[go_sem] theorem c_sheaflaw8_HeapTexts_1_1_at (rd : Option Nat) (K : Post3) (t : Fr) (m : Mem) : wpM E 25 10 rd c_sheaflaw8_HeapTexts_1_1 K t m = wpM E 25 10 rd (.seq (.ops [⟨(some 4), .assign (.const (.bool false)), none⟩]) c_sheaflaw8_HeapTexts_1_0) K t m := rfl

@[go_sem] theorem some25 : (E.fn 25).isSome = true := by kernel_rfl
set_option maxRecDepth 100000 in
theorem fn_sheaflaw8_HeapTexts_1 : FnIs E 25 10 [.tmp 4] c_sheaflaw8_HeapTexts_1_1 := ⟨by kernel_rfl, by kernel_rfl⟩

end
end Go.Proofs.Ythlcbacmbcmgfaa.W
