/-
  Compact code, printed by a program of mine (wip/dev/AbsPrint.lean).
-/
import Derived.Test.YthlcbacmbcmgfaaTypes
set_option linter.unusedVariables false
namespace Go.Proofs.Ythlcbacmbcmgfaa.W
open Go.Abs
noncomputable section

/-! sheaf/sheaflaw11.RunsPlays -/
abbrev F_sheaflaw11_RunsPlays : FuncId := 9
def c_sheaflaw11_RunsPlays_0 : MC := (.cond (.tmp 30) .skip (.exit 0))
@[go_sem] theorem c_sheaflaw11_RunsPlays_0_at (rd : Option Nat) (K : Post3) (t : Fr) (m : Mem) : wpM E 9 163 rd c_sheaflaw11_RunsPlays_0 K t m = wpM E 9 163 rd (.cond (.tmp 30) .skip (.exit 0)) K t m := rfl

def c_sheaflaw11_RunsPlays_1 : MC := (.seq (.ops [⟨(some 26), .move (.tmp 8), none⟩,
    ⟨(some 27), .call ⟨.builtin .len, #[(.tmp 26)], #[60]⟩, none⟩,
    ⟨(some 28), .move (.tmp 5), none⟩,
    ⟨(some 29), .call ⟨.builtin .len, #[(.tmp 28)], #[25]⟩, none⟩,
    ⟨(some 30), .binOp .lss 3 (.tmp 27) (.tmp 29) 3, none⟩]) c_sheaflaw11_RunsPlays_0)
@[go_sem] theorem c_sheaflaw11_RunsPlays_1_at (rd : Option Nat) (K : Post3) (t : Fr) (m : Mem) : wpM E 9 163 rd c_sheaflaw11_RunsPlays_1 K t m = wpM E 9 163 rd (.seq (.ops [⟨(some 26), .move (.tmp 8), none⟩,
    ⟨(some 27), .call ⟨.builtin .len, #[(.tmp 26)], #[60]⟩, none⟩,
    ⟨(some 28), .move (.tmp 5), none⟩,
    ⟨(some 29), .call ⟨.builtin .len, #[(.tmp 28)], #[25]⟩, none⟩,
    ⟨(some 30), .binOp .lss 3 (.tmp 27) (.tmp 29) 3, none⟩]) c_sheaflaw11_RunsPlays_0) K t m := rfl

def c_sheaflaw11_RunsPlays_2 : MC := (.seq (.ops [⟨(some 48), .move (.tmp 10), none⟩,
    ⟨(some 49), .binOp .add 3 (.tmp 48) (.const (.int .i64 1)) 3, none⟩,
    ⟨(some 10), .assign (.tmp 49), none⟩]) (.exit 1))
@[go_sem] theorem c_sheaflaw11_RunsPlays_2_at (rd : Option Nat) (K : Post3) (t : Fr) (m : Mem) : wpM E 9 163 rd c_sheaflaw11_RunsPlays_2 K t m = wpM E 9 163 rd (.seq (.ops [⟨(some 48), .move (.tmp 10), none⟩,
    ⟨(some 49), .binOp .add 3 (.tmp 48) (.const (.int .i64 1)) 3, none⟩,
    ⟨(some 10), .assign (.tmp 49), none⟩]) (.exit 1)) K t m := rfl

def c_sheaflaw11_RunsPlays_3 : MC := (.seq (.ops [⟨(some 40), .move (.tmp 9), none⟩,
    ⟨(some 41), .move (.tmp 5), none⟩,
    ⟨(some 42), .move (.tmp 10), none⟩,
    ⟨(some 43), .indexAddr 25 (.tmp 41) (.tmp 42), none⟩,
    ⟨(some 44), .load 3 (.tmp 43), none⟩,
    ⟨(some 45), .build 64 #[(1, (.tmp 44))], none⟩,
    ⟨(some 46), .buildSlice 60 1 #[(0, (.tmp 45))], none⟩,
    ⟨(some 47), .call ⟨.builtin .append, #[(.tmp 40), (.tmp 46)], #[60, 60]⟩, none⟩,
    ⟨(some 9), .assign (.tmp 47), none⟩]) c_sheaflaw11_RunsPlays_2)
@[go_sem] theorem c_sheaflaw11_RunsPlays_3_at (rd : Option Nat) (K : Post3) (t : Fr) (m : Mem) : wpM E 9 163 rd c_sheaflaw11_RunsPlays_3 K t m = wpM E 9 163 rd (.seq (.ops [⟨(some 40), .move (.tmp 9), none⟩,
    ⟨(some 41), .move (.tmp 5), none⟩,
    ⟨(some 42), .move (.tmp 10), none⟩,
    ⟨(some 43), .indexAddr 25 (.tmp 41) (.tmp 42), none⟩,
    ⟨(some 44), .load 3 (.tmp 43), none⟩,
    ⟨(some 45), .build 64 #[(1, (.tmp 44))], none⟩,
    ⟨(some 46), .buildSlice 60 1 #[(0, (.tmp 45))], none⟩,
    ⟨(some 47), .call ⟨.builtin .append, #[(.tmp 40), (.tmp 46)], #[60, 60]⟩, none⟩,
    ⟨(some 9), .assign (.tmp 47), none⟩]) c_sheaflaw11_RunsPlays_2) K t m := rfl

def c_sheaflaw11_RunsPlays_4 : MC := (.cond (.tmp 39) c_sheaflaw11_RunsPlays_3 .skip)
@[go_sem] theorem c_sheaflaw11_RunsPlays_4_at (rd : Option Nat) (K : Post3) (t : Fr) (m : Mem) : wpM E 9 163 rd c_sheaflaw11_RunsPlays_4 K t m = wpM E 9 163 rd (.cond (.tmp 39) c_sheaflaw11_RunsPlays_3 .skip) K t m := rfl

def c_sheaflaw11_RunsPlays_5 : MC := (.seq (.ops [⟨(some 31), .move (.tmp 10), none⟩,
    ⟨(some 32), .move (.tmp 5), none⟩,
    ⟨(some 33), .call ⟨.builtin .len, #[(.tmp 32)], #[25]⟩, none⟩,
    ⟨(some 34), .binOp .lss 3 (.tmp 31) (.tmp 33) 3, none⟩,
    ⟨(some 35), .move (.tmp 34), none⟩,
    ⟨(some 36), .move (.tmp 10), (some (some 35, true))⟩,
    ⟨(some 37), .move (.tmp 6), (some (some 35, true))⟩,
    ⟨(some 38), .binOp .lss 3 (.tmp 36) (.tmp 37) 3, (some (some 35, true))⟩,
    ⟨(some 39), .pick (.tmp 35) (.tmp 38) (.const (.bool false)), none⟩]) c_sheaflaw11_RunsPlays_4)
@[go_sem] theorem c_sheaflaw11_RunsPlays_5_at (rd : Option Nat) (K : Post3) (t : Fr) (m : Mem) : wpM E 9 163 rd c_sheaflaw11_RunsPlays_5 K t m = wpM E 9 163 rd (.seq (.ops [⟨(some 31), .move (.tmp 10), none⟩,
    ⟨(some 32), .move (.tmp 5), none⟩,
    ⟨(some 33), .call ⟨.builtin .len, #[(.tmp 32)], #[25]⟩, none⟩,
    ⟨(some 34), .binOp .lss 3 (.tmp 31) (.tmp 33) 3, none⟩,
    ⟨(some 35), .move (.tmp 34), none⟩,
    ⟨(some 36), .move (.tmp 10), (some (some 35, true))⟩,
    ⟨(some 37), .move (.tmp 6), (some (some 35, true))⟩,
    ⟨(some 38), .binOp .lss 3 (.tmp 36) (.tmp 37) 3, (some (some 35, true))⟩,
    ⟨(some 39), .pick (.tmp 35) (.tmp 38) (.const (.bool false)), none⟩]) c_sheaflaw11_RunsPlays_4) K t m := rfl

def c_sheaflaw11_RunsPlays_6 : MC := (.seq (.ops [⟨(some 4), .assign (.const (.bool false)), none⟩]) .ret)
@[go_sem] theorem c_sheaflaw11_RunsPlays_6_at (rd : Option Nat) (K : Post3) (t : Fr) (m : Mem) : wpM E 9 163 rd c_sheaflaw11_RunsPlays_6 K t m = wpM E 9 163 rd (.seq (.ops [⟨(some 4), .assign (.const (.bool false)), none⟩]) .ret) K t m := rfl

def c_sheaflaw11_RunsPlays_7 : MC := (.cond (.tmp 52) c_sheaflaw11_RunsPlays_6 .skip)
@[go_sem] theorem c_sheaflaw11_RunsPlays_7_at (rd : Option Nat) (K : Post3) (t : Fr) (m : Mem) : wpM E 9 163 rd c_sheaflaw11_RunsPlays_7 K t m = wpM E 9 163 rd (.cond (.tmp 52) c_sheaflaw11_RunsPlays_6 .skip) K t m := rfl

def c_sheaflaw11_RunsPlays_8 : MC := (.seq (.ops [⟨(some 50), .move (.tmp 9), none⟩,
    ⟨(some 51), .call ⟨.builtin .len, #[(.tmp 50)], #[60]⟩, none⟩,
    ⟨(some 52), .binOp .lss 3 (.tmp 51) (.const (.int .i64 1)) 3, none⟩]) c_sheaflaw11_RunsPlays_7)
@[go_sem] theorem c_sheaflaw11_RunsPlays_8_at (rd : Option Nat) (K : Post3) (t : Fr) (m : Mem) : wpM E 9 163 rd c_sheaflaw11_RunsPlays_8 K t m = wpM E 9 163 rd (.seq (.ops [⟨(some 50), .move (.tmp 9), none⟩,
    ⟨(some 51), .call ⟨.builtin .len, #[(.tmp 50)], #[60]⟩, none⟩,
    ⟨(some 52), .binOp .lss 3 (.tmp 51) (.const (.int .i64 1)) 3, none⟩]) c_sheaflaw11_RunsPlays_7) K t m := rfl

def c_sheaflaw11_RunsPlays_9 : MC := (.cond (.tmp 56) .skip (.exit 2))
@[go_sem] theorem c_sheaflaw11_RunsPlays_9_at (rd : Option Nat) (K : Post3) (t : Fr) (m : Mem) : wpM E 9 163 rd c_sheaflaw11_RunsPlays_9 K t m = wpM E 9 163 rd (.cond (.tmp 56) .skip (.exit 2)) K t m := rfl

def c_sheaflaw11_RunsPlays_10 : MC := (.cond (.tmp 87) (.ops [⟨(some 88), .move (.tmp 12), none⟩,
    ⟨(some 11), .assign (.tmp 88), none⟩]) .skip)
@[go_sem] theorem c_sheaflaw11_RunsPlays_10_at (rd : Option Nat) (K : Post3) (t : Fr) (m : Mem) : wpM E 9 163 rd c_sheaflaw11_RunsPlays_10 K t m = wpM E 9 163 rd (.cond (.tmp 87) (.ops [⟨(some 88), .move (.tmp 12), none⟩,
    ⟨(some 11), .assign (.tmp 88), none⟩]) .skip) K t m := rfl

def c_sheaflaw11_RunsPlays_11 : MC := (.seq (.ops [⟨(some 60), .fieldAddr 64 (.tmp 13) 0, none⟩,
    ⟨(some 61), .load 3 (.tmp 60), none⟩,
    ⟨(some 62), .move (.tmp 9), none⟩,
    ⟨(some 63), .move (.tmp 11), none⟩,
    ⟨(some 64), .indexAddr 60 (.tmp 62) (.tmp 63), none⟩,
    ⟨(some 65), .fieldAddr 64 (.tmp 64) 0, none⟩,
    ⟨(some 66), .load 3 (.tmp 65), none⟩,
    ⟨(some 67), .binOp .lss 3 (.tmp 61) (.tmp 66) 3, none⟩,
    ⟨(some 68), .move (.tmp 67), none⟩,
    ⟨(some 69), .fieldAddr 64 (.tmp 13) 0, (some (some 68, false))⟩,
    ⟨(some 70), .load 3 (.tmp 69), (some (some 68, false))⟩,
    ⟨(some 71), .move (.tmp 9), (some (some 68, false))⟩,
    ⟨(some 72), .move (.tmp 11), (some (some 68, false))⟩,
    ⟨(some 73), .indexAddr 60 (.tmp 71) (.tmp 72), (some (some 68, false))⟩,
    ⟨(some 74), .fieldAddr 64 (.tmp 73) 0, (some (some 68, false))⟩,
    ⟨(some 75), .load 3 (.tmp 74), (some (some 68, false))⟩,
    ⟨(some 76), .binOp .eql 3 (.tmp 70) (.tmp 75) 3, (some (some 68, false))⟩,
    ⟨(some 77), .move (.tmp 76), (some (some 68, false))⟩,
    ⟨(some 78), .fieldAddr 64 (.tmp 13) 1, (some (some 77, true))⟩,
    ⟨(some 79), .load 3 (.tmp 78), (some (some 77, true))⟩,
    ⟨(some 80), .move (.tmp 9), (some (some 77, true))⟩,
    ⟨(some 81), .move (.tmp 11), (some (some 77, true))⟩,
    ⟨(some 82), .indexAddr 60 (.tmp 80) (.tmp 81), (some (some 77, true))⟩,
    ⟨(some 83), .fieldAddr 64 (.tmp 82) 1, (some (some 77, true))⟩,
    ⟨(some 84), .load 3 (.tmp 83), (some (some 77, true))⟩,
    ⟨(some 85), .binOp .lss 3 (.tmp 79) (.tmp 84) 3, (some (some 77, true))⟩,
    ⟨(some 86), .pick (.tmp 77) (.tmp 85) (.const (.bool false)), (some (some 68, false))⟩,
    ⟨(some 87), .pick (.tmp 68) (.const (.bool true)) (.tmp 86), none⟩]) c_sheaflaw11_RunsPlays_10)
@[go_sem] theorem c_sheaflaw11_RunsPlays_11_at (rd : Option Nat) (K : Post3) (t : Fr) (m : Mem) : wpM E 9 163 rd c_sheaflaw11_RunsPlays_11 K t m = wpM E 9 163 rd (.seq (.ops [⟨(some 60), .fieldAddr 64 (.tmp 13) 0, none⟩,
    ⟨(some 61), .load 3 (.tmp 60), none⟩,
    ⟨(some 62), .move (.tmp 9), none⟩,
    ⟨(some 63), .move (.tmp 11), none⟩,
    ⟨(some 64), .indexAddr 60 (.tmp 62) (.tmp 63), none⟩,
    ⟨(some 65), .fieldAddr 64 (.tmp 64) 0, none⟩,
    ⟨(some 66), .load 3 (.tmp 65), none⟩,
    ⟨(some 67), .binOp .lss 3 (.tmp 61) (.tmp 66) 3, none⟩,
    ⟨(some 68), .move (.tmp 67), none⟩,
    ⟨(some 69), .fieldAddr 64 (.tmp 13) 0, (some (some 68, false))⟩,
    ⟨(some 70), .load 3 (.tmp 69), (some (some 68, false))⟩,
    ⟨(some 71), .move (.tmp 9), (some (some 68, false))⟩,
    ⟨(some 72), .move (.tmp 11), (some (some 68, false))⟩,
    ⟨(some 73), .indexAddr 60 (.tmp 71) (.tmp 72), (some (some 68, false))⟩,
    ⟨(some 74), .fieldAddr 64 (.tmp 73) 0, (some (some 68, false))⟩,
    ⟨(some 75), .load 3 (.tmp 74), (some (some 68, false))⟩,
    ⟨(some 76), .binOp .eql 3 (.tmp 70) (.tmp 75) 3, (some (some 68, false))⟩,
    ⟨(some 77), .move (.tmp 76), (some (some 68, false))⟩,
    ⟨(some 78), .fieldAddr 64 (.tmp 13) 1, (some (some 77, true))⟩,
    ⟨(some 79), .load 3 (.tmp 78), (some (some 77, true))⟩,
    ⟨(some 80), .move (.tmp 9), (some (some 77, true))⟩,
    ⟨(some 81), .move (.tmp 11), (some (some 77, true))⟩,
    ⟨(some 82), .indexAddr 60 (.tmp 80) (.tmp 81), (some (some 77, true))⟩,
    ⟨(some 83), .fieldAddr 64 (.tmp 82) 1, (some (some 77, true))⟩,
    ⟨(some 84), .load 3 (.tmp 83), (some (some 77, true))⟩,
    ⟨(some 85), .binOp .lss 3 (.tmp 79) (.tmp 84) 3, (some (some 77, true))⟩,
    ⟨(some 86), .pick (.tmp 77) (.tmp 85) (.const (.bool false)), (some (some 68, false))⟩,
    ⟨(some 87), .pick (.tmp 68) (.const (.bool true)) (.tmp 86), none⟩]) c_sheaflaw11_RunsPlays_10) K t m := rfl

def c_sheaflaw11_RunsPlays_12 : MC := (.seq (.ops [⟨(some 57), .move (.tmp 55), none⟩,
    ⟨(some 58), .indexAddr 60 (.tmp 53) (.tmp 55), none⟩,
    ⟨(some 59), .load 64 (.tmp 58), none⟩,
    ⟨(some 13), .alloc 64, none⟩,
    ⟨(some 12), .assign (.tmp 57), none⟩,
    ⟨none, .store 64 (.tmp 13) (.tmp 59), none⟩]) c_sheaflaw11_RunsPlays_11)
@[go_sem] theorem c_sheaflaw11_RunsPlays_12_at (rd : Option Nat) (K : Post3) (t : Fr) (m : Mem) : wpM E 9 163 rd c_sheaflaw11_RunsPlays_12 K t m = wpM E 9 163 rd (.seq (.ops [⟨(some 57), .move (.tmp 55), none⟩,
    ⟨(some 58), .indexAddr 60 (.tmp 53) (.tmp 55), none⟩,
    ⟨(some 59), .load 64 (.tmp 58), none⟩,
    ⟨(some 13), .alloc 64, none⟩,
    ⟨(some 12), .assign (.tmp 57), none⟩,
    ⟨none, .store 64 (.tmp 13) (.tmp 59), none⟩]) c_sheaflaw11_RunsPlays_11) K t m := rfl

def c_sheaflaw11_RunsPlays_13 : MC := (.block 3 c_sheaflaw11_RunsPlays_12)
@[go_sem] theorem c_sheaflaw11_RunsPlays_13_at (rd : Option Nat) (K : Post3) (t : Fr) (m : Mem) : wpM E 9 163 rd c_sheaflaw11_RunsPlays_13 K t m = wpM E 9 163 rd (.block 3 c_sheaflaw11_RunsPlays_12) K t m := rfl

def c_sheaflaw11_RunsPlays_14 : MC := (.seq c_sheaflaw11_RunsPlays_13 (.ops [⟨(some 89), .binOp .add 3 (.tmp 55) (.const (.int .i64 1)) 3, none⟩,
    ⟨(some 55), .move (.tmp 89), none⟩]))
@[go_sem] theorem c_sheaflaw11_RunsPlays_14_at (rd : Option Nat) (K : Post3) (t : Fr) (m : Mem) : wpM E 9 163 rd c_sheaflaw11_RunsPlays_14 K t m = wpM E 9 163 rd (.seq c_sheaflaw11_RunsPlays_13 (.ops [⟨(some 89), .binOp .add 3 (.tmp 55) (.const (.int .i64 1)) 3, none⟩,
    ⟨(some 55), .move (.tmp 89), none⟩])) K t m := rfl

def c_sheaflaw11_RunsPlays_15 : MC := (.seq c_sheaflaw11_RunsPlays_9 c_sheaflaw11_RunsPlays_14)
@[go_sem] theorem c_sheaflaw11_RunsPlays_15_at (rd : Option Nat) (K : Post3) (t : Fr) (m : Mem) : wpM E 9 163 rd c_sheaflaw11_RunsPlays_15 K t m = wpM E 9 163 rd (.seq c_sheaflaw11_RunsPlays_9 c_sheaflaw11_RunsPlays_14) K t m := rfl

def c_sheaflaw11_RunsPlays_16 : MC := (.seq (.ops [⟨(some 56), .binOp .lss 3 (.tmp 55) (.tmp 54) 3, none⟩]) c_sheaflaw11_RunsPlays_15)
@[go_sem] theorem c_sheaflaw11_RunsPlays_16_at (rd : Option Nat) (K : Post3) (t : Fr) (m : Mem) : wpM E 9 163 rd c_sheaflaw11_RunsPlays_16 K t m = wpM E 9 163 rd (.seq (.ops [⟨(some 56), .binOp .lss 3 (.tmp 55) (.tmp 54) 3, none⟩]) c_sheaflaw11_RunsPlays_15) K t m := rfl

def c_sheaflaw11_RunsPlays_17 : MC := (.loop c_sheaflaw11_RunsPlays_16)
theorem c_sheaflaw11_RunsPlays_17_at (rd : Option Nat) (K : Post3) (t : Fr) (m : Mem) : wpM E 9 163 rd c_sheaflaw11_RunsPlays_17 K t m = wpM E 9 163 rd (.loop c_sheaflaw11_RunsPlays_16) K t m := rfl

def c_sheaflaw11_RunsPlays_18 : MC := (.block 2 c_sheaflaw11_RunsPlays_17)
theorem c_sheaflaw11_RunsPlays_18_at (rd : Option Nat) (K : Post3) (t : Fr) (m : Mem) : wpM E 9 163 rd c_sheaflaw11_RunsPlays_18 K t m = wpM E 9 163 rd (.block 2 c_sheaflaw11_RunsPlays_17) K t m := rfl

def c_sheaflaw11_RunsPlays_19 : MC := (.seq (.ops [⟨(some 53), .move (.tmp 9), none⟩,
    ⟨(some 54), .call ⟨.builtin .len, #[(.tmp 53)], #[60]⟩, none⟩,
    ⟨(some 55), .move (.const (.int .i64 0)), none⟩]) c_sheaflaw11_RunsPlays_18)
@[go_sem] theorem c_sheaflaw11_RunsPlays_19_at (rd : Option Nat) (K : Post3) (t : Fr) (m : Mem) : wpM E 9 163 rd c_sheaflaw11_RunsPlays_19 K t m = wpM E 9 163 rd (.seq (.ops [⟨(some 53), .move (.tmp 9), none⟩,
    ⟨(some 54), .call ⟨.builtin .len, #[(.tmp 53)], #[60]⟩, none⟩,
    ⟨(some 55), .move (.const (.int .i64 0)), none⟩]) c_sheaflaw11_RunsPlays_18) K t m := rfl

def c_sheaflaw11_RunsPlays_20 : MC := (.cond (.tmp 125) (.ops [⟨(some 126), .fieldAddr 64 (.tmp 15) 0, none⟩,
    ⟨(some 127), .load 3 (.tmp 126), none⟩,
    ⟨(some 128), .binOp .add 3 (.tmp 127) (.const (.int .i64 1)) 3, none⟩,
    ⟨(some 129), .fieldAddr 64 (.tmp 15) 0, none⟩,
    ⟨none, .store 3 (.tmp 129) (.tmp 128), none⟩]) .skip)
@[go_sem] theorem c_sheaflaw11_RunsPlays_20_at (rd : Option Nat) (K : Post3) (t : Fr) (m : Mem) : wpM E 9 163 rd c_sheaflaw11_RunsPlays_20 K t m = wpM E 9 163 rd (.cond (.tmp 125) (.ops [⟨(some 126), .fieldAddr 64 (.tmp 15) 0, none⟩,
    ⟨(some 127), .load 3 (.tmp 126), none⟩,
    ⟨(some 128), .binOp .add 3 (.tmp 127) (.const (.int .i64 1)) 3, none⟩,
    ⟨(some 129), .fieldAddr 64 (.tmp 15) 0, none⟩,
    ⟨none, .store 3 (.tmp 129) (.tmp 128), none⟩]) .skip) K t m := rfl

def c_sheaflaw11_RunsPlays_21 : MC := (.seq (.ops [⟨(some 119), .move (.tmp 5), none⟩,
    ⟨(some 120), .move (.tmp 10), none⟩,
    ⟨(some 121), .indexAddr 25 (.tmp 119) (.tmp 120), none⟩,
    ⟨(some 122), .load 3 (.tmp 121), none⟩,
    ⟨(some 123), .fieldAddr 64 (.tmp 14) 1, none⟩,
    ⟨(some 124), .load 3 (.tmp 123), none⟩,
    ⟨(some 125), .binOp .lss 3 (.tmp 122) (.tmp 124) 3, none⟩]) c_sheaflaw11_RunsPlays_20)
@[go_sem] theorem c_sheaflaw11_RunsPlays_21_at (rd : Option Nat) (K : Post3) (t : Fr) (m : Mem) : wpM E 9 163 rd c_sheaflaw11_RunsPlays_21 K t m = wpM E 9 163 rd (.seq (.ops [⟨(some 119), .move (.tmp 5), none⟩,
    ⟨(some 120), .move (.tmp 10), none⟩,
    ⟨(some 121), .indexAddr 25 (.tmp 119) (.tmp 120), none⟩,
    ⟨(some 122), .load 3 (.tmp 121), none⟩,
    ⟨(some 123), .fieldAddr 64 (.tmp 14) 1, none⟩,
    ⟨(some 124), .load 3 (.tmp 123), none⟩,
    ⟨(some 125), .binOp .lss 3 (.tmp 122) (.tmp 124) 3, none⟩]) c_sheaflaw11_RunsPlays_20) K t m := rfl

def c_sheaflaw11_RunsPlays_22 : MC := (.seq (.ops [⟨(some 130), .move (.tmp 9), none⟩,
    ⟨(some 131), .load 64 (.tmp 15), none⟩,
    ⟨(some 132), .buildSlice 60 1 #[(0, (.tmp 131))], none⟩,
    ⟨(some 133), .call ⟨.builtin .append, #[(.tmp 130), (.tmp 132)], #[60, 60]⟩, none⟩,
    ⟨(some 9), .assign (.tmp 133), none⟩]) (.ops [⟨(some 134), .move (.tmp 10), none⟩,
    ⟨(some 135), .binOp .add 3 (.tmp 134) (.const (.int .i64 1)) 3, none⟩,
    ⟨(some 10), .assign (.tmp 135), none⟩]))
@[go_sem] theorem c_sheaflaw11_RunsPlays_22_at (rd : Option Nat) (K : Post3) (t : Fr) (m : Mem) : wpM E 9 163 rd c_sheaflaw11_RunsPlays_22 K t m = wpM E 9 163 rd (.seq (.ops [⟨(some 130), .move (.tmp 9), none⟩,
    ⟨(some 131), .load 64 (.tmp 15), none⟩,
    ⟨(some 132), .buildSlice 60 1 #[(0, (.tmp 131))], none⟩,
    ⟨(some 133), .call ⟨.builtin .append, #[(.tmp 130), (.tmp 132)], #[60, 60]⟩, none⟩,
    ⟨(some 9), .assign (.tmp 133), none⟩]) (.ops [⟨(some 134), .move (.tmp 10), none⟩,
    ⟨(some 135), .binOp .add 3 (.tmp 134) (.const (.int .i64 1)) 3, none⟩,
    ⟨(some 10), .assign (.tmp 135), none⟩])) K t m := rfl

def c_sheaflaw11_RunsPlays_23 : MC := (.seq c_sheaflaw11_RunsPlays_21 c_sheaflaw11_RunsPlays_22)
@[go_sem] theorem c_sheaflaw11_RunsPlays_23_at (rd : Option Nat) (K : Post3) (t : Fr) (m : Mem) : wpM E 9 163 rd c_sheaflaw11_RunsPlays_23 K t m = wpM E 9 163 rd (.seq c_sheaflaw11_RunsPlays_21 c_sheaflaw11_RunsPlays_22) K t m := rfl

def c_sheaflaw11_RunsPlays_24 : MC := (.seq (.ops [⟨(some 112), .fieldAddr 64 (.tmp 14) 0, none⟩,
    ⟨(some 113), .load 3 (.tmp 112), none⟩,
    ⟨(some 114), .move (.tmp 5), none⟩,
    ⟨(some 115), .move (.tmp 10), none⟩,
    ⟨(some 116), .indexAddr 25 (.tmp 114) (.tmp 115), none⟩,
    ⟨(some 117), .load 3 (.tmp 116), none⟩,
    ⟨(some 118), .build 64 #[(0, (.tmp 113)), (1, (.tmp 117))], none⟩,
    ⟨(some 15), .alloc 64, none⟩,
    ⟨none, .store 64 (.tmp 15) (.tmp 118), none⟩]) c_sheaflaw11_RunsPlays_23)
@[go_sem] theorem c_sheaflaw11_RunsPlays_24_at (rd : Option Nat) (K : Post3) (t : Fr) (m : Mem) : wpM E 9 163 rd c_sheaflaw11_RunsPlays_24 K t m = wpM E 9 163 rd (.seq (.ops [⟨(some 112), .fieldAddr 64 (.tmp 14) 0, none⟩,
    ⟨(some 113), .load 3 (.tmp 112), none⟩,
    ⟨(some 114), .move (.tmp 5), none⟩,
    ⟨(some 115), .move (.tmp 10), none⟩,
    ⟨(some 116), .indexAddr 25 (.tmp 114) (.tmp 115), none⟩,
    ⟨(some 117), .load 3 (.tmp 116), none⟩,
    ⟨(some 118), .build 64 #[(0, (.tmp 113)), (1, (.tmp 117))], none⟩,
    ⟨(some 15), .alloc 64, none⟩,
    ⟨none, .store 64 (.tmp 15) (.tmp 118), none⟩]) c_sheaflaw11_RunsPlays_23) K t m := rfl

def c_sheaflaw11_RunsPlays_25 : MC := (.cond (.tmp 111) c_sheaflaw11_RunsPlays_24 .skip)
@[go_sem] theorem c_sheaflaw11_RunsPlays_25_at (rd : Option Nat) (K : Post3) (t : Fr) (m : Mem) : wpM E 9 163 rd c_sheaflaw11_RunsPlays_25 K t m = wpM E 9 163 rd (.cond (.tmp 111) c_sheaflaw11_RunsPlays_24 .skip) K t m := rfl

def c_sheaflaw11_RunsPlays_26 : MC := (.seq (.ops [⟨(some 108), .move (.tmp 10), none⟩,
    ⟨(some 109), .move (.tmp 5), none⟩,
    ⟨(some 110), .call ⟨.builtin .len, #[(.tmp 109)], #[25]⟩, none⟩,
    ⟨(some 111), .binOp .lss 3 (.tmp 108) (.tmp 110) 3, none⟩]) c_sheaflaw11_RunsPlays_25)
@[go_sem] theorem c_sheaflaw11_RunsPlays_26_at (rd : Option Nat) (K : Post3) (t : Fr) (m : Mem) : wpM E 9 163 rd c_sheaflaw11_RunsPlays_26 K t m = wpM E 9 163 rd (.seq (.ops [⟨(some 108), .move (.tmp 10), none⟩,
    ⟨(some 109), .move (.tmp 5), none⟩,
    ⟨(some 110), .call ⟨.builtin .len, #[(.tmp 109)], #[25]⟩, none⟩,
    ⟨(some 111), .binOp .lss 3 (.tmp 108) (.tmp 110) 3, none⟩]) c_sheaflaw11_RunsPlays_25) K t m := rfl

def c_sheaflaw11_RunsPlays_27 : MC := (.seq (.ops [⟨(some 98), .buildSlice 60 0 #[], none⟩,
    ⟨(some 99), .move (.tmp 9), none⟩,
    ⟨(some 100), .move (.tmp 11), none⟩,
    ⟨(some 101), .slice 60 (.tmp 99) none (some (.tmp 100)) none, none⟩,
    ⟨(some 102), .call ⟨.builtin .append, #[(.tmp 98), (.tmp 101)], #[60, 60]⟩, none⟩,
    ⟨(some 103), .move (.tmp 9), none⟩,
    ⟨(some 104), .move (.tmp 11), none⟩,
    ⟨(some 105), .binOp .add 3 (.tmp 104) (.const (.int .i64 1)) 3, none⟩,
    ⟨(some 106), .slice 60 (.tmp 103) (some (.tmp 105)) none none, none⟩,
    ⟨(some 107), .call ⟨.builtin .append, #[(.tmp 102), (.tmp 106)], #[60, 60]⟩, none⟩,
    ⟨(some 9), .assign (.tmp 107), none⟩]) c_sheaflaw11_RunsPlays_26)
@[go_sem] theorem c_sheaflaw11_RunsPlays_27_at (rd : Option Nat) (K : Post3) (t : Fr) (m : Mem) : wpM E 9 163 rd c_sheaflaw11_RunsPlays_27 K t m = wpM E 9 163 rd (.seq (.ops [⟨(some 98), .buildSlice 60 0 #[], none⟩,
    ⟨(some 99), .move (.tmp 9), none⟩,
    ⟨(some 100), .move (.tmp 11), none⟩,
    ⟨(some 101), .slice 60 (.tmp 99) none (some (.tmp 100)) none, none⟩,
    ⟨(some 102), .call ⟨.builtin .append, #[(.tmp 98), (.tmp 101)], #[60, 60]⟩, none⟩,
    ⟨(some 103), .move (.tmp 9), none⟩,
    ⟨(some 104), .move (.tmp 11), none⟩,
    ⟨(some 105), .binOp .add 3 (.tmp 104) (.const (.int .i64 1)) 3, none⟩,
    ⟨(some 106), .slice 60 (.tmp 103) (some (.tmp 105)) none none, none⟩,
    ⟨(some 107), .call ⟨.builtin .append, #[(.tmp 102), (.tmp 106)], #[60, 60]⟩, none⟩,
    ⟨(some 9), .assign (.tmp 107), none⟩]) c_sheaflaw11_RunsPlays_26) K t m := rfl

def c_sheaflaw11_RunsPlays_28 : MC := (.seq (.ops [⟨(some 94), .move (.tmp 8), none⟩,
    ⟨(some 95), .load 64 (.tmp 14), none⟩,
    ⟨(some 96), .buildSlice 60 1 #[(0, (.tmp 95))], none⟩,
    ⟨(some 97), .call ⟨.builtin .append, #[(.tmp 94), (.tmp 96)], #[60, 60]⟩, none⟩,
    ⟨(some 8), .assign (.tmp 97), none⟩]) c_sheaflaw11_RunsPlays_27)
@[go_sem] theorem c_sheaflaw11_RunsPlays_28_at (rd : Option Nat) (K : Post3) (t : Fr) (m : Mem) : wpM E 9 163 rd c_sheaflaw11_RunsPlays_28 K t m = wpM E 9 163 rd (.seq (.ops [⟨(some 94), .move (.tmp 8), none⟩,
    ⟨(some 95), .load 64 (.tmp 14), none⟩,
    ⟨(some 96), .buildSlice 60 1 #[(0, (.tmp 95))], none⟩,
    ⟨(some 97), .call ⟨.builtin .append, #[(.tmp 94), (.tmp 96)], #[60, 60]⟩, none⟩,
    ⟨(some 8), .assign (.tmp 97), none⟩]) c_sheaflaw11_RunsPlays_27) K t m := rfl

def c_sheaflaw11_RunsPlays_29 : MC := (.seq (.ops [⟨(some 90), .move (.tmp 9), none⟩,
    ⟨(some 91), .move (.tmp 11), none⟩,
    ⟨(some 92), .indexAddr 60 (.tmp 90) (.tmp 91), none⟩,
    ⟨(some 93), .load 64 (.tmp 92), none⟩,
    ⟨(some 14), .alloc 64, none⟩,
    ⟨none, .store 64 (.tmp 14) (.tmp 93), none⟩]) c_sheaflaw11_RunsPlays_28)
@[go_sem] theorem c_sheaflaw11_RunsPlays_29_at (rd : Option Nat) (K : Post3) (t : Fr) (m : Mem) : wpM E 9 163 rd c_sheaflaw11_RunsPlays_29 K t m = wpM E 9 163 rd (.seq (.ops [⟨(some 90), .move (.tmp 9), none⟩,
    ⟨(some 91), .move (.tmp 11), none⟩,
    ⟨(some 92), .indexAddr 60 (.tmp 90) (.tmp 91), none⟩,
    ⟨(some 93), .load 64 (.tmp 92), none⟩,
    ⟨(some 14), .alloc 64, none⟩,
    ⟨none, .store 64 (.tmp 14) (.tmp 93), none⟩]) c_sheaflaw11_RunsPlays_28) K t m := rfl

def c_sheaflaw11_RunsPlays_30 : MC := (.seq c_sheaflaw11_RunsPlays_19 c_sheaflaw11_RunsPlays_29)
@[go_sem] theorem c_sheaflaw11_RunsPlays_30_at (rd : Option Nat) (K : Post3) (t : Fr) (m : Mem) : wpM E 9 163 rd c_sheaflaw11_RunsPlays_30 K t m = wpM E 9 163 rd (.seq c_sheaflaw11_RunsPlays_19 c_sheaflaw11_RunsPlays_29) K t m := rfl

def c_sheaflaw11_RunsPlays_31 : MC := (.seq (.ops [⟨(some 11), .assign (.const (.int .i64 0)), none⟩]) c_sheaflaw11_RunsPlays_30)
@[go_sem] theorem c_sheaflaw11_RunsPlays_31_at (rd : Option Nat) (K : Post3) (t : Fr) (m : Mem) : wpM E 9 163 rd c_sheaflaw11_RunsPlays_31 K t m = wpM E 9 163 rd (.seq (.ops [⟨(some 11), .assign (.const (.int .i64 0)), none⟩]) c_sheaflaw11_RunsPlays_30) K t m := rfl

def c_sheaflaw11_RunsPlays_32 : MC := (.seq c_sheaflaw11_RunsPlays_8 c_sheaflaw11_RunsPlays_31)
@[go_sem] theorem c_sheaflaw11_RunsPlays_32_at (rd : Option Nat) (K : Post3) (t : Fr) (m : Mem) : wpM E 9 163 rd c_sheaflaw11_RunsPlays_32 K t m = wpM E 9 163 rd (.seq c_sheaflaw11_RunsPlays_8 c_sheaflaw11_RunsPlays_31) K t m := rfl

def c_sheaflaw11_RunsPlays_33 : MC := (.seq c_sheaflaw11_RunsPlays_5 c_sheaflaw11_RunsPlays_32)
@[go_sem] theorem c_sheaflaw11_RunsPlays_33_at (rd : Option Nat) (K : Post3) (t : Fr) (m : Mem) : wpM E 9 163 rd c_sheaflaw11_RunsPlays_33 K t m = wpM E 9 163 rd (.seq c_sheaflaw11_RunsPlays_5 c_sheaflaw11_RunsPlays_32) K t m := rfl

def c_sheaflaw11_RunsPlays_34 : MC := (.block 1 c_sheaflaw11_RunsPlays_33)
@[go_sem] theorem c_sheaflaw11_RunsPlays_34_at (rd : Option Nat) (K : Post3) (t : Fr) (m : Mem) : wpM E 9 163 rd c_sheaflaw11_RunsPlays_34 K t m = wpM E 9 163 rd (.block 1 c_sheaflaw11_RunsPlays_33) K t m := rfl

def c_sheaflaw11_RunsPlays_35 : MC := (.seq c_sheaflaw11_RunsPlays_1 c_sheaflaw11_RunsPlays_34)
@[go_sem] theorem c_sheaflaw11_RunsPlays_35_at (rd : Option Nat) (K : Post3) (t : Fr) (m : Mem) : wpM E 9 163 rd c_sheaflaw11_RunsPlays_35 K t m = wpM E 9 163 rd (.seq c_sheaflaw11_RunsPlays_1 c_sheaflaw11_RunsPlays_34) K t m := rfl

def c_sheaflaw11_RunsPlays_36 : MC := (.loop c_sheaflaw11_RunsPlays_35)
theorem c_sheaflaw11_RunsPlays_36_at (rd : Option Nat) (K : Post3) (t : Fr) (m : Mem) : wpM E 9 163 rd c_sheaflaw11_RunsPlays_36 K t m = wpM E 9 163 rd (.loop c_sheaflaw11_RunsPlays_35) K t m := rfl

def c_sheaflaw11_RunsPlays_37 : MC := (.block 0 c_sheaflaw11_RunsPlays_36)
theorem c_sheaflaw11_RunsPlays_37_at (rd : Option Nat) (K : Post3) (t : Fr) (m : Mem) : wpM E 9 163 rd c_sheaflaw11_RunsPlays_37 K t m = wpM E 9 163 rd (.block 0 c_sheaflaw11_RunsPlays_36) K t m := rfl

def c_sheaflaw11_RunsPlays_38 : MC := (.seq (.ops [⟨(some 10), .assign (.const (.int .i64 0)), none⟩]) c_sheaflaw11_RunsPlays_37)
@[go_sem] theorem c_sheaflaw11_RunsPlays_38_at (rd : Option Nat) (K : Post3) (t : Fr) (m : Mem) : wpM E 9 163 rd c_sheaflaw11_RunsPlays_38 K t m = wpM E 9 163 rd (.seq (.ops [⟨(some 10), .assign (.const (.int .i64 0)), none⟩]) c_sheaflaw11_RunsPlays_37) K t m := rfl

def c_sheaflaw11_RunsPlays_39 : MC := (.seq (.ops [⟨(some 136), .move (.tmp 5), none⟩,
    ⟨(some 137), .move (.tmp 1), none⟩,
    ⟨(some 138), .move (.tmp 7), none⟩,
    ⟨(some 139), .call ⟨.value (.func 30), #[(.tmp 136), (.tmp 137), (.tmp 138)], #[25, 3, 57]⟩, none⟩,
    ⟨(some 140), .move (.tmp 8), none⟩,
    ⟨(some 141), .call ⟨.value (.func 31), #[(.tmp 139), (.tmp 140)], #[60, 60]⟩, none⟩,
    ⟨(some 142), .move (.tmp 141), none⟩,
    ⟨(some 143), .move (.tmp 7), (some (some 142, true))⟩,
    ⟨(some 144), .nilCheck (.tmp 143), (some (some 142, true))⟩,
    ⟨(some 145), .fieldAddr 59 (.tmp 144) 1, (some (some 142, true))⟩,
    ⟨(some 146), .load 3 (.tmp 145), (some (some 142, true))⟩,
    ⟨(some 147), .move (.tmp 6), (some (some 142, true))⟩,
    ⟨(some 148), .move (.tmp 5), (some (some 142, true))⟩,
    ⟨(some 149), .call ⟨.builtin .len, #[(.tmp 148)], #[25]⟩, (some (some 142, true))⟩,
    ⟨(some 150), .call ⟨.builtin .min, #[(.tmp 147), (.tmp 149)], #[3, 3]⟩, (some (some 142, true))⟩,
    ⟨(some 151), .binOp .eql 3 (.tmp 146) (.tmp 150) 3, (some (some 142, true))⟩,
    ⟨(some 152), .pick (.tmp 142) (.tmp 151) (.const (.bool false)), none⟩,
    ⟨(some 153), .move (.tmp 152), none⟩,
    ⟨(some 154), .move (.tmp 7), (some (some 153, true))⟩,
    ⟨(some 155), .nilCheck (.tmp 154), (some (some 153, true))⟩,
    ⟨(some 156), .fieldAddr 59 (.tmp 155) 0, (some (some 153, true))⟩,
    ⟨(some 157), .load 3 (.tmp 156), (some (some 153, true))⟩,
    ⟨(some 158), .binOp .eql 3 (.tmp 157) (.const (.int .i64 0)) 3, (some (some 153, true))⟩,
    ⟨(some 159), .pick (.tmp 153) (.tmp 158) (.const (.bool false)), none⟩,
    ⟨(some 160), .move (.tmp 159), none⟩,
    ⟨(some 161), .call ⟨.value (.func 8), #[], #[]⟩, (some (some 160, true))⟩,
    ⟨(some 162), .pick (.tmp 160) (.tmp 161) (.const (.bool false)), none⟩,
    ⟨(some 4), .assign (.tmp 162), none⟩]) .ret)
@[go_sem] theorem c_sheaflaw11_RunsPlays_39_at (rd : Option Nat) (K : Post3) (t : Fr) (m : Mem) : wpM E 9 163 rd c_sheaflaw11_RunsPlays_39 K t m = wpM E 9 163 rd (.seq (.ops [⟨(some 136), .move (.tmp 5), none⟩,
    ⟨(some 137), .move (.tmp 1), none⟩,
    ⟨(some 138), .move (.tmp 7), none⟩,
    ⟨(some 139), .call ⟨.value (.func 30), #[(.tmp 136), (.tmp 137), (.tmp 138)], #[25, 3, 57]⟩, none⟩,
    ⟨(some 140), .move (.tmp 8), none⟩,
    ⟨(some 141), .call ⟨.value (.func 31), #[(.tmp 139), (.tmp 140)], #[60, 60]⟩, none⟩,
    ⟨(some 142), .move (.tmp 141), none⟩,
    ⟨(some 143), .move (.tmp 7), (some (some 142, true))⟩,
    ⟨(some 144), .nilCheck (.tmp 143), (some (some 142, true))⟩,
    ⟨(some 145), .fieldAddr 59 (.tmp 144) 1, (some (some 142, true))⟩,
    ⟨(some 146), .load 3 (.tmp 145), (some (some 142, true))⟩,
    ⟨(some 147), .move (.tmp 6), (some (some 142, true))⟩,
    ⟨(some 148), .move (.tmp 5), (some (some 142, true))⟩,
    ⟨(some 149), .call ⟨.builtin .len, #[(.tmp 148)], #[25]⟩, (some (some 142, true))⟩,
    ⟨(some 150), .call ⟨.builtin .min, #[(.tmp 147), (.tmp 149)], #[3, 3]⟩, (some (some 142, true))⟩,
    ⟨(some 151), .binOp .eql 3 (.tmp 146) (.tmp 150) 3, (some (some 142, true))⟩,
    ⟨(some 152), .pick (.tmp 142) (.tmp 151) (.const (.bool false)), none⟩,
    ⟨(some 153), .move (.tmp 152), none⟩,
    ⟨(some 154), .move (.tmp 7), (some (some 153, true))⟩,
    ⟨(some 155), .nilCheck (.tmp 154), (some (some 153, true))⟩,
    ⟨(some 156), .fieldAddr 59 (.tmp 155) 0, (some (some 153, true))⟩,
    ⟨(some 157), .load 3 (.tmp 156), (some (some 153, true))⟩,
    ⟨(some 158), .binOp .eql 3 (.tmp 157) (.const (.int .i64 0)) 3, (some (some 153, true))⟩,
    ⟨(some 159), .pick (.tmp 153) (.tmp 158) (.const (.bool false)), none⟩,
    ⟨(some 160), .move (.tmp 159), none⟩,
    ⟨(some 161), .call ⟨.value (.func 8), #[], #[]⟩, (some (some 160, true))⟩,
    ⟨(some 162), .pick (.tmp 160) (.tmp 161) (.const (.bool false)), none⟩,
    ⟨(some 4), .assign (.tmp 162), none⟩]) .ret) K t m := rfl

def c_sheaflaw11_RunsPlays_40 : MC := (.seq c_sheaflaw11_RunsPlays_38 c_sheaflaw11_RunsPlays_39)
@[go_sem] theorem c_sheaflaw11_RunsPlays_40_at (rd : Option Nat) (K : Post3) (t : Fr) (m : Mem) : wpM E 9 163 rd c_sheaflaw11_RunsPlays_40 K t m = wpM E 9 163 rd (.seq c_sheaflaw11_RunsPlays_38 c_sheaflaw11_RunsPlays_39) K t m := rfl

def c_sheaflaw11_RunsPlays_41 : MC := (.seq (.ops [⟨(some 25), .buildSlice 60 0 #[], none⟩,
    ⟨(some 9), .assign (.tmp 25), none⟩]) c_sheaflaw11_RunsPlays_40)
@[go_sem] theorem c_sheaflaw11_RunsPlays_41_at (rd : Option Nat) (K : Post3) (t : Fr) (m : Mem) : wpM E 9 163 rd c_sheaflaw11_RunsPlays_41 K t m = wpM E 9 163 rd (.seq (.ops [⟨(some 25), .buildSlice 60 0 #[], none⟩,
    ⟨(some 9), .assign (.tmp 25), none⟩]) c_sheaflaw11_RunsPlays_40) K t m := rfl

def c_sheaflaw11_RunsPlays_42 : MC := (.seq (.ops [⟨(some 8), .assign (.const (.slice none 0 0)), none⟩]) c_sheaflaw11_RunsPlays_41)
@[go_sem] theorem c_sheaflaw11_RunsPlays_42_at (rd : Option Nat) (K : Post3) (t : Fr) (m : Mem) : wpM E 9 163 rd c_sheaflaw11_RunsPlays_42 K t m = wpM E 9 163 rd (.seq (.ops [⟨(some 8), .assign (.const (.slice none 0 0)), none⟩]) c_sheaflaw11_RunsPlays_41) K t m := rfl

def c_sheaflaw11_RunsPlays_43 : MC := (.seq (.ops [⟨(some 23), .build 59 #[], none⟩,
    ⟨(some 24), .box 59 (.tmp 23), none⟩,
    ⟨(some 7), .assign (.tmp 24), none⟩]) c_sheaflaw11_RunsPlays_42)
@[go_sem] theorem c_sheaflaw11_RunsPlays_43_at (rd : Option Nat) (K : Post3) (t : Fr) (m : Mem) : wpM E 9 163 rd c_sheaflaw11_RunsPlays_43 K t m = wpM E 9 163 rd (.seq (.ops [⟨(some 23), .build 59 #[], none⟩,
    ⟨(some 24), .box 59 (.tmp 23), none⟩,
    ⟨(some 7), .assign (.tmp 24), none⟩]) c_sheaflaw11_RunsPlays_42) K t m := rfl

def c_sheaflaw11_RunsPlays_44 : MC := (.seq (.ops [⟨(some 21), .move (.tmp 1), none⟩,
    ⟨(some 22), .call ⟨.builtin .max, #[(.tmp 21), (.const (.int .i64 1))], #[3, 3]⟩, none⟩,
    ⟨(some 6), .assign (.tmp 22), none⟩]) c_sheaflaw11_RunsPlays_43)
@[go_sem] theorem c_sheaflaw11_RunsPlays_44_at (rd : Option Nat) (K : Post3) (t : Fr) (m : Mem) : wpM E 9 163 rd c_sheaflaw11_RunsPlays_44 K t m = wpM E 9 163 rd (.seq (.ops [⟨(some 21), .move (.tmp 1), none⟩,
    ⟨(some 22), .call ⟨.builtin .max, #[(.tmp 21), (.const (.int .i64 1))], #[3, 3]⟩, none⟩,
    ⟨(some 6), .assign (.tmp 22), none⟩]) c_sheaflaw11_RunsPlays_43) K t m := rfl

def c_sheaflaw11_RunsPlays_45 : MC := (.seq (.ops [⟨(some 16), .move (.tmp 0), none⟩,
    ⟨(some 17), .move (.tmp 0), none⟩,
    ⟨(some 18), .call ⟨.builtin .len, #[(.tmp 17)], #[25]⟩, none⟩,
    ⟨(some 19), .call ⟨.builtin .min, #[(.tmp 18), (.const (.int .i64 60))], #[3, 3]⟩, none⟩,
    ⟨(some 20), .slice 25 (.tmp 16) none (some (.tmp 19)) none, none⟩,
    ⟨(some 5), .assign (.tmp 20), none⟩]) c_sheaflaw11_RunsPlays_44)
@[go_sem] theorem c_sheaflaw11_RunsPlays_45_at (rd : Option Nat) (K : Post3) (t : Fr) (m : Mem) : wpM E 9 163 rd c_sheaflaw11_RunsPlays_45 K t m = wpM E 9 163 rd (.seq (.ops [⟨(some 16), .move (.tmp 0), none⟩,
    ⟨(some 17), .move (.tmp 0), none⟩,
    ⟨(some 18), .call ⟨.builtin .len, #[(.tmp 17)], #[25]⟩, none⟩,
    ⟨(some 19), .call ⟨.builtin .min, #[(.tmp 18), (.const (.int .i64 60))], #[3, 3]⟩, none⟩,
    ⟨(some 20), .slice 25 (.tmp 16) none (some (.tmp 19)) none, none⟩,
    ⟨(some 5), .assign (.tmp 20), none⟩]) c_sheaflaw11_RunsPlays_44) K t m := rfl

def c_sheaflaw11_RunsPlays_46 : MC := (.seq (.ops [⟨(some 4), .assign (.const (.bool false)), none⟩]) c_sheaflaw11_RunsPlays_45)
@[go_sem] theorem c_sheaflaw11_RunsPlays_46_at (rd : Option Nat) (K : Post3) (t : Fr) (m : Mem) : wpM E 9 163 rd c_sheaflaw11_RunsPlays_46 K t m = wpM E 9 163 rd (.seq (.ops [⟨(some 4), .assign (.const (.bool false)), none⟩]) c_sheaflaw11_RunsPlays_45) K t m := rfl

@[go_sem] theorem some9 : (E.fn 9).isSome = true := by kernel_rfl
set_option maxRecDepth 100000 in
theorem fn_sheaflaw11_RunsPlays : FnIs E 9 163 [.tmp 4] c_sheaflaw11_RunsPlays_46 := ⟨by kernel_rfl, by kernel_rfl⟩

/-! sheaf/sheaflaw11.RunsSorted -/
abbrev F_sheaflaw11_RunsSorted : FuncId := 10
def c_sheaflaw11_RunsSorted_0 : MC := (.cond (.tmp 37) .skip (.exit 0))
@[go_sem] theorem c_sheaflaw11_RunsSorted_0_at (rd : Option Nat) (K : Post3) (t : Fr) (m : Mem) : wpM E 10 189 rd c_sheaflaw11_RunsSorted_0 K t m = wpM E 10 189 rd (.cond (.tmp 37) .skip (.exit 0)) K t m := rfl

def c_sheaflaw11_RunsSorted_1 : MC := (.seq (.ops [⟨(some 38), .indexAddr 25 (.tmp 34) (.tmp 36), none⟩,
    ⟨(some 39), .load 3 (.tmp 38), none⟩,
    ⟨(some 11), .assign (.tmp 39), none⟩]) (.ops [⟨(some 40), .move (.tmp 9), none⟩,
    ⟨(some 41), .move (.tmp 11), none⟩,
    ⟨(some 42), .lookup 65 (.tmp 40) (.tmp 41) false, none⟩,
    ⟨(some 43), .binOp .add 3 (.tmp 42) (.const (.int .i64 1)) 3, none⟩,
    ⟨none, .mapUpdate 65 (.tmp 40) (.tmp 41) (.tmp 43), none⟩]))
@[go_sem] theorem c_sheaflaw11_RunsSorted_1_at (rd : Option Nat) (K : Post3) (t : Fr) (m : Mem) : wpM E 10 189 rd c_sheaflaw11_RunsSorted_1 K t m = wpM E 10 189 rd (.seq (.ops [⟨(some 38), .indexAddr 25 (.tmp 34) (.tmp 36), none⟩,
    ⟨(some 39), .load 3 (.tmp 38), none⟩,
    ⟨(some 11), .assign (.tmp 39), none⟩]) (.ops [⟨(some 40), .move (.tmp 9), none⟩,
    ⟨(some 41), .move (.tmp 11), none⟩,
    ⟨(some 42), .lookup 65 (.tmp 40) (.tmp 41) false, none⟩,
    ⟨(some 43), .binOp .add 3 (.tmp 42) (.const (.int .i64 1)) 3, none⟩,
    ⟨none, .mapUpdate 65 (.tmp 40) (.tmp 41) (.tmp 43), none⟩])) K t m := rfl

def c_sheaflaw11_RunsSorted_2 : MC := (.block 1 c_sheaflaw11_RunsSorted_1)
@[go_sem] theorem c_sheaflaw11_RunsSorted_2_at (rd : Option Nat) (K : Post3) (t : Fr) (m : Mem) : wpM E 10 189 rd c_sheaflaw11_RunsSorted_2 K t m = wpM E 10 189 rd (.block 1 c_sheaflaw11_RunsSorted_1) K t m := rfl

def c_sheaflaw11_RunsSorted_3 : MC := (.seq c_sheaflaw11_RunsSorted_2 (.ops [⟨(some 44), .binOp .add 3 (.tmp 36) (.const (.int .i64 1)) 3, none⟩,
    ⟨(some 36), .move (.tmp 44), none⟩]))
@[go_sem] theorem c_sheaflaw11_RunsSorted_3_at (rd : Option Nat) (K : Post3) (t : Fr) (m : Mem) : wpM E 10 189 rd c_sheaflaw11_RunsSorted_3 K t m = wpM E 10 189 rd (.seq c_sheaflaw11_RunsSorted_2 (.ops [⟨(some 44), .binOp .add 3 (.tmp 36) (.const (.int .i64 1)) 3, none⟩,
    ⟨(some 36), .move (.tmp 44), none⟩])) K t m := rfl

def c_sheaflaw11_RunsSorted_4 : MC := (.seq c_sheaflaw11_RunsSorted_0 c_sheaflaw11_RunsSorted_3)
@[go_sem] theorem c_sheaflaw11_RunsSorted_4_at (rd : Option Nat) (K : Post3) (t : Fr) (m : Mem) : wpM E 10 189 rd c_sheaflaw11_RunsSorted_4 K t m = wpM E 10 189 rd (.seq c_sheaflaw11_RunsSorted_0 c_sheaflaw11_RunsSorted_3) K t m := rfl

def c_sheaflaw11_RunsSorted_5 : MC := (.seq (.ops [⟨(some 37), .binOp .lss 3 (.tmp 36) (.tmp 35) 3, none⟩]) c_sheaflaw11_RunsSorted_4)
@[go_sem] theorem c_sheaflaw11_RunsSorted_5_at (rd : Option Nat) (K : Post3) (t : Fr) (m : Mem) : wpM E 10 189 rd c_sheaflaw11_RunsSorted_5 K t m = wpM E 10 189 rd (.seq (.ops [⟨(some 37), .binOp .lss 3 (.tmp 36) (.tmp 35) 3, none⟩]) c_sheaflaw11_RunsSorted_4) K t m := rfl

def c_sheaflaw11_RunsSorted_6 : MC := (.loop c_sheaflaw11_RunsSorted_5)
theorem c_sheaflaw11_RunsSorted_6_at (rd : Option Nat) (K : Post3) (t : Fr) (m : Mem) : wpM E 10 189 rd c_sheaflaw11_RunsSorted_6 K t m = wpM E 10 189 rd (.loop c_sheaflaw11_RunsSorted_5) K t m := rfl

def c_sheaflaw11_RunsSorted_7 : MC := (.block 0 c_sheaflaw11_RunsSorted_6)
theorem c_sheaflaw11_RunsSorted_7_at (rd : Option Nat) (K : Post3) (t : Fr) (m : Mem) : wpM E 10 189 rd c_sheaflaw11_RunsSorted_7 K t m = wpM E 10 189 rd (.block 0 c_sheaflaw11_RunsSorted_6) K t m := rfl

def c_sheaflaw11_RunsSorted_8 : MC := (.seq (.ops [⟨(some 34), .move (.tmp 5), none⟩,
    ⟨(some 35), .call ⟨.builtin .len, #[(.tmp 34)], #[25]⟩, none⟩,
    ⟨(some 36), .move (.const (.int .i64 0)), none⟩]) c_sheaflaw11_RunsSorted_7)
@[go_sem] theorem c_sheaflaw11_RunsSorted_8_at (rd : Option Nat) (K : Post3) (t : Fr) (m : Mem) : wpM E 10 189 rd c_sheaflaw11_RunsSorted_8 K t m = wpM E 10 189 rd (.seq (.ops [⟨(some 34), .move (.tmp 5), none⟩,
    ⟨(some 35), .call ⟨.builtin .len, #[(.tmp 34)], #[25]⟩, none⟩,
    ⟨(some 36), .move (.const (.int .i64 0)), none⟩]) c_sheaflaw11_RunsSorted_7) K t m := rfl

def c_sheaflaw11_RunsSorted_9 : MC := (.cond (.tmp 49) .skip (.exit 2))
@[go_sem] theorem c_sheaflaw11_RunsSorted_9_at (rd : Option Nat) (K : Post3) (t : Fr) (m : Mem) : wpM E 10 189 rd c_sheaflaw11_RunsSorted_9 K t m = wpM E 10 189 rd (.cond (.tmp 49) .skip (.exit 2)) K t m := rfl

def c_sheaflaw11_RunsSorted_10 : MC := (.seq (.ops [⟨(some 4), .assign (.const (.bool false)), none⟩]) .ret)
@[go_sem] theorem c_sheaflaw11_RunsSorted_10_at (rd : Option Nat) (K : Post3) (t : Fr) (m : Mem) : wpM E 10 189 rd c_sheaflaw11_RunsSorted_10 K t m = wpM E 10 189 rd (.seq (.ops [⟨(some 4), .assign (.const (.bool false)), none⟩]) .ret) K t m := rfl

def c_sheaflaw11_RunsSorted_11 : MC := (.cond (.tmp 108) c_sheaflaw11_RunsSorted_10 .skip)
@[go_sem] theorem c_sheaflaw11_RunsSorted_11_at (rd : Option Nat) (K : Post3) (t : Fr) (m : Mem) : wpM E 10 189 rd c_sheaflaw11_RunsSorted_11 K t m = wpM E 10 189 rd (.cond (.tmp 108) c_sheaflaw11_RunsSorted_10 .skip) K t m := rfl

def c_sheaflaw11_RunsSorted_12 : MC := (.seq (.ops [⟨(some 53), .move (.tmp 13), none⟩,
    ⟨(some 54), .binOp .eql 3 (.tmp 53) (.const (.int .i64 0)) 3, none⟩,
    ⟨(some 55), .move (.tmp 54), none⟩,
    ⟨(some 56), .fieldAddr 64 (.tmp 14) 0, (some (some 55, true))⟩,
    ⟨(some 57), .load 3 (.tmp 56), (some (some 55, true))⟩,
    ⟨(some 58), .binOp .neq 3 (.tmp 57) (.const (.int .i64 0)) 3, (some (some 55, true))⟩,
    ⟨(some 59), .pick (.tmp 55) (.tmp 58) (.const (.bool false)), none⟩,
    ⟨(some 60), .move (.tmp 59), none⟩,
    ⟨(some 61), .move (.tmp 13), (some (some 60, false))⟩,
    ⟨(some 62), .binOp .gtr 3 (.tmp 61) (.const (.int .i64 0)) 3, (some (some 60, false))⟩,
    ⟨(some 63), .move (.tmp 62), (some (some 60, false))⟩,
    ⟨(some 64), .fieldAddr 64 (.tmp 14) 0, (some (some 63, true))⟩,
    ⟨(some 65), .load 3 (.tmp 64), (some (some 63, true))⟩,
    ⟨(some 66), .move (.tmp 8), (some (some 63, true))⟩,
    ⟨(some 67), .move (.tmp 13), (some (some 63, true))⟩,
    ⟨(some 68), .binOp .sub 3 (.tmp 67) (.const (.int .i64 1)) 3, (some (some 63, true))⟩,
    ⟨(some 69), .indexAddr 60 (.tmp 66) (.tmp 68), (some (some 63, true))⟩,
    ⟨(some 70), .fieldAddr 64 (.tmp 69) 0, (some (some 63, true))⟩,
    ⟨(some 71), .load 3 (.tmp 70), (some (some 63, true))⟩,
    ⟨(some 72), .binOp .lss 3 (.tmp 65) (.tmp 71) 3, (some (some 63, true))⟩,
    ⟨(some 73), .move (.tmp 72), (some (some 63, true))⟩,
    ⟨(some 74), .fieldAddr 64 (.tmp 14) 0, (some (some 73, false))⟩,
    ⟨(some 75), .load 3 (.tmp 74), (some (some 73, false))⟩,
    ⟨(some 76), .move (.tmp 8), (some (some 73, false))⟩,
    ⟨(some 77), .move (.tmp 13), (some (some 73, false))⟩,
    ⟨(some 78), .binOp .sub 3 (.tmp 77) (.const (.int .i64 1)) 3, (some (some 73, false))⟩,
    ⟨(some 79), .indexAddr 60 (.tmp 76) (.tmp 78), (some (some 73, false))⟩,
    ⟨(some 80), .fieldAddr 64 (.tmp 79) 0, (some (some 73, false))⟩,
    ⟨(some 81), .load 3 (.tmp 80), (some (some 73, false))⟩,
    ⟨(some 82), .binOp .add 3 (.tmp 81) (.const (.int .i64 1)) 3, (some (some 73, false))⟩,
    ⟨(some 83), .binOp .gtr 3 (.tmp 75) (.tmp 82) 3, (some (some 73, false))⟩,
    ⟨(some 84), .pick (.tmp 73) (.const (.bool true)) (.tmp 83), (some (some 63, true))⟩,
    ⟨(some 85), .move (.tmp 84), (some (some 63, true))⟩,
    ⟨(some 86), .fieldAddr 64 (.tmp 14) 0, (some (some 85, false))⟩,
    ⟨(some 87), .load 3 (.tmp 86), (some (some 85, false))⟩,
    ⟨(some 88), .move (.tmp 8), (some (some 85, false))⟩,
    ⟨(some 89), .move (.tmp 13), (some (some 85, false))⟩,
    ⟨(some 90), .binOp .sub 3 (.tmp 89) (.const (.int .i64 1)) 3, (some (some 85, false))⟩,
    ⟨(some 91), .indexAddr 60 (.tmp 88) (.tmp 90), (some (some 85, false))⟩,
    ⟨(some 92), .fieldAddr 64 (.tmp 91) 0, (some (some 85, false))⟩,
    ⟨(some 93), .load 3 (.tmp 92), (some (some 85, false))⟩,
    ⟨(some 94), .binOp .eql 3 (.tmp 87) (.tmp 93) 3, (some (some 85, false))⟩,
    ⟨(some 95), .move (.tmp 94), (some (some 85, false))⟩,
    ⟨(some 96), .fieldAddr 64 (.tmp 14) 1, (some (some 95, true))⟩,
    ⟨(some 97), .load 3 (.tmp 96), (some (some 95, true))⟩,
    ⟨(some 98), .move (.tmp 8), (some (some 95, true))⟩,
    ⟨(some 99), .move (.tmp 13), (some (some 95, true))⟩,
    ⟨(some 100), .binOp .sub 3 (.tmp 99) (.const (.int .i64 1)) 3, (some (some 95, true))⟩,
    ⟨(some 101), .indexAddr 60 (.tmp 98) (.tmp 100), (some (some 95, true))⟩,
    ⟨(some 102), .fieldAddr 64 (.tmp 101) 1, (some (some 95, true))⟩,
    ⟨(some 103), .load 3 (.tmp 102), (some (some 95, true))⟩,
    ⟨(some 104), .binOp .lss 3 (.tmp 97) (.tmp 103) 3, (some (some 95, true))⟩,
    ⟨(some 105), .pick (.tmp 95) (.tmp 104) (.const (.bool false)), (some (some 85, false))⟩,
    ⟨(some 106), .pick (.tmp 85) (.const (.bool true)) (.tmp 105), (some (some 63, true))⟩,
    ⟨(some 107), .pick (.tmp 63) (.tmp 106) (.const (.bool false)), (some (some 60, false))⟩,
    ⟨(some 108), .pick (.tmp 60) (.const (.bool true)) (.tmp 107), none⟩]) c_sheaflaw11_RunsSorted_11)
@[go_sem] theorem c_sheaflaw11_RunsSorted_12_at (rd : Option Nat) (K : Post3) (t : Fr) (m : Mem) : wpM E 10 189 rd c_sheaflaw11_RunsSorted_12 K t m = wpM E 10 189 rd (.seq (.ops [⟨(some 53), .move (.tmp 13), none⟩,
    ⟨(some 54), .binOp .eql 3 (.tmp 53) (.const (.int .i64 0)) 3, none⟩,
    ⟨(some 55), .move (.tmp 54), none⟩,
    ⟨(some 56), .fieldAddr 64 (.tmp 14) 0, (some (some 55, true))⟩,
    ⟨(some 57), .load 3 (.tmp 56), (some (some 55, true))⟩,
    ⟨(some 58), .binOp .neq 3 (.tmp 57) (.const (.int .i64 0)) 3, (some (some 55, true))⟩,
    ⟨(some 59), .pick (.tmp 55) (.tmp 58) (.const (.bool false)), none⟩,
    ⟨(some 60), .move (.tmp 59), none⟩,
    ⟨(some 61), .move (.tmp 13), (some (some 60, false))⟩,
    ⟨(some 62), .binOp .gtr 3 (.tmp 61) (.const (.int .i64 0)) 3, (some (some 60, false))⟩,
    ⟨(some 63), .move (.tmp 62), (some (some 60, false))⟩,
    ⟨(some 64), .fieldAddr 64 (.tmp 14) 0, (some (some 63, true))⟩,
    ⟨(some 65), .load 3 (.tmp 64), (some (some 63, true))⟩,
    ⟨(some 66), .move (.tmp 8), (some (some 63, true))⟩,
    ⟨(some 67), .move (.tmp 13), (some (some 63, true))⟩,
    ⟨(some 68), .binOp .sub 3 (.tmp 67) (.const (.int .i64 1)) 3, (some (some 63, true))⟩,
    ⟨(some 69), .indexAddr 60 (.tmp 66) (.tmp 68), (some (some 63, true))⟩,
    ⟨(some 70), .fieldAddr 64 (.tmp 69) 0, (some (some 63, true))⟩,
    ⟨(some 71), .load 3 (.tmp 70), (some (some 63, true))⟩,
    ⟨(some 72), .binOp .lss 3 (.tmp 65) (.tmp 71) 3, (some (some 63, true))⟩,
    ⟨(some 73), .move (.tmp 72), (some (some 63, true))⟩,
    ⟨(some 74), .fieldAddr 64 (.tmp 14) 0, (some (some 73, false))⟩,
    ⟨(some 75), .load 3 (.tmp 74), (some (some 73, false))⟩,
    ⟨(some 76), .move (.tmp 8), (some (some 73, false))⟩,
    ⟨(some 77), .move (.tmp 13), (some (some 73, false))⟩,
    ⟨(some 78), .binOp .sub 3 (.tmp 77) (.const (.int .i64 1)) 3, (some (some 73, false))⟩,
    ⟨(some 79), .indexAddr 60 (.tmp 76) (.tmp 78), (some (some 73, false))⟩,
    ⟨(some 80), .fieldAddr 64 (.tmp 79) 0, (some (some 73, false))⟩,
    ⟨(some 81), .load 3 (.tmp 80), (some (some 73, false))⟩,
    ⟨(some 82), .binOp .add 3 (.tmp 81) (.const (.int .i64 1)) 3, (some (some 73, false))⟩,
    ⟨(some 83), .binOp .gtr 3 (.tmp 75) (.tmp 82) 3, (some (some 73, false))⟩,
    ⟨(some 84), .pick (.tmp 73) (.const (.bool true)) (.tmp 83), (some (some 63, true))⟩,
    ⟨(some 85), .move (.tmp 84), (some (some 63, true))⟩,
    ⟨(some 86), .fieldAddr 64 (.tmp 14) 0, (some (some 85, false))⟩,
    ⟨(some 87), .load 3 (.tmp 86), (some (some 85, false))⟩,
    ⟨(some 88), .move (.tmp 8), (some (some 85, false))⟩,
    ⟨(some 89), .move (.tmp 13), (some (some 85, false))⟩,
    ⟨(some 90), .binOp .sub 3 (.tmp 89) (.const (.int .i64 1)) 3, (some (some 85, false))⟩,
    ⟨(some 91), .indexAddr 60 (.tmp 88) (.tmp 90), (some (some 85, false))⟩,
    ⟨(some 92), .fieldAddr 64 (.tmp 91) 0, (some (some 85, false))⟩,
    ⟨(some 93), .load 3 (.tmp 92), (some (some 85, false))⟩,
    ⟨(some 94), .binOp .eql 3 (.tmp 87) (.tmp 93) 3, (some (some 85, false))⟩,
    ⟨(some 95), .move (.tmp 94), (some (some 85, false))⟩,
    ⟨(some 96), .fieldAddr 64 (.tmp 14) 1, (some (some 95, true))⟩,
    ⟨(some 97), .load 3 (.tmp 96), (some (some 95, true))⟩,
    ⟨(some 98), .move (.tmp 8), (some (some 95, true))⟩,
    ⟨(some 99), .move (.tmp 13), (some (some 95, true))⟩,
    ⟨(some 100), .binOp .sub 3 (.tmp 99) (.const (.int .i64 1)) 3, (some (some 95, true))⟩,
    ⟨(some 101), .indexAddr 60 (.tmp 98) (.tmp 100), (some (some 95, true))⟩,
    ⟨(some 102), .fieldAddr 64 (.tmp 101) 1, (some (some 95, true))⟩,
    ⟨(some 103), .load 3 (.tmp 102), (some (some 95, true))⟩,
    ⟨(some 104), .binOp .lss 3 (.tmp 97) (.tmp 103) 3, (some (some 95, true))⟩,
    ⟨(some 105), .pick (.tmp 95) (.tmp 104) (.const (.bool false)), (some (some 85, false))⟩,
    ⟨(some 106), .pick (.tmp 85) (.const (.bool true)) (.tmp 105), (some (some 63, true))⟩,
    ⟨(some 107), .pick (.tmp 63) (.tmp 106) (.const (.bool false)), (some (some 60, false))⟩,
    ⟨(some 108), .pick (.tmp 60) (.const (.bool true)) (.tmp 107), none⟩]) c_sheaflaw11_RunsSorted_11) K t m := rfl

def c_sheaflaw11_RunsSorted_13 : MC := (.seq (.ops [⟨(some 109), .move (.tmp 9), none⟩,
    ⟨(some 110), .fieldAddr 64 (.tmp 14) 1, none⟩,
    ⟨(some 111), .load 3 (.tmp 110), none⟩,
    ⟨(some 112), .lookup 65 (.tmp 109) (.tmp 111) false, none⟩,
    ⟨(some 113), .binOp .sub 3 (.tmp 112) (.const (.int .i64 1)) 3, none⟩,
    ⟨none, .mapUpdate 65 (.tmp 109) (.tmp 111) (.tmp 113), none⟩]) (.ops [⟨(some 114), .move (.tmp 12), none⟩,
    ⟨(some 115), .fieldAddr 64 (.tmp 14) 0, none⟩,
    ⟨(some 116), .load 3 (.tmp 115), none⟩,
    ⟨(some 117), .lookup 65 (.tmp 114) (.tmp 116) false, none⟩,
    ⟨(some 118), .binOp .add 3 (.tmp 117) (.const (.int .i64 1)) 3, none⟩,
    ⟨none, .mapUpdate 65 (.tmp 114) (.tmp 116) (.tmp 118), none⟩]))
@[go_sem] theorem c_sheaflaw11_RunsSorted_13_at (rd : Option Nat) (K : Post3) (t : Fr) (m : Mem) : wpM E 10 189 rd c_sheaflaw11_RunsSorted_13 K t m = wpM E 10 189 rd (.seq (.ops [⟨(some 109), .move (.tmp 9), none⟩,
    ⟨(some 110), .fieldAddr 64 (.tmp 14) 1, none⟩,
    ⟨(some 111), .load 3 (.tmp 110), none⟩,
    ⟨(some 112), .lookup 65 (.tmp 109) (.tmp 111) false, none⟩,
    ⟨(some 113), .binOp .sub 3 (.tmp 112) (.const (.int .i64 1)) 3, none⟩,
    ⟨none, .mapUpdate 65 (.tmp 109) (.tmp 111) (.tmp 113), none⟩]) (.ops [⟨(some 114), .move (.tmp 12), none⟩,
    ⟨(some 115), .fieldAddr 64 (.tmp 14) 0, none⟩,
    ⟨(some 116), .load 3 (.tmp 115), none⟩,
    ⟨(some 117), .lookup 65 (.tmp 114) (.tmp 116) false, none⟩,
    ⟨(some 118), .binOp .add 3 (.tmp 117) (.const (.int .i64 1)) 3, none⟩,
    ⟨none, .mapUpdate 65 (.tmp 114) (.tmp 116) (.tmp 118), none⟩])) K t m := rfl

def c_sheaflaw11_RunsSorted_14 : MC := (.seq c_sheaflaw11_RunsSorted_12 c_sheaflaw11_RunsSorted_13)
@[go_sem] theorem c_sheaflaw11_RunsSorted_14_at (rd : Option Nat) (K : Post3) (t : Fr) (m : Mem) : wpM E 10 189 rd c_sheaflaw11_RunsSorted_14 K t m = wpM E 10 189 rd (.seq c_sheaflaw11_RunsSorted_12 c_sheaflaw11_RunsSorted_13) K t m := rfl

def c_sheaflaw11_RunsSorted_15 : MC := (.seq (.ops [⟨(some 50), .move (.tmp 48), none⟩,
    ⟨(some 51), .indexAddr 60 (.tmp 46) (.tmp 48), none⟩,
    ⟨(some 52), .load 64 (.tmp 51), none⟩,
    ⟨(some 14), .alloc 64, none⟩,
    ⟨(some 13), .assign (.tmp 50), none⟩,
    ⟨none, .store 64 (.tmp 14) (.tmp 52), none⟩]) c_sheaflaw11_RunsSorted_14)
@[go_sem] theorem c_sheaflaw11_RunsSorted_15_at (rd : Option Nat) (K : Post3) (t : Fr) (m : Mem) : wpM E 10 189 rd c_sheaflaw11_RunsSorted_15 K t m = wpM E 10 189 rd (.seq (.ops [⟨(some 50), .move (.tmp 48), none⟩,
    ⟨(some 51), .indexAddr 60 (.tmp 46) (.tmp 48), none⟩,
    ⟨(some 52), .load 64 (.tmp 51), none⟩,
    ⟨(some 14), .alloc 64, none⟩,
    ⟨(some 13), .assign (.tmp 50), none⟩,
    ⟨none, .store 64 (.tmp 14) (.tmp 52), none⟩]) c_sheaflaw11_RunsSorted_14) K t m := rfl

def c_sheaflaw11_RunsSorted_16 : MC := (.block 3 c_sheaflaw11_RunsSorted_15)
@[go_sem] theorem c_sheaflaw11_RunsSorted_16_at (rd : Option Nat) (K : Post3) (t : Fr) (m : Mem) : wpM E 10 189 rd c_sheaflaw11_RunsSorted_16 K t m = wpM E 10 189 rd (.block 3 c_sheaflaw11_RunsSorted_15) K t m := rfl

def c_sheaflaw11_RunsSorted_17 : MC := (.seq c_sheaflaw11_RunsSorted_16 (.ops [⟨(some 119), .binOp .add 3 (.tmp 48) (.const (.int .i64 1)) 3, none⟩,
    ⟨(some 48), .move (.tmp 119), none⟩]))
@[go_sem] theorem c_sheaflaw11_RunsSorted_17_at (rd : Option Nat) (K : Post3) (t : Fr) (m : Mem) : wpM E 10 189 rd c_sheaflaw11_RunsSorted_17 K t m = wpM E 10 189 rd (.seq c_sheaflaw11_RunsSorted_16 (.ops [⟨(some 119), .binOp .add 3 (.tmp 48) (.const (.int .i64 1)) 3, none⟩,
    ⟨(some 48), .move (.tmp 119), none⟩])) K t m := rfl

def c_sheaflaw11_RunsSorted_18 : MC := (.seq c_sheaflaw11_RunsSorted_9 c_sheaflaw11_RunsSorted_17)
@[go_sem] theorem c_sheaflaw11_RunsSorted_18_at (rd : Option Nat) (K : Post3) (t : Fr) (m : Mem) : wpM E 10 189 rd c_sheaflaw11_RunsSorted_18 K t m = wpM E 10 189 rd (.seq c_sheaflaw11_RunsSorted_9 c_sheaflaw11_RunsSorted_17) K t m := rfl

def c_sheaflaw11_RunsSorted_19 : MC := (.seq (.ops [⟨(some 49), .binOp .lss 3 (.tmp 48) (.tmp 47) 3, none⟩]) c_sheaflaw11_RunsSorted_18)
@[go_sem] theorem c_sheaflaw11_RunsSorted_19_at (rd : Option Nat) (K : Post3) (t : Fr) (m : Mem) : wpM E 10 189 rd c_sheaflaw11_RunsSorted_19 K t m = wpM E 10 189 rd (.seq (.ops [⟨(some 49), .binOp .lss 3 (.tmp 48) (.tmp 47) 3, none⟩]) c_sheaflaw11_RunsSorted_18) K t m := rfl

def c_sheaflaw11_RunsSorted_20 : MC := (.loop c_sheaflaw11_RunsSorted_19)
theorem c_sheaflaw11_RunsSorted_20_at (rd : Option Nat) (K : Post3) (t : Fr) (m : Mem) : wpM E 10 189 rd c_sheaflaw11_RunsSorted_20 K t m = wpM E 10 189 rd (.loop c_sheaflaw11_RunsSorted_19) K t m := rfl

def c_sheaflaw11_RunsSorted_21 : MC := (.block 2 c_sheaflaw11_RunsSorted_20)
theorem c_sheaflaw11_RunsSorted_21_at (rd : Option Nat) (K : Post3) (t : Fr) (m : Mem) : wpM E 10 189 rd c_sheaflaw11_RunsSorted_21 K t m = wpM E 10 189 rd (.block 2 c_sheaflaw11_RunsSorted_20) K t m := rfl

def c_sheaflaw11_RunsSorted_22 : MC := (.seq (.ops [⟨(some 46), .move (.tmp 8), none⟩,
    ⟨(some 47), .call ⟨.builtin .len, #[(.tmp 46)], #[60]⟩, none⟩,
    ⟨(some 48), .move (.const (.int .i64 0)), none⟩]) c_sheaflaw11_RunsSorted_21)
@[go_sem] theorem c_sheaflaw11_RunsSorted_22_at (rd : Option Nat) (K : Post3) (t : Fr) (m : Mem) : wpM E 10 189 rd c_sheaflaw11_RunsSorted_22 K t m = wpM E 10 189 rd (.seq (.ops [⟨(some 46), .move (.tmp 8), none⟩,
    ⟨(some 47), .call ⟨.builtin .len, #[(.tmp 46)], #[60]⟩, none⟩,
    ⟨(some 48), .move (.const (.int .i64 0)), none⟩]) c_sheaflaw11_RunsSorted_21) K t m := rfl

def c_sheaflaw11_RunsSorted_23 : MC := (.cond (.tmp 123) .skip (.exit 4))
@[go_sem] theorem c_sheaflaw11_RunsSorted_23_at (rd : Option Nat) (K : Post3) (t : Fr) (m : Mem) : wpM E 10 189 rd c_sheaflaw11_RunsSorted_23 K t m = wpM E 10 189 rd (.cond (.tmp 123) .skip (.exit 4)) K t m := rfl

def c_sheaflaw11_RunsSorted_24 : MC := (.seq (.ops [⟨(some 4), .assign (.const (.bool false)), none⟩]) .ret)
@[go_sem] theorem c_sheaflaw11_RunsSorted_24_at (rd : Option Nat) (K : Post3) (t : Fr) (m : Mem) : wpM E 10 189 rd c_sheaflaw11_RunsSorted_24 K t m = wpM E 10 189 rd (.seq (.ops [⟨(some 4), .assign (.const (.bool false)), none⟩]) .ret) K t m := rfl

def c_sheaflaw11_RunsSorted_25 : MC := (.cond (.tmp 127) c_sheaflaw11_RunsSorted_24 .skip)
@[go_sem] theorem c_sheaflaw11_RunsSorted_25_at (rd : Option Nat) (K : Post3) (t : Fr) (m : Mem) : wpM E 10 189 rd c_sheaflaw11_RunsSorted_25 K t m = wpM E 10 189 rd (.cond (.tmp 127) c_sheaflaw11_RunsSorted_24 .skip) K t m := rfl

def c_sheaflaw11_RunsSorted_26 : MC := (.seq (.ops [⟨(some 126), .move (.tmp 16), none⟩,
    ⟨(some 127), .binOp .neq 3 (.tmp 126) (.const (.int .i64 0)) 3, none⟩]) c_sheaflaw11_RunsSorted_25)
@[go_sem] theorem c_sheaflaw11_RunsSorted_26_at (rd : Option Nat) (K : Post3) (t : Fr) (m : Mem) : wpM E 10 189 rd c_sheaflaw11_RunsSorted_26 K t m = wpM E 10 189 rd (.seq (.ops [⟨(some 126), .move (.tmp 16), none⟩,
    ⟨(some 127), .binOp .neq 3 (.tmp 126) (.const (.int .i64 0)) 3, none⟩]) c_sheaflaw11_RunsSorted_25) K t m := rfl

def c_sheaflaw11_RunsSorted_27 : MC := (.seq (.ops [⟨(some 124), .entry (.tmp 121), none⟩,
    ⟨(some 125), .extract (.tmp 124) 1, none⟩,
    ⟨(some 16), .assign (.tmp 125), none⟩]) c_sheaflaw11_RunsSorted_26)
@[go_sem] theorem c_sheaflaw11_RunsSorted_27_at (rd : Option Nat) (K : Post3) (t : Fr) (m : Mem) : wpM E 10 189 rd c_sheaflaw11_RunsSorted_27 K t m = wpM E 10 189 rd (.seq (.ops [⟨(some 124), .entry (.tmp 121), none⟩,
    ⟨(some 125), .extract (.tmp 124) 1, none⟩,
    ⟨(some 16), .assign (.tmp 125), none⟩]) c_sheaflaw11_RunsSorted_26) K t m := rfl

def c_sheaflaw11_RunsSorted_28 : MC := (.block 5 c_sheaflaw11_RunsSorted_27)
@[go_sem] theorem c_sheaflaw11_RunsSorted_28_at (rd : Option Nat) (K : Post3) (t : Fr) (m : Mem) : wpM E 10 189 rd c_sheaflaw11_RunsSorted_28 K t m = wpM E 10 189 rd (.block 5 c_sheaflaw11_RunsSorted_27) K t m := rfl

def c_sheaflaw11_RunsSorted_29 : MC := (.seq c_sheaflaw11_RunsSorted_23 c_sheaflaw11_RunsSorted_28)
@[go_sem] theorem c_sheaflaw11_RunsSorted_29_at (rd : Option Nat) (K : Post3) (t : Fr) (m : Mem) : wpM E 10 189 rd c_sheaflaw11_RunsSorted_29 K t m = wpM E 10 189 rd (.seq c_sheaflaw11_RunsSorted_23 c_sheaflaw11_RunsSorted_28) K t m := rfl

def c_sheaflaw11_RunsSorted_30 : MC := (.seq (.ops [⟨(some 122), .next (.tmp 121) false, none⟩,
    ⟨(some 123), .extract (.tmp 122) 0, none⟩]) c_sheaflaw11_RunsSorted_29)
@[go_sem] theorem c_sheaflaw11_RunsSorted_30_at (rd : Option Nat) (K : Post3) (t : Fr) (m : Mem) : wpM E 10 189 rd c_sheaflaw11_RunsSorted_30 K t m = wpM E 10 189 rd (.seq (.ops [⟨(some 122), .next (.tmp 121) false, none⟩,
    ⟨(some 123), .extract (.tmp 122) 0, none⟩]) c_sheaflaw11_RunsSorted_29) K t m := rfl

def c_sheaflaw11_RunsSorted_31 : MC := (.loop c_sheaflaw11_RunsSorted_30)
theorem c_sheaflaw11_RunsSorted_31_at (rd : Option Nat) (K : Post3) (t : Fr) (m : Mem) : wpM E 10 189 rd c_sheaflaw11_RunsSorted_31 K t m = wpM E 10 189 rd (.loop c_sheaflaw11_RunsSorted_30) K t m := rfl

def c_sheaflaw11_RunsSorted_32 : MC := (.block 4 c_sheaflaw11_RunsSorted_31)
theorem c_sheaflaw11_RunsSorted_32_at (rd : Option Nat) (K : Post3) (t : Fr) (m : Mem) : wpM E 10 189 rd c_sheaflaw11_RunsSorted_32 K t m = wpM E 10 189 rd (.block 4 c_sheaflaw11_RunsSorted_31) K t m := rfl

def c_sheaflaw11_RunsSorted_33 : MC := (.seq (.ops [⟨(some 120), .move (.tmp 9), none⟩,
    ⟨(some 121), .range 65 (.tmp 120), none⟩]) c_sheaflaw11_RunsSorted_32)
@[go_sem] theorem c_sheaflaw11_RunsSorted_33_at (rd : Option Nat) (K : Post3) (t : Fr) (m : Mem) : wpM E 10 189 rd c_sheaflaw11_RunsSorted_33 K t m = wpM E 10 189 rd (.seq (.ops [⟨(some 120), .move (.tmp 9), none⟩,
    ⟨(some 121), .range 65 (.tmp 120), none⟩]) c_sheaflaw11_RunsSorted_32) K t m := rfl

def c_sheaflaw11_RunsSorted_34 : MC := (.seq (.ops [⟨(some 4), .assign (.const (.bool false)), none⟩]) .ret)
@[go_sem] theorem c_sheaflaw11_RunsSorted_34_at (rd : Option Nat) (K : Post3) (t : Fr) (m : Mem) : wpM E 10 189 rd c_sheaflaw11_RunsSorted_34 K t m = wpM E 10 189 rd (.seq (.ops [⟨(some 4), .assign (.const (.bool false)), none⟩]) .ret) K t m := rfl

def c_sheaflaw11_RunsSorted_35 : MC := (.cond (.tmp 147) c_sheaflaw11_RunsSorted_34 .skip)
@[go_sem] theorem c_sheaflaw11_RunsSorted_35_at (rd : Option Nat) (K : Post3) (t : Fr) (m : Mem) : wpM E 10 189 rd c_sheaflaw11_RunsSorted_35 K t m = wpM E 10 189 rd (.cond (.tmp 147) c_sheaflaw11_RunsSorted_34 .skip) K t m := rfl

def c_sheaflaw11_RunsSorted_36 : MC := (.seq (.ops [⟨(some 128), .move (.tmp 8), none⟩,
    ⟨(some 129), .call ⟨.builtin .len, #[(.tmp 128)], #[60]⟩, none⟩,
    ⟨(some 130), .move (.tmp 5), none⟩,
    ⟨(some 131), .call ⟨.builtin .len, #[(.tmp 130)], #[25]⟩, none⟩,
    ⟨(some 132), .binOp .neq 3 (.tmp 129) (.tmp 131) 3, none⟩,
    ⟨(some 133), .move (.tmp 132), none⟩,
    ⟨(some 134), .move (.tmp 7), (some (some 133, false))⟩,
    ⟨(some 135), .nilCheck (.tmp 134), (some (some 133, false))⟩,
    ⟨(some 136), .fieldAddr 59 (.tmp 135) 1, (some (some 133, false))⟩,
    ⟨(some 137), .load 3 (.tmp 136), (some (some 133, false))⟩,
    ⟨(some 138), .move (.tmp 6), (some (some 133, false))⟩,
    ⟨(some 139), .binOp .gtr 3 (.tmp 137) (.tmp 138) 3, (some (some 133, false))⟩,
    ⟨(some 140), .pick (.tmp 133) (.const (.bool true)) (.tmp 139), none⟩,
    ⟨(some 141), .move (.tmp 140), none⟩,
    ⟨(some 142), .move (.tmp 7), (some (some 141, false))⟩,
    ⟨(some 143), .nilCheck (.tmp 142), (some (some 141, false))⟩,
    ⟨(some 144), .fieldAddr 59 (.tmp 143) 0, (some (some 141, false))⟩,
    ⟨(some 145), .load 3 (.tmp 144), (some (some 141, false))⟩,
    ⟨(some 146), .binOp .neq 3 (.tmp 145) (.const (.int .i64 0)) 3, (some (some 141, false))⟩,
    ⟨(some 147), .pick (.tmp 141) (.const (.bool true)) (.tmp 146), none⟩]) c_sheaflaw11_RunsSorted_35)
@[go_sem] theorem c_sheaflaw11_RunsSorted_36_at (rd : Option Nat) (K : Post3) (t : Fr) (m : Mem) : wpM E 10 189 rd c_sheaflaw11_RunsSorted_36 K t m = wpM E 10 189 rd (.seq (.ops [⟨(some 128), .move (.tmp 8), none⟩,
    ⟨(some 129), .call ⟨.builtin .len, #[(.tmp 128)], #[60]⟩, none⟩,
    ⟨(some 130), .move (.tmp 5), none⟩,
    ⟨(some 131), .call ⟨.builtin .len, #[(.tmp 130)], #[25]⟩, none⟩,
    ⟨(some 132), .binOp .neq 3 (.tmp 129) (.tmp 131) 3, none⟩,
    ⟨(some 133), .move (.tmp 132), none⟩,
    ⟨(some 134), .move (.tmp 7), (some (some 133, false))⟩,
    ⟨(some 135), .nilCheck (.tmp 134), (some (some 133, false))⟩,
    ⟨(some 136), .fieldAddr 59 (.tmp 135) 1, (some (some 133, false))⟩,
    ⟨(some 137), .load 3 (.tmp 136), (some (some 133, false))⟩,
    ⟨(some 138), .move (.tmp 6), (some (some 133, false))⟩,
    ⟨(some 139), .binOp .gtr 3 (.tmp 137) (.tmp 138) 3, (some (some 133, false))⟩,
    ⟨(some 140), .pick (.tmp 133) (.const (.bool true)) (.tmp 139), none⟩,
    ⟨(some 141), .move (.tmp 140), none⟩,
    ⟨(some 142), .move (.tmp 7), (some (some 141, false))⟩,
    ⟨(some 143), .nilCheck (.tmp 142), (some (some 141, false))⟩,
    ⟨(some 144), .fieldAddr 59 (.tmp 143) 0, (some (some 141, false))⟩,
    ⟨(some 145), .load 3 (.tmp 144), (some (some 141, false))⟩,
    ⟨(some 146), .binOp .neq 3 (.tmp 145) (.const (.int .i64 0)) 3, (some (some 141, false))⟩,
    ⟨(some 147), .pick (.tmp 141) (.const (.bool true)) (.tmp 146), none⟩]) c_sheaflaw11_RunsSorted_35) K t m := rfl

def c_sheaflaw11_RunsSorted_37 : MC := (.cond (.tmp 152) .skip (.exit 6))
@[go_sem] theorem c_sheaflaw11_RunsSorted_37_at (rd : Option Nat) (K : Post3) (t : Fr) (m : Mem) : wpM E 10 189 rd c_sheaflaw11_RunsSorted_37 K t m = wpM E 10 189 rd (.cond (.tmp 152) .skip (.exit 6)) K t m := rfl

def c_sheaflaw11_RunsSorted_38 : MC := (.seq (.ops [⟨(some 148), .move (.tmp 17), none⟩,
    ⟨(some 149), .binOp .add 3 (.tmp 148) (.const (.int .i64 1)) 3, none⟩,
    ⟨(some 150), .move (.tmp 12), none⟩,
    ⟨(some 151), .call ⟨.builtin .len, #[(.tmp 150)], #[65]⟩, none⟩,
    ⟨(some 152), .binOp .lss 3 (.tmp 149) (.tmp 151) 3, none⟩]) c_sheaflaw11_RunsSorted_37)
@[go_sem] theorem c_sheaflaw11_RunsSorted_38_at (rd : Option Nat) (K : Post3) (t : Fr) (m : Mem) : wpM E 10 189 rd c_sheaflaw11_RunsSorted_38 K t m = wpM E 10 189 rd (.seq (.ops [⟨(some 148), .move (.tmp 17), none⟩,
    ⟨(some 149), .binOp .add 3 (.tmp 148) (.const (.int .i64 1)) 3, none⟩,
    ⟨(some 150), .move (.tmp 12), none⟩,
    ⟨(some 151), .call ⟨.builtin .len, #[(.tmp 150)], #[65]⟩, none⟩,
    ⟨(some 152), .binOp .lss 3 (.tmp 149) (.tmp 151) 3, none⟩]) c_sheaflaw11_RunsSorted_37) K t m := rfl

def c_sheaflaw11_RunsSorted_39 : MC := (.seq (.ops [⟨(some 4), .assign (.const (.bool false)), none⟩]) .ret)
@[go_sem] theorem c_sheaflaw11_RunsSorted_39_at (rd : Option Nat) (K : Post3) (t : Fr) (m : Mem) : wpM E 10 189 rd c_sheaflaw11_RunsSorted_39 K t m = wpM E 10 189 rd (.seq (.ops [⟨(some 4), .assign (.const (.bool false)), none⟩]) .ret) K t m := rfl

def c_sheaflaw11_RunsSorted_40 : MC := (.cond (.tmp 159) c_sheaflaw11_RunsSorted_39 .skip)
@[go_sem] theorem c_sheaflaw11_RunsSorted_40_at (rd : Option Nat) (K : Post3) (t : Fr) (m : Mem) : wpM E 10 189 rd c_sheaflaw11_RunsSorted_40 K t m = wpM E 10 189 rd (.cond (.tmp 159) c_sheaflaw11_RunsSorted_39 .skip) K t m := rfl

def c_sheaflaw11_RunsSorted_41 : MC := (.seq (.ops [⟨(some 155), .move (.tmp 12), none⟩,
    ⟨(some 156), .move (.tmp 17), none⟩,
    ⟨(some 157), .lookup 65 (.tmp 155) (.tmp 156) false, none⟩,
    ⟨(some 158), .move (.tmp 6), none⟩,
    ⟨(some 159), .binOp .lss 3 (.tmp 157) (.tmp 158) 3, none⟩]) c_sheaflaw11_RunsSorted_40)
@[go_sem] theorem c_sheaflaw11_RunsSorted_41_at (rd : Option Nat) (K : Post3) (t : Fr) (m : Mem) : wpM E 10 189 rd c_sheaflaw11_RunsSorted_41 K t m = wpM E 10 189 rd (.seq (.ops [⟨(some 155), .move (.tmp 12), none⟩,
    ⟨(some 156), .move (.tmp 17), none⟩,
    ⟨(some 157), .lookup 65 (.tmp 155) (.tmp 156) false, none⟩,
    ⟨(some 158), .move (.tmp 6), none⟩,
    ⟨(some 159), .binOp .lss 3 (.tmp 157) (.tmp 158) 3, none⟩]) c_sheaflaw11_RunsSorted_40) K t m := rfl

def c_sheaflaw11_RunsSorted_42 : MC := (.block 7 c_sheaflaw11_RunsSorted_41)
@[go_sem] theorem c_sheaflaw11_RunsSorted_42_at (rd : Option Nat) (K : Post3) (t : Fr) (m : Mem) : wpM E 10 189 rd c_sheaflaw11_RunsSorted_42 K t m = wpM E 10 189 rd (.block 7 c_sheaflaw11_RunsSorted_41) K t m := rfl

def c_sheaflaw11_RunsSorted_43 : MC := (.seq c_sheaflaw11_RunsSorted_42 (.ops [⟨(some 153), .move (.tmp 17), none⟩,
    ⟨(some 154), .binOp .add 3 (.tmp 153) (.const (.int .i64 1)) 3, none⟩,
    ⟨(some 17), .assign (.tmp 154), none⟩]))
@[go_sem] theorem c_sheaflaw11_RunsSorted_43_at (rd : Option Nat) (K : Post3) (t : Fr) (m : Mem) : wpM E 10 189 rd c_sheaflaw11_RunsSorted_43 K t m = wpM E 10 189 rd (.seq c_sheaflaw11_RunsSorted_42 (.ops [⟨(some 153), .move (.tmp 17), none⟩,
    ⟨(some 154), .binOp .add 3 (.tmp 153) (.const (.int .i64 1)) 3, none⟩,
    ⟨(some 17), .assign (.tmp 154), none⟩])) K t m := rfl

def c_sheaflaw11_RunsSorted_44 : MC := (.seq c_sheaflaw11_RunsSorted_38 c_sheaflaw11_RunsSorted_43)
@[go_sem] theorem c_sheaflaw11_RunsSorted_44_at (rd : Option Nat) (K : Post3) (t : Fr) (m : Mem) : wpM E 10 189 rd c_sheaflaw11_RunsSorted_44 K t m = wpM E 10 189 rd (.seq c_sheaflaw11_RunsSorted_38 c_sheaflaw11_RunsSorted_43) K t m := rfl

def c_sheaflaw11_RunsSorted_45 : MC := (.loop c_sheaflaw11_RunsSorted_44)
theorem c_sheaflaw11_RunsSorted_45_at (rd : Option Nat) (K : Post3) (t : Fr) (m : Mem) : wpM E 10 189 rd c_sheaflaw11_RunsSorted_45 K t m = wpM E 10 189 rd (.loop c_sheaflaw11_RunsSorted_44) K t m := rfl

def c_sheaflaw11_RunsSorted_46 : MC := (.block 6 c_sheaflaw11_RunsSorted_45)
theorem c_sheaflaw11_RunsSorted_46_at (rd : Option Nat) (K : Post3) (t : Fr) (m : Mem) : wpM E 10 189 rd c_sheaflaw11_RunsSorted_46 K t m = wpM E 10 189 rd (.block 6 c_sheaflaw11_RunsSorted_45) K t m := rfl

def c_sheaflaw11_RunsSorted_47 : MC := (.seq (.ops [⟨(some 17), .assign (.const (.int .i64 0)), none⟩]) c_sheaflaw11_RunsSorted_46)
@[go_sem] theorem c_sheaflaw11_RunsSorted_47_at (rd : Option Nat) (K : Post3) (t : Fr) (m : Mem) : wpM E 10 189 rd c_sheaflaw11_RunsSorted_47 K t m = wpM E 10 189 rd (.seq (.ops [⟨(some 17), .assign (.const (.int .i64 0)), none⟩]) c_sheaflaw11_RunsSorted_46) K t m := rfl

def c_sheaflaw11_RunsSorted_48 : MC := (.cond (.tmp 163) .skip (.exit 8))
@[go_sem] theorem c_sheaflaw11_RunsSorted_48_at (rd : Option Nat) (K : Post3) (t : Fr) (m : Mem) : wpM E 10 189 rd c_sheaflaw11_RunsSorted_48 K t m = wpM E 10 189 rd (.cond (.tmp 163) .skip (.exit 8)) K t m := rfl

def c_sheaflaw11_RunsSorted_49 : MC := (.seq (.ops [⟨(some 160), .move (.tmp 19), none⟩,
    ⟨(some 161), .move (.tmp 5), none⟩,
    ⟨(some 162), .call ⟨.builtin .len, #[(.tmp 161)], #[25]⟩, none⟩,
    ⟨(some 163), .binOp .lss 3 (.tmp 160) (.tmp 162) 3, none⟩]) c_sheaflaw11_RunsSorted_48)
@[go_sem] theorem c_sheaflaw11_RunsSorted_49_at (rd : Option Nat) (K : Post3) (t : Fr) (m : Mem) : wpM E 10 189 rd c_sheaflaw11_RunsSorted_49 K t m = wpM E 10 189 rd (.seq (.ops [⟨(some 160), .move (.tmp 19), none⟩,
    ⟨(some 161), .move (.tmp 5), none⟩,
    ⟨(some 162), .call ⟨.builtin .len, #[(.tmp 161)], #[25]⟩, none⟩,
    ⟨(some 163), .binOp .lss 3 (.tmp 160) (.tmp 162) 3, none⟩]) c_sheaflaw11_RunsSorted_48) K t m := rfl

def c_sheaflaw11_RunsSorted_50 : MC := (.block 9 (.ops [⟨(some 166), .move (.tmp 18), none⟩,
    ⟨(some 167), .move (.tmp 166), none⟩,
    ⟨(some 168), .move (.tmp 5), (some (some 167, true))⟩,
    ⟨(some 169), .move (.tmp 19), (some (some 167, true))⟩,
    ⟨(some 170), .binOp .sub 3 (.tmp 169) (.const (.int .i64 1)) 3, (some (some 167, true))⟩,
    ⟨(some 171), .indexAddr 25 (.tmp 168) (.tmp 170), (some (some 167, true))⟩,
    ⟨(some 172), .load 3 (.tmp 171), (some (some 167, true))⟩,
    ⟨(some 173), .move (.tmp 5), (some (some 167, true))⟩,
    ⟨(some 174), .move (.tmp 19), (some (some 167, true))⟩,
    ⟨(some 175), .indexAddr 25 (.tmp 173) (.tmp 174), (some (some 167, true))⟩,
    ⟨(some 176), .load 3 (.tmp 175), (some (some 167, true))⟩,
    ⟨(some 177), .binOp .leq 3 (.tmp 172) (.tmp 176) 3, (some (some 167, true))⟩,
    ⟨(some 178), .pick (.tmp 167) (.tmp 177) (.const (.bool false)), none⟩,
    ⟨(some 18), .assign (.tmp 178), none⟩]))
@[go_sem] theorem c_sheaflaw11_RunsSorted_50_at (rd : Option Nat) (K : Post3) (t : Fr) (m : Mem) : wpM E 10 189 rd c_sheaflaw11_RunsSorted_50 K t m = wpM E 10 189 rd (.block 9 (.ops [⟨(some 166), .move (.tmp 18), none⟩,
    ⟨(some 167), .move (.tmp 166), none⟩,
    ⟨(some 168), .move (.tmp 5), (some (some 167, true))⟩,
    ⟨(some 169), .move (.tmp 19), (some (some 167, true))⟩,
    ⟨(some 170), .binOp .sub 3 (.tmp 169) (.const (.int .i64 1)) 3, (some (some 167, true))⟩,
    ⟨(some 171), .indexAddr 25 (.tmp 168) (.tmp 170), (some (some 167, true))⟩,
    ⟨(some 172), .load 3 (.tmp 171), (some (some 167, true))⟩,
    ⟨(some 173), .move (.tmp 5), (some (some 167, true))⟩,
    ⟨(some 174), .move (.tmp 19), (some (some 167, true))⟩,
    ⟨(some 175), .indexAddr 25 (.tmp 173) (.tmp 174), (some (some 167, true))⟩,
    ⟨(some 176), .load 3 (.tmp 175), (some (some 167, true))⟩,
    ⟨(some 177), .binOp .leq 3 (.tmp 172) (.tmp 176) 3, (some (some 167, true))⟩,
    ⟨(some 178), .pick (.tmp 167) (.tmp 177) (.const (.bool false)), none⟩,
    ⟨(some 18), .assign (.tmp 178), none⟩])) K t m := rfl

def c_sheaflaw11_RunsSorted_51 : MC := (.seq c_sheaflaw11_RunsSorted_50 (.ops [⟨(some 164), .move (.tmp 19), none⟩,
    ⟨(some 165), .binOp .add 3 (.tmp 164) (.const (.int .i64 1)) 3, none⟩,
    ⟨(some 19), .assign (.tmp 165), none⟩]))
@[go_sem] theorem c_sheaflaw11_RunsSorted_51_at (rd : Option Nat) (K : Post3) (t : Fr) (m : Mem) : wpM E 10 189 rd c_sheaflaw11_RunsSorted_51 K t m = wpM E 10 189 rd (.seq c_sheaflaw11_RunsSorted_50 (.ops [⟨(some 164), .move (.tmp 19), none⟩,
    ⟨(some 165), .binOp .add 3 (.tmp 164) (.const (.int .i64 1)) 3, none⟩,
    ⟨(some 19), .assign (.tmp 165), none⟩])) K t m := rfl

def c_sheaflaw11_RunsSorted_52 : MC := (.seq c_sheaflaw11_RunsSorted_49 c_sheaflaw11_RunsSorted_51)
@[go_sem] theorem c_sheaflaw11_RunsSorted_52_at (rd : Option Nat) (K : Post3) (t : Fr) (m : Mem) : wpM E 10 189 rd c_sheaflaw11_RunsSorted_52 K t m = wpM E 10 189 rd (.seq c_sheaflaw11_RunsSorted_49 c_sheaflaw11_RunsSorted_51) K t m := rfl

def c_sheaflaw11_RunsSorted_53 : MC := (.loop c_sheaflaw11_RunsSorted_52)
theorem c_sheaflaw11_RunsSorted_53_at (rd : Option Nat) (K : Post3) (t : Fr) (m : Mem) : wpM E 10 189 rd c_sheaflaw11_RunsSorted_53 K t m = wpM E 10 189 rd (.loop c_sheaflaw11_RunsSorted_52) K t m := rfl

def c_sheaflaw11_RunsSorted_54 : MC := (.block 8 c_sheaflaw11_RunsSorted_53)
theorem c_sheaflaw11_RunsSorted_54_at (rd : Option Nat) (K : Post3) (t : Fr) (m : Mem) : wpM E 10 189 rd c_sheaflaw11_RunsSorted_54 K t m = wpM E 10 189 rd (.block 8 c_sheaflaw11_RunsSorted_53) K t m := rfl

def c_sheaflaw11_RunsSorted_55 : MC := (.seq (.ops [⟨(some 19), .assign (.const (.int .i64 1)), none⟩]) c_sheaflaw11_RunsSorted_54)
@[go_sem] theorem c_sheaflaw11_RunsSorted_55_at (rd : Option Nat) (K : Post3) (t : Fr) (m : Mem) : wpM E 10 189 rd c_sheaflaw11_RunsSorted_55 K t m = wpM E 10 189 rd (.seq (.ops [⟨(some 19), .assign (.const (.int .i64 1)), none⟩]) c_sheaflaw11_RunsSorted_54) K t m := rfl

def c_sheaflaw11_RunsSorted_56 : MC := (.seq (.ops [⟨(some 179), .move (.tmp 18), none⟩,
    ⟨(some 180), .unOp .not 4 (.tmp 179), none⟩,
    ⟨(some 181), .move (.tmp 180), none⟩,
    ⟨(some 182), .move (.tmp 12), (some (some 181, false))⟩,
    ⟨(some 183), .call ⟨.builtin .len, #[(.tmp 182)], #[65]⟩, (some (some 181, false))⟩,
    ⟨(some 184), .binOp .leq 3 (.tmp 183) (.const (.int .i64 1)) 3, (some (some 181, false))⟩,
    ⟨(some 185), .pick (.tmp 181) (.const (.bool true)) (.tmp 184), none⟩,
    ⟨(some 186), .move (.tmp 185), none⟩,
    ⟨(some 187), .call ⟨.value (.func 8), #[], #[]⟩, (some (some 186, true))⟩,
    ⟨(some 188), .pick (.tmp 186) (.tmp 187) (.const (.bool false)), none⟩,
    ⟨(some 4), .assign (.tmp 188), none⟩]) .ret)
@[go_sem] theorem c_sheaflaw11_RunsSorted_56_at (rd : Option Nat) (K : Post3) (t : Fr) (m : Mem) : wpM E 10 189 rd c_sheaflaw11_RunsSorted_56 K t m = wpM E 10 189 rd (.seq (.ops [⟨(some 179), .move (.tmp 18), none⟩,
    ⟨(some 180), .unOp .not 4 (.tmp 179), none⟩,
    ⟨(some 181), .move (.tmp 180), none⟩,
    ⟨(some 182), .move (.tmp 12), (some (some 181, false))⟩,
    ⟨(some 183), .call ⟨.builtin .len, #[(.tmp 182)], #[65]⟩, (some (some 181, false))⟩,
    ⟨(some 184), .binOp .leq 3 (.tmp 183) (.const (.int .i64 1)) 3, (some (some 181, false))⟩,
    ⟨(some 185), .pick (.tmp 181) (.const (.bool true)) (.tmp 184), none⟩,
    ⟨(some 186), .move (.tmp 185), none⟩,
    ⟨(some 187), .call ⟨.value (.func 8), #[], #[]⟩, (some (some 186, true))⟩,
    ⟨(some 188), .pick (.tmp 186) (.tmp 187) (.const (.bool false)), none⟩,
    ⟨(some 4), .assign (.tmp 188), none⟩]) .ret) K t m := rfl

def c_sheaflaw11_RunsSorted_57 : MC := (.seq c_sheaflaw11_RunsSorted_55 c_sheaflaw11_RunsSorted_56)
@[go_sem] theorem c_sheaflaw11_RunsSorted_57_at (rd : Option Nat) (K : Post3) (t : Fr) (m : Mem) : wpM E 10 189 rd c_sheaflaw11_RunsSorted_57 K t m = wpM E 10 189 rd (.seq c_sheaflaw11_RunsSorted_55 c_sheaflaw11_RunsSorted_56) K t m := rfl

def c_sheaflaw11_RunsSorted_58 : MC := (.seq (.ops [⟨(some 18), .assign (.const (.bool true)), none⟩]) c_sheaflaw11_RunsSorted_57)
@[go_sem] theorem c_sheaflaw11_RunsSorted_58_at (rd : Option Nat) (K : Post3) (t : Fr) (m : Mem) : wpM E 10 189 rd c_sheaflaw11_RunsSorted_58 K t m = wpM E 10 189 rd (.seq (.ops [⟨(some 18), .assign (.const (.bool true)), none⟩]) c_sheaflaw11_RunsSorted_57) K t m := rfl

def c_sheaflaw11_RunsSorted_59 : MC := (.seq c_sheaflaw11_RunsSorted_47 c_sheaflaw11_RunsSorted_58)
@[go_sem] theorem c_sheaflaw11_RunsSorted_59_at (rd : Option Nat) (K : Post3) (t : Fr) (m : Mem) : wpM E 10 189 rd c_sheaflaw11_RunsSorted_59 K t m = wpM E 10 189 rd (.seq c_sheaflaw11_RunsSorted_47 c_sheaflaw11_RunsSorted_58) K t m := rfl

def c_sheaflaw11_RunsSorted_60 : MC := (.seq c_sheaflaw11_RunsSorted_36 c_sheaflaw11_RunsSorted_59)
@[go_sem] theorem c_sheaflaw11_RunsSorted_60_at (rd : Option Nat) (K : Post3) (t : Fr) (m : Mem) : wpM E 10 189 rd c_sheaflaw11_RunsSorted_60 K t m = wpM E 10 189 rd (.seq c_sheaflaw11_RunsSorted_36 c_sheaflaw11_RunsSorted_59) K t m := rfl

def c_sheaflaw11_RunsSorted_61 : MC := (.seq c_sheaflaw11_RunsSorted_33 c_sheaflaw11_RunsSorted_60)
@[go_sem] theorem c_sheaflaw11_RunsSorted_61_at (rd : Option Nat) (K : Post3) (t : Fr) (m : Mem) : wpM E 10 189 rd c_sheaflaw11_RunsSorted_61 K t m = wpM E 10 189 rd (.seq c_sheaflaw11_RunsSorted_33 c_sheaflaw11_RunsSorted_60) K t m := rfl

def c_sheaflaw11_RunsSorted_62 : MC := (.seq c_sheaflaw11_RunsSorted_22 c_sheaflaw11_RunsSorted_61)
@[go_sem] theorem c_sheaflaw11_RunsSorted_62_at (rd : Option Nat) (K : Post3) (t : Fr) (m : Mem) : wpM E 10 189 rd c_sheaflaw11_RunsSorted_62 K t m = wpM E 10 189 rd (.seq c_sheaflaw11_RunsSorted_22 c_sheaflaw11_RunsSorted_61) K t m := rfl

def c_sheaflaw11_RunsSorted_63 : MC := (.seq (.ops [⟨(some 45), .makeMap 65 none, none⟩,
    ⟨(some 12), .assign (.tmp 45), none⟩]) c_sheaflaw11_RunsSorted_62)
@[go_sem] theorem c_sheaflaw11_RunsSorted_63_at (rd : Option Nat) (K : Post3) (t : Fr) (m : Mem) : wpM E 10 189 rd c_sheaflaw11_RunsSorted_63 K t m = wpM E 10 189 rd (.seq (.ops [⟨(some 45), .makeMap 65 none, none⟩,
    ⟨(some 12), .assign (.tmp 45), none⟩]) c_sheaflaw11_RunsSorted_62) K t m := rfl

def c_sheaflaw11_RunsSorted_64 : MC := (.seq c_sheaflaw11_RunsSorted_8 c_sheaflaw11_RunsSorted_63)
@[go_sem] theorem c_sheaflaw11_RunsSorted_64_at (rd : Option Nat) (K : Post3) (t : Fr) (m : Mem) : wpM E 10 189 rd c_sheaflaw11_RunsSorted_64 K t m = wpM E 10 189 rd (.seq c_sheaflaw11_RunsSorted_8 c_sheaflaw11_RunsSorted_63) K t m := rfl

def c_sheaflaw11_RunsSorted_65 : MC := (.seq (.ops [⟨(some 33), .makeMap 65 none, none⟩,
    ⟨(some 9), .assign (.tmp 33), none⟩]) c_sheaflaw11_RunsSorted_64)
@[go_sem] theorem c_sheaflaw11_RunsSorted_65_at (rd : Option Nat) (K : Post3) (t : Fr) (m : Mem) : wpM E 10 189 rd c_sheaflaw11_RunsSorted_65 K t m = wpM E 10 189 rd (.seq (.ops [⟨(some 33), .makeMap 65 none, none⟩,
    ⟨(some 9), .assign (.tmp 33), none⟩]) c_sheaflaw11_RunsSorted_64) K t m := rfl

def c_sheaflaw11_RunsSorted_66 : MC := (.seq (.ops [⟨(some 29), .move (.tmp 5), none⟩,
    ⟨(some 30), .move (.tmp 6), none⟩,
    ⟨(some 31), .move (.tmp 7), none⟩,
    ⟨(some 32), .call ⟨.value (.func 30), #[(.tmp 29), (.tmp 30), (.tmp 31)], #[25, 3, 57]⟩, none⟩,
    ⟨(some 8), .assign (.tmp 32), none⟩]) c_sheaflaw11_RunsSorted_65)
@[go_sem] theorem c_sheaflaw11_RunsSorted_66_at (rd : Option Nat) (K : Post3) (t : Fr) (m : Mem) : wpM E 10 189 rd c_sheaflaw11_RunsSorted_66 K t m = wpM E 10 189 rd (.seq (.ops [⟨(some 29), .move (.tmp 5), none⟩,
    ⟨(some 30), .move (.tmp 6), none⟩,
    ⟨(some 31), .move (.tmp 7), none⟩,
    ⟨(some 32), .call ⟨.value (.func 30), #[(.tmp 29), (.tmp 30), (.tmp 31)], #[25, 3, 57]⟩, none⟩,
    ⟨(some 8), .assign (.tmp 32), none⟩]) c_sheaflaw11_RunsSorted_65) K t m := rfl

def c_sheaflaw11_RunsSorted_67 : MC := (.seq (.ops [⟨(some 27), .build 59 #[], none⟩,
    ⟨(some 28), .box 59 (.tmp 27), none⟩,
    ⟨(some 7), .assign (.tmp 28), none⟩]) c_sheaflaw11_RunsSorted_66)
@[go_sem] theorem c_sheaflaw11_RunsSorted_67_at (rd : Option Nat) (K : Post3) (t : Fr) (m : Mem) : wpM E 10 189 rd c_sheaflaw11_RunsSorted_67 K t m = wpM E 10 189 rd (.seq (.ops [⟨(some 27), .build 59 #[], none⟩,
    ⟨(some 28), .box 59 (.tmp 27), none⟩,
    ⟨(some 7), .assign (.tmp 28), none⟩]) c_sheaflaw11_RunsSorted_66) K t m := rfl

def c_sheaflaw11_RunsSorted_68 : MC := (.seq (.ops [⟨(some 25), .move (.tmp 1), none⟩,
    ⟨(some 26), .call ⟨.value (.func 29), #[(.tmp 25), (.const (.int .i64 1)), (.const (.int .i64 12))], #[3, 3, 3]⟩, none⟩,
    ⟨(some 6), .assign (.tmp 26), none⟩]) c_sheaflaw11_RunsSorted_67)
@[go_sem] theorem c_sheaflaw11_RunsSorted_68_at (rd : Option Nat) (K : Post3) (t : Fr) (m : Mem) : wpM E 10 189 rd c_sheaflaw11_RunsSorted_68 K t m = wpM E 10 189 rd (.seq (.ops [⟨(some 25), .move (.tmp 1), none⟩,
    ⟨(some 26), .call ⟨.value (.func 29), #[(.tmp 25), (.const (.int .i64 1)), (.const (.int .i64 12))], #[3, 3, 3]⟩, none⟩,
    ⟨(some 6), .assign (.tmp 26), none⟩]) c_sheaflaw11_RunsSorted_67) K t m := rfl

def c_sheaflaw11_RunsSorted_69 : MC := (.seq (.ops [⟨(some 20), .move (.tmp 0), none⟩,
    ⟨(some 21), .move (.tmp 0), none⟩,
    ⟨(some 22), .call ⟨.builtin .len, #[(.tmp 21)], #[25]⟩, none⟩,
    ⟨(some 23), .call ⟨.builtin .min, #[(.tmp 22), (.const (.int .i64 60))], #[3, 3]⟩, none⟩,
    ⟨(some 24), .slice 25 (.tmp 20) none (some (.tmp 23)) none, none⟩,
    ⟨(some 5), .assign (.tmp 24), none⟩]) c_sheaflaw11_RunsSorted_68)
@[go_sem] theorem c_sheaflaw11_RunsSorted_69_at (rd : Option Nat) (K : Post3) (t : Fr) (m : Mem) : wpM E 10 189 rd c_sheaflaw11_RunsSorted_69 K t m = wpM E 10 189 rd (.seq (.ops [⟨(some 20), .move (.tmp 0), none⟩,
    ⟨(some 21), .move (.tmp 0), none⟩,
    ⟨(some 22), .call ⟨.builtin .len, #[(.tmp 21)], #[25]⟩, none⟩,
    ⟨(some 23), .call ⟨.builtin .min, #[(.tmp 22), (.const (.int .i64 60))], #[3, 3]⟩, none⟩,
    ⟨(some 24), .slice 25 (.tmp 20) none (some (.tmp 23)) none, none⟩,
    ⟨(some 5), .assign (.tmp 24), none⟩]) c_sheaflaw11_RunsSorted_68) K t m := rfl

def c_sheaflaw11_RunsSorted_70 : MC := (.seq (.ops [⟨(some 4), .assign (.const (.bool false)), none⟩]) c_sheaflaw11_RunsSorted_69)
@[go_sem] theorem c_sheaflaw11_RunsSorted_70_at (rd : Option Nat) (K : Post3) (t : Fr) (m : Mem) : wpM E 10 189 rd c_sheaflaw11_RunsSorted_70 K t m = wpM E 10 189 rd (.seq (.ops [⟨(some 4), .assign (.const (.bool false)), none⟩]) c_sheaflaw11_RunsSorted_69) K t m := rfl

@[go_sem] theorem some10 : (E.fn 10).isSome = true := by kernel_rfl
set_option maxRecDepth 100000 in
theorem fn_sheaflaw11_RunsSorted : FnIs E 10 189 [.tmp 4] c_sheaflaw11_RunsSorted_70 := ⟨by kernel_rfl, by kernel_rfl⟩

/-! sheaf/sheaflaw11.RunsLeft -/
abbrev F_sheaflaw11_RunsLeft : FuncId := 11
def c_sheaflaw11_RunsLeft_0 : MC := (.seq (.ops [⟨(some 6), .assign (.const (.bool false)), none⟩]) .ret)
@[go_sem] theorem c_sheaflaw11_RunsLeft_0_at (rd : Option Nat) (K : Post3) (t : Fr) (m : Mem) : wpM E 11 79 rd c_sheaflaw11_RunsLeft_0 K t m = wpM E 11 79 rd (.seq (.ops [⟨(some 6), .assign (.const (.bool false)), none⟩]) .ret) K t m := rfl

def c_sheaflaw11_RunsLeft_1 : MC := (.cond (.tmp 28) c_sheaflaw11_RunsLeft_0 .skip)
@[go_sem] theorem c_sheaflaw11_RunsLeft_1_at (rd : Option Nat) (K : Post3) (t : Fr) (m : Mem) : wpM E 11 79 rd c_sheaflaw11_RunsLeft_1 K t m = wpM E 11 79 rd (.cond (.tmp 28) c_sheaflaw11_RunsLeft_0 .skip) K t m := rfl

def c_sheaflaw11_RunsLeft_2 : MC := (.seq (.ops [⟨(some 27), .move (.tmp 11), none⟩,
    ⟨(some 28), .binOp .eql 67 (.tmp 27) (.const .nilFunc) 67, none⟩]) c_sheaflaw11_RunsLeft_1)
@[go_sem] theorem c_sheaflaw11_RunsLeft_2_at (rd : Option Nat) (K : Post3) (t : Fr) (m : Mem) : wpM E 11 79 rd c_sheaflaw11_RunsLeft_2 K t m = wpM E 11 79 rd (.seq (.ops [⟨(some 27), .move (.tmp 11), none⟩,
    ⟨(some 28), .binOp .eql 67 (.tmp 27) (.const .nilFunc) 67, none⟩]) c_sheaflaw11_RunsLeft_1) K t m := rfl

def c_sheaflaw11_RunsLeft_3 : MC := (.cond (.tmp 37) (.exit 0) .skip)
@[go_sem] theorem c_sheaflaw11_RunsLeft_3_at (rd : Option Nat) (K : Post3) (t : Fr) (m : Mem) : wpM E 11 79 rd c_sheaflaw11_RunsLeft_3 K t m = wpM E 11 79 rd (.cond (.tmp 37) (.exit 0) .skip) K t m := rfl

def c_sheaflaw11_RunsLeft_4 : MC := (.seq (.ops [⟨(some 35), .load 3 (.tmp 13), none⟩,
    ⟨(some 36), .load 3 (.tmp 12), none⟩,
    ⟨(some 37), .binOp .eql 3 (.tmp 35) (.tmp 36) 3, none⟩]) c_sheaflaw11_RunsLeft_3)
@[go_sem] theorem c_sheaflaw11_RunsLeft_4_at (rd : Option Nat) (K : Post3) (t : Fr) (m : Mem) : wpM E 11 79 rd c_sheaflaw11_RunsLeft_4 K t m = wpM E 11 79 rd (.seq (.ops [⟨(some 35), .load 3 (.tmp 13), none⟩,
    ⟨(some 36), .load 3 (.tmp 12), none⟩,
    ⟨(some 37), .binOp .eql 3 (.tmp 35) (.tmp 36) 3, none⟩]) c_sheaflaw11_RunsLeft_3) K t m := rfl

def c_sheaflaw11_RunsLeft_5 : MC := (.seq (.ops [⟨(some 33), .load 3 (.tmp 13), none⟩,
    ⟨(some 34), .binOp .add 3 (.tmp 33) (.const (.int .i64 1)) 3, none⟩,
    ⟨none, .store 3 (.tmp 13) (.tmp 34), none⟩]) c_sheaflaw11_RunsLeft_4)
@[go_sem] theorem c_sheaflaw11_RunsLeft_5_at (rd : Option Nat) (K : Post3) (t : Fr) (m : Mem) : wpM E 11 79 rd c_sheaflaw11_RunsLeft_5 K t m = wpM E 11 79 rd (.seq (.ops [⟨(some 33), .load 3 (.tmp 13), none⟩,
    ⟨(some 34), .binOp .add 3 (.tmp 33) (.const (.int .i64 1)) 3, none⟩,
    ⟨none, .store 3 (.tmp 13) (.tmp 34), none⟩]) c_sheaflaw11_RunsLeft_4) K t m := rfl

def c_sheaflaw11_RunsLeft_6 : MC := (.block 1 c_sheaflaw11_RunsLeft_5)
@[go_sem] theorem c_sheaflaw11_RunsLeft_6_at (rd : Option Nat) (K : Post3) (t : Fr) (m : Mem) : wpM E 11 79 rd c_sheaflaw11_RunsLeft_6 K t m = wpM E 11 79 rd (.block 1 c_sheaflaw11_RunsLeft_5) K t m := rfl

theorem asg_sheaflaw11_RunsLeft_0 : compile E 11 79 (asgAt E 11 0) = some .skip := by kernel_rfl

theorem body_sheaflaw11_RunsLeft_0 : compile E 11 79 (bodyAt E 11 0) = some c_sheaflaw11_RunsLeft_6 := by kernel_rfl

def c_sheaflaw11_RunsLeft_7 : MC := (.range (.tmp 31) #[32] (asgAt E 11 0) (bodyAt E 11 0))
theorem c_sheaflaw11_RunsLeft_7_at (rd : Option Nat) (K : Post3) (t : Fr) (m : Mem) : wpM E 11 79 rd c_sheaflaw11_RunsLeft_7 K t m = wpM E 11 79 rd (.range (.tmp 31) #[32] (asgAt E 11 0) (bodyAt E 11 0)) K t m := rfl

def c_sheaflaw11_RunsLeft_8 : MC := (.block 0 c_sheaflaw11_RunsLeft_7)
@[go_sem] theorem c_sheaflaw11_RunsLeft_8_at (rd : Option Nat) (K : Post3) (t : Fr) (m : Mem) : wpM E 11 79 rd c_sheaflaw11_RunsLeft_8 K t m = wpM E 11 79 rd (.block 0 c_sheaflaw11_RunsLeft_7) K t m := rfl

def c_sheaflaw11_RunsLeft_9 : MC := (.seq (.ops [⟨(some 31), .move (.tmp 11), none⟩]) c_sheaflaw11_RunsLeft_8)
@[go_sem] theorem c_sheaflaw11_RunsLeft_9_at (rd : Option Nat) (K : Post3) (t : Fr) (m : Mem) : wpM E 11 79 rd c_sheaflaw11_RunsLeft_9 K t m = wpM E 11 79 rd (.seq (.ops [⟨(some 31), .move (.tmp 11), none⟩]) c_sheaflaw11_RunsLeft_8) K t m := rfl

def c_sheaflaw11_RunsLeft_10 : MC := (.seq (.ops [⟨(some 6), .assign (.const (.bool false)), none⟩]) .ret)
@[go_sem] theorem c_sheaflaw11_RunsLeft_10_at (rd : Option Nat) (K : Post3) (t : Fr) (m : Mem) : wpM E 11 79 rd c_sheaflaw11_RunsLeft_10 K t m = wpM E 11 79 rd (.seq (.ops [⟨(some 6), .assign (.const (.bool false)), none⟩]) .ret) K t m := rfl

def c_sheaflaw11_RunsLeft_11 : MC := (.cond (.tmp 60) c_sheaflaw11_RunsLeft_10 .skip)
@[go_sem] theorem c_sheaflaw11_RunsLeft_11_at (rd : Option Nat) (K : Post3) (t : Fr) (m : Mem) : wpM E 11 79 rd c_sheaflaw11_RunsLeft_11 K t m = wpM E 11 79 rd (.cond (.tmp 60) c_sheaflaw11_RunsLeft_10 .skip) K t m := rfl

def c_sheaflaw11_RunsLeft_12 : MC := (.seq (.ops [⟨(some 38), .move (.tmp 9), none⟩,
    ⟨(some 39), .nilCheck (.tmp 38), none⟩,
    ⟨(some 40), .fieldAddr 59 (.tmp 39) 0, none⟩,
    ⟨(some 41), .load 3 (.tmp 40), none⟩,
    ⟨(some 42), .binOp .neq 3 (.tmp 41) (.const (.int .i64 0)) 3, none⟩,
    ⟨(some 43), .move (.tmp 42), none⟩,
    ⟨(some 44), .load 3 (.tmp 13), (some (some 43, false))⟩,
    ⟨(some 45), .load 3 (.tmp 12), (some (some 43, false))⟩,
    ⟨(some 46), .load 25 (.tmp 7), (some (some 43, false))⟩,
    ⟨(some 47), .call ⟨.builtin .len, #[(.tmp 46)], #[25]⟩, (some (some 43, false))⟩,
    ⟨(some 48), .call ⟨.builtin .min, #[(.tmp 45), (.tmp 47)], #[3, 3]⟩, (some (some 43, false))⟩,
    ⟨(some 49), .binOp .neq 3 (.tmp 44) (.tmp 48) 3, (some (some 43, false))⟩,
    ⟨(some 50), .pick (.tmp 43) (.const (.bool true)) (.tmp 49), none⟩,
    ⟨(some 51), .move (.tmp 50), none⟩,
    ⟨(some 52), .load 3 (.tmp 10), (some (some 51, false))⟩,
    ⟨(some 53), .load 25 (.tmp 7), (some (some 51, false))⟩,
    ⟨(some 54), .call ⟨.builtin .len, #[(.tmp 53)], #[25]⟩, (some (some 51, false))⟩,
    ⟨(some 55), .move (.tmp 8), (some (some 51, false))⟩,
    ⟨(some 56), .load 3 (.tmp 12), (some (some 51, false))⟩,
    ⟨(some 57), .binOp .add 3 (.tmp 55) (.tmp 56) 3, (some (some 51, false))⟩,
    ⟨(some 58), .call ⟨.builtin .min, #[(.tmp 54), (.tmp 57)], #[3, 3]⟩, (some (some 51, false))⟩,
    ⟨(some 59), .binOp .gtr 3 (.tmp 52) (.tmp 58) 3, (some (some 51, false))⟩,
    ⟨(some 60), .pick (.tmp 51) (.const (.bool true)) (.tmp 59), none⟩]) c_sheaflaw11_RunsLeft_11)
@[go_sem] theorem c_sheaflaw11_RunsLeft_12_at (rd : Option Nat) (K : Post3) (t : Fr) (m : Mem) : wpM E 11 79 rd c_sheaflaw11_RunsLeft_12 K t m = wpM E 11 79 rd (.seq (.ops [⟨(some 38), .move (.tmp 9), none⟩,
    ⟨(some 39), .nilCheck (.tmp 38), none⟩,
    ⟨(some 40), .fieldAddr 59 (.tmp 39) 0, none⟩,
    ⟨(some 41), .load 3 (.tmp 40), none⟩,
    ⟨(some 42), .binOp .neq 3 (.tmp 41) (.const (.int .i64 0)) 3, none⟩,
    ⟨(some 43), .move (.tmp 42), none⟩,
    ⟨(some 44), .load 3 (.tmp 13), (some (some 43, false))⟩,
    ⟨(some 45), .load 3 (.tmp 12), (some (some 43, false))⟩,
    ⟨(some 46), .load 25 (.tmp 7), (some (some 43, false))⟩,
    ⟨(some 47), .call ⟨.builtin .len, #[(.tmp 46)], #[25]⟩, (some (some 43, false))⟩,
    ⟨(some 48), .call ⟨.builtin .min, #[(.tmp 45), (.tmp 47)], #[3, 3]⟩, (some (some 43, false))⟩,
    ⟨(some 49), .binOp .neq 3 (.tmp 44) (.tmp 48) 3, (some (some 43, false))⟩,
    ⟨(some 50), .pick (.tmp 43) (.const (.bool true)) (.tmp 49), none⟩,
    ⟨(some 51), .move (.tmp 50), none⟩,
    ⟨(some 52), .load 3 (.tmp 10), (some (some 51, false))⟩,
    ⟨(some 53), .load 25 (.tmp 7), (some (some 51, false))⟩,
    ⟨(some 54), .call ⟨.builtin .len, #[(.tmp 53)], #[25]⟩, (some (some 51, false))⟩,
    ⟨(some 55), .move (.tmp 8), (some (some 51, false))⟩,
    ⟨(some 56), .load 3 (.tmp 12), (some (some 51, false))⟩,
    ⟨(some 57), .binOp .add 3 (.tmp 55) (.tmp 56) 3, (some (some 51, false))⟩,
    ⟨(some 58), .call ⟨.builtin .min, #[(.tmp 54), (.tmp 57)], #[3, 3]⟩, (some (some 51, false))⟩,
    ⟨(some 59), .binOp .gtr 3 (.tmp 52) (.tmp 58) 3, (some (some 51, false))⟩,
    ⟨(some 60), .pick (.tmp 51) (.const (.bool true)) (.tmp 59), none⟩]) c_sheaflaw11_RunsLeft_11) K t m := rfl

def c_sheaflaw11_RunsLeft_13 : MC := (.seq (.draw [(0, [], ⟨(some 61), .move (.tmp 11), none⟩),
    (2, [], ⟨(some 63), .load 25 (.tmp 7), none⟩),
    (1, [2], ⟨(some 62), .call ⟨.value (.func 35), #[(.tmp 61)], #[67]⟩, none⟩),
    (3, [], ⟨(some 64), .move (.tmp 8), none⟩),
    (4, [], ⟨(some 65), .build 59 #[], none⟩),
    (5, [], ⟨(some 66), .box 59 (.tmp 65), none⟩),
    (6, [], ⟨(some 67), .call ⟨.value (.func 30), #[(.tmp 63), (.tmp 64), (.tmp 66)], #[25, 3, 57]⟩, none⟩),
    (7, [], ⟨(some 68), .call ⟨.value (.func 31), #[(.tmp 62), (.tmp 67)], #[60, 60]⟩, none⟩),
    (8, [], ⟨(some 69), .move (.tmp 68), none⟩),
    (9, [], ⟨(some 70), .move (.tmp 9), (some (some 69, true))⟩),
    (10, [], ⟨(some 71), .nilCheck (.tmp 70), (some (some 69, true))⟩),
    (11, [], ⟨(some 72), .fieldAddr 59 (.tmp 71) 0, (some (some 69, true))⟩),
    (12, [], ⟨(some 73), .load 3 (.tmp 72), (some (some 69, true))⟩),
    (13, [], ⟨(some 74), .binOp .eql 3 (.tmp 73) (.const (.int .i64 0)) 3, (some (some 69, true))⟩),
    (14, [], ⟨(some 75), .pick (.tmp 69) (.tmp 74) (.const (.bool false)), none⟩),
    (15, [], ⟨(some 76), .move (.tmp 75), none⟩),
    (16, [], ⟨(some 77), .call ⟨.value (.func 8), #[], #[]⟩, (some (some 76, true))⟩),
    (17, [], ⟨(some 78), .pick (.tmp 76) (.tmp 77) (.const (.bool false)), none⟩),
    (18, [], ⟨(some 6), .assign (.tmp 78), none⟩)]) .ret)
@[go_sem] theorem c_sheaflaw11_RunsLeft_13_at (rd : Option Nat) (K : Post3) (t : Fr) (m : Mem) : wpM E 11 79 rd c_sheaflaw11_RunsLeft_13 K t m = wpM E 11 79 rd (.seq (.draw [(0, [], ⟨(some 61), .move (.tmp 11), none⟩),
    (2, [], ⟨(some 63), .load 25 (.tmp 7), none⟩),
    (1, [2], ⟨(some 62), .call ⟨.value (.func 35), #[(.tmp 61)], #[67]⟩, none⟩),
    (3, [], ⟨(some 64), .move (.tmp 8), none⟩),
    (4, [], ⟨(some 65), .build 59 #[], none⟩),
    (5, [], ⟨(some 66), .box 59 (.tmp 65), none⟩),
    (6, [], ⟨(some 67), .call ⟨.value (.func 30), #[(.tmp 63), (.tmp 64), (.tmp 66)], #[25, 3, 57]⟩, none⟩),
    (7, [], ⟨(some 68), .call ⟨.value (.func 31), #[(.tmp 62), (.tmp 67)], #[60, 60]⟩, none⟩),
    (8, [], ⟨(some 69), .move (.tmp 68), none⟩),
    (9, [], ⟨(some 70), .move (.tmp 9), (some (some 69, true))⟩),
    (10, [], ⟨(some 71), .nilCheck (.tmp 70), (some (some 69, true))⟩),
    (11, [], ⟨(some 72), .fieldAddr 59 (.tmp 71) 0, (some (some 69, true))⟩),
    (12, [], ⟨(some 73), .load 3 (.tmp 72), (some (some 69, true))⟩),
    (13, [], ⟨(some 74), .binOp .eql 3 (.tmp 73) (.const (.int .i64 0)) 3, (some (some 69, true))⟩),
    (14, [], ⟨(some 75), .pick (.tmp 69) (.tmp 74) (.const (.bool false)), none⟩),
    (15, [], ⟨(some 76), .move (.tmp 75), none⟩),
    (16, [], ⟨(some 77), .call ⟨.value (.func 8), #[], #[]⟩, (some (some 76, true))⟩),
    (17, [], ⟨(some 78), .pick (.tmp 76) (.tmp 77) (.const (.bool false)), none⟩),
    (18, [], ⟨(some 6), .assign (.tmp 78), none⟩)]) .ret) K t m := rfl

def c_sheaflaw11_RunsLeft_14 : MC := (.seq c_sheaflaw11_RunsLeft_12 c_sheaflaw11_RunsLeft_13)
@[go_sem] theorem c_sheaflaw11_RunsLeft_14_at (rd : Option Nat) (K : Post3) (t : Fr) (m : Mem) : wpM E 11 79 rd c_sheaflaw11_RunsLeft_14 K t m = wpM E 11 79 rd (.seq c_sheaflaw11_RunsLeft_12 c_sheaflaw11_RunsLeft_13) K t m := rfl

def c_sheaflaw11_RunsLeft_15 : MC := (.seq c_sheaflaw11_RunsLeft_9 c_sheaflaw11_RunsLeft_14)
@[go_sem] theorem c_sheaflaw11_RunsLeft_15_at (rd : Option Nat) (K : Post3) (t : Fr) (m : Mem) : wpM E 11 79 rd c_sheaflaw11_RunsLeft_15 K t m = wpM E 11 79 rd (.seq c_sheaflaw11_RunsLeft_9 c_sheaflaw11_RunsLeft_14) K t m := rfl

def c_sheaflaw11_RunsLeft_16 : MC := (.seq (.ops [⟨(some 13), .alloc 3, none⟩,
    ⟨none, .store 3 (.tmp 13) (.const (.int .i64 0)), none⟩]) c_sheaflaw11_RunsLeft_15)
@[go_sem] theorem c_sheaflaw11_RunsLeft_16_at (rd : Option Nat) (K : Post3) (t : Fr) (m : Mem) : wpM E 11 79 rd c_sheaflaw11_RunsLeft_16 K t m = wpM E 11 79 rd (.seq (.ops [⟨(some 13), .alloc 3, none⟩,
    ⟨none, .store 3 (.tmp 13) (.const (.int .i64 0)), none⟩]) c_sheaflaw11_RunsLeft_15) K t m := rfl

def c_sheaflaw11_RunsLeft_17 : MC := (.seq (.ops [⟨(some 29), .move (.tmp 2), none⟩,
    ⟨(some 30), .call ⟨.value (.func 29), #[(.tmp 29), (.const (.int .i64 1)), (.const (.int .i64 12))], #[3, 3, 3]⟩, none⟩,
    ⟨(some 12), .alloc 3, none⟩,
    ⟨none, .store 3 (.tmp 12) (.tmp 30), none⟩]) c_sheaflaw11_RunsLeft_16)
@[go_sem] theorem c_sheaflaw11_RunsLeft_17_at (rd : Option Nat) (K : Post3) (t : Fr) (m : Mem) : wpM E 11 79 rd c_sheaflaw11_RunsLeft_17 K t m = wpM E 11 79 rd (.seq (.ops [⟨(some 29), .move (.tmp 2), none⟩,
    ⟨(some 30), .call ⟨.value (.func 29), #[(.tmp 29), (.const (.int .i64 1)), (.const (.int .i64 12))], #[3, 3, 3]⟩, none⟩,
    ⟨(some 12), .alloc 3, none⟩,
    ⟨none, .store 3 (.tmp 12) (.tmp 30), none⟩]) c_sheaflaw11_RunsLeft_16) K t m := rfl

def c_sheaflaw11_RunsLeft_18 : MC := (.seq c_sheaflaw11_RunsLeft_2 c_sheaflaw11_RunsLeft_17)
@[go_sem] theorem c_sheaflaw11_RunsLeft_18_at (rd : Option Nat) (K : Post3) (t : Fr) (m : Mem) : wpM E 11 79 rd c_sheaflaw11_RunsLeft_18 K t m = wpM E 11 79 rd (.seq c_sheaflaw11_RunsLeft_2 c_sheaflaw11_RunsLeft_17) K t m := rfl

def c_sheaflaw11_RunsLeft_19 : MC := (.seq (.ops [⟨(some 23), .makeFunc (.func 33) #[] #[(.tmp 7), (.tmp 10)], none⟩,
    ⟨(some 24), .move (.tmp 8), none⟩,
    ⟨(some 25), .move (.tmp 9), none⟩,
    ⟨(some 26), .call ⟨.value (.func 32), #[(.tmp 23), (.tmp 24), (.func 34), (.tmp 25)], #[92, 3, 24, 57]⟩, none⟩,
    ⟨(some 11), .assign (.tmp 26), none⟩]) c_sheaflaw11_RunsLeft_18)
@[go_sem] theorem c_sheaflaw11_RunsLeft_19_at (rd : Option Nat) (K : Post3) (t : Fr) (m : Mem) : wpM E 11 79 rd c_sheaflaw11_RunsLeft_19 K t m = wpM E 11 79 rd (.seq (.ops [⟨(some 23), .makeFunc (.func 33) #[] #[(.tmp 7), (.tmp 10)], none⟩,
    ⟨(some 24), .move (.tmp 8), none⟩,
    ⟨(some 25), .move (.tmp 9), none⟩,
    ⟨(some 26), .call ⟨.value (.func 32), #[(.tmp 23), (.tmp 24), (.func 34), (.tmp 25)], #[92, 3, 24, 57]⟩, none⟩,
    ⟨(some 11), .assign (.tmp 26), none⟩]) c_sheaflaw11_RunsLeft_18) K t m := rfl

def c_sheaflaw11_RunsLeft_20 : MC := (.seq (.ops [⟨(some 10), .alloc 3, none⟩,
    ⟨none, .store 3 (.tmp 10) (.const (.int .i64 0)), none⟩]) c_sheaflaw11_RunsLeft_19)
@[go_sem] theorem c_sheaflaw11_RunsLeft_20_at (rd : Option Nat) (K : Post3) (t : Fr) (m : Mem) : wpM E 11 79 rd c_sheaflaw11_RunsLeft_20 K t m = wpM E 11 79 rd (.seq (.ops [⟨(some 10), .alloc 3, none⟩,
    ⟨none, .store 3 (.tmp 10) (.const (.int .i64 0)), none⟩]) c_sheaflaw11_RunsLeft_19) K t m := rfl

def c_sheaflaw11_RunsLeft_21 : MC := (.seq (.ops [⟨(some 21), .build 59 #[], none⟩,
    ⟨(some 22), .box 59 (.tmp 21), none⟩,
    ⟨(some 9), .assign (.tmp 22), none⟩]) c_sheaflaw11_RunsLeft_20)
@[go_sem] theorem c_sheaflaw11_RunsLeft_21_at (rd : Option Nat) (K : Post3) (t : Fr) (m : Mem) : wpM E 11 79 rd c_sheaflaw11_RunsLeft_21 K t m = wpM E 11 79 rd (.seq (.ops [⟨(some 21), .build 59 #[], none⟩,
    ⟨(some 22), .box 59 (.tmp 21), none⟩,
    ⟨(some 9), .assign (.tmp 22), none⟩]) c_sheaflaw11_RunsLeft_20) K t m := rfl

def c_sheaflaw11_RunsLeft_22 : MC := (.seq (.ops [⟨(some 19), .move (.tmp 1), none⟩,
    ⟨(some 20), .call ⟨.value (.func 29), #[(.tmp 19), (.const (.int .i64 1)), (.const (.int .i64 8))], #[3, 3, 3]⟩, none⟩,
    ⟨(some 8), .assign (.tmp 20), none⟩]) c_sheaflaw11_RunsLeft_21)
@[go_sem] theorem c_sheaflaw11_RunsLeft_22_at (rd : Option Nat) (K : Post3) (t : Fr) (m : Mem) : wpM E 11 79 rd c_sheaflaw11_RunsLeft_22 K t m = wpM E 11 79 rd (.seq (.ops [⟨(some 19), .move (.tmp 1), none⟩,
    ⟨(some 20), .call ⟨.value (.func 29), #[(.tmp 19), (.const (.int .i64 1)), (.const (.int .i64 8))], #[3, 3, 3]⟩, none⟩,
    ⟨(some 8), .assign (.tmp 20), none⟩]) c_sheaflaw11_RunsLeft_21) K t m := rfl

def c_sheaflaw11_RunsLeft_23 : MC := (.seq (.ops [⟨(some 14), .move (.tmp 0), none⟩,
    ⟨(some 15), .move (.tmp 0), none⟩,
    ⟨(some 16), .call ⟨.builtin .len, #[(.tmp 15)], #[25]⟩, none⟩,
    ⟨(some 17), .call ⟨.builtin .min, #[(.tmp 16), (.const (.int .i64 40))], #[3, 3]⟩, none⟩,
    ⟨(some 18), .slice 25 (.tmp 14) none (some (.tmp 17)) none, none⟩,
    ⟨(some 7), .alloc 25, none⟩,
    ⟨none, .store 25 (.tmp 7) (.tmp 18), none⟩]) c_sheaflaw11_RunsLeft_22)
@[go_sem] theorem c_sheaflaw11_RunsLeft_23_at (rd : Option Nat) (K : Post3) (t : Fr) (m : Mem) : wpM E 11 79 rd c_sheaflaw11_RunsLeft_23 K t m = wpM E 11 79 rd (.seq (.ops [⟨(some 14), .move (.tmp 0), none⟩,
    ⟨(some 15), .move (.tmp 0), none⟩,
    ⟨(some 16), .call ⟨.builtin .len, #[(.tmp 15)], #[25]⟩, none⟩,
    ⟨(some 17), .call ⟨.builtin .min, #[(.tmp 16), (.const (.int .i64 40))], #[3, 3]⟩, none⟩,
    ⟨(some 18), .slice 25 (.tmp 14) none (some (.tmp 17)) none, none⟩,
    ⟨(some 7), .alloc 25, none⟩,
    ⟨none, .store 25 (.tmp 7) (.tmp 18), none⟩]) c_sheaflaw11_RunsLeft_22) K t m := rfl

def c_sheaflaw11_RunsLeft_24 : MC := (.seq (.ops [⟨(some 6), .assign (.const (.bool false)), none⟩]) c_sheaflaw11_RunsLeft_23)
@[go_sem] theorem c_sheaflaw11_RunsLeft_24_at (rd : Option Nat) (K : Post3) (t : Fr) (m : Mem) : wpM E 11 79 rd c_sheaflaw11_RunsLeft_24 K t m = wpM E 11 79 rd (.seq (.ops [⟨(some 6), .assign (.const (.bool false)), none⟩]) c_sheaflaw11_RunsLeft_23) K t m := rfl

@[go_sem] theorem some11 : (E.fn 11).isSome = true := by kernel_rfl
set_option maxRecDepth 100000 in
theorem fn_sheaflaw11_RunsLeft : FnIs E 11 79 [.tmp 6] c_sheaflaw11_RunsLeft_24 := ⟨by kernel_rfl, by kernel_rfl⟩

/-! sheaf/sheaflaw11.RunsTexts -/
abbrev F_sheaflaw11_RunsTexts : FuncId := 12
def c_sheaflaw11_RunsTexts_0 : MC := (.cond (.tmp 23) .skip (.exit 0))
@[go_sem] theorem c_sheaflaw11_RunsTexts_0_at (rd : Option Nat) (K : Post3) (t : Fr) (m : Mem) : wpM E 12 133 rd c_sheaflaw11_RunsTexts_0 K t m = wpM E 12 133 rd (.cond (.tmp 23) .skip (.exit 0)) K t m := rfl

def c_sheaflaw11_RunsTexts_1 : MC := (.seq (.ops [⟨(some 21), .move (.tmp 10), none⟩,
    ⟨(some 22), .move (.tmp 7), none⟩,
    ⟨(some 23), .binOp .lss 3 (.tmp 21) (.tmp 22) 3, none⟩]) c_sheaflaw11_RunsTexts_0)
@[go_sem] theorem c_sheaflaw11_RunsTexts_1_at (rd : Option Nat) (K : Post3) (t : Fr) (m : Mem) : wpM E 12 133 rd c_sheaflaw11_RunsTexts_1 K t m = wpM E 12 133 rd (.seq (.ops [⟨(some 21), .move (.tmp 10), none⟩,
    ⟨(some 22), .move (.tmp 7), none⟩,
    ⟨(some 23), .binOp .lss 3 (.tmp 21) (.tmp 22) 3, none⟩]) c_sheaflaw11_RunsTexts_0) K t m := rfl

def c_sheaflaw11_RunsTexts_2 : MC := (.cond (.tmp 27) (.ops [⟨(some 28), .move (.tmp 7), none⟩,
    ⟨(some 29), .move (.tmp 10), none⟩,
    ⟨(some 30), .binOp .sub 3 (.tmp 28) (.tmp 29) 3, none⟩,
    ⟨(some 11), .assign (.tmp 30), none⟩]) .skip)
@[go_sem] theorem c_sheaflaw11_RunsTexts_2_at (rd : Option Nat) (K : Post3) (t : Fr) (m : Mem) : wpM E 12 133 rd c_sheaflaw11_RunsTexts_2 K t m = wpM E 12 133 rd (.cond (.tmp 27) (.ops [⟨(some 28), .move (.tmp 7), none⟩,
    ⟨(some 29), .move (.tmp 10), none⟩,
    ⟨(some 30), .binOp .sub 3 (.tmp 28) (.tmp 29) 3, none⟩,
    ⟨(some 11), .assign (.tmp 30), none⟩]) .skip) K t m := rfl

def c_sheaflaw11_RunsTexts_3 : MC := (.seq (.ops [⟨(some 27), .move (.tmp 2), none⟩]) c_sheaflaw11_RunsTexts_2)
@[go_sem] theorem c_sheaflaw11_RunsTexts_3_at (rd : Option Nat) (K : Post3) (t : Fr) (m : Mem) : wpM E 12 133 rd c_sheaflaw11_RunsTexts_3 K t m = wpM E 12 133 rd (.seq (.ops [⟨(some 27), .move (.tmp 2), none⟩]) c_sheaflaw11_RunsTexts_2) K t m := rfl

def c_sheaflaw11_RunsTexts_4 : MC := (.seq c_sheaflaw11_RunsTexts_3 (.ops [⟨(some 31), .move (.tmp 9), none⟩,
    ⟨(some 32), .move (.tmp 11), none⟩,
    ⟨(some 33), .binOp .add 3 (.const (.int .i64 65)) (.tmp 32) 3, none⟩,
    ⟨(some 34), .convert 3 5 (.tmp 33), none⟩,
    ⟨(some 35), .buildSlice 73 1 #[(0, (.tmp 34))], none⟩,
    ⟨(some 36), .convert 73 9 (.tmp 35), none⟩,
    ⟨(some 37), .buildSlice 46 1 #[(0, (.tmp 36))], none⟩,
    ⟨(some 38), .call ⟨.builtin .append, #[(.tmp 31), (.tmp 37)], #[46, 46]⟩, none⟩,
    ⟨(some 9), .assign (.tmp 38), none⟩]))
@[go_sem] theorem c_sheaflaw11_RunsTexts_4_at (rd : Option Nat) (K : Post3) (t : Fr) (m : Mem) : wpM E 12 133 rd c_sheaflaw11_RunsTexts_4 K t m = wpM E 12 133 rd (.seq c_sheaflaw11_RunsTexts_3 (.ops [⟨(some 31), .move (.tmp 9), none⟩,
    ⟨(some 32), .move (.tmp 11), none⟩,
    ⟨(some 33), .binOp .add 3 (.const (.int .i64 65)) (.tmp 32) 3, none⟩,
    ⟨(some 34), .convert 3 5 (.tmp 33), none⟩,
    ⟨(some 35), .buildSlice 73 1 #[(0, (.tmp 34))], none⟩,
    ⟨(some 36), .convert 73 9 (.tmp 35), none⟩,
    ⟨(some 37), .buildSlice 46 1 #[(0, (.tmp 36))], none⟩,
    ⟨(some 38), .call ⟨.builtin .append, #[(.tmp 31), (.tmp 37)], #[46, 46]⟩, none⟩,
    ⟨(some 9), .assign (.tmp 38), none⟩])) K t m := rfl

def c_sheaflaw11_RunsTexts_5 : MC := (.seq (.ops [⟨(some 26), .move (.tmp 10), none⟩,
    ⟨(some 11), .assign (.tmp 26), none⟩]) c_sheaflaw11_RunsTexts_4)
@[go_sem] theorem c_sheaflaw11_RunsTexts_5_at (rd : Option Nat) (K : Post3) (t : Fr) (m : Mem) : wpM E 12 133 rd c_sheaflaw11_RunsTexts_5 K t m = wpM E 12 133 rd (.seq (.ops [⟨(some 26), .move (.tmp 10), none⟩,
    ⟨(some 11), .assign (.tmp 26), none⟩]) c_sheaflaw11_RunsTexts_4) K t m := rfl

def c_sheaflaw11_RunsTexts_6 : MC := (.block 1 c_sheaflaw11_RunsTexts_5)
@[go_sem] theorem c_sheaflaw11_RunsTexts_6_at (rd : Option Nat) (K : Post3) (t : Fr) (m : Mem) : wpM E 12 133 rd c_sheaflaw11_RunsTexts_6 K t m = wpM E 12 133 rd (.block 1 c_sheaflaw11_RunsTexts_5) K t m := rfl

def c_sheaflaw11_RunsTexts_7 : MC := (.seq c_sheaflaw11_RunsTexts_6 (.ops [⟨(some 24), .move (.tmp 10), none⟩,
    ⟨(some 25), .binOp .add 3 (.tmp 24) (.const (.int .i64 1)) 3, none⟩,
    ⟨(some 10), .assign (.tmp 25), none⟩]))
@[go_sem] theorem c_sheaflaw11_RunsTexts_7_at (rd : Option Nat) (K : Post3) (t : Fr) (m : Mem) : wpM E 12 133 rd c_sheaflaw11_RunsTexts_7 K t m = wpM E 12 133 rd (.seq c_sheaflaw11_RunsTexts_6 (.ops [⟨(some 24), .move (.tmp 10), none⟩,
    ⟨(some 25), .binOp .add 3 (.tmp 24) (.const (.int .i64 1)) 3, none⟩,
    ⟨(some 10), .assign (.tmp 25), none⟩])) K t m := rfl

def c_sheaflaw11_RunsTexts_8 : MC := (.seq c_sheaflaw11_RunsTexts_1 c_sheaflaw11_RunsTexts_7)
@[go_sem] theorem c_sheaflaw11_RunsTexts_8_at (rd : Option Nat) (K : Post3) (t : Fr) (m : Mem) : wpM E 12 133 rd c_sheaflaw11_RunsTexts_8 K t m = wpM E 12 133 rd (.seq c_sheaflaw11_RunsTexts_1 c_sheaflaw11_RunsTexts_7) K t m := rfl

def c_sheaflaw11_RunsTexts_9 : MC := (.loop c_sheaflaw11_RunsTexts_8)
theorem c_sheaflaw11_RunsTexts_9_at (rd : Option Nat) (K : Post3) (t : Fr) (m : Mem) : wpM E 12 133 rd c_sheaflaw11_RunsTexts_9 K t m = wpM E 12 133 rd (.loop c_sheaflaw11_RunsTexts_8) K t m := rfl

def c_sheaflaw11_RunsTexts_10 : MC := (.block 0 c_sheaflaw11_RunsTexts_9)
theorem c_sheaflaw11_RunsTexts_10_at (rd : Option Nat) (K : Post3) (t : Fr) (m : Mem) : wpM E 12 133 rd c_sheaflaw11_RunsTexts_10 K t m = wpM E 12 133 rd (.block 0 c_sheaflaw11_RunsTexts_9) K t m := rfl

def c_sheaflaw11_RunsTexts_11 : MC := (.seq (.ops [⟨(some 10), .assign (.const (.int .i64 0)), none⟩]) c_sheaflaw11_RunsTexts_10)
@[go_sem] theorem c_sheaflaw11_RunsTexts_11_at (rd : Option Nat) (K : Post3) (t : Fr) (m : Mem) : wpM E 12 133 rd c_sheaflaw11_RunsTexts_11 K t m = wpM E 12 133 rd (.seq (.ops [⟨(some 10), .assign (.const (.int .i64 0)), none⟩]) c_sheaflaw11_RunsTexts_10) K t m := rfl

def c_sheaflaw11_RunsTexts_12 : MC := (.seq (.ops [⟨(some 6), .assign (.const (.bool false)), none⟩]) .ret)
@[go_sem] theorem c_sheaflaw11_RunsTexts_12_at (rd : Option Nat) (K : Post3) (t : Fr) (m : Mem) : wpM E 12 133 rd c_sheaflaw11_RunsTexts_12 K t m = wpM E 12 133 rd (.seq (.ops [⟨(some 6), .assign (.const (.bool false)), none⟩]) .ret) K t m := rfl

def c_sheaflaw11_RunsTexts_13 : MC := (.cond (.tmp 67) c_sheaflaw11_RunsTexts_12 .skip)
@[go_sem] theorem c_sheaflaw11_RunsTexts_13_at (rd : Option Nat) (K : Post3) (t : Fr) (m : Mem) : wpM E 12 133 rd c_sheaflaw11_RunsTexts_13 K t m = wpM E 12 133 rd (.cond (.tmp 67) c_sheaflaw11_RunsTexts_12 .skip) K t m := rfl

def c_sheaflaw11_RunsTexts_14 : MC := (.seq (.ops [⟨(some 47), .move (.tmp 13), none⟩,
    ⟨(some 48), .call ⟨.builtin .len, #[(.tmp 47)], #[74]⟩, none⟩,
    ⟨(some 49), .move (.tmp 7), none⟩,
    ⟨(some 50), .binOp .neq 3 (.tmp 48) (.tmp 49) 3, none⟩,
    ⟨(some 51), .move (.tmp 50), none⟩,
    ⟨(some 52), .move (.tmp 12), (some (some 51, false))⟩,
    ⟨(some 53), .nilCheck (.tmp 52), (some (some 51, false))⟩,
    ⟨(some 54), .fieldAddr 59 (.tmp 53) 1, (some (some 51, false))⟩,
    ⟨(some 55), .load 3 (.tmp 54), (some (some 51, false))⟩,
    ⟨(some 56), .move (.tmp 7), (some (some 51, false))⟩,
    ⟨(some 57), .move (.tmp 8), (some (some 51, false))⟩,
    ⟨(some 58), .call ⟨.builtin .min, #[(.tmp 56), (.tmp 57)], #[3, 3]⟩, (some (some 51, false))⟩,
    ⟨(some 59), .binOp .neq 3 (.tmp 55) (.tmp 58) 3, (some (some 51, false))⟩,
    ⟨(some 60), .pick (.tmp 51) (.const (.bool true)) (.tmp 59), none⟩,
    ⟨(some 61), .move (.tmp 60), none⟩,
    ⟨(some 62), .move (.tmp 12), (some (some 61, false))⟩,
    ⟨(some 63), .nilCheck (.tmp 62), (some (some 61, false))⟩,
    ⟨(some 64), .fieldAddr 59 (.tmp 63) 0, (some (some 61, false))⟩,
    ⟨(some 65), .load 3 (.tmp 64), (some (some 61, false))⟩,
    ⟨(some 66), .binOp .neq 3 (.tmp 65) (.const (.int .i64 0)) 3, (some (some 61, false))⟩,
    ⟨(some 67), .pick (.tmp 61) (.const (.bool true)) (.tmp 66), none⟩]) c_sheaflaw11_RunsTexts_13)
@[go_sem] theorem c_sheaflaw11_RunsTexts_14_at (rd : Option Nat) (K : Post3) (t : Fr) (m : Mem) : wpM E 12 133 rd c_sheaflaw11_RunsTexts_14 K t m = wpM E 12 133 rd (.seq (.ops [⟨(some 47), .move (.tmp 13), none⟩,
    ⟨(some 48), .call ⟨.builtin .len, #[(.tmp 47)], #[74]⟩, none⟩,
    ⟨(some 49), .move (.tmp 7), none⟩,
    ⟨(some 50), .binOp .neq 3 (.tmp 48) (.tmp 49) 3, none⟩,
    ⟨(some 51), .move (.tmp 50), none⟩,
    ⟨(some 52), .move (.tmp 12), (some (some 51, false))⟩,
    ⟨(some 53), .nilCheck (.tmp 52), (some (some 51, false))⟩,
    ⟨(some 54), .fieldAddr 59 (.tmp 53) 1, (some (some 51, false))⟩,
    ⟨(some 55), .load 3 (.tmp 54), (some (some 51, false))⟩,
    ⟨(some 56), .move (.tmp 7), (some (some 51, false))⟩,
    ⟨(some 57), .move (.tmp 8), (some (some 51, false))⟩,
    ⟨(some 58), .call ⟨.builtin .min, #[(.tmp 56), (.tmp 57)], #[3, 3]⟩, (some (some 51, false))⟩,
    ⟨(some 59), .binOp .neq 3 (.tmp 55) (.tmp 58) 3, (some (some 51, false))⟩,
    ⟨(some 60), .pick (.tmp 51) (.const (.bool true)) (.tmp 59), none⟩,
    ⟨(some 61), .move (.tmp 60), none⟩,
    ⟨(some 62), .move (.tmp 12), (some (some 61, false))⟩,
    ⟨(some 63), .nilCheck (.tmp 62), (some (some 61, false))⟩,
    ⟨(some 64), .fieldAddr 59 (.tmp 63) 0, (some (some 61, false))⟩,
    ⟨(some 65), .load 3 (.tmp 64), (some (some 61, false))⟩,
    ⟨(some 66), .binOp .neq 3 (.tmp 65) (.const (.int .i64 0)) 3, (some (some 61, false))⟩,
    ⟨(some 67), .pick (.tmp 61) (.const (.bool true)) (.tmp 66), none⟩]) c_sheaflaw11_RunsTexts_13) K t m := rfl

def c_sheaflaw11_RunsTexts_15 : MC := (.cond (.tmp 71) .skip (.exit 2))
@[go_sem] theorem c_sheaflaw11_RunsTexts_15_at (rd : Option Nat) (K : Post3) (t : Fr) (m : Mem) : wpM E 12 133 rd c_sheaflaw11_RunsTexts_15 K t m = wpM E 12 133 rd (.cond (.tmp 71) .skip (.exit 2)) K t m := rfl

def c_sheaflaw11_RunsTexts_16 : MC := (.cond (.tmp 75) (.ops [⟨(some 76), .move (.tmp 14), none⟩,
    ⟨(some 77), .move (.tmp 8), none⟩,
    ⟨(some 78), .binOp .quo 3 (.tmp 76) (.tmp 77) 3, none⟩,
    ⟨(some 16), .assign (.tmp 78), none⟩]) .skip)
@[go_sem] theorem c_sheaflaw11_RunsTexts_16_at (rd : Option Nat) (K : Post3) (t : Fr) (m : Mem) : wpM E 12 133 rd c_sheaflaw11_RunsTexts_16 K t m = wpM E 12 133 rd (.cond (.tmp 75) (.ops [⟨(some 76), .move (.tmp 14), none⟩,
    ⟨(some 77), .move (.tmp 8), none⟩,
    ⟨(some 78), .binOp .quo 3 (.tmp 76) (.tmp 77) 3, none⟩,
    ⟨(some 16), .assign (.tmp 78), none⟩]) .skip) K t m := rfl

def c_sheaflaw11_RunsTexts_17 : MC := (.seq (.ops [⟨(some 75), .move (.tmp 2), none⟩]) c_sheaflaw11_RunsTexts_16)
@[go_sem] theorem c_sheaflaw11_RunsTexts_17_at (rd : Option Nat) (K : Post3) (t : Fr) (m : Mem) : wpM E 12 133 rd c_sheaflaw11_RunsTexts_17 K t m = wpM E 12 133 rd (.seq (.ops [⟨(some 75), .move (.tmp 2), none⟩]) c_sheaflaw11_RunsTexts_16) K t m := rfl

def c_sheaflaw11_RunsTexts_18 : MC := (.seq (.ops [⟨(some 6), .assign (.const (.bool false)), none⟩]) .ret)
@[go_sem] theorem c_sheaflaw11_RunsTexts_18_at (rd : Option Nat) (K : Post3) (t : Fr) (m : Mem) : wpM E 12 133 rd c_sheaflaw11_RunsTexts_18 K t m = wpM E 12 133 rd (.seq (.ops [⟨(some 6), .assign (.const (.bool false)), none⟩]) .ret) K t m := rfl

def c_sheaflaw11_RunsTexts_19 : MC := (.cond (.tmp 108) c_sheaflaw11_RunsTexts_18 .skip)
@[go_sem] theorem c_sheaflaw11_RunsTexts_19_at (rd : Option Nat) (K : Post3) (t : Fr) (m : Mem) : wpM E 12 133 rd c_sheaflaw11_RunsTexts_19 K t m = wpM E 12 133 rd (.cond (.tmp 108) c_sheaflaw11_RunsTexts_18 .skip) K t m := rfl

def c_sheaflaw11_RunsTexts_20 : MC := (.seq (.ops [⟨(some 79), .fieldAddr 77 (.tmp 15) 0, none⟩,
    ⟨(some 80), .load 3 (.tmp 79), none⟩,
    ⟨(some 81), .move (.tmp 16), none⟩,
    ⟨(some 82), .binOp .neq 3 (.tmp 80) (.tmp 81) 3, none⟩,
    ⟨(some 83), .move (.tmp 82), none⟩,
    ⟨(some 84), .move (.tmp 14), (some (some 83, false))⟩,
    ⟨(some 85), .binOp .gtr 3 (.tmp 84) (.const (.int .i64 0)) 3, (some (some 83, false))⟩,
    ⟨(some 86), .move (.tmp 85), (some (some 83, false))⟩,
    ⟨(some 87), .move (.tmp 13), (some (some 86, true))⟩,
    ⟨(some 88), .move (.tmp 14), (some (some 86, true))⟩,
    ⟨(some 89), .binOp .sub 3 (.tmp 88) (.const (.int .i64 1)) 3, (some (some 86, true))⟩,
    ⟨(some 90), .indexAddr 74 (.tmp 87) (.tmp 89), (some (some 86, true))⟩,
    ⟨(some 91), .fieldAddr 77 (.tmp 90) 0, (some (some 86, true))⟩,
    ⟨(some 92), .load 3 (.tmp 91), (some (some 86, true))⟩,
    ⟨(some 93), .fieldAddr 77 (.tmp 15) 0, (some (some 86, true))⟩,
    ⟨(some 94), .load 3 (.tmp 93), (some (some 86, true))⟩,
    ⟨(some 95), .binOp .eql 3 (.tmp 92) (.tmp 94) 3, (some (some 86, true))⟩,
    ⟨(some 96), .pick (.tmp 86) (.tmp 95) (.const (.bool false)), (some (some 83, false))⟩,
    ⟨(some 97), .move (.tmp 96), (some (some 83, false))⟩,
    ⟨(some 98), .move (.tmp 13), (some (some 97, true))⟩,
    ⟨(some 99), .move (.tmp 14), (some (some 97, true))⟩,
    ⟨(some 100), .binOp .sub 3 (.tmp 99) (.const (.int .i64 1)) 3, (some (some 97, true))⟩,
    ⟨(some 101), .indexAddr 74 (.tmp 98) (.tmp 100), (some (some 97, true))⟩,
    ⟨(some 102), .fieldAddr 77 (.tmp 101) 1, (some (some 97, true))⟩,
    ⟨(some 103), .load 9 (.tmp 102), (some (some 97, true))⟩,
    ⟨(some 104), .fieldAddr 77 (.tmp 15) 1, (some (some 97, true))⟩,
    ⟨(some 105), .load 9 (.tmp 104), (some (some 97, true))⟩,
    ⟨(some 106), .binOp .geq 9 (.tmp 103) (.tmp 105) 9, (some (some 97, true))⟩,
    ⟨(some 107), .pick (.tmp 97) (.tmp 106) (.const (.bool false)), (some (some 83, false))⟩,
    ⟨(some 108), .pick (.tmp 83) (.const (.bool true)) (.tmp 107), none⟩]) c_sheaflaw11_RunsTexts_19)
@[go_sem] theorem c_sheaflaw11_RunsTexts_20_at (rd : Option Nat) (K : Post3) (t : Fr) (m : Mem) : wpM E 12 133 rd c_sheaflaw11_RunsTexts_20 K t m = wpM E 12 133 rd (.seq (.ops [⟨(some 79), .fieldAddr 77 (.tmp 15) 0, none⟩,
    ⟨(some 80), .load 3 (.tmp 79), none⟩,
    ⟨(some 81), .move (.tmp 16), none⟩,
    ⟨(some 82), .binOp .neq 3 (.tmp 80) (.tmp 81) 3, none⟩,
    ⟨(some 83), .move (.tmp 82), none⟩,
    ⟨(some 84), .move (.tmp 14), (some (some 83, false))⟩,
    ⟨(some 85), .binOp .gtr 3 (.tmp 84) (.const (.int .i64 0)) 3, (some (some 83, false))⟩,
    ⟨(some 86), .move (.tmp 85), (some (some 83, false))⟩,
    ⟨(some 87), .move (.tmp 13), (some (some 86, true))⟩,
    ⟨(some 88), .move (.tmp 14), (some (some 86, true))⟩,
    ⟨(some 89), .binOp .sub 3 (.tmp 88) (.const (.int .i64 1)) 3, (some (some 86, true))⟩,
    ⟨(some 90), .indexAddr 74 (.tmp 87) (.tmp 89), (some (some 86, true))⟩,
    ⟨(some 91), .fieldAddr 77 (.tmp 90) 0, (some (some 86, true))⟩,
    ⟨(some 92), .load 3 (.tmp 91), (some (some 86, true))⟩,
    ⟨(some 93), .fieldAddr 77 (.tmp 15) 0, (some (some 86, true))⟩,
    ⟨(some 94), .load 3 (.tmp 93), (some (some 86, true))⟩,
    ⟨(some 95), .binOp .eql 3 (.tmp 92) (.tmp 94) 3, (some (some 86, true))⟩,
    ⟨(some 96), .pick (.tmp 86) (.tmp 95) (.const (.bool false)), (some (some 83, false))⟩,
    ⟨(some 97), .move (.tmp 96), (some (some 83, false))⟩,
    ⟨(some 98), .move (.tmp 13), (some (some 97, true))⟩,
    ⟨(some 99), .move (.tmp 14), (some (some 97, true))⟩,
    ⟨(some 100), .binOp .sub 3 (.tmp 99) (.const (.int .i64 1)) 3, (some (some 97, true))⟩,
    ⟨(some 101), .indexAddr 74 (.tmp 98) (.tmp 100), (some (some 97, true))⟩,
    ⟨(some 102), .fieldAddr 77 (.tmp 101) 1, (some (some 97, true))⟩,
    ⟨(some 103), .load 9 (.tmp 102), (some (some 97, true))⟩,
    ⟨(some 104), .fieldAddr 77 (.tmp 15) 1, (some (some 97, true))⟩,
    ⟨(some 105), .load 9 (.tmp 104), (some (some 97, true))⟩,
    ⟨(some 106), .binOp .geq 9 (.tmp 103) (.tmp 105) 9, (some (some 97, true))⟩,
    ⟨(some 107), .pick (.tmp 97) (.tmp 106) (.const (.bool false)), (some (some 83, false))⟩,
    ⟨(some 108), .pick (.tmp 83) (.const (.bool true)) (.tmp 107), none⟩]) c_sheaflaw11_RunsTexts_19) K t m := rfl

def c_sheaflaw11_RunsTexts_21 : MC := (.seq c_sheaflaw11_RunsTexts_17 c_sheaflaw11_RunsTexts_20)
@[go_sem] theorem c_sheaflaw11_RunsTexts_21_at (rd : Option Nat) (K : Post3) (t : Fr) (m : Mem) : wpM E 12 133 rd c_sheaflaw11_RunsTexts_21 K t m = wpM E 12 133 rd (.seq c_sheaflaw11_RunsTexts_17 c_sheaflaw11_RunsTexts_20) K t m := rfl

def c_sheaflaw11_RunsTexts_22 : MC := (.seq (.ops [⟨(some 16), .assign (.const (.int .i64 0)), none⟩]) c_sheaflaw11_RunsTexts_21)
@[go_sem] theorem c_sheaflaw11_RunsTexts_22_at (rd : Option Nat) (K : Post3) (t : Fr) (m : Mem) : wpM E 12 133 rd c_sheaflaw11_RunsTexts_22 K t m = wpM E 12 133 rd (.seq (.ops [⟨(some 16), .assign (.const (.int .i64 0)), none⟩]) c_sheaflaw11_RunsTexts_21) K t m := rfl

def c_sheaflaw11_RunsTexts_23 : MC := (.seq (.ops [⟨(some 72), .move (.tmp 70), none⟩,
    ⟨(some 73), .indexAddr 74 (.tmp 68) (.tmp 70), none⟩,
    ⟨(some 74), .load 77 (.tmp 73), none⟩,
    ⟨(some 15), .alloc 77, none⟩,
    ⟨(some 14), .assign (.tmp 72), none⟩,
    ⟨none, .store 77 (.tmp 15) (.tmp 74), none⟩]) c_sheaflaw11_RunsTexts_22)
@[go_sem] theorem c_sheaflaw11_RunsTexts_23_at (rd : Option Nat) (K : Post3) (t : Fr) (m : Mem) : wpM E 12 133 rd c_sheaflaw11_RunsTexts_23 K t m = wpM E 12 133 rd (.seq (.ops [⟨(some 72), .move (.tmp 70), none⟩,
    ⟨(some 73), .indexAddr 74 (.tmp 68) (.tmp 70), none⟩,
    ⟨(some 74), .load 77 (.tmp 73), none⟩,
    ⟨(some 15), .alloc 77, none⟩,
    ⟨(some 14), .assign (.tmp 72), none⟩,
    ⟨none, .store 77 (.tmp 15) (.tmp 74), none⟩]) c_sheaflaw11_RunsTexts_22) K t m := rfl

def c_sheaflaw11_RunsTexts_24 : MC := (.block 3 c_sheaflaw11_RunsTexts_23)
@[go_sem] theorem c_sheaflaw11_RunsTexts_24_at (rd : Option Nat) (K : Post3) (t : Fr) (m : Mem) : wpM E 12 133 rd c_sheaflaw11_RunsTexts_24 K t m = wpM E 12 133 rd (.block 3 c_sheaflaw11_RunsTexts_23) K t m := rfl

def c_sheaflaw11_RunsTexts_25 : MC := (.seq c_sheaflaw11_RunsTexts_24 (.ops [⟨(some 109), .binOp .add 3 (.tmp 70) (.const (.int .i64 1)) 3, none⟩,
    ⟨(some 70), .move (.tmp 109), none⟩]))
@[go_sem] theorem c_sheaflaw11_RunsTexts_25_at (rd : Option Nat) (K : Post3) (t : Fr) (m : Mem) : wpM E 12 133 rd c_sheaflaw11_RunsTexts_25 K t m = wpM E 12 133 rd (.seq c_sheaflaw11_RunsTexts_24 (.ops [⟨(some 109), .binOp .add 3 (.tmp 70) (.const (.int .i64 1)) 3, none⟩,
    ⟨(some 70), .move (.tmp 109), none⟩])) K t m := rfl

def c_sheaflaw11_RunsTexts_26 : MC := (.seq c_sheaflaw11_RunsTexts_15 c_sheaflaw11_RunsTexts_25)
@[go_sem] theorem c_sheaflaw11_RunsTexts_26_at (rd : Option Nat) (K : Post3) (t : Fr) (m : Mem) : wpM E 12 133 rd c_sheaflaw11_RunsTexts_26 K t m = wpM E 12 133 rd (.seq c_sheaflaw11_RunsTexts_15 c_sheaflaw11_RunsTexts_25) K t m := rfl

def c_sheaflaw11_RunsTexts_27 : MC := (.seq (.ops [⟨(some 71), .binOp .lss 3 (.tmp 70) (.tmp 69) 3, none⟩]) c_sheaflaw11_RunsTexts_26)
@[go_sem] theorem c_sheaflaw11_RunsTexts_27_at (rd : Option Nat) (K : Post3) (t : Fr) (m : Mem) : wpM E 12 133 rd c_sheaflaw11_RunsTexts_27 K t m = wpM E 12 133 rd (.seq (.ops [⟨(some 71), .binOp .lss 3 (.tmp 70) (.tmp 69) 3, none⟩]) c_sheaflaw11_RunsTexts_26) K t m := rfl

def c_sheaflaw11_RunsTexts_28 : MC := (.loop c_sheaflaw11_RunsTexts_27)
theorem c_sheaflaw11_RunsTexts_28_at (rd : Option Nat) (K : Post3) (t : Fr) (m : Mem) : wpM E 12 133 rd c_sheaflaw11_RunsTexts_28 K t m = wpM E 12 133 rd (.loop c_sheaflaw11_RunsTexts_27) K t m := rfl

def c_sheaflaw11_RunsTexts_29 : MC := (.block 2 c_sheaflaw11_RunsTexts_28)
theorem c_sheaflaw11_RunsTexts_29_at (rd : Option Nat) (K : Post3) (t : Fr) (m : Mem) : wpM E 12 133 rd c_sheaflaw11_RunsTexts_29 K t m = wpM E 12 133 rd (.block 2 c_sheaflaw11_RunsTexts_28) K t m := rfl

def c_sheaflaw11_RunsTexts_30 : MC := (.seq (.ops [⟨(some 68), .move (.tmp 13), none⟩,
    ⟨(some 69), .call ⟨.builtin .len, #[(.tmp 68)], #[74]⟩, none⟩,
    ⟨(some 70), .move (.const (.int .i64 0)), none⟩]) c_sheaflaw11_RunsTexts_29)
@[go_sem] theorem c_sheaflaw11_RunsTexts_30_at (rd : Option Nat) (K : Post3) (t : Fr) (m : Mem) : wpM E 12 133 rd c_sheaflaw11_RunsTexts_30 K t m = wpM E 12 133 rd (.seq (.ops [⟨(some 68), .move (.tmp 13), none⟩,
    ⟨(some 69), .call ⟨.builtin .len, #[(.tmp 68)], #[74]⟩, none⟩,
    ⟨(some 70), .move (.const (.int .i64 0)), none⟩]) c_sheaflaw11_RunsTexts_29) K t m := rfl

def c_sheaflaw11_RunsTexts_31 : MC := (.seq (.ops [⟨(some 114), .move (.tmp 12), none⟩,
    ⟨(some 115), .nilCheck (.tmp 114), none⟩,
    ⟨(some 116), .fieldAddr 59 (.tmp 115) 0, none⟩,
    ⟨(some 117), .load 3 (.tmp 116), none⟩,
    ⟨(some 118), .binOp .eql 3 (.tmp 117) (.const (.int .i64 2)) 3, none⟩,
    ⟨(some 119), .move (.tmp 118), none⟩,
    ⟨(some 120), .move (.tmp 12), (some (some 119, true))⟩,
    ⟨(some 121), .nilCheck (.tmp 120), (some (some 119, true))⟩,
    ⟨(some 122), .fieldAddr 59 (.tmp 121) 1, (some (some 119, true))⟩,
    ⟨(some 123), .load 3 (.tmp 122), (some (some 119, true))⟩,
    ⟨(some 124), .move (.tmp 7), (some (some 119, true))⟩,
    ⟨(some 125), .move (.tmp 8), (some (some 119, true))⟩,
    ⟨(some 126), .call ⟨.builtin .min, #[(.tmp 124), (.tmp 125)], #[3, 3]⟩, (some (some 119, true))⟩,
    ⟨(some 127), .call ⟨.builtin .max, #[(.const (.int .i64 5)), (.tmp 126)], #[3, 3]⟩, (some (some 119, true))⟩,
    ⟨(some 128), .binOp .eql 3 (.tmp 123) (.tmp 127) 3, (some (some 119, true))⟩,
    ⟨(some 129), .pick (.tmp 119) (.tmp 128) (.const (.bool false)), none⟩,
    ⟨(some 130), .move (.tmp 129), none⟩,
    ⟨(some 131), .call ⟨.value (.func 8), #[], #[]⟩, (some (some 130, true))⟩,
    ⟨(some 132), .pick (.tmp 130) (.tmp 131) (.const (.bool false)), none⟩,
    ⟨(some 6), .assign (.tmp 132), none⟩]) .ret)
@[go_sem] theorem c_sheaflaw11_RunsTexts_31_at (rd : Option Nat) (K : Post3) (t : Fr) (m : Mem) : wpM E 12 133 rd c_sheaflaw11_RunsTexts_31 K t m = wpM E 12 133 rd (.seq (.ops [⟨(some 114), .move (.tmp 12), none⟩,
    ⟨(some 115), .nilCheck (.tmp 114), none⟩,
    ⟨(some 116), .fieldAddr 59 (.tmp 115) 0, none⟩,
    ⟨(some 117), .load 3 (.tmp 116), none⟩,
    ⟨(some 118), .binOp .eql 3 (.tmp 117) (.const (.int .i64 2)) 3, none⟩,
    ⟨(some 119), .move (.tmp 118), none⟩,
    ⟨(some 120), .move (.tmp 12), (some (some 119, true))⟩,
    ⟨(some 121), .nilCheck (.tmp 120), (some (some 119, true))⟩,
    ⟨(some 122), .fieldAddr 59 (.tmp 121) 1, (some (some 119, true))⟩,
    ⟨(some 123), .load 3 (.tmp 122), (some (some 119, true))⟩,
    ⟨(some 124), .move (.tmp 7), (some (some 119, true))⟩,
    ⟨(some 125), .move (.tmp 8), (some (some 119, true))⟩,
    ⟨(some 126), .call ⟨.builtin .min, #[(.tmp 124), (.tmp 125)], #[3, 3]⟩, (some (some 119, true))⟩,
    ⟨(some 127), .call ⟨.builtin .max, #[(.const (.int .i64 5)), (.tmp 126)], #[3, 3]⟩, (some (some 119, true))⟩,
    ⟨(some 128), .binOp .eql 3 (.tmp 123) (.tmp 127) 3, (some (some 119, true))⟩,
    ⟨(some 129), .pick (.tmp 119) (.tmp 128) (.const (.bool false)), none⟩,
    ⟨(some 130), .move (.tmp 129), none⟩,
    ⟨(some 131), .call ⟨.value (.func 8), #[], #[]⟩, (some (some 130, true))⟩,
    ⟨(some 132), .pick (.tmp 130) (.tmp 131) (.const (.bool false)), none⟩,
    ⟨(some 6), .assign (.tmp 132), none⟩]) .ret) K t m := rfl

def c_sheaflaw11_RunsTexts_32 : MC := (.seq (.ops [⟨(some 112), .move (.tmp 12), none⟩,
    ⟨(some 113), .call ⟨.value (.func 40), #[(.tmp 112), (.const (.int .i64 (-3)))], #[57, 3]⟩, none⟩]) c_sheaflaw11_RunsTexts_31)
@[go_sem] theorem c_sheaflaw11_RunsTexts_32_at (rd : Option Nat) (K : Post3) (t : Fr) (m : Mem) : wpM E 12 133 rd c_sheaflaw11_RunsTexts_32 K t m = wpM E 12 133 rd (.seq (.ops [⟨(some 112), .move (.tmp 12), none⟩,
    ⟨(some 113), .call ⟨.value (.func 40), #[(.tmp 112), (.const (.int .i64 (-3)))], #[57, 3]⟩, none⟩]) c_sheaflaw11_RunsTexts_31) K t m := rfl

def c_sheaflaw11_RunsTexts_33 : MC := (.seq (.ops [⟨(some 110), .move (.tmp 12), none⟩,
    ⟨(some 111), .call ⟨.value (.func 40), #[(.tmp 110), (.const (.int .i64 5))], #[57, 3]⟩, none⟩]) c_sheaflaw11_RunsTexts_32)
@[go_sem] theorem c_sheaflaw11_RunsTexts_33_at (rd : Option Nat) (K : Post3) (t : Fr) (m : Mem) : wpM E 12 133 rd c_sheaflaw11_RunsTexts_33 K t m = wpM E 12 133 rd (.seq (.ops [⟨(some 110), .move (.tmp 12), none⟩,
    ⟨(some 111), .call ⟨.value (.func 40), #[(.tmp 110), (.const (.int .i64 5))], #[57, 3]⟩, none⟩]) c_sheaflaw11_RunsTexts_32) K t m := rfl

def c_sheaflaw11_RunsTexts_34 : MC := (.seq c_sheaflaw11_RunsTexts_30 c_sheaflaw11_RunsTexts_33)
@[go_sem] theorem c_sheaflaw11_RunsTexts_34_at (rd : Option Nat) (K : Post3) (t : Fr) (m : Mem) : wpM E 12 133 rd c_sheaflaw11_RunsTexts_34 K t m = wpM E 12 133 rd (.seq c_sheaflaw11_RunsTexts_30 c_sheaflaw11_RunsTexts_33) K t m := rfl

def c_sheaflaw11_RunsTexts_35 : MC := (.seq c_sheaflaw11_RunsTexts_14 c_sheaflaw11_RunsTexts_34)
@[go_sem] theorem c_sheaflaw11_RunsTexts_35_at (rd : Option Nat) (K : Post3) (t : Fr) (m : Mem) : wpM E 12 133 rd c_sheaflaw11_RunsTexts_35 K t m = wpM E 12 133 rd (.seq c_sheaflaw11_RunsTexts_14 c_sheaflaw11_RunsTexts_34) K t m := rfl

def c_sheaflaw11_RunsTexts_36 : MC := (.seq (.ops [⟨(some 41), .move (.tmp 9), none⟩,
    ⟨(some 42), .call ⟨.value (.func 38), #[(.tmp 41)], #[46]⟩, none⟩,
    ⟨(some 43), .move (.tmp 8), none⟩,
    ⟨(some 44), .move (.tmp 12), none⟩,
    ⟨(some 45), .call ⟨.value (.func 37), #[(.tmp 42), (.tmp 43), (.func 39), (.tmp 44)], #[82, 3, 49, 57]⟩, none⟩,
    ⟨(some 46), .call ⟨.value (.func 36), #[(.tmp 45)], #[79]⟩, none⟩,
    ⟨(some 13), .assign (.tmp 46), none⟩]) c_sheaflaw11_RunsTexts_35)
@[go_sem] theorem c_sheaflaw11_RunsTexts_36_at (rd : Option Nat) (K : Post3) (t : Fr) (m : Mem) : wpM E 12 133 rd c_sheaflaw11_RunsTexts_36 K t m = wpM E 12 133 rd (.seq (.ops [⟨(some 41), .move (.tmp 9), none⟩,
    ⟨(some 42), .call ⟨.value (.func 38), #[(.tmp 41)], #[46]⟩, none⟩,
    ⟨(some 43), .move (.tmp 8), none⟩,
    ⟨(some 44), .move (.tmp 12), none⟩,
    ⟨(some 45), .call ⟨.value (.func 37), #[(.tmp 42), (.tmp 43), (.func 39), (.tmp 44)], #[82, 3, 49, 57]⟩, none⟩,
    ⟨(some 46), .call ⟨.value (.func 36), #[(.tmp 45)], #[79]⟩, none⟩,
    ⟨(some 13), .assign (.tmp 46), none⟩]) c_sheaflaw11_RunsTexts_35) K t m := rfl

def c_sheaflaw11_RunsTexts_37 : MC := (.seq (.ops [⟨(some 39), .build 59 #[], none⟩,
    ⟨(some 40), .box 59 (.tmp 39), none⟩,
    ⟨(some 12), .assign (.tmp 40), none⟩]) c_sheaflaw11_RunsTexts_36)
@[go_sem] theorem c_sheaflaw11_RunsTexts_37_at (rd : Option Nat) (K : Post3) (t : Fr) (m : Mem) : wpM E 12 133 rd c_sheaflaw11_RunsTexts_37 K t m = wpM E 12 133 rd (.seq (.ops [⟨(some 39), .build 59 #[], none⟩,
    ⟨(some 40), .box 59 (.tmp 39), none⟩,
    ⟨(some 12), .assign (.tmp 40), none⟩]) c_sheaflaw11_RunsTexts_36) K t m := rfl

def c_sheaflaw11_RunsTexts_38 : MC := (.seq c_sheaflaw11_RunsTexts_11 c_sheaflaw11_RunsTexts_37)
@[go_sem] theorem c_sheaflaw11_RunsTexts_38_at (rd : Option Nat) (K : Post3) (t : Fr) (m : Mem) : wpM E 12 133 rd c_sheaflaw11_RunsTexts_38 K t m = wpM E 12 133 rd (.seq c_sheaflaw11_RunsTexts_11 c_sheaflaw11_RunsTexts_37) K t m := rfl

def c_sheaflaw11_RunsTexts_39 : MC := (.seq (.ops [⟨(some 9), .assign (.const (.slice none 0 0)), none⟩]) c_sheaflaw11_RunsTexts_38)
@[go_sem] theorem c_sheaflaw11_RunsTexts_39_at (rd : Option Nat) (K : Post3) (t : Fr) (m : Mem) : wpM E 12 133 rd c_sheaflaw11_RunsTexts_39 K t m = wpM E 12 133 rd (.seq (.ops [⟨(some 9), .assign (.const (.slice none 0 0)), none⟩]) c_sheaflaw11_RunsTexts_38) K t m := rfl

def c_sheaflaw11_RunsTexts_40 : MC := (.seq (.ops [⟨(some 17), .move (.tmp 0), none⟩,
    ⟨(some 18), .call ⟨.value (.func 29), #[(.tmp 17), (.const (.int .i64 0)), (.const (.int .i64 40))], #[3, 3, 3]⟩, none⟩,
    ⟨(some 19), .move (.tmp 1), none⟩,
    ⟨(some 20), .call ⟨.value (.func 29), #[(.tmp 19), (.const (.int .i64 1)), (.const (.int .i64 9))], #[3, 3, 3]⟩, none⟩,
    ⟨(some 7), .assign (.tmp 18), none⟩,
    ⟨(some 8), .assign (.tmp 20), none⟩]) c_sheaflaw11_RunsTexts_39)
@[go_sem] theorem c_sheaflaw11_RunsTexts_40_at (rd : Option Nat) (K : Post3) (t : Fr) (m : Mem) : wpM E 12 133 rd c_sheaflaw11_RunsTexts_40 K t m = wpM E 12 133 rd (.seq (.ops [⟨(some 17), .move (.tmp 0), none⟩,
    ⟨(some 18), .call ⟨.value (.func 29), #[(.tmp 17), (.const (.int .i64 0)), (.const (.int .i64 40))], #[3, 3, 3]⟩, none⟩,
    ⟨(some 19), .move (.tmp 1), none⟩,
    ⟨(some 20), .call ⟨.value (.func 29), #[(.tmp 19), (.const (.int .i64 1)), (.const (.int .i64 9))], #[3, 3, 3]⟩, none⟩,
    ⟨(some 7), .assign (.tmp 18), none⟩,
    ⟨(some 8), .assign (.tmp 20), none⟩]) c_sheaflaw11_RunsTexts_39) K t m := rfl

def c_sheaflaw11_RunsTexts_41 : MC := (.seq (.ops [⟨(some 6), .assign (.const (.bool false)), none⟩]) c_sheaflaw11_RunsTexts_40)
@[go_sem] theorem c_sheaflaw11_RunsTexts_41_at (rd : Option Nat) (K : Post3) (t : Fr) (m : Mem) : wpM E 12 133 rd c_sheaflaw11_RunsTexts_41 K t m = wpM E 12 133 rd (.seq (.ops [⟨(some 6), .assign (.const (.bool false)), none⟩]) c_sheaflaw11_RunsTexts_40) K t m := rfl

@[go_sem] theorem some12 : (E.fn 12).isSome = true := by kernel_rfl
set_option maxRecDepth 100000 in
theorem fn_sheaflaw11_RunsTexts : FnIs E 12 133 [.tmp 6] c_sheaflaw11_RunsTexts_41 := ⟨by kernel_rfl, by kernel_rfl⟩

/-! sheaf/sheaflaw11.items -/
abbrev F_sheaflaw11_items : FuncId := 30
def c_sheaflaw11_items_0 : MC := (.seq (.ops [⟨(some 7), .move (.tmp 0), none⟩,
    ⟨(some 8), .call ⟨.value (.func 46), #[(.tmp 7)], #[25]⟩, none⟩,
    ⟨(some 9), .move (.tmp 1), none⟩,
    ⟨(some 10), .move (.tmp 2), none⟩,
    ⟨(some 11), .call ⟨.value (.func 32), #[(.tmp 8), (.tmp 9), (.func 34), (.tmp 10)], #[92, 3, 24, 57]⟩, none⟩,
    ⟨(some 12), .call ⟨.value (.func 35), #[(.tmp 11)], #[67]⟩, none⟩,
    ⟨(some 6), .assign (.tmp 12), none⟩]) .ret)
@[go_sem] theorem c_sheaflaw11_items_0_at (rd : Option Nat) (K : Post3) (t : Fr) (m : Mem) : wpM E 30 13 rd c_sheaflaw11_items_0 K t m = wpM E 30 13 rd (.seq (.ops [⟨(some 7), .move (.tmp 0), none⟩,
    ⟨(some 8), .call ⟨.value (.func 46), #[(.tmp 7)], #[25]⟩, none⟩,
    ⟨(some 9), .move (.tmp 1), none⟩,
    ⟨(some 10), .move (.tmp 2), none⟩,
    ⟨(some 11), .call ⟨.value (.func 32), #[(.tmp 8), (.tmp 9), (.func 34), (.tmp 10)], #[92, 3, 24, 57]⟩, none⟩,
    ⟨(some 12), .call ⟨.value (.func 35), #[(.tmp 11)], #[67]⟩, none⟩,
    ⟨(some 6), .assign (.tmp 12), none⟩]) .ret) K t m := rfl

def c_sheaflaw11_items_1 : MC := (.seq (.ops [⟨(some 6), .assign (.const (.slice none 0 0)), none⟩]) c_sheaflaw11_items_0)
@[go_sem] theorem c_sheaflaw11_items_1_at (rd : Option Nat) (K : Post3) (t : Fr) (m : Mem) : wpM E 30 13 rd c_sheaflaw11_items_1 K t m = wpM E 30 13 rd (.seq (.ops [⟨(some 6), .assign (.const (.slice none 0 0)), none⟩]) c_sheaflaw11_items_0) K t m := rfl

@[go_sem] theorem some30 : (E.fn 30).isSome = true := by kernel_rfl
set_option maxRecDepth 100000 in
theorem fn_sheaflaw11_items : FnIs E 30 13 [.tmp 6] c_sheaflaw11_items_1 := ⟨by kernel_rfl, by kernel_rfl⟩

/-! sheaf/sheaflaw11.RunsLeft$1 -/
abbrev F_sheaflaw11_RunsLeft_1 : FuncId := 33
def c_sheaflaw11_RunsLeft_1_0 : MC := (.cond (.tmp 9) .skip (.exit 0))
@[go_sem] theorem c_sheaflaw11_RunsLeft_1_0_at (rd : Option Nat) (K : Post3) (t : Fr) (m : Mem) : wpM E 33 19 rd c_sheaflaw11_RunsLeft_1_0 K t m = wpM E 33 19 rd (.cond (.tmp 9) .skip (.exit 0)) K t m := rfl

def c_sheaflaw11_RunsLeft_1_1 : MC := (.cond (.tmp 17) .ret .skip)
@[go_sem] theorem c_sheaflaw11_RunsLeft_1_1_at (rd : Option Nat) (K : Post3) (t : Fr) (m : Mem) : wpM E 33 19 rd c_sheaflaw11_RunsLeft_1_1 K t m = wpM E 33 19 rd (.cond (.tmp 17) .ret .skip) K t m := rfl

def c_sheaflaw11_RunsLeft_1_2 : MC := (.seq (.ops [⟨(some 14), .move (.tmp 0), none⟩,
    ⟨(some 15), .move (.tmp 5), none⟩,
    ⟨(some 16), .call ⟨.value (.tmp 14), #[(.tmp 15)], #[3]⟩, none⟩,
    ⟨(some 17), .unOp .not 4 (.tmp 16), none⟩]) c_sheaflaw11_RunsLeft_1_1)
@[go_sem] theorem c_sheaflaw11_RunsLeft_1_2_at (rd : Option Nat) (K : Post3) (t : Fr) (m : Mem) : wpM E 33 19 rd c_sheaflaw11_RunsLeft_1_2 K t m = wpM E 33 19 rd (.seq (.ops [⟨(some 14), .move (.tmp 0), none⟩,
    ⟨(some 15), .move (.tmp 5), none⟩,
    ⟨(some 16), .call ⟨.value (.tmp 14), #[(.tmp 15)], #[3]⟩, none⟩,
    ⟨(some 17), .unOp .not 4 (.tmp 16), none⟩]) c_sheaflaw11_RunsLeft_1_1) K t m := rfl

def c_sheaflaw11_RunsLeft_1_3 : MC := (.seq (.ops [⟨(some 12), .load 3 (.tmp 2), none⟩,
    ⟨(some 13), .binOp .add 3 (.tmp 12) (.const (.int .i64 1)) 3, none⟩,
    ⟨none, .store 3 (.tmp 2) (.tmp 13), none⟩]) c_sheaflaw11_RunsLeft_1_2)
@[go_sem] theorem c_sheaflaw11_RunsLeft_1_3_at (rd : Option Nat) (K : Post3) (t : Fr) (m : Mem) : wpM E 33 19 rd c_sheaflaw11_RunsLeft_1_3 K t m = wpM E 33 19 rd (.seq (.ops [⟨(some 12), .load 3 (.tmp 2), none⟩,
    ⟨(some 13), .binOp .add 3 (.tmp 12) (.const (.int .i64 1)) 3, none⟩,
    ⟨none, .store 3 (.tmp 2) (.tmp 13), none⟩]) c_sheaflaw11_RunsLeft_1_2) K t m := rfl

def c_sheaflaw11_RunsLeft_1_4 : MC := (.seq (.ops [⟨(some 10), .indexAddr 25 (.tmp 6) (.tmp 8), none⟩,
    ⟨(some 11), .load 3 (.tmp 10), none⟩,
    ⟨(some 5), .assign (.tmp 11), none⟩]) c_sheaflaw11_RunsLeft_1_3)
@[go_sem] theorem c_sheaflaw11_RunsLeft_1_4_at (rd : Option Nat) (K : Post3) (t : Fr) (m : Mem) : wpM E 33 19 rd c_sheaflaw11_RunsLeft_1_4 K t m = wpM E 33 19 rd (.seq (.ops [⟨(some 10), .indexAddr 25 (.tmp 6) (.tmp 8), none⟩,
    ⟨(some 11), .load 3 (.tmp 10), none⟩,
    ⟨(some 5), .assign (.tmp 11), none⟩]) c_sheaflaw11_RunsLeft_1_3) K t m := rfl

def c_sheaflaw11_RunsLeft_1_5 : MC := (.block 1 c_sheaflaw11_RunsLeft_1_4)
@[go_sem] theorem c_sheaflaw11_RunsLeft_1_5_at (rd : Option Nat) (K : Post3) (t : Fr) (m : Mem) : wpM E 33 19 rd c_sheaflaw11_RunsLeft_1_5 K t m = wpM E 33 19 rd (.block 1 c_sheaflaw11_RunsLeft_1_4) K t m := rfl

def c_sheaflaw11_RunsLeft_1_6 : MC := (.seq c_sheaflaw11_RunsLeft_1_5 (.ops [⟨(some 18), .binOp .add 3 (.tmp 8) (.const (.int .i64 1)) 3, none⟩,
    ⟨(some 8), .move (.tmp 18), none⟩]))
@[go_sem] theorem c_sheaflaw11_RunsLeft_1_6_at (rd : Option Nat) (K : Post3) (t : Fr) (m : Mem) : wpM E 33 19 rd c_sheaflaw11_RunsLeft_1_6 K t m = wpM E 33 19 rd (.seq c_sheaflaw11_RunsLeft_1_5 (.ops [⟨(some 18), .binOp .add 3 (.tmp 8) (.const (.int .i64 1)) 3, none⟩,
    ⟨(some 8), .move (.tmp 18), none⟩])) K t m := rfl

def c_sheaflaw11_RunsLeft_1_7 : MC := (.seq c_sheaflaw11_RunsLeft_1_0 c_sheaflaw11_RunsLeft_1_6)
@[go_sem] theorem c_sheaflaw11_RunsLeft_1_7_at (rd : Option Nat) (K : Post3) (t : Fr) (m : Mem) : wpM E 33 19 rd c_sheaflaw11_RunsLeft_1_7 K t m = wpM E 33 19 rd (.seq c_sheaflaw11_RunsLeft_1_0 c_sheaflaw11_RunsLeft_1_6) K t m := rfl

def c_sheaflaw11_RunsLeft_1_8 : MC := (.seq (.ops [⟨(some 9), .binOp .lss 3 (.tmp 8) (.tmp 7) 3, none⟩]) c_sheaflaw11_RunsLeft_1_7)
@[go_sem] theorem c_sheaflaw11_RunsLeft_1_8_at (rd : Option Nat) (K : Post3) (t : Fr) (m : Mem) : wpM E 33 19 rd c_sheaflaw11_RunsLeft_1_8 K t m = wpM E 33 19 rd (.seq (.ops [⟨(some 9), .binOp .lss 3 (.tmp 8) (.tmp 7) 3, none⟩]) c_sheaflaw11_RunsLeft_1_7) K t m := rfl

def c_sheaflaw11_RunsLeft_1_9 : MC := (.loop c_sheaflaw11_RunsLeft_1_8)
theorem c_sheaflaw11_RunsLeft_1_9_at (rd : Option Nat) (K : Post3) (t : Fr) (m : Mem) : wpM E 33 19 rd c_sheaflaw11_RunsLeft_1_9 K t m = wpM E 33 19 rd (.loop c_sheaflaw11_RunsLeft_1_8) K t m := rfl

def c_sheaflaw11_RunsLeft_1_10 : MC := (.block 0 c_sheaflaw11_RunsLeft_1_9)
theorem c_sheaflaw11_RunsLeft_1_10_at (rd : Option Nat) (K : Post3) (t : Fr) (m : Mem) : wpM E 33 19 rd c_sheaflaw11_RunsLeft_1_10 K t m = wpM E 33 19 rd (.block 0 c_sheaflaw11_RunsLeft_1_9) K t m := rfl

def c_sheaflaw11_RunsLeft_1_11 : MC := (.seq (.ops [⟨(some 6), .load 25 (.tmp 1), none⟩,
    ⟨(some 7), .call ⟨.builtin .len, #[(.tmp 6)], #[25]⟩, none⟩,
    ⟨(some 8), .move (.const (.int .i64 0)), none⟩]) c_sheaflaw11_RunsLeft_1_10)
@[go_sem] theorem c_sheaflaw11_RunsLeft_1_11_at (rd : Option Nat) (K : Post3) (t : Fr) (m : Mem) : wpM E 33 19 rd c_sheaflaw11_RunsLeft_1_11 K t m = wpM E 33 19 rd (.seq (.ops [⟨(some 6), .load 25 (.tmp 1), none⟩,
    ⟨(some 7), .call ⟨.builtin .len, #[(.tmp 6)], #[25]⟩, none⟩,
    ⟨(some 8), .move (.const (.int .i64 0)), none⟩]) c_sheaflaw11_RunsLeft_1_10) K t m := rfl

@[go_sem] theorem some33 : (E.fn 33).isSome = true := by kernel_rfl
set_option maxRecDepth 100000 in
theorem fn_sheaflaw11_RunsLeft_1 : FnIs E 33 19 [] c_sheaflaw11_RunsLeft_1_11 := ⟨by kernel_rfl, by kernel_rfl⟩

/-! sheaf/sheaflaw11.less -/
abbrev F_sheaflaw11_less : FuncId := 34
def c_sheaflaw11_less_0 : MC := (.seq (.ops [⟨(some 5), .move (.tmp 0), none⟩,
    ⟨(some 6), .move (.tmp 1), none⟩,
    ⟨(some 7), .binOp .lss 3 (.tmp 5) (.tmp 6) 3, none⟩,
    ⟨(some 4), .assign (.tmp 7), none⟩]) .ret)
@[go_sem] theorem c_sheaflaw11_less_0_at (rd : Option Nat) (K : Post3) (t : Fr) (m : Mem) : wpM E 34 8 rd c_sheaflaw11_less_0 K t m = wpM E 34 8 rd (.seq (.ops [⟨(some 5), .move (.tmp 0), none⟩,
    ⟨(some 6), .move (.tmp 1), none⟩,
    ⟨(some 7), .binOp .lss 3 (.tmp 5) (.tmp 6) 3, none⟩,
    ⟨(some 4), .assign (.tmp 7), none⟩]) .ret) K t m := rfl

def c_sheaflaw11_less_1 : MC := (.seq (.ops [⟨(some 4), .assign (.const (.bool false)), none⟩]) c_sheaflaw11_less_0)
@[go_sem] theorem c_sheaflaw11_less_1_at (rd : Option Nat) (K : Post3) (t : Fr) (m : Mem) : wpM E 34 8 rd c_sheaflaw11_less_1 K t m = wpM E 34 8 rd (.seq (.ops [⟨(some 4), .assign (.const (.bool false)), none⟩]) c_sheaflaw11_less_0) K t m := rfl

@[go_sem] theorem some34 : (E.fn 34).isSome = true := by kernel_rfl
set_option maxRecDepth 100000 in
theorem fn_sheaflaw11_less : FnIs E 34 8 [.tmp 4] c_sheaflaw11_less_1 := ⟨by kernel_rfl, by kernel_rfl⟩

/-! sheaf/sheaflaw11.RunsTexts$1 -/
abbrev F_sheaflaw11_RunsTexts_1 : FuncId := 39
def c_sheaflaw11_RunsTexts_1_0 : MC := (.seq (.ops [⟨(some 5), .move (.tmp 0), none⟩,
    ⟨(some 6), .move (.tmp 1), none⟩,
    ⟨(some 7), .binOp .lss 9 (.tmp 5) (.tmp 6) 9, none⟩,
    ⟨(some 4), .assign (.tmp 7), none⟩]) .ret)
@[go_sem] theorem c_sheaflaw11_RunsTexts_1_0_at (rd : Option Nat) (K : Post3) (t : Fr) (m : Mem) : wpM E 39 8 rd c_sheaflaw11_RunsTexts_1_0 K t m = wpM E 39 8 rd (.seq (.ops [⟨(some 5), .move (.tmp 0), none⟩,
    ⟨(some 6), .move (.tmp 1), none⟩,
    ⟨(some 7), .binOp .lss 9 (.tmp 5) (.tmp 6) 9, none⟩,
    ⟨(some 4), .assign (.tmp 7), none⟩]) .ret) K t m := rfl

def c_sheaflaw11_RunsTexts_1_1 : MC := (.seq (.ops [⟨(some 4), .assign (.const (.bool false)), none⟩]) c_sheaflaw11_RunsTexts_1_0)
@[go_sem] theorem c_sheaflaw11_RunsTexts_1_1_at (rd : Option Nat) (K : Post3) (t : Fr) (m : Mem) : wpM E 39 8 rd c_sheaflaw11_RunsTexts_1_1 K t m = wpM E 39 8 rd (.seq (.ops [⟨(some 4), .assign (.const (.bool false)), none⟩]) c_sheaflaw11_RunsTexts_1_0) K t m := rfl

@[go_sem] theorem some39 : (E.fn 39).isSome = true := by kernel_rfl
set_option maxRecDepth 100000 in
theorem fn_sheaflaw11_RunsTexts_1 : FnIs E 39 8 [.tmp 4] c_sheaflaw11_RunsTexts_1_1 := ⟨by kernel_rfl, by kernel_rfl⟩

end
end Go.Proofs.Ythlcbacmbcmgfaa.W
