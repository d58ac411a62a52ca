/-
  Compact code, printed by a program of mine (wip/dev/AbsPrint.lean).
-/
import Derived.Test.YtjmppooebppecaaTypes
set_option linter.unusedVariables false
namespace Go.Proofs.Ytjmppooebppecaa.W
open Go.Abs
noncomputable section

/-! sheaf/sheaflaw19.SumsTotal -/
abbrev F_sheaflaw19_SumsTotal : FuncId := 6
def c_sheaflaw19_SumsTotal_0 : MC := (.cond (.tmp 14) (.ops [⟨(some 15), .buildSlice 22 2 #[(0, (.const (.int .i64 0))), (1, (.const (.int .i64 1)))], none⟩,
    ⟨(some 6), .assign (.tmp 15), none⟩]) .skip)
@[go_sem] theorem c_sheaflaw19_SumsTotal_0_at (rd : Option Nat) (K : Post3) (t : Fr) (m : Mem) : wpM E 6 39 rd c_sheaflaw19_SumsTotal_0 K t m = wpM E 6 39 rd (.cond (.tmp 14) (.ops [⟨(some 15), .buildSlice 22 2 #[(0, (.const (.int .i64 0))), (1, (.const (.int .i64 1)))], none⟩,
    ⟨(some 6), .assign (.tmp 15), none⟩]) .skip) K t m := rfl

def c_sheaflaw19_SumsTotal_1 : MC := (.seq (.ops [⟨(some 14), .move (.tmp 1), none⟩]) c_sheaflaw19_SumsTotal_0)
@[go_sem] theorem c_sheaflaw19_SumsTotal_1_at (rd : Option Nat) (K : Post3) (t : Fr) (m : Mem) : wpM E 6 39 rd c_sheaflaw19_SumsTotal_1 K t m = wpM E 6 39 rd (.seq (.ops [⟨(some 14), .move (.tmp 1), none⟩]) c_sheaflaw19_SumsTotal_0) K t m := rfl

def c_sheaflaw19_SumsTotal_2 : MC := (.seq (.ops [⟨(some 28), .move (.tmp 8), none⟩,
    ⟨(some 29), .move (.tmp 10), none⟩,
    ⟨(some 30), .binOp .eql 4 (.tmp 28) (.tmp 29) 4, none⟩,
    ⟨(some 31), .move (.tmp 30), none⟩,
    ⟨(some 32), .move (.tmp 7), (some (some 31, true))⟩,
    ⟨(some 33), .move (.tmp 9), (some (some 31, true))⟩,
    ⟨(some 34), .call ⟨.value (.func 22), #[(.tmp 32), (.tmp 33)], #[40, 40]⟩, (some (some 31, true))⟩,
    ⟨(some 35), .pick (.tmp 31) (.tmp 34) (.const (.bool false)), none⟩,
    ⟨(some 36), .move (.tmp 35), none⟩,
    ⟨(some 37), .call ⟨.value (.func 5), #[], #[]⟩, (some (some 36, true))⟩,
    ⟨(some 38), .pick (.tmp 36) (.tmp 37) (.const (.bool false)), none⟩,
    ⟨(some 4), .assign (.tmp 38), none⟩]) .ret)
@[go_sem] theorem c_sheaflaw19_SumsTotal_2_at (rd : Option Nat) (K : Post3) (t : Fr) (m : Mem) : wpM E 6 39 rd c_sheaflaw19_SumsTotal_2 K t m = wpM E 6 39 rd (.seq (.ops [⟨(some 28), .move (.tmp 8), none⟩,
    ⟨(some 29), .move (.tmp 10), none⟩,
    ⟨(some 30), .binOp .eql 4 (.tmp 28) (.tmp 29) 4, none⟩,
    ⟨(some 31), .move (.tmp 30), none⟩,
    ⟨(some 32), .move (.tmp 7), (some (some 31, true))⟩,
    ⟨(some 33), .move (.tmp 9), (some (some 31, true))⟩,
    ⟨(some 34), .call ⟨.value (.func 22), #[(.tmp 32), (.tmp 33)], #[40, 40]⟩, (some (some 31, true))⟩,
    ⟨(some 35), .pick (.tmp 31) (.tmp 34) (.const (.bool false)), none⟩,
    ⟨(some 36), .move (.tmp 35), none⟩,
    ⟨(some 37), .call ⟨.value (.func 5), #[], #[]⟩, (some (some 36, true))⟩,
    ⟨(some 38), .pick (.tmp 36) (.tmp 37) (.const (.bool false)), none⟩,
    ⟨(some 4), .assign (.tmp 38), none⟩]) .ret) K t m := rfl

def c_sheaflaw19_SumsTotal_3 : MC := (.seq (.ops [⟨(some 23), .move (.tmp 5), none⟩,
    ⟨(some 24), .move (.tmp 6), none⟩,
    ⟨(some 25), .call ⟨.value (.func 24), #[(.tmp 23), (.tmp 24), (.const (.int .i64 3))], #[40, 22, 3]⟩, none⟩,
    ⟨(some 22), .move (.tmp 25), none⟩,
    ⟨(some 26), .extract (.tmp 22) 0, none⟩,
    ⟨(some 27), .extract (.tmp 22) 1, none⟩,
    ⟨(some 9), .assign (.tmp 26), none⟩,
    ⟨(some 10), .assign (.tmp 27), none⟩]) c_sheaflaw19_SumsTotal_2)
@[go_sem] theorem c_sheaflaw19_SumsTotal_3_at (rd : Option Nat) (K : Post3) (t : Fr) (m : Mem) : wpM E 6 39 rd c_sheaflaw19_SumsTotal_3 K t m = wpM E 6 39 rd (.seq (.ops [⟨(some 23), .move (.tmp 5), none⟩,
    ⟨(some 24), .move (.tmp 6), none⟩,
    ⟨(some 25), .call ⟨.value (.func 24), #[(.tmp 23), (.tmp 24), (.const (.int .i64 3))], #[40, 22, 3]⟩, none⟩,
    ⟨(some 22), .move (.tmp 25), none⟩,
    ⟨(some 26), .extract (.tmp 22) 0, none⟩,
    ⟨(some 27), .extract (.tmp 22) 1, none⟩,
    ⟨(some 9), .assign (.tmp 26), none⟩,
    ⟨(some 10), .assign (.tmp 27), none⟩]) c_sheaflaw19_SumsTotal_2) K t m := rfl

def c_sheaflaw19_SumsTotal_4 : MC := (.seq (.ops [⟨(some 17), .move (.tmp 5), none⟩,
    ⟨(some 18), .move (.tmp 6), none⟩,
    ⟨(some 19), .call ⟨.value (.func 21), #[(.tmp 17), (.const (.int .i64 3)), (.tmp 18)], #[40, 3, 22]⟩, none⟩,
    ⟨(some 16), .move (.tmp 19), none⟩,
    ⟨(some 20), .extract (.tmp 16) 0, none⟩,
    ⟨(some 21), .extract (.tmp 16) 1, none⟩,
    ⟨(some 7), .assign (.tmp 20), none⟩,
    ⟨(some 8), .assign (.tmp 21), none⟩]) c_sheaflaw19_SumsTotal_3)
@[go_sem] theorem c_sheaflaw19_SumsTotal_4_at (rd : Option Nat) (K : Post3) (t : Fr) (m : Mem) : wpM E 6 39 rd c_sheaflaw19_SumsTotal_4 K t m = wpM E 6 39 rd (.seq (.ops [⟨(some 17), .move (.tmp 5), none⟩,
    ⟨(some 18), .move (.tmp 6), none⟩,
    ⟨(some 19), .call ⟨.value (.func 21), #[(.tmp 17), (.const (.int .i64 3)), (.tmp 18)], #[40, 3, 22]⟩, none⟩,
    ⟨(some 16), .move (.tmp 19), none⟩,
    ⟨(some 20), .extract (.tmp 16) 0, none⟩,
    ⟨(some 21), .extract (.tmp 16) 1, none⟩,
    ⟨(some 7), .assign (.tmp 20), none⟩,
    ⟨(some 8), .assign (.tmp 21), none⟩]) c_sheaflaw19_SumsTotal_3) K t m := rfl

def c_sheaflaw19_SumsTotal_5 : MC := (.seq c_sheaflaw19_SumsTotal_1 c_sheaflaw19_SumsTotal_4)
@[go_sem] theorem c_sheaflaw19_SumsTotal_5_at (rd : Option Nat) (K : Post3) (t : Fr) (m : Mem) : wpM E 6 39 rd c_sheaflaw19_SumsTotal_5 K t m = wpM E 6 39 rd (.seq c_sheaflaw19_SumsTotal_1 c_sheaflaw19_SumsTotal_4) K t m := rfl

def c_sheaflaw19_SumsTotal_6 : MC := (.seq (.ops [⟨(some 13), .buildSlice 22 1 #[(0, (.const (.int .i64 0)))], none⟩,
    ⟨(some 6), .assign (.tmp 13), none⟩]) c_sheaflaw19_SumsTotal_5)
@[go_sem] theorem c_sheaflaw19_SumsTotal_6_at (rd : Option Nat) (K : Post3) (t : Fr) (m : Mem) : wpM E 6 39 rd c_sheaflaw19_SumsTotal_6 K t m = wpM E 6 39 rd (.seq (.ops [⟨(some 13), .buildSlice 22 1 #[(0, (.const (.int .i64 0)))], none⟩,
    ⟨(some 6), .assign (.tmp 13), none⟩]) c_sheaflaw19_SumsTotal_5) K t m := rfl

def c_sheaflaw19_SumsTotal_7 : MC := (.seq (.ops [⟨(some 11), .move (.tmp 0), none⟩,
    ⟨(some 12), .call ⟨.value (.func 23), #[(.tmp 11)], #[44]⟩, none⟩,
    ⟨(some 5), .assign (.tmp 12), none⟩]) c_sheaflaw19_SumsTotal_6)
@[go_sem] theorem c_sheaflaw19_SumsTotal_7_at (rd : Option Nat) (K : Post3) (t : Fr) (m : Mem) : wpM E 6 39 rd c_sheaflaw19_SumsTotal_7 K t m = wpM E 6 39 rd (.seq (.ops [⟨(some 11), .move (.tmp 0), none⟩,
    ⟨(some 12), .call ⟨.value (.func 23), #[(.tmp 11)], #[44]⟩, none⟩,
    ⟨(some 5), .assign (.tmp 12), none⟩]) c_sheaflaw19_SumsTotal_6) K t m := rfl

def c_sheaflaw19_SumsTotal_8 : MC := (.seq (.ops [⟨(some 4), .assign (.const (.bool false)), none⟩]) c_sheaflaw19_SumsTotal_7)
@[go_sem] theorem c_sheaflaw19_SumsTotal_8_at (rd : Option Nat) (K : Post3) (t : Fr) (m : Mem) : wpM E 6 39 rd c_sheaflaw19_SumsTotal_8 K t m = wpM E 6 39 rd (.seq (.ops [⟨(some 4), .assign (.const (.bool false)), none⟩]) c_sheaflaw19_SumsTotal_7) K t m := rfl

@[go_sem] theorem some6 : (E.fn 6).isSome = true := by kernel_rfl
set_option maxRecDepth 100000 in
theorem fn_sheaflaw19_SumsTotal : FnIs E 6 39 [.tmp 4] c_sheaflaw19_SumsTotal_8 := ⟨by kernel_rfl, by kernel_rfl⟩

/-! sheaf/sheaflaw19.SumsOrder -/
abbrev F_sheaflaw19_SumsOrder : FuncId := 7
def c_sheaflaw19_SumsOrder_0 : MC := (.cond (.tmp 27) .skip (.exit 0))
@[go_sem] theorem c_sheaflaw19_SumsOrder_0_at (rd : Option Nat) (K : Post3) (t : Fr) (m : Mem) : wpM E 7 130 rd c_sheaflaw19_SumsOrder_0 K t m = wpM E 7 130 rd (.cond (.tmp 27) .skip (.exit 0)) K t m := rfl

def c_sheaflaw19_SumsOrder_1 : MC := (.seq (.ops [⟨(some 28), .move (.tmp 26), none⟩,
    ⟨(some 6), .assign (.tmp 28), none⟩]) (.draw [(0, [], ⟨(some 29), .move (.tmp 5), none⟩),
    (1, [], ⟨(some 30), .move (.tmp 6), none⟩),
    (2, [], ⟨(some 31), .indexAddr 40 (.tmp 29) (.tmp 30), none⟩),
    (3, [], ⟨(some 32), .load 22 (.tmp 31), none⟩),
    (4, [], ⟨(some 33), .move (.tmp 5), none⟩),
    (5, [], ⟨(some 34), .move (.tmp 6), none⟩),
    (6, [], ⟨(some 35), .indexAddr 40 (.tmp 33) (.tmp 34), none⟩),
    (7, [], ⟨(some 36), .load 22 (.tmp 35), none⟩),
    (8, [], ⟨(some 37), .indexAddr 22 (.tmp 36) (.const (.int .i64 3)), none⟩),
    (9, [], ⟨(some 38), .load 3 (.tmp 37), none⟩),
    (10, [3], ⟨(some 39), .call ⟨.value (.func 25), #[(.tmp 38), (.const (.int .i64 (-1125899906842624))), (.const (.int .i64 1125899906842624))], #[3, 3, 3]⟩, none⟩),
    (11, [], ⟨(some 40), .indexAddr 22 (.tmp 32) (.const (.int .i64 3)), none⟩),
    (12, [], ⟨none, .store 3 (.tmp 40) (.tmp 39), none⟩)]))
@[go_sem] theorem c_sheaflaw19_SumsOrder_1_at (rd : Option Nat) (K : Post3) (t : Fr) (m : Mem) : wpM E 7 130 rd c_sheaflaw19_SumsOrder_1 K t m = wpM E 7 130 rd (.seq (.ops [⟨(some 28), .move (.tmp 26), none⟩,
    ⟨(some 6), .assign (.tmp 28), none⟩]) (.draw [(0, [], ⟨(some 29), .move (.tmp 5), none⟩),
    (1, [], ⟨(some 30), .move (.tmp 6), none⟩),
    (2, [], ⟨(some 31), .indexAddr 40 (.tmp 29) (.tmp 30), none⟩),
    (3, [], ⟨(some 32), .load 22 (.tmp 31), none⟩),
    (4, [], ⟨(some 33), .move (.tmp 5), none⟩),
    (5, [], ⟨(some 34), .move (.tmp 6), none⟩),
    (6, [], ⟨(some 35), .indexAddr 40 (.tmp 33) (.tmp 34), none⟩),
    (7, [], ⟨(some 36), .load 22 (.tmp 35), none⟩),
    (8, [], ⟨(some 37), .indexAddr 22 (.tmp 36) (.const (.int .i64 3)), none⟩),
    (9, [], ⟨(some 38), .load 3 (.tmp 37), none⟩),
    (10, [3], ⟨(some 39), .call ⟨.value (.func 25), #[(.tmp 38), (.const (.int .i64 (-1125899906842624))), (.const (.int .i64 1125899906842624))], #[3, 3, 3]⟩, none⟩),
    (11, [], ⟨(some 40), .indexAddr 22 (.tmp 32) (.const (.int .i64 3)), none⟩),
    (12, [], ⟨none, .store 3 (.tmp 40) (.tmp 39), none⟩)])) K t m := rfl

def c_sheaflaw19_SumsOrder_2 : MC := (.block 1 c_sheaflaw19_SumsOrder_1)
@[go_sem] theorem c_sheaflaw19_SumsOrder_2_at (rd : Option Nat) (K : Post3) (t : Fr) (m : Mem) : wpM E 7 130 rd c_sheaflaw19_SumsOrder_2 K t m = wpM E 7 130 rd (.block 1 c_sheaflaw19_SumsOrder_1) K t m := rfl

def c_sheaflaw19_SumsOrder_3 : MC := (.seq c_sheaflaw19_SumsOrder_2 (.ops [⟨(some 41), .binOp .add 3 (.tmp 26) (.const (.int .i64 1)) 3, none⟩,
    ⟨(some 26), .move (.tmp 41), none⟩]))
@[go_sem] theorem c_sheaflaw19_SumsOrder_3_at (rd : Option Nat) (K : Post3) (t : Fr) (m : Mem) : wpM E 7 130 rd c_sheaflaw19_SumsOrder_3 K t m = wpM E 7 130 rd (.seq c_sheaflaw19_SumsOrder_2 (.ops [⟨(some 41), .binOp .add 3 (.tmp 26) (.const (.int .i64 1)) 3, none⟩,
    ⟨(some 26), .move (.tmp 41), none⟩])) K t m := rfl

def c_sheaflaw19_SumsOrder_4 : MC := (.seq c_sheaflaw19_SumsOrder_0 c_sheaflaw19_SumsOrder_3)
@[go_sem] theorem c_sheaflaw19_SumsOrder_4_at (rd : Option Nat) (K : Post3) (t : Fr) (m : Mem) : wpM E 7 130 rd c_sheaflaw19_SumsOrder_4 K t m = wpM E 7 130 rd (.seq c_sheaflaw19_SumsOrder_0 c_sheaflaw19_SumsOrder_3) K t m := rfl

def c_sheaflaw19_SumsOrder_5 : MC := (.seq (.ops [⟨(some 27), .binOp .lss 3 (.tmp 26) (.tmp 25) 3, none⟩]) c_sheaflaw19_SumsOrder_4)
@[go_sem] theorem c_sheaflaw19_SumsOrder_5_at (rd : Option Nat) (K : Post3) (t : Fr) (m : Mem) : wpM E 7 130 rd c_sheaflaw19_SumsOrder_5 K t m = wpM E 7 130 rd (.seq (.ops [⟨(some 27), .binOp .lss 3 (.tmp 26) (.tmp 25) 3, none⟩]) c_sheaflaw19_SumsOrder_4) K t m := rfl

def c_sheaflaw19_SumsOrder_6 : MC := (.loop c_sheaflaw19_SumsOrder_5)
theorem c_sheaflaw19_SumsOrder_6_at (rd : Option Nat) (K : Post3) (t : Fr) (m : Mem) : wpM E 7 130 rd c_sheaflaw19_SumsOrder_6 K t m = wpM E 7 130 rd (.loop c_sheaflaw19_SumsOrder_5) K t m := rfl

def c_sheaflaw19_SumsOrder_7 : MC := (.block 0 c_sheaflaw19_SumsOrder_6)
theorem c_sheaflaw19_SumsOrder_7_at (rd : Option Nat) (K : Post3) (t : Fr) (m : Mem) : wpM E 7 130 rd c_sheaflaw19_SumsOrder_7 K t m = wpM E 7 130 rd (.block 0 c_sheaflaw19_SumsOrder_6) K t m := rfl

def c_sheaflaw19_SumsOrder_8 : MC := (.seq (.ops [⟨(some 24), .move (.tmp 5), none⟩,
    ⟨(some 25), .call ⟨.builtin .len, #[(.tmp 24)], #[40]⟩, none⟩,
    ⟨(some 26), .move (.const (.int .i64 0)), none⟩]) c_sheaflaw19_SumsOrder_7)
@[go_sem] theorem c_sheaflaw19_SumsOrder_8_at (rd : Option Nat) (K : Post3) (t : Fr) (m : Mem) : wpM E 7 130 rd c_sheaflaw19_SumsOrder_8 K t m = wpM E 7 130 rd (.seq (.ops [⟨(some 24), .move (.tmp 5), none⟩,
    ⟨(some 25), .call ⟨.builtin .len, #[(.tmp 24)], #[40]⟩, none⟩,
    ⟨(some 26), .move (.const (.int .i64 0)), none⟩]) c_sheaflaw19_SumsOrder_7) K t m := rfl

def c_sheaflaw19_SumsOrder_9 : MC := (.cond (.tmp 60) .skip (.exit 2))
@[go_sem] theorem c_sheaflaw19_SumsOrder_9_at (rd : Option Nat) (K : Post3) (t : Fr) (m : Mem) : wpM E 7 130 rd c_sheaflaw19_SumsOrder_9 K t m = wpM E 7 130 rd (.cond (.tmp 60) .skip (.exit 2)) K t m := rfl

def c_sheaflaw19_SumsOrder_10 : MC := (.seq (.ops [⟨(some 61), .indexAddr 40 (.tmp 57) (.tmp 59), none⟩,
    ⟨(some 62), .load 22 (.tmp 61), none⟩,
    ⟨(some 15), .assign (.tmp 62), none⟩]) (.ops [⟨(some 63), .move (.tmp 12), none⟩,
    ⟨(some 64), .move (.tmp 15), none⟩,
    ⟨(some 65), .indexAddr 22 (.tmp 64) (.const (.int .i64 3)), none⟩,
    ⟨(some 66), .load 3 (.tmp 65), none⟩,
    ⟨(some 67), .binOp .add 3 (.tmp 63) (.tmp 66) 3, none⟩,
    ⟨(some 12), .assign (.tmp 67), none⟩]))
@[go_sem] theorem c_sheaflaw19_SumsOrder_10_at (rd : Option Nat) (K : Post3) (t : Fr) (m : Mem) : wpM E 7 130 rd c_sheaflaw19_SumsOrder_10 K t m = wpM E 7 130 rd (.seq (.ops [⟨(some 61), .indexAddr 40 (.tmp 57) (.tmp 59), none⟩,
    ⟨(some 62), .load 22 (.tmp 61), none⟩,
    ⟨(some 15), .assign (.tmp 62), none⟩]) (.ops [⟨(some 63), .move (.tmp 12), none⟩,
    ⟨(some 64), .move (.tmp 15), none⟩,
    ⟨(some 65), .indexAddr 22 (.tmp 64) (.const (.int .i64 3)), none⟩,
    ⟨(some 66), .load 3 (.tmp 65), none⟩,
    ⟨(some 67), .binOp .add 3 (.tmp 63) (.tmp 66) 3, none⟩,
    ⟨(some 12), .assign (.tmp 67), none⟩])) K t m := rfl

def c_sheaflaw19_SumsOrder_11 : MC := (.block 3 c_sheaflaw19_SumsOrder_10)
@[go_sem] theorem c_sheaflaw19_SumsOrder_11_at (rd : Option Nat) (K : Post3) (t : Fr) (m : Mem) : wpM E 7 130 rd c_sheaflaw19_SumsOrder_11 K t m = wpM E 7 130 rd (.block 3 c_sheaflaw19_SumsOrder_10) K t m := rfl

def c_sheaflaw19_SumsOrder_12 : MC := (.seq c_sheaflaw19_SumsOrder_11 (.ops [⟨(some 68), .binOp .add 3 (.tmp 59) (.const (.int .i64 1)) 3, none⟩,
    ⟨(some 59), .move (.tmp 68), none⟩]))
@[go_sem] theorem c_sheaflaw19_SumsOrder_12_at (rd : Option Nat) (K : Post3) (t : Fr) (m : Mem) : wpM E 7 130 rd c_sheaflaw19_SumsOrder_12 K t m = wpM E 7 130 rd (.seq c_sheaflaw19_SumsOrder_11 (.ops [⟨(some 68), .binOp .add 3 (.tmp 59) (.const (.int .i64 1)) 3, none⟩,
    ⟨(some 59), .move (.tmp 68), none⟩])) K t m := rfl

def c_sheaflaw19_SumsOrder_13 : MC := (.seq c_sheaflaw19_SumsOrder_9 c_sheaflaw19_SumsOrder_12)
@[go_sem] theorem c_sheaflaw19_SumsOrder_13_at (rd : Option Nat) (K : Post3) (t : Fr) (m : Mem) : wpM E 7 130 rd c_sheaflaw19_SumsOrder_13 K t m = wpM E 7 130 rd (.seq c_sheaflaw19_SumsOrder_9 c_sheaflaw19_SumsOrder_12) K t m := rfl

def c_sheaflaw19_SumsOrder_14 : MC := (.seq (.ops [⟨(some 60), .binOp .lss 3 (.tmp 59) (.tmp 58) 3, none⟩]) c_sheaflaw19_SumsOrder_13)
@[go_sem] theorem c_sheaflaw19_SumsOrder_14_at (rd : Option Nat) (K : Post3) (t : Fr) (m : Mem) : wpM E 7 130 rd c_sheaflaw19_SumsOrder_14 K t m = wpM E 7 130 rd (.seq (.ops [⟨(some 60), .binOp .lss 3 (.tmp 59) (.tmp 58) 3, none⟩]) c_sheaflaw19_SumsOrder_13) K t m := rfl

def c_sheaflaw19_SumsOrder_15 : MC := (.loop c_sheaflaw19_SumsOrder_14)
theorem c_sheaflaw19_SumsOrder_15_at (rd : Option Nat) (K : Post3) (t : Fr) (m : Mem) : wpM E 7 130 rd c_sheaflaw19_SumsOrder_15 K t m = wpM E 7 130 rd (.loop c_sheaflaw19_SumsOrder_14) K t m := rfl

def c_sheaflaw19_SumsOrder_16 : MC := (.block 2 c_sheaflaw19_SumsOrder_15)
theorem c_sheaflaw19_SumsOrder_16_at (rd : Option Nat) (K : Post3) (t : Fr) (m : Mem) : wpM E 7 130 rd c_sheaflaw19_SumsOrder_16 K t m = wpM E 7 130 rd (.block 2 c_sheaflaw19_SumsOrder_15) K t m := rfl

def c_sheaflaw19_SumsOrder_17 : MC := (.seq (.ops [⟨(some 57), .move (.tmp 5), none⟩,
    ⟨(some 58), .call ⟨.builtin .len, #[(.tmp 57)], #[40]⟩, none⟩,
    ⟨(some 59), .move (.const (.int .i64 0)), none⟩]) c_sheaflaw19_SumsOrder_16)
@[go_sem] theorem c_sheaflaw19_SumsOrder_17_at (rd : Option Nat) (K : Post3) (t : Fr) (m : Mem) : wpM E 7 130 rd c_sheaflaw19_SumsOrder_17 K t m = wpM E 7 130 rd (.seq (.ops [⟨(some 57), .move (.tmp 5), none⟩,
    ⟨(some 58), .call ⟨.builtin .len, #[(.tmp 57)], #[40]⟩, none⟩,
    ⟨(some 59), .move (.const (.int .i64 0)), none⟩]) c_sheaflaw19_SumsOrder_16) K t m := rfl

def c_sheaflaw19_SumsOrder_18 : MC := (.cond (.tmp 72) .skip (.exit 4))
@[go_sem] theorem c_sheaflaw19_SumsOrder_18_at (rd : Option Nat) (K : Post3) (t : Fr) (m : Mem) : wpM E 7 130 rd c_sheaflaw19_SumsOrder_18 K t m = wpM E 7 130 rd (.cond (.tmp 72) .skip (.exit 4)) K t m := rfl

def c_sheaflaw19_SumsOrder_19 : MC := (.seq (.ops [⟨(some 4), .assign (.const (.bool false)), none⟩]) .ret)
@[go_sem] theorem c_sheaflaw19_SumsOrder_19_at (rd : Option Nat) (K : Post3) (t : Fr) (m : Mem) : wpM E 7 130 rd c_sheaflaw19_SumsOrder_19 K t m = wpM E 7 130 rd (.seq (.ops [⟨(some 4), .assign (.const (.bool false)), none⟩]) .ret) K t m := rfl

def c_sheaflaw19_SumsOrder_20 : MC := (.cond (.tmp 77) c_sheaflaw19_SumsOrder_19 .skip)
@[go_sem] theorem c_sheaflaw19_SumsOrder_20_at (rd : Option Nat) (K : Post3) (t : Fr) (m : Mem) : wpM E 7 130 rd c_sheaflaw19_SumsOrder_20 K t m = wpM E 7 130 rd (.cond (.tmp 77) c_sheaflaw19_SumsOrder_19 .skip) K t m := rfl

def c_sheaflaw19_SumsOrder_21 : MC := (.seq (.ops [⟨(some 75), .move (.tmp 17), none⟩,
    ⟨(some 76), .call ⟨.builtin .len, #[(.tmp 75)], #[22]⟩, none⟩,
    ⟨(some 77), .binOp .neq 3 (.tmp 76) (.const (.int .i64 2)) 3, none⟩]) c_sheaflaw19_SumsOrder_20)
@[go_sem] theorem c_sheaflaw19_SumsOrder_21_at (rd : Option Nat) (K : Post3) (t : Fr) (m : Mem) : wpM E 7 130 rd c_sheaflaw19_SumsOrder_21 K t m = wpM E 7 130 rd (.seq (.ops [⟨(some 75), .move (.tmp 17), none⟩,
    ⟨(some 76), .call ⟨.builtin .len, #[(.tmp 75)], #[22]⟩, none⟩,
    ⟨(some 77), .binOp .neq 3 (.tmp 76) (.const (.int .i64 2)) 3, none⟩]) c_sheaflaw19_SumsOrder_20) K t m := rfl

def c_sheaflaw19_SumsOrder_22 : MC := (.seq c_sheaflaw19_SumsOrder_21 (.ops [⟨(some 78), .move (.tmp 13), none⟩,
    ⟨(some 79), .move (.tmp 17), none⟩,
    ⟨(some 80), .indexAddr 22 (.tmp 79) (.const (.int .i64 1)), none⟩,
    ⟨(some 81), .load 3 (.tmp 80), none⟩,
    ⟨(some 82), .binOp .add 3 (.tmp 78) (.tmp 81) 3, none⟩,
    ⟨(some 13), .assign (.tmp 82), none⟩]))
@[go_sem] theorem c_sheaflaw19_SumsOrder_22_at (rd : Option Nat) (K : Post3) (t : Fr) (m : Mem) : wpM E 7 130 rd c_sheaflaw19_SumsOrder_22 K t m = wpM E 7 130 rd (.seq c_sheaflaw19_SumsOrder_21 (.ops [⟨(some 78), .move (.tmp 13), none⟩,
    ⟨(some 79), .move (.tmp 17), none⟩,
    ⟨(some 80), .indexAddr 22 (.tmp 79) (.const (.int .i64 1)), none⟩,
    ⟨(some 81), .load 3 (.tmp 80), none⟩,
    ⟨(some 82), .binOp .add 3 (.tmp 78) (.tmp 81) 3, none⟩,
    ⟨(some 13), .assign (.tmp 82), none⟩])) K t m := rfl

def c_sheaflaw19_SumsOrder_23 : MC := (.seq (.ops [⟨(some 73), .indexAddr 40 (.tmp 69) (.tmp 71), none⟩,
    ⟨(some 74), .load 22 (.tmp 73), none⟩,
    ⟨(some 17), .assign (.tmp 74), none⟩]) c_sheaflaw19_SumsOrder_22)
@[go_sem] theorem c_sheaflaw19_SumsOrder_23_at (rd : Option Nat) (K : Post3) (t : Fr) (m : Mem) : wpM E 7 130 rd c_sheaflaw19_SumsOrder_23 K t m = wpM E 7 130 rd (.seq (.ops [⟨(some 73), .indexAddr 40 (.tmp 69) (.tmp 71), none⟩,
    ⟨(some 74), .load 22 (.tmp 73), none⟩,
    ⟨(some 17), .assign (.tmp 74), none⟩]) c_sheaflaw19_SumsOrder_22) K t m := rfl

def c_sheaflaw19_SumsOrder_24 : MC := (.block 5 c_sheaflaw19_SumsOrder_23)
@[go_sem] theorem c_sheaflaw19_SumsOrder_24_at (rd : Option Nat) (K : Post3) (t : Fr) (m : Mem) : wpM E 7 130 rd c_sheaflaw19_SumsOrder_24 K t m = wpM E 7 130 rd (.block 5 c_sheaflaw19_SumsOrder_23) K t m := rfl

def c_sheaflaw19_SumsOrder_25 : MC := (.seq c_sheaflaw19_SumsOrder_24 (.ops [⟨(some 83), .binOp .add 3 (.tmp 71) (.const (.int .i64 1)) 3, none⟩,
    ⟨(some 71), .move (.tmp 83), none⟩]))
@[go_sem] theorem c_sheaflaw19_SumsOrder_25_at (rd : Option Nat) (K : Post3) (t : Fr) (m : Mem) : wpM E 7 130 rd c_sheaflaw19_SumsOrder_25 K t m = wpM E 7 130 rd (.seq c_sheaflaw19_SumsOrder_24 (.ops [⟨(some 83), .binOp .add 3 (.tmp 71) (.const (.int .i64 1)) 3, none⟩,
    ⟨(some 71), .move (.tmp 83), none⟩])) K t m := rfl

def c_sheaflaw19_SumsOrder_26 : MC := (.seq c_sheaflaw19_SumsOrder_18 c_sheaflaw19_SumsOrder_25)
@[go_sem] theorem c_sheaflaw19_SumsOrder_26_at (rd : Option Nat) (K : Post3) (t : Fr) (m : Mem) : wpM E 7 130 rd c_sheaflaw19_SumsOrder_26 K t m = wpM E 7 130 rd (.seq c_sheaflaw19_SumsOrder_18 c_sheaflaw19_SumsOrder_25) K t m := rfl

def c_sheaflaw19_SumsOrder_27 : MC := (.seq (.ops [⟨(some 72), .binOp .lss 3 (.tmp 71) (.tmp 70) 3, none⟩]) c_sheaflaw19_SumsOrder_26)
@[go_sem] theorem c_sheaflaw19_SumsOrder_27_at (rd : Option Nat) (K : Post3) (t : Fr) (m : Mem) : wpM E 7 130 rd c_sheaflaw19_SumsOrder_27 K t m = wpM E 7 130 rd (.seq (.ops [⟨(some 72), .binOp .lss 3 (.tmp 71) (.tmp 70) 3, none⟩]) c_sheaflaw19_SumsOrder_26) K t m := rfl

def c_sheaflaw19_SumsOrder_28 : MC := (.loop c_sheaflaw19_SumsOrder_27)
theorem c_sheaflaw19_SumsOrder_28_at (rd : Option Nat) (K : Post3) (t : Fr) (m : Mem) : wpM E 7 130 rd c_sheaflaw19_SumsOrder_28 K t m = wpM E 7 130 rd (.loop c_sheaflaw19_SumsOrder_27) K t m := rfl

def c_sheaflaw19_SumsOrder_29 : MC := (.block 4 c_sheaflaw19_SumsOrder_28)
theorem c_sheaflaw19_SumsOrder_29_at (rd : Option Nat) (K : Post3) (t : Fr) (m : Mem) : wpM E 7 130 rd c_sheaflaw19_SumsOrder_29 K t m = wpM E 7 130 rd (.block 4 c_sheaflaw19_SumsOrder_28) K t m := rfl

def c_sheaflaw19_SumsOrder_30 : MC := (.seq (.ops [⟨(some 69), .move (.tmp 8), none⟩,
    ⟨(some 70), .call ⟨.builtin .len, #[(.tmp 69)], #[40]⟩, none⟩,
    ⟨(some 71), .move (.const (.int .i64 0)), none⟩]) c_sheaflaw19_SumsOrder_29)
@[go_sem] theorem c_sheaflaw19_SumsOrder_30_at (rd : Option Nat) (K : Post3) (t : Fr) (m : Mem) : wpM E 7 130 rd c_sheaflaw19_SumsOrder_30 K t m = wpM E 7 130 rd (.seq (.ops [⟨(some 69), .move (.tmp 8), none⟩,
    ⟨(some 70), .call ⟨.builtin .len, #[(.tmp 69)], #[40]⟩, none⟩,
    ⟨(some 71), .move (.const (.int .i64 0)), none⟩]) c_sheaflaw19_SumsOrder_29) K t m := rfl

def c_sheaflaw19_SumsOrder_31 : MC := (.seq (.ops [⟨(some 4), .assign (.const (.bool false)), none⟩]) .ret)
@[go_sem] theorem c_sheaflaw19_SumsOrder_31_at (rd : Option Nat) (K : Post3) (t : Fr) (m : Mem) : wpM E 7 130 rd c_sheaflaw19_SumsOrder_31 K t m = wpM E 7 130 rd (.seq (.ops [⟨(some 4), .assign (.const (.bool false)), none⟩]) .ret) K t m := rfl

def c_sheaflaw19_SumsOrder_32 : MC := (.cond (.tmp 91) c_sheaflaw19_SumsOrder_31 .skip)
@[go_sem] theorem c_sheaflaw19_SumsOrder_32_at (rd : Option Nat) (K : Post3) (t : Fr) (m : Mem) : wpM E 7 130 rd c_sheaflaw19_SumsOrder_32 K t m = wpM E 7 130 rd (.cond (.tmp 91) c_sheaflaw19_SumsOrder_31 .skip) K t m := rfl

def c_sheaflaw19_SumsOrder_33 : MC := (.seq (.ops [⟨(some 90), .move (.tmp 20), none⟩,
    ⟨(some 91), .binOp .eql 51 (.tmp 90) (.const .nilFunc) 51, none⟩]) c_sheaflaw19_SumsOrder_32)
@[go_sem] theorem c_sheaflaw19_SumsOrder_33_at (rd : Option Nat) (K : Post3) (t : Fr) (m : Mem) : wpM E 7 130 rd c_sheaflaw19_SumsOrder_33 K t m = wpM E 7 130 rd (.seq (.ops [⟨(some 90), .move (.tmp 20), none⟩,
    ⟨(some 91), .binOp .eql 51 (.tmp 90) (.const .nilFunc) 51, none⟩]) c_sheaflaw19_SumsOrder_32) K t m := rfl

def c_sheaflaw19_SumsOrder_34 : MC := (.cond (.tmp 102) (.exit 6) .skip)
@[go_sem] theorem c_sheaflaw19_SumsOrder_34_at (rd : Option Nat) (K : Post3) (t : Fr) (m : Mem) : wpM E 7 130 rd c_sheaflaw19_SumsOrder_34 K t m = wpM E 7 130 rd (.cond (.tmp 102) (.exit 6) .skip) K t m := rfl

def c_sheaflaw19_SumsOrder_35 : MC := (.seq (.ops [⟨(some 99), .load 40 (.tmp 19), none⟩,
    ⟨(some 100), .call ⟨.builtin .len, #[(.tmp 99)], #[40]⟩, none⟩,
    ⟨(some 101), .load 3 (.tmp 18), none⟩,
    ⟨(some 102), .binOp .eql 3 (.tmp 100) (.tmp 101) 3, none⟩]) c_sheaflaw19_SumsOrder_34)
@[go_sem] theorem c_sheaflaw19_SumsOrder_35_at (rd : Option Nat) (K : Post3) (t : Fr) (m : Mem) : wpM E 7 130 rd c_sheaflaw19_SumsOrder_35 K t m = wpM E 7 130 rd (.seq (.ops [⟨(some 99), .load 40 (.tmp 19), none⟩,
    ⟨(some 100), .call ⟨.builtin .len, #[(.tmp 99)], #[40]⟩, none⟩,
    ⟨(some 101), .load 3 (.tmp 18), none⟩,
    ⟨(some 102), .binOp .eql 3 (.tmp 100) (.tmp 101) 3, none⟩]) c_sheaflaw19_SumsOrder_34) K t m := rfl

def c_sheaflaw19_SumsOrder_36 : MC := (.seq (.ops [⟨(some 95), .load 40 (.tmp 19), none⟩,
    ⟨(some 96), .move (.tmp 21), none⟩,
    ⟨(some 97), .buildSlice 40 1 #[(0, (.tmp 96))], none⟩,
    ⟨(some 98), .call ⟨.builtin .append, #[(.tmp 95), (.tmp 97)], #[40, 40]⟩, none⟩,
    ⟨none, .store 40 (.tmp 19) (.tmp 98), none⟩]) c_sheaflaw19_SumsOrder_35)
@[go_sem] theorem c_sheaflaw19_SumsOrder_36_at (rd : Option Nat) (K : Post3) (t : Fr) (m : Mem) : wpM E 7 130 rd c_sheaflaw19_SumsOrder_36 K t m = wpM E 7 130 rd (.seq (.ops [⟨(some 95), .load 40 (.tmp 19), none⟩,
    ⟨(some 96), .move (.tmp 21), none⟩,
    ⟨(some 97), .buildSlice 40 1 #[(0, (.tmp 96))], none⟩,
    ⟨(some 98), .call ⟨.builtin .append, #[(.tmp 95), (.tmp 97)], #[40, 40]⟩, none⟩,
    ⟨none, .store 40 (.tmp 19) (.tmp 98), none⟩]) c_sheaflaw19_SumsOrder_35) K t m := rfl

def c_sheaflaw19_SumsOrder_37 : MC := (.block 7 c_sheaflaw19_SumsOrder_36)
@[go_sem] theorem c_sheaflaw19_SumsOrder_37_at (rd : Option Nat) (K : Post3) (t : Fr) (m : Mem) : wpM E 7 130 rd c_sheaflaw19_SumsOrder_37 K t m = wpM E 7 130 rd (.block 7 c_sheaflaw19_SumsOrder_36) K t m := rfl

theorem asg_sheaflaw19_SumsOrder_0 : compile E 7 130 (asgAt E 7 0) = some (.ops [⟨(some 21), .assign (.tmp 93), none⟩]) := by kernel_rfl

theorem body_sheaflaw19_SumsOrder_0 : compile E 7 130 (bodyAt E 7 0) = some c_sheaflaw19_SumsOrder_37 := by kernel_rfl

def c_sheaflaw19_SumsOrder_38 : MC := (.range (.tmp 92) #[93, 94] (asgAt E 7 0) (bodyAt E 7 0))
theorem c_sheaflaw19_SumsOrder_38_at (rd : Option Nat) (K : Post3) (t : Fr) (m : Mem) : wpM E 7 130 rd c_sheaflaw19_SumsOrder_38 K t m = wpM E 7 130 rd (.range (.tmp 92) #[93, 94] (asgAt E 7 0) (bodyAt E 7 0)) K t m := rfl

def c_sheaflaw19_SumsOrder_39 : MC := (.block 6 c_sheaflaw19_SumsOrder_38)
@[go_sem] theorem c_sheaflaw19_SumsOrder_39_at (rd : Option Nat) (K : Post3) (t : Fr) (m : Mem) : wpM E 7 130 rd c_sheaflaw19_SumsOrder_39 K t m = wpM E 7 130 rd (.block 6 c_sheaflaw19_SumsOrder_38) K t m := rfl

def c_sheaflaw19_SumsOrder_40 : MC := (.seq (.ops [⟨(some 92), .move (.tmp 20), none⟩]) c_sheaflaw19_SumsOrder_39)
@[go_sem] theorem c_sheaflaw19_SumsOrder_40_at (rd : Option Nat) (K : Post3) (t : Fr) (m : Mem) : wpM E 7 130 rd c_sheaflaw19_SumsOrder_40 K t m = wpM E 7 130 rd (.seq (.ops [⟨(some 92), .move (.tmp 20), none⟩]) c_sheaflaw19_SumsOrder_39) K t m := rfl

def c_sheaflaw19_SumsOrder_41 : MC := (.seq (.ops [⟨(some 103), .move (.tmp 9), none⟩,
    ⟨(some 104), .move (.tmp 103), none⟩,
    ⟨(some 105), .move (.tmp 11), (some (some 104, true))⟩,
    ⟨(some 106), .pick (.tmp 104) (.tmp 105) (.const (.bool false)), none⟩,
    ⟨(some 107), .move (.tmp 106), none⟩,
    ⟨(some 108), .move (.tmp 8), (some (some 107, true))⟩,
    ⟨(some 109), .move (.tmp 10), (some (some 107, true))⟩,
    ⟨(some 110), .call ⟨.value (.func 22), #[(.tmp 108), (.tmp 109)], #[40, 40]⟩, (some (some 107, true))⟩,
    ⟨(some 111), .pick (.tmp 107) (.tmp 110) (.const (.bool false)), none⟩,
    ⟨(some 112), .move (.tmp 111), none⟩,
    ⟨(some 113), .move (.tmp 12), (some (some 112, true))⟩,
    ⟨(some 114), .move (.tmp 13), (some (some 112, true))⟩,
    ⟨(some 115), .binOp .eql 3 (.tmp 113) (.tmp 114) 3, (some (some 112, true))⟩,
    ⟨(some 116), .pick (.tmp 112) (.tmp 115) (.const (.bool false)), none⟩,
    ⟨(some 117), .move (.tmp 116), none⟩,
    ⟨(some 118), .load 40 (.tmp 19), (some (some 117, true))⟩,
    ⟨(some 119), .move (.tmp 8), (some (some 117, true))⟩,
    ⟨(some 120), .load 3 (.tmp 18), (some (some 117, true))⟩,
    ⟨(some 121), .move (.tmp 8), (some (some 117, true))⟩,
    ⟨(some 122), .call ⟨.builtin .len, #[(.tmp 121)], #[40]⟩, (some (some 117, true))⟩,
    ⟨(some 123), .call ⟨.builtin .min, #[(.tmp 120), (.tmp 122)], #[3, 3]⟩, (some (some 117, true))⟩,
    ⟨(some 124), .slice 40 (.tmp 119) none (some (.tmp 123)) none, (some (some 117, true))⟩,
    ⟨(some 125), .call ⟨.value (.func 22), #[(.tmp 118), (.tmp 124)], #[40, 40]⟩, (some (some 117, true))⟩,
    ⟨(some 126), .pick (.tmp 117) (.tmp 125) (.const (.bool false)), none⟩,
    ⟨(some 127), .move (.tmp 126), none⟩,
    ⟨(some 128), .call ⟨.value (.func 5), #[], #[]⟩, (some (some 127, true))⟩,
    ⟨(some 129), .pick (.tmp 127) (.tmp 128) (.const (.bool false)), none⟩,
    ⟨(some 4), .assign (.tmp 129), none⟩]) .ret)
@[go_sem] theorem c_sheaflaw19_SumsOrder_41_at (rd : Option Nat) (K : Post3) (t : Fr) (m : Mem) : wpM E 7 130 rd c_sheaflaw19_SumsOrder_41 K t m = wpM E 7 130 rd (.seq (.ops [⟨(some 103), .move (.tmp 9), none⟩,
    ⟨(some 104), .move (.tmp 103), none⟩,
    ⟨(some 105), .move (.tmp 11), (some (some 104, true))⟩,
    ⟨(some 106), .pick (.tmp 104) (.tmp 105) (.const (.bool false)), none⟩,
    ⟨(some 107), .move (.tmp 106), none⟩,
    ⟨(some 108), .move (.tmp 8), (some (some 107, true))⟩,
    ⟨(some 109), .move (.tmp 10), (some (some 107, true))⟩,
    ⟨(some 110), .call ⟨.value (.func 22), #[(.tmp 108), (.tmp 109)], #[40, 40]⟩, (some (some 107, true))⟩,
    ⟨(some 111), .pick (.tmp 107) (.tmp 110) (.const (.bool false)), none⟩,
    ⟨(some 112), .move (.tmp 111), none⟩,
    ⟨(some 113), .move (.tmp 12), (some (some 112, true))⟩,
    ⟨(some 114), .move (.tmp 13), (some (some 112, true))⟩,
    ⟨(some 115), .binOp .eql 3 (.tmp 113) (.tmp 114) 3, (some (some 112, true))⟩,
    ⟨(some 116), .pick (.tmp 112) (.tmp 115) (.const (.bool false)), none⟩,
    ⟨(some 117), .move (.tmp 116), none⟩,
    ⟨(some 118), .load 40 (.tmp 19), (some (some 117, true))⟩,
    ⟨(some 119), .move (.tmp 8), (some (some 117, true))⟩,
    ⟨(some 120), .load 3 (.tmp 18), (some (some 117, true))⟩,
    ⟨(some 121), .move (.tmp 8), (some (some 117, true))⟩,
    ⟨(some 122), .call ⟨.builtin .len, #[(.tmp 121)], #[40]⟩, (some (some 117, true))⟩,
    ⟨(some 123), .call ⟨.builtin .min, #[(.tmp 120), (.tmp 122)], #[3, 3]⟩, (some (some 117, true))⟩,
    ⟨(some 124), .slice 40 (.tmp 119) none (some (.tmp 123)) none, (some (some 117, true))⟩,
    ⟨(some 125), .call ⟨.value (.func 22), #[(.tmp 118), (.tmp 124)], #[40, 40]⟩, (some (some 117, true))⟩,
    ⟨(some 126), .pick (.tmp 117) (.tmp 125) (.const (.bool false)), none⟩,
    ⟨(some 127), .move (.tmp 126), none⟩,
    ⟨(some 128), .call ⟨.value (.func 5), #[], #[]⟩, (some (some 127, true))⟩,
    ⟨(some 129), .pick (.tmp 127) (.tmp 128) (.const (.bool false)), none⟩,
    ⟨(some 4), .assign (.tmp 129), none⟩]) .ret) K t m := rfl

def c_sheaflaw19_SumsOrder_42 : MC := (.seq c_sheaflaw19_SumsOrder_40 c_sheaflaw19_SumsOrder_41)
@[go_sem] theorem c_sheaflaw19_SumsOrder_42_at (rd : Option Nat) (K : Post3) (t : Fr) (m : Mem) : wpM E 7 130 rd c_sheaflaw19_SumsOrder_42 K t m = wpM E 7 130 rd (.seq c_sheaflaw19_SumsOrder_40 c_sheaflaw19_SumsOrder_41) K t m := rfl

def c_sheaflaw19_SumsOrder_43 : MC := (.seq c_sheaflaw19_SumsOrder_33 c_sheaflaw19_SumsOrder_42)
@[go_sem] theorem c_sheaflaw19_SumsOrder_43_at (rd : Option Nat) (K : Post3) (t : Fr) (m : Mem) : wpM E 7 130 rd c_sheaflaw19_SumsOrder_43 K t m = wpM E 7 130 rd (.seq c_sheaflaw19_SumsOrder_33 c_sheaflaw19_SumsOrder_42) K t m := rfl

def c_sheaflaw19_SumsOrder_44 : MC := (.seq (.ops [⟨(some 86), .move (.tmp 5), none⟩,
    ⟨(some 87), .call ⟨.value (.func 28), #[(.tmp 86)], #[40]⟩, none⟩,
    ⟨(some 88), .buildSlice 22 1 #[(0, (.const (.int .i64 0)))], none⟩,
    ⟨(some 89), .call ⟨.value (.func 27), #[(.tmp 87), (.const (.int .i64 3)), (.tmp 88)], #[54, 3, 22]⟩, none⟩,
    ⟨(some 20), .assign (.tmp 89), none⟩]) c_sheaflaw19_SumsOrder_43)
@[go_sem] theorem c_sheaflaw19_SumsOrder_44_at (rd : Option Nat) (K : Post3) (t : Fr) (m : Mem) : wpM E 7 130 rd c_sheaflaw19_SumsOrder_44 K t m = wpM E 7 130 rd (.seq (.ops [⟨(some 86), .move (.tmp 5), none⟩,
    ⟨(some 87), .call ⟨.value (.func 28), #[(.tmp 86)], #[40]⟩, none⟩,
    ⟨(some 88), .buildSlice 22 1 #[(0, (.const (.int .i64 0)))], none⟩,
    ⟨(some 89), .call ⟨.value (.func 27), #[(.tmp 87), (.const (.int .i64 3)), (.tmp 88)], #[54, 3, 22]⟩, none⟩,
    ⟨(some 20), .assign (.tmp 89), none⟩]) c_sheaflaw19_SumsOrder_43) K t m := rfl

def c_sheaflaw19_SumsOrder_45 : MC := (.seq (.ops [⟨(some 19), .alloc 40, none⟩]) c_sheaflaw19_SumsOrder_44)
@[go_sem] theorem c_sheaflaw19_SumsOrder_45_at (rd : Option Nat) (K : Post3) (t : Fr) (m : Mem) : wpM E 7 130 rd c_sheaflaw19_SumsOrder_45 K t m = wpM E 7 130 rd (.seq (.ops [⟨(some 19), .alloc 40, none⟩]) c_sheaflaw19_SumsOrder_44) K t m := rfl

def c_sheaflaw19_SumsOrder_46 : MC := (.seq (.ops [⟨(some 84), .move (.tmp 1), none⟩,
    ⟨(some 85), .call ⟨.value (.func 25), #[(.tmp 84), (.const (.int .i64 1)), (.const (.int .i64 4))], #[3, 3, 3]⟩, none⟩,
    ⟨(some 18), .alloc 3, none⟩,
    ⟨none, .store 3 (.tmp 18) (.tmp 85), none⟩]) c_sheaflaw19_SumsOrder_45)
@[go_sem] theorem c_sheaflaw19_SumsOrder_46_at (rd : Option Nat) (K : Post3) (t : Fr) (m : Mem) : wpM E 7 130 rd c_sheaflaw19_SumsOrder_46 K t m = wpM E 7 130 rd (.seq (.ops [⟨(some 84), .move (.tmp 1), none⟩,
    ⟨(some 85), .call ⟨.value (.func 25), #[(.tmp 84), (.const (.int .i64 1)), (.const (.int .i64 4))], #[3, 3, 3]⟩, none⟩,
    ⟨(some 18), .alloc 3, none⟩,
    ⟨none, .store 3 (.tmp 18) (.tmp 85), none⟩]) c_sheaflaw19_SumsOrder_45) K t m := rfl

def c_sheaflaw19_SumsOrder_47 : MC := (.seq c_sheaflaw19_SumsOrder_30 c_sheaflaw19_SumsOrder_46)
@[go_sem] theorem c_sheaflaw19_SumsOrder_47_at (rd : Option Nat) (K : Post3) (t : Fr) (m : Mem) : wpM E 7 130 rd c_sheaflaw19_SumsOrder_47 K t m = wpM E 7 130 rd (.seq c_sheaflaw19_SumsOrder_30 c_sheaflaw19_SumsOrder_46) K t m := rfl

def c_sheaflaw19_SumsOrder_48 : MC := (.seq c_sheaflaw19_SumsOrder_17 c_sheaflaw19_SumsOrder_47)
@[go_sem] theorem c_sheaflaw19_SumsOrder_48_at (rd : Option Nat) (K : Post3) (t : Fr) (m : Mem) : wpM E 7 130 rd c_sheaflaw19_SumsOrder_48 K t m = wpM E 7 130 rd (.seq c_sheaflaw19_SumsOrder_17 c_sheaflaw19_SumsOrder_47) K t m := rfl

def c_sheaflaw19_SumsOrder_49 : MC := (.seq (.ops [⟨(some 12), .assign (.const (.int .i64 0)), none⟩,
    ⟨(some 13), .assign (.const (.int .i64 0)), none⟩]) c_sheaflaw19_SumsOrder_48)
@[go_sem] theorem c_sheaflaw19_SumsOrder_49_at (rd : Option Nat) (K : Post3) (t : Fr) (m : Mem) : wpM E 7 130 rd c_sheaflaw19_SumsOrder_49 K t m = wpM E 7 130 rd (.seq (.ops [⟨(some 12), .assign (.const (.int .i64 0)), none⟩,
    ⟨(some 13), .assign (.const (.int .i64 0)), none⟩]) c_sheaflaw19_SumsOrder_48) K t m := rfl

def c_sheaflaw19_SumsOrder_50 : MC := (.seq (.ops [⟨(some 52), .move (.tmp 7), none⟩,
    ⟨(some 53), .buildSlice 22 1 #[(0, (.const (.int .i64 0)))], none⟩,
    ⟨(some 54), .call ⟨.value (.func 21), #[(.tmp 52), (.const (.int .i64 3)), (.tmp 53)], #[40, 3, 22]⟩, none⟩,
    ⟨(some 51), .move (.tmp 54), none⟩,
    ⟨(some 55), .extract (.tmp 51) 0, none⟩,
    ⟨(some 56), .extract (.tmp 51) 1, none⟩,
    ⟨(some 10), .assign (.tmp 55), none⟩,
    ⟨(some 11), .assign (.tmp 56), none⟩]) c_sheaflaw19_SumsOrder_49)
@[go_sem] theorem c_sheaflaw19_SumsOrder_50_at (rd : Option Nat) (K : Post3) (t : Fr) (m : Mem) : wpM E 7 130 rd c_sheaflaw19_SumsOrder_50 K t m = wpM E 7 130 rd (.seq (.ops [⟨(some 52), .move (.tmp 7), none⟩,
    ⟨(some 53), .buildSlice 22 1 #[(0, (.const (.int .i64 0)))], none⟩,
    ⟨(some 54), .call ⟨.value (.func 21), #[(.tmp 52), (.const (.int .i64 3)), (.tmp 53)], #[40, 3, 22]⟩, none⟩,
    ⟨(some 51), .move (.tmp 54), none⟩,
    ⟨(some 55), .extract (.tmp 51) 0, none⟩,
    ⟨(some 56), .extract (.tmp 51) 1, none⟩,
    ⟨(some 10), .assign (.tmp 55), none⟩,
    ⟨(some 11), .assign (.tmp 56), none⟩]) c_sheaflaw19_SumsOrder_49) K t m := rfl

def c_sheaflaw19_SumsOrder_51 : MC := (.seq (.ops [⟨(some 46), .move (.tmp 5), none⟩,
    ⟨(some 47), .buildSlice 22 1 #[(0, (.const (.int .i64 0)))], none⟩,
    ⟨(some 48), .call ⟨.value (.func 21), #[(.tmp 46), (.const (.int .i64 3)), (.tmp 47)], #[40, 3, 22]⟩, none⟩,
    ⟨(some 45), .move (.tmp 48), none⟩,
    ⟨(some 49), .extract (.tmp 45) 0, none⟩,
    ⟨(some 50), .extract (.tmp 45) 1, none⟩,
    ⟨(some 8), .assign (.tmp 49), none⟩,
    ⟨(some 9), .assign (.tmp 50), none⟩]) c_sheaflaw19_SumsOrder_50)
@[go_sem] theorem c_sheaflaw19_SumsOrder_51_at (rd : Option Nat) (K : Post3) (t : Fr) (m : Mem) : wpM E 7 130 rd c_sheaflaw19_SumsOrder_51 K t m = wpM E 7 130 rd (.seq (.ops [⟨(some 46), .move (.tmp 5), none⟩,
    ⟨(some 47), .buildSlice 22 1 #[(0, (.const (.int .i64 0)))], none⟩,
    ⟨(some 48), .call ⟨.value (.func 21), #[(.tmp 46), (.const (.int .i64 3)), (.tmp 47)], #[40, 3, 22]⟩, none⟩,
    ⟨(some 45), .move (.tmp 48), none⟩,
    ⟨(some 49), .extract (.tmp 45) 0, none⟩,
    ⟨(some 50), .extract (.tmp 45) 1, none⟩,
    ⟨(some 8), .assign (.tmp 49), none⟩,
    ⟨(some 9), .assign (.tmp 50), none⟩]) c_sheaflaw19_SumsOrder_50) K t m := rfl

def c_sheaflaw19_SumsOrder_52 : MC := (.seq (.ops [⟨(some 42), .move (.tmp 5), none⟩,
    ⟨(some 43), .buildSlice 22 2 #[(0, (.const (.int .i64 0))), (1, (.const (.int .i64 3)))], none⟩,
    ⟨(some 44), .call ⟨.value (.func 26), #[(.tmp 42), (.tmp 43)], #[40, 22]⟩, none⟩,
    ⟨(some 7), .assign (.tmp 44), none⟩]) c_sheaflaw19_SumsOrder_51)
@[go_sem] theorem c_sheaflaw19_SumsOrder_52_at (rd : Option Nat) (K : Post3) (t : Fr) (m : Mem) : wpM E 7 130 rd c_sheaflaw19_SumsOrder_52 K t m = wpM E 7 130 rd (.seq (.ops [⟨(some 42), .move (.tmp 5), none⟩,
    ⟨(some 43), .buildSlice 22 2 #[(0, (.const (.int .i64 0))), (1, (.const (.int .i64 3)))], none⟩,
    ⟨(some 44), .call ⟨.value (.func 26), #[(.tmp 42), (.tmp 43)], #[40, 22]⟩, none⟩,
    ⟨(some 7), .assign (.tmp 44), none⟩]) c_sheaflaw19_SumsOrder_51) K t m := rfl

def c_sheaflaw19_SumsOrder_53 : MC := (.seq c_sheaflaw19_SumsOrder_8 c_sheaflaw19_SumsOrder_52)
@[go_sem] theorem c_sheaflaw19_SumsOrder_53_at (rd : Option Nat) (K : Post3) (t : Fr) (m : Mem) : wpM E 7 130 rd c_sheaflaw19_SumsOrder_53 K t m = wpM E 7 130 rd (.seq c_sheaflaw19_SumsOrder_8 c_sheaflaw19_SumsOrder_52) K t m := rfl

def c_sheaflaw19_SumsOrder_54 : MC := (.seq (.ops [⟨(some 22), .move (.tmp 0), none⟩,
    ⟨(some 23), .call ⟨.value (.func 23), #[(.tmp 22)], #[44]⟩, none⟩,
    ⟨(some 5), .assign (.tmp 23), none⟩]) c_sheaflaw19_SumsOrder_53)
@[go_sem] theorem c_sheaflaw19_SumsOrder_54_at (rd : Option Nat) (K : Post3) (t : Fr) (m : Mem) : wpM E 7 130 rd c_sheaflaw19_SumsOrder_54 K t m = wpM E 7 130 rd (.seq (.ops [⟨(some 22), .move (.tmp 0), none⟩,
    ⟨(some 23), .call ⟨.value (.func 23), #[(.tmp 22)], #[44]⟩, none⟩,
    ⟨(some 5), .assign (.tmp 23), none⟩]) c_sheaflaw19_SumsOrder_53) K t m := rfl

def c_sheaflaw19_SumsOrder_55 : MC := (.seq (.ops [⟨(some 4), .assign (.const (.bool false)), none⟩]) c_sheaflaw19_SumsOrder_54)
@[go_sem] theorem c_sheaflaw19_SumsOrder_55_at (rd : Option Nat) (K : Post3) (t : Fr) (m : Mem) : wpM E 7 130 rd c_sheaflaw19_SumsOrder_55 K t m = wpM E 7 130 rd (.seq (.ops [⟨(some 4), .assign (.const (.bool false)), none⟩]) c_sheaflaw19_SumsOrder_54) K t m := rfl

@[go_sem] theorem some7 : (E.fn 7).isSome = true := by kernel_rfl
set_option maxRecDepth 100000 in
theorem fn_sheaflaw19_SumsOrder : FnIs E 7 130 [.tmp 4] c_sheaflaw19_SumsOrder_55 := ⟨by kernel_rfl, by kernel_rfl⟩

/-! sheaf/sheaflaw19.SumsNest -/
abbrev F_sheaflaw19_SumsNest : FuncId := 8
def c_sheaflaw19_SumsNest_0 : MC := (.cond (.tmp 18) .skip (.exit 0))
@[go_sem] theorem c_sheaflaw19_SumsNest_0_at (rd : Option Nat) (K : Post3) (t : Fr) (m : Mem) : wpM E 8 83 rd c_sheaflaw19_SumsNest_0 K t m = wpM E 8 83 rd (.cond (.tmp 18) .skip (.exit 0)) K t m := rfl

def c_sheaflaw19_SumsNest_1 : MC := (.seq (.ops [⟨(some 19), .move (.tmp 17), none⟩,
    ⟨(some 4), .assign (.tmp 19), none⟩]) (.draw [(0, [], ⟨(some 20), .move (.tmp 3), none⟩),
    (1, [], ⟨(some 21), .move (.tmp 4), none⟩),
    (2, [], ⟨(some 22), .indexAddr 40 (.tmp 20) (.tmp 21), none⟩),
    (3, [], ⟨(some 23), .load 22 (.tmp 22), none⟩),
    (4, [], ⟨(some 24), .move (.tmp 3), none⟩),
    (5, [], ⟨(some 25), .move (.tmp 4), none⟩),
    (6, [], ⟨(some 26), .indexAddr 40 (.tmp 24) (.tmp 25), none⟩),
    (7, [], ⟨(some 27), .load 22 (.tmp 26), none⟩),
    (8, [], ⟨(some 28), .indexAddr 22 (.tmp 27) (.const (.int .i64 3)), none⟩),
    (9, [], ⟨(some 29), .load 3 (.tmp 28), none⟩),
    (10, [3], ⟨(some 30), .call ⟨.value (.func 25), #[(.tmp 29), (.const (.int .i64 (-1125899906842624))), (.const (.int .i64 1125899906842624))], #[3, 3, 3]⟩, none⟩),
    (11, [], ⟨(some 31), .indexAddr 22 (.tmp 23) (.const (.int .i64 3)), none⟩),
    (12, [], ⟨none, .store 3 (.tmp 31) (.tmp 30), none⟩)]))
@[go_sem] theorem c_sheaflaw19_SumsNest_1_at (rd : Option Nat) (K : Post3) (t : Fr) (m : Mem) : wpM E 8 83 rd c_sheaflaw19_SumsNest_1 K t m = wpM E 8 83 rd (.seq (.ops [⟨(some 19), .move (.tmp 17), none⟩,
    ⟨(some 4), .assign (.tmp 19), none⟩]) (.draw [(0, [], ⟨(some 20), .move (.tmp 3), none⟩),
    (1, [], ⟨(some 21), .move (.tmp 4), none⟩),
    (2, [], ⟨(some 22), .indexAddr 40 (.tmp 20) (.tmp 21), none⟩),
    (3, [], ⟨(some 23), .load 22 (.tmp 22), none⟩),
    (4, [], ⟨(some 24), .move (.tmp 3), none⟩),
    (5, [], ⟨(some 25), .move (.tmp 4), none⟩),
    (6, [], ⟨(some 26), .indexAddr 40 (.tmp 24) (.tmp 25), none⟩),
    (7, [], ⟨(some 27), .load 22 (.tmp 26), none⟩),
    (8, [], ⟨(some 28), .indexAddr 22 (.tmp 27) (.const (.int .i64 3)), none⟩),
    (9, [], ⟨(some 29), .load 3 (.tmp 28), none⟩),
    (10, [3], ⟨(some 30), .call ⟨.value (.func 25), #[(.tmp 29), (.const (.int .i64 (-1125899906842624))), (.const (.int .i64 1125899906842624))], #[3, 3, 3]⟩, none⟩),
    (11, [], ⟨(some 31), .indexAddr 22 (.tmp 23) (.const (.int .i64 3)), none⟩),
    (12, [], ⟨none, .store 3 (.tmp 31) (.tmp 30), none⟩)])) K t m := rfl

def c_sheaflaw19_SumsNest_2 : MC := (.block 1 c_sheaflaw19_SumsNest_1)
@[go_sem] theorem c_sheaflaw19_SumsNest_2_at (rd : Option Nat) (K : Post3) (t : Fr) (m : Mem) : wpM E 8 83 rd c_sheaflaw19_SumsNest_2 K t m = wpM E 8 83 rd (.block 1 c_sheaflaw19_SumsNest_1) K t m := rfl

def c_sheaflaw19_SumsNest_3 : MC := (.seq c_sheaflaw19_SumsNest_2 (.ops [⟨(some 32), .binOp .add 3 (.tmp 17) (.const (.int .i64 1)) 3, none⟩,
    ⟨(some 17), .move (.tmp 32), none⟩]))
@[go_sem] theorem c_sheaflaw19_SumsNest_3_at (rd : Option Nat) (K : Post3) (t : Fr) (m : Mem) : wpM E 8 83 rd c_sheaflaw19_SumsNest_3 K t m = wpM E 8 83 rd (.seq c_sheaflaw19_SumsNest_2 (.ops [⟨(some 32), .binOp .add 3 (.tmp 17) (.const (.int .i64 1)) 3, none⟩,
    ⟨(some 17), .move (.tmp 32), none⟩])) K t m := rfl

def c_sheaflaw19_SumsNest_4 : MC := (.seq c_sheaflaw19_SumsNest_0 c_sheaflaw19_SumsNest_3)
@[go_sem] theorem c_sheaflaw19_SumsNest_4_at (rd : Option Nat) (K : Post3) (t : Fr) (m : Mem) : wpM E 8 83 rd c_sheaflaw19_SumsNest_4 K t m = wpM E 8 83 rd (.seq c_sheaflaw19_SumsNest_0 c_sheaflaw19_SumsNest_3) K t m := rfl

def c_sheaflaw19_SumsNest_5 : MC := (.seq (.ops [⟨(some 18), .binOp .lss 3 (.tmp 17) (.tmp 16) 3, none⟩]) c_sheaflaw19_SumsNest_4)
@[go_sem] theorem c_sheaflaw19_SumsNest_5_at (rd : Option Nat) (K : Post3) (t : Fr) (m : Mem) : wpM E 8 83 rd c_sheaflaw19_SumsNest_5 K t m = wpM E 8 83 rd (.seq (.ops [⟨(some 18), .binOp .lss 3 (.tmp 17) (.tmp 16) 3, none⟩]) c_sheaflaw19_SumsNest_4) K t m := rfl

def c_sheaflaw19_SumsNest_6 : MC := (.loop c_sheaflaw19_SumsNest_5)
theorem c_sheaflaw19_SumsNest_6_at (rd : Option Nat) (K : Post3) (t : Fr) (m : Mem) : wpM E 8 83 rd c_sheaflaw19_SumsNest_6 K t m = wpM E 8 83 rd (.loop c_sheaflaw19_SumsNest_5) K t m := rfl

def c_sheaflaw19_SumsNest_7 : MC := (.block 0 c_sheaflaw19_SumsNest_6)
theorem c_sheaflaw19_SumsNest_7_at (rd : Option Nat) (K : Post3) (t : Fr) (m : Mem) : wpM E 8 83 rd c_sheaflaw19_SumsNest_7 K t m = wpM E 8 83 rd (.block 0 c_sheaflaw19_SumsNest_6) K t m := rfl

def c_sheaflaw19_SumsNest_8 : MC := (.seq (.ops [⟨(some 15), .move (.tmp 3), none⟩,
    ⟨(some 16), .call ⟨.builtin .len, #[(.tmp 15)], #[40]⟩, none⟩,
    ⟨(some 17), .move (.const (.int .i64 0)), none⟩]) c_sheaflaw19_SumsNest_7)
@[go_sem] theorem c_sheaflaw19_SumsNest_8_at (rd : Option Nat) (K : Post3) (t : Fr) (m : Mem) : wpM E 8 83 rd c_sheaflaw19_SumsNest_8 K t m = wpM E 8 83 rd (.seq (.ops [⟨(some 15), .move (.tmp 3), none⟩,
    ⟨(some 16), .call ⟨.builtin .len, #[(.tmp 15)], #[40]⟩, none⟩,
    ⟨(some 17), .move (.const (.int .i64 0)), none⟩]) c_sheaflaw19_SumsNest_7) K t m := rfl

def c_sheaflaw19_SumsNest_9 : MC := (.cond (.tmp 42) .skip (.exit 2))
@[go_sem] theorem c_sheaflaw19_SumsNest_9_at (rd : Option Nat) (K : Post3) (t : Fr) (m : Mem) : wpM E 8 83 rd c_sheaflaw19_SumsNest_9 K t m = wpM E 8 83 rd (.cond (.tmp 42) .skip (.exit 2)) K t m := rfl

def c_sheaflaw19_SumsNest_10 : MC := (.seq (.ops [⟨(some 2), .assign (.const (.bool false)), none⟩]) .ret)
@[go_sem] theorem c_sheaflaw19_SumsNest_10_at (rd : Option Nat) (K : Post3) (t : Fr) (m : Mem) : wpM E 8 83 rd c_sheaflaw19_SumsNest_10 K t m = wpM E 8 83 rd (.seq (.ops [⟨(some 2), .assign (.const (.bool false)), none⟩]) .ret) K t m := rfl

def c_sheaflaw19_SumsNest_11 : MC := (.cond (.tmp 47) c_sheaflaw19_SumsNest_10 .skip)
@[go_sem] theorem c_sheaflaw19_SumsNest_11_at (rd : Option Nat) (K : Post3) (t : Fr) (m : Mem) : wpM E 8 83 rd c_sheaflaw19_SumsNest_11 K t m = wpM E 8 83 rd (.cond (.tmp 47) c_sheaflaw19_SumsNest_10 .skip) K t m := rfl

def c_sheaflaw19_SumsNest_12 : MC := (.seq (.ops [⟨(some 45), .move (.tmp 8), none⟩,
    ⟨(some 46), .call ⟨.builtin .len, #[(.tmp 45)], #[22]⟩, none⟩,
    ⟨(some 47), .binOp .neq 3 (.tmp 46) (.const (.int .i64 3)) 3, none⟩]) c_sheaflaw19_SumsNest_11)
@[go_sem] theorem c_sheaflaw19_SumsNest_12_at (rd : Option Nat) (K : Post3) (t : Fr) (m : Mem) : wpM E 8 83 rd c_sheaflaw19_SumsNest_12 K t m = wpM E 8 83 rd (.seq (.ops [⟨(some 45), .move (.tmp 8), none⟩,
    ⟨(some 46), .call ⟨.builtin .len, #[(.tmp 45)], #[22]⟩, none⟩,
    ⟨(some 47), .binOp .neq 3 (.tmp 46) (.const (.int .i64 3)) 3, none⟩]) c_sheaflaw19_SumsNest_11) K t m := rfl

def c_sheaflaw19_SumsNest_13 : MC := (.seq (.ops [⟨(some 43), .indexAddr 40 (.tmp 39) (.tmp 41), none⟩,
    ⟨(some 44), .load 22 (.tmp 43), none⟩,
    ⟨(some 8), .assign (.tmp 44), none⟩]) c_sheaflaw19_SumsNest_12)
@[go_sem] theorem c_sheaflaw19_SumsNest_13_at (rd : Option Nat) (K : Post3) (t : Fr) (m : Mem) : wpM E 8 83 rd c_sheaflaw19_SumsNest_13 K t m = wpM E 8 83 rd (.seq (.ops [⟨(some 43), .indexAddr 40 (.tmp 39) (.tmp 41), none⟩,
    ⟨(some 44), .load 22 (.tmp 43), none⟩,
    ⟨(some 8), .assign (.tmp 44), none⟩]) c_sheaflaw19_SumsNest_12) K t m := rfl

def c_sheaflaw19_SumsNest_14 : MC := (.block 3 c_sheaflaw19_SumsNest_13)
@[go_sem] theorem c_sheaflaw19_SumsNest_14_at (rd : Option Nat) (K : Post3) (t : Fr) (m : Mem) : wpM E 8 83 rd c_sheaflaw19_SumsNest_14 K t m = wpM E 8 83 rd (.block 3 c_sheaflaw19_SumsNest_13) K t m := rfl

def c_sheaflaw19_SumsNest_15 : MC := (.seq c_sheaflaw19_SumsNest_14 (.ops [⟨(some 48), .binOp .add 3 (.tmp 41) (.const (.int .i64 1)) 3, none⟩,
    ⟨(some 41), .move (.tmp 48), none⟩]))
@[go_sem] theorem c_sheaflaw19_SumsNest_15_at (rd : Option Nat) (K : Post3) (t : Fr) (m : Mem) : wpM E 8 83 rd c_sheaflaw19_SumsNest_15 K t m = wpM E 8 83 rd (.seq c_sheaflaw19_SumsNest_14 (.ops [⟨(some 48), .binOp .add 3 (.tmp 41) (.const (.int .i64 1)) 3, none⟩,
    ⟨(some 41), .move (.tmp 48), none⟩])) K t m := rfl

def c_sheaflaw19_SumsNest_16 : MC := (.seq c_sheaflaw19_SumsNest_9 c_sheaflaw19_SumsNest_15)
@[go_sem] theorem c_sheaflaw19_SumsNest_16_at (rd : Option Nat) (K : Post3) (t : Fr) (m : Mem) : wpM E 8 83 rd c_sheaflaw19_SumsNest_16 K t m = wpM E 8 83 rd (.seq c_sheaflaw19_SumsNest_9 c_sheaflaw19_SumsNest_15) K t m := rfl

def c_sheaflaw19_SumsNest_17 : MC := (.seq (.ops [⟨(some 42), .binOp .lss 3 (.tmp 41) (.tmp 40) 3, none⟩]) c_sheaflaw19_SumsNest_16)
@[go_sem] theorem c_sheaflaw19_SumsNest_17_at (rd : Option Nat) (K : Post3) (t : Fr) (m : Mem) : wpM E 8 83 rd c_sheaflaw19_SumsNest_17 K t m = wpM E 8 83 rd (.seq (.ops [⟨(some 42), .binOp .lss 3 (.tmp 41) (.tmp 40) 3, none⟩]) c_sheaflaw19_SumsNest_16) K t m := rfl

def c_sheaflaw19_SumsNest_18 : MC := (.loop c_sheaflaw19_SumsNest_17)
theorem c_sheaflaw19_SumsNest_18_at (rd : Option Nat) (K : Post3) (t : Fr) (m : Mem) : wpM E 8 83 rd c_sheaflaw19_SumsNest_18 K t m = wpM E 8 83 rd (.loop c_sheaflaw19_SumsNest_17) K t m := rfl

def c_sheaflaw19_SumsNest_19 : MC := (.block 2 c_sheaflaw19_SumsNest_18)
theorem c_sheaflaw19_SumsNest_19_at (rd : Option Nat) (K : Post3) (t : Fr) (m : Mem) : wpM E 8 83 rd c_sheaflaw19_SumsNest_19 K t m = wpM E 8 83 rd (.block 2 c_sheaflaw19_SumsNest_18) K t m := rfl

def c_sheaflaw19_SumsNest_20 : MC := (.seq (.ops [⟨(some 39), .move (.tmp 5), none⟩,
    ⟨(some 40), .call ⟨.builtin .len, #[(.tmp 39)], #[40]⟩, none⟩,
    ⟨(some 41), .move (.const (.int .i64 0)), none⟩]) c_sheaflaw19_SumsNest_19)
@[go_sem] theorem c_sheaflaw19_SumsNest_20_at (rd : Option Nat) (K : Post3) (t : Fr) (m : Mem) : wpM E 8 83 rd c_sheaflaw19_SumsNest_20 K t m = wpM E 8 83 rd (.seq (.ops [⟨(some 39), .move (.tmp 5), none⟩,
    ⟨(some 40), .call ⟨.builtin .len, #[(.tmp 39)], #[40]⟩, none⟩,
    ⟨(some 41), .move (.const (.int .i64 0)), none⟩]) c_sheaflaw19_SumsNest_19) K t m := rfl

def c_sheaflaw19_SumsNest_21 : MC := (.seq (.ops [⟨(some 61), .move (.tmp 6), none⟩,
    ⟨(some 62), .move (.tmp 61), none⟩,
    ⟨(some 63), .move (.tmp 10), (some (some 62, true))⟩,
    ⟨(some 64), .pick (.tmp 62) (.tmp 63) (.const (.bool false)), none⟩,
    ⟨(some 65), .move (.tmp 64), none⟩,
    ⟨(some 66), .move (.tmp 12), (some (some 65, true))⟩,
    ⟨(some 67), .pick (.tmp 65) (.tmp 66) (.const (.bool false)), none⟩,
    ⟨(some 68), .move (.tmp 67), none⟩,
    ⟨(some 69), .move (.tmp 9), (some (some 68, true))⟩,
    ⟨(some 70), .move (.tmp 11), (some (some 68, true))⟩,
    ⟨(some 71), .call ⟨.value (.func 22), #[(.tmp 69), (.tmp 70)], #[40, 40]⟩, (some (some 68, true))⟩,
    ⟨(some 72), .pick (.tmp 68) (.tmp 71) (.const (.bool false)), none⟩,
    ⟨(some 73), .move (.tmp 72), none⟩,
    ⟨(some 74), .move (.tmp 5), (some (some 73, true))⟩,
    ⟨(some 75), .call ⟨.builtin .len, #[(.tmp 74)], #[40]⟩, (some (some 73, true))⟩,
    ⟨(some 76), .move (.tmp 9), (some (some 73, true))⟩,
    ⟨(some 77), .call ⟨.builtin .len, #[(.tmp 76)], #[40]⟩, (some (some 73, true))⟩,
    ⟨(some 78), .binOp .geq 3 (.tmp 75) (.tmp 77) 3, (some (some 73, true))⟩,
    ⟨(some 79), .pick (.tmp 73) (.tmp 78) (.const (.bool false)), none⟩,
    ⟨(some 80), .move (.tmp 79), none⟩,
    ⟨(some 81), .call ⟨.value (.func 5), #[], #[]⟩, (some (some 80, true))⟩,
    ⟨(some 82), .pick (.tmp 80) (.tmp 81) (.const (.bool false)), none⟩,
    ⟨(some 2), .assign (.tmp 82), none⟩]) .ret)
@[go_sem] theorem c_sheaflaw19_SumsNest_21_at (rd : Option Nat) (K : Post3) (t : Fr) (m : Mem) : wpM E 8 83 rd c_sheaflaw19_SumsNest_21 K t m = wpM E 8 83 rd (.seq (.ops [⟨(some 61), .move (.tmp 6), none⟩,
    ⟨(some 62), .move (.tmp 61), none⟩,
    ⟨(some 63), .move (.tmp 10), (some (some 62, true))⟩,
    ⟨(some 64), .pick (.tmp 62) (.tmp 63) (.const (.bool false)), none⟩,
    ⟨(some 65), .move (.tmp 64), none⟩,
    ⟨(some 66), .move (.tmp 12), (some (some 65, true))⟩,
    ⟨(some 67), .pick (.tmp 65) (.tmp 66) (.const (.bool false)), none⟩,
    ⟨(some 68), .move (.tmp 67), none⟩,
    ⟨(some 69), .move (.tmp 9), (some (some 68, true))⟩,
    ⟨(some 70), .move (.tmp 11), (some (some 68, true))⟩,
    ⟨(some 71), .call ⟨.value (.func 22), #[(.tmp 69), (.tmp 70)], #[40, 40]⟩, (some (some 68, true))⟩,
    ⟨(some 72), .pick (.tmp 68) (.tmp 71) (.const (.bool false)), none⟩,
    ⟨(some 73), .move (.tmp 72), none⟩,
    ⟨(some 74), .move (.tmp 5), (some (some 73, true))⟩,
    ⟨(some 75), .call ⟨.builtin .len, #[(.tmp 74)], #[40]⟩, (some (some 73, true))⟩,
    ⟨(some 76), .move (.tmp 9), (some (some 73, true))⟩,
    ⟨(some 77), .call ⟨.builtin .len, #[(.tmp 76)], #[40]⟩, (some (some 73, true))⟩,
    ⟨(some 78), .binOp .geq 3 (.tmp 75) (.tmp 77) 3, (some (some 73, true))⟩,
    ⟨(some 79), .pick (.tmp 73) (.tmp 78) (.const (.bool false)), none⟩,
    ⟨(some 80), .move (.tmp 79), none⟩,
    ⟨(some 81), .call ⟨.value (.func 5), #[], #[]⟩, (some (some 80, true))⟩,
    ⟨(some 82), .pick (.tmp 80) (.tmp 81) (.const (.bool false)), none⟩,
    ⟨(some 2), .assign (.tmp 82), none⟩]) .ret) K t m := rfl

def c_sheaflaw19_SumsNest_22 : MC := (.seq (.ops [⟨(some 56), .move (.tmp 3), none⟩,
    ⟨(some 57), .buildSlice 22 1 #[(0, (.const (.int .i64 0)))], none⟩,
    ⟨(some 58), .call ⟨.value (.func 21), #[(.tmp 56), (.const (.int .i64 3)), (.tmp 57)], #[40, 3, 22]⟩, none⟩,
    ⟨(some 55), .move (.tmp 58), none⟩,
    ⟨(some 59), .extract (.tmp 55) 0, none⟩,
    ⟨(some 60), .extract (.tmp 55) 1, none⟩,
    ⟨(some 11), .assign (.tmp 59), none⟩,
    ⟨(some 12), .assign (.tmp 60), none⟩]) c_sheaflaw19_SumsNest_21)
@[go_sem] theorem c_sheaflaw19_SumsNest_22_at (rd : Option Nat) (K : Post3) (t : Fr) (m : Mem) : wpM E 8 83 rd c_sheaflaw19_SumsNest_22 K t m = wpM E 8 83 rd (.seq (.ops [⟨(some 56), .move (.tmp 3), none⟩,
    ⟨(some 57), .buildSlice 22 1 #[(0, (.const (.int .i64 0)))], none⟩,
    ⟨(some 58), .call ⟨.value (.func 21), #[(.tmp 56), (.const (.int .i64 3)), (.tmp 57)], #[40, 3, 22]⟩, none⟩,
    ⟨(some 55), .move (.tmp 58), none⟩,
    ⟨(some 59), .extract (.tmp 55) 0, none⟩,
    ⟨(some 60), .extract (.tmp 55) 1, none⟩,
    ⟨(some 11), .assign (.tmp 59), none⟩,
    ⟨(some 12), .assign (.tmp 60), none⟩]) c_sheaflaw19_SumsNest_21) K t m := rfl

def c_sheaflaw19_SumsNest_23 : MC := (.seq (.ops [⟨(some 50), .move (.tmp 5), none⟩,
    ⟨(some 51), .buildSlice 22 1 #[(0, (.const (.int .i64 0)))], none⟩,
    ⟨(some 52), .call ⟨.value (.func 21), #[(.tmp 50), (.const (.int .i64 2)), (.tmp 51)], #[40, 3, 22]⟩, none⟩,
    ⟨(some 49), .move (.tmp 52), none⟩,
    ⟨(some 53), .extract (.tmp 49) 0, none⟩,
    ⟨(some 54), .extract (.tmp 49) 1, none⟩,
    ⟨(some 9), .assign (.tmp 53), none⟩,
    ⟨(some 10), .assign (.tmp 54), none⟩]) c_sheaflaw19_SumsNest_22)
@[go_sem] theorem c_sheaflaw19_SumsNest_23_at (rd : Option Nat) (K : Post3) (t : Fr) (m : Mem) : wpM E 8 83 rd c_sheaflaw19_SumsNest_23 K t m = wpM E 8 83 rd (.seq (.ops [⟨(some 50), .move (.tmp 5), none⟩,
    ⟨(some 51), .buildSlice 22 1 #[(0, (.const (.int .i64 0)))], none⟩,
    ⟨(some 52), .call ⟨.value (.func 21), #[(.tmp 50), (.const (.int .i64 2)), (.tmp 51)], #[40, 3, 22]⟩, none⟩,
    ⟨(some 49), .move (.tmp 52), none⟩,
    ⟨(some 53), .extract (.tmp 49) 0, none⟩,
    ⟨(some 54), .extract (.tmp 49) 1, none⟩,
    ⟨(some 9), .assign (.tmp 53), none⟩,
    ⟨(some 10), .assign (.tmp 54), none⟩]) c_sheaflaw19_SumsNest_22) K t m := rfl

def c_sheaflaw19_SumsNest_24 : MC := (.seq c_sheaflaw19_SumsNest_20 c_sheaflaw19_SumsNest_23)
@[go_sem] theorem c_sheaflaw19_SumsNest_24_at (rd : Option Nat) (K : Post3) (t : Fr) (m : Mem) : wpM E 8 83 rd c_sheaflaw19_SumsNest_24 K t m = wpM E 8 83 rd (.seq c_sheaflaw19_SumsNest_20 c_sheaflaw19_SumsNest_23) K t m := rfl

def c_sheaflaw19_SumsNest_25 : MC := (.seq (.ops [⟨(some 34), .move (.tmp 3), none⟩,
    ⟨(some 35), .buildSlice 22 2 #[(0, (.const (.int .i64 0))), (1, (.const (.int .i64 1)))], none⟩,
    ⟨(some 36), .call ⟨.value (.func 21), #[(.tmp 34), (.const (.int .i64 3)), (.tmp 35)], #[40, 3, 22]⟩, none⟩,
    ⟨(some 33), .move (.tmp 36), none⟩,
    ⟨(some 37), .extract (.tmp 33) 0, none⟩,
    ⟨(some 38), .extract (.tmp 33) 1, none⟩,
    ⟨(some 5), .assign (.tmp 37), none⟩,
    ⟨(some 6), .assign (.tmp 38), none⟩]) c_sheaflaw19_SumsNest_24)
@[go_sem] theorem c_sheaflaw19_SumsNest_25_at (rd : Option Nat) (K : Post3) (t : Fr) (m : Mem) : wpM E 8 83 rd c_sheaflaw19_SumsNest_25 K t m = wpM E 8 83 rd (.seq (.ops [⟨(some 34), .move (.tmp 3), none⟩,
    ⟨(some 35), .buildSlice 22 2 #[(0, (.const (.int .i64 0))), (1, (.const (.int .i64 1)))], none⟩,
    ⟨(some 36), .call ⟨.value (.func 21), #[(.tmp 34), (.const (.int .i64 3)), (.tmp 35)], #[40, 3, 22]⟩, none⟩,
    ⟨(some 33), .move (.tmp 36), none⟩,
    ⟨(some 37), .extract (.tmp 33) 0, none⟩,
    ⟨(some 38), .extract (.tmp 33) 1, none⟩,
    ⟨(some 5), .assign (.tmp 37), none⟩,
    ⟨(some 6), .assign (.tmp 38), none⟩]) c_sheaflaw19_SumsNest_24) K t m := rfl

def c_sheaflaw19_SumsNest_26 : MC := (.seq c_sheaflaw19_SumsNest_8 c_sheaflaw19_SumsNest_25)
@[go_sem] theorem c_sheaflaw19_SumsNest_26_at (rd : Option Nat) (K : Post3) (t : Fr) (m : Mem) : wpM E 8 83 rd c_sheaflaw19_SumsNest_26 K t m = wpM E 8 83 rd (.seq c_sheaflaw19_SumsNest_8 c_sheaflaw19_SumsNest_25) K t m := rfl

def c_sheaflaw19_SumsNest_27 : MC := (.seq (.ops [⟨(some 13), .move (.tmp 0), none⟩,
    ⟨(some 14), .call ⟨.value (.func 23), #[(.tmp 13)], #[44]⟩, none⟩,
    ⟨(some 3), .assign (.tmp 14), none⟩]) c_sheaflaw19_SumsNest_26)
@[go_sem] theorem c_sheaflaw19_SumsNest_27_at (rd : Option Nat) (K : Post3) (t : Fr) (m : Mem) : wpM E 8 83 rd c_sheaflaw19_SumsNest_27 K t m = wpM E 8 83 rd (.seq (.ops [⟨(some 13), .move (.tmp 0), none⟩,
    ⟨(some 14), .call ⟨.value (.func 23), #[(.tmp 13)], #[44]⟩, none⟩,
    ⟨(some 3), .assign (.tmp 14), none⟩]) c_sheaflaw19_SumsNest_26) K t m := rfl

def c_sheaflaw19_SumsNest_28 : MC := (.seq (.ops [⟨(some 2), .assign (.const (.bool false)), none⟩]) c_sheaflaw19_SumsNest_27)
@[go_sem] theorem c_sheaflaw19_SumsNest_28_at (rd : Option Nat) (K : Post3) (t : Fr) (m : Mem) : wpM E 8 83 rd c_sheaflaw19_SumsNest_28 K t m = wpM E 8 83 rd (.seq (.ops [⟨(some 2), .assign (.const (.bool false)), none⟩]) c_sheaflaw19_SumsNest_27) K t m := rfl

@[go_sem] theorem some8 : (E.fn 8).isSome = true := by kernel_rfl
set_option maxRecDepth 100000 in
theorem fn_sheaflaw19_SumsNest : FnIs E 8 83 [.tmp 2] c_sheaflaw19_SumsNest_28 := ⟨by kernel_rfl, by kernel_rfl⟩

/-! sheaf/sheaflaw19.SumsRound -/
abbrev F_sheaflaw19_SumsRound : FuncId := 10
def c_sheaflaw19_SumsRound_0 : MC := (.cond (.tmp 23) .skip (.exit 0))
@[go_sem] theorem c_sheaflaw19_SumsRound_0_at (rd : Option Nat) (K : Post3) (t : Fr) (m : Mem) : wpM E 10 110 rd c_sheaflaw19_SumsRound_0 K t m = wpM E 10 110 rd (.cond (.tmp 23) .skip (.exit 0)) K t m := rfl

def c_sheaflaw19_SumsRound_1 : MC := (.seq (.ops [⟨(some 16), .move (.tmp 6), none⟩,
    ⟨(some 17), .move (.tmp 0), none⟩,
    ⟨(some 18), .call ⟨.builtin .len, #[(.tmp 17)], #[44]⟩, none⟩,
    ⟨(some 19), .binOp .lss 3 (.tmp 16) (.tmp 18) 3, none⟩,
    ⟨(some 20), .move (.tmp 19), none⟩,
    ⟨(some 21), .move (.tmp 6), (some (some 20, true))⟩,
    ⟨(some 22), .binOp .lss 3 (.tmp 21) (.const (.int .i64 15)) 3, (some (some 20, true))⟩,
    ⟨(some 23), .pick (.tmp 20) (.tmp 22) (.const (.bool false)), none⟩]) c_sheaflaw19_SumsRound_0)
@[go_sem] theorem c_sheaflaw19_SumsRound_1_at (rd : Option Nat) (K : Post3) (t : Fr) (m : Mem) : wpM E 10 110 rd c_sheaflaw19_SumsRound_1 K t m = wpM E 10 110 rd (.seq (.ops [⟨(some 16), .move (.tmp 6), none⟩,
    ⟨(some 17), .move (.tmp 0), none⟩,
    ⟨(some 18), .call ⟨.builtin .len, #[(.tmp 17)], #[44]⟩, none⟩,
    ⟨(some 19), .binOp .lss 3 (.tmp 16) (.tmp 18) 3, none⟩,
    ⟨(some 20), .move (.tmp 19), none⟩,
    ⟨(some 21), .move (.tmp 6), (some (some 20, true))⟩,
    ⟨(some 22), .binOp .lss 3 (.tmp 21) (.const (.int .i64 15)) 3, (some (some 20, true))⟩,
    ⟨(some 23), .pick (.tmp 20) (.tmp 22) (.const (.bool false)), none⟩]) c_sheaflaw19_SumsRound_0) K t m := rfl

def c_sheaflaw19_SumsRound_2 : MC := (.cond (.tmp 54) (.ops [⟨(some 55), .move (.tmp 5), none⟩,
    ⟨(some 56), .move (.tmp 6), none⟩,
    ⟨(some 57), .binOp .mul 3 (.const (.int .i64 2)) (.tmp 56) 3, none⟩,
    ⟨(some 58), .binOp .add 3 (.tmp 57) (.const (.int .i64 2)) 3, none⟩,
    ⟨(some 59), .move (.tmp 7), none⟩,
    ⟨(some 60), .move (.tmp 8), none⟩,
    ⟨(some 61), .unOp .neg 3 (.tmp 60), none⟩,
    ⟨(some 62), .move (.tmp 7), none⟩,
    ⟨(some 63), .binOp .mul 3 (.const (.int .i64 1000)) (.tmp 62) 3, none⟩,
    ⟨(some 64), .move (.tmp 0), none⟩,
    ⟨(some 65), .move (.tmp 6), none⟩,
    ⟨(some 66), .indexAddr 44 (.tmp 64) (.tmp 65), none⟩,
    ⟨(some 67), .fieldAddr 37 (.tmp 66) 3, none⟩,
    ⟨(some 68), .load 3 (.tmp 67), none⟩,
    ⟨(some 69), .buildSlice 22 10 #[(0, (.tmp 58)), (1, (.tmp 59)), (2, (.const (.int .i64 1))), (3, (.const (.int .i64 10))), (4, (.tmp 61)), (5, (.const (.int .i64 0))), (6, (.const (.int .i64 1))), (7, (.tmp 63)), (8, (.const (.int .i64 6))), (9, (.tmp 68))], none⟩,
    ⟨(some 70), .buildSlice 40 1 #[(0, (.tmp 69))], none⟩,
    ⟨(some 71), .call ⟨.builtin .append, #[(.tmp 55), (.tmp 70)], #[40, 40]⟩, none⟩,
    ⟨(some 5), .assign (.tmp 71), none⟩]) .skip)
@[go_sem] theorem c_sheaflaw19_SumsRound_2_at (rd : Option Nat) (K : Post3) (t : Fr) (m : Mem) : wpM E 10 110 rd c_sheaflaw19_SumsRound_2 K t m = wpM E 10 110 rd (.cond (.tmp 54) (.ops [⟨(some 55), .move (.tmp 5), none⟩,
    ⟨(some 56), .move (.tmp 6), none⟩,
    ⟨(some 57), .binOp .mul 3 (.const (.int .i64 2)) (.tmp 56) 3, none⟩,
    ⟨(some 58), .binOp .add 3 (.tmp 57) (.const (.int .i64 2)) 3, none⟩,
    ⟨(some 59), .move (.tmp 7), none⟩,
    ⟨(some 60), .move (.tmp 8), none⟩,
    ⟨(some 61), .unOp .neg 3 (.tmp 60), none⟩,
    ⟨(some 62), .move (.tmp 7), none⟩,
    ⟨(some 63), .binOp .mul 3 (.const (.int .i64 1000)) (.tmp 62) 3, none⟩,
    ⟨(some 64), .move (.tmp 0), none⟩,
    ⟨(some 65), .move (.tmp 6), none⟩,
    ⟨(some 66), .indexAddr 44 (.tmp 64) (.tmp 65), none⟩,
    ⟨(some 67), .fieldAddr 37 (.tmp 66) 3, none⟩,
    ⟨(some 68), .load 3 (.tmp 67), none⟩,
    ⟨(some 69), .buildSlice 22 10 #[(0, (.tmp 58)), (1, (.tmp 59)), (2, (.const (.int .i64 1))), (3, (.const (.int .i64 10))), (4, (.tmp 61)), (5, (.const (.int .i64 0))), (6, (.const (.int .i64 1))), (7, (.tmp 63)), (8, (.const (.int .i64 6))), (9, (.tmp 68))], none⟩,
    ⟨(some 70), .buildSlice 40 1 #[(0, (.tmp 69))], none⟩,
    ⟨(some 71), .call ⟨.builtin .append, #[(.tmp 55), (.tmp 70)], #[40, 40]⟩, none⟩,
    ⟨(some 5), .assign (.tmp 71), none⟩]) .skip) K t m := rfl

def c_sheaflaw19_SumsRound_3 : MC := (.seq (.ops [⟨(some 54), .move (.tmp 1), none⟩]) c_sheaflaw19_SumsRound_2)
@[go_sem] theorem c_sheaflaw19_SumsRound_3_at (rd : Option Nat) (K : Post3) (t : Fr) (m : Mem) : wpM E 10 110 rd c_sheaflaw19_SumsRound_3 K t m = wpM E 10 110 rd (.seq (.ops [⟨(some 54), .move (.tmp 1), none⟩]) c_sheaflaw19_SumsRound_2) K t m := rfl

def c_sheaflaw19_SumsRound_4 : MC := (.seq (.ops [⟨(some 38), .move (.tmp 5), none⟩,
    ⟨(some 39), .move (.tmp 6), none⟩,
    ⟨(some 40), .binOp .mul 3 (.const (.int .i64 2)) (.tmp 39) 3, none⟩,
    ⟨(some 41), .binOp .add 3 (.tmp 40) (.const (.int .i64 1)) 3, none⟩,
    ⟨(some 42), .move (.tmp 7), none⟩,
    ⟨(some 43), .move (.tmp 8), none⟩,
    ⟨(some 44), .move (.tmp 7), none⟩,
    ⟨(some 45), .binOp .mul 3 (.const (.int .i64 1000)) (.tmp 44) 3, none⟩,
    ⟨(some 46), .move (.tmp 0), none⟩,
    ⟨(some 47), .move (.tmp 6), none⟩,
    ⟨(some 48), .indexAddr 44 (.tmp 46) (.tmp 47), none⟩,
    ⟨(some 49), .fieldAddr 37 (.tmp 48) 5, none⟩,
    ⟨(some 50), .load 3 (.tmp 49), none⟩,
    ⟨(some 51), .buildSlice 22 10 #[(0, (.tmp 41)), (1, (.tmp 42)), (2, (.const (.int .i64 1))), (3, (.const (.int .i64 10))), (4, (.tmp 43)), (5, (.const (.int .i64 0))), (6, (.const (.int .i64 1))), (7, (.tmp 45)), (8, (.const (.int .i64 5))), (9, (.tmp 50))], none⟩,
    ⟨(some 52), .buildSlice 40 1 #[(0, (.tmp 51))], none⟩,
    ⟨(some 53), .call ⟨.builtin .append, #[(.tmp 38), (.tmp 52)], #[40, 40]⟩, none⟩,
    ⟨(some 5), .assign (.tmp 53), none⟩]) c_sheaflaw19_SumsRound_3)
@[go_sem] theorem c_sheaflaw19_SumsRound_4_at (rd : Option Nat) (K : Post3) (t : Fr) (m : Mem) : wpM E 10 110 rd c_sheaflaw19_SumsRound_4 K t m = wpM E 10 110 rd (.seq (.ops [⟨(some 38), .move (.tmp 5), none⟩,
    ⟨(some 39), .move (.tmp 6), none⟩,
    ⟨(some 40), .binOp .mul 3 (.const (.int .i64 2)) (.tmp 39) 3, none⟩,
    ⟨(some 41), .binOp .add 3 (.tmp 40) (.const (.int .i64 1)) 3, none⟩,
    ⟨(some 42), .move (.tmp 7), none⟩,
    ⟨(some 43), .move (.tmp 8), none⟩,
    ⟨(some 44), .move (.tmp 7), none⟩,
    ⟨(some 45), .binOp .mul 3 (.const (.int .i64 1000)) (.tmp 44) 3, none⟩,
    ⟨(some 46), .move (.tmp 0), none⟩,
    ⟨(some 47), .move (.tmp 6), none⟩,
    ⟨(some 48), .indexAddr 44 (.tmp 46) (.tmp 47), none⟩,
    ⟨(some 49), .fieldAddr 37 (.tmp 48) 5, none⟩,
    ⟨(some 50), .load 3 (.tmp 49), none⟩,
    ⟨(some 51), .buildSlice 22 10 #[(0, (.tmp 41)), (1, (.tmp 42)), (2, (.const (.int .i64 1))), (3, (.const (.int .i64 10))), (4, (.tmp 43)), (5, (.const (.int .i64 0))), (6, (.const (.int .i64 1))), (7, (.tmp 45)), (8, (.const (.int .i64 5))), (9, (.tmp 50))], none⟩,
    ⟨(some 52), .buildSlice 40 1 #[(0, (.tmp 51))], none⟩,
    ⟨(some 53), .call ⟨.builtin .append, #[(.tmp 38), (.tmp 52)], #[40, 40]⟩, none⟩,
    ⟨(some 5), .assign (.tmp 53), none⟩]) c_sheaflaw19_SumsRound_3) K t m := rfl

def c_sheaflaw19_SumsRound_5 : MC := (.seq (.ops [⟨(some 32), .move (.tmp 0), none⟩,
    ⟨(some 33), .move (.tmp 6), none⟩,
    ⟨(some 34), .indexAddr 44 (.tmp 32) (.tmp 33), none⟩,
    ⟨(some 35), .fieldAddr 37 (.tmp 34) 2, none⟩,
    ⟨(some 36), .load 3 (.tmp 35), none⟩,
    ⟨(some 37), .call ⟨.value (.func 25), #[(.tmp 36), (.const (.int .i64 (-99))), (.const (.int .i64 99))], #[3, 3, 3]⟩, none⟩,
    ⟨(some 8), .assign (.tmp 37), none⟩]) c_sheaflaw19_SumsRound_4)
@[go_sem] theorem c_sheaflaw19_SumsRound_5_at (rd : Option Nat) (K : Post3) (t : Fr) (m : Mem) : wpM E 10 110 rd c_sheaflaw19_SumsRound_5 K t m = wpM E 10 110 rd (.seq (.ops [⟨(some 32), .move (.tmp 0), none⟩,
    ⟨(some 33), .move (.tmp 6), none⟩,
    ⟨(some 34), .indexAddr 44 (.tmp 32) (.tmp 33), none⟩,
    ⟨(some 35), .fieldAddr 37 (.tmp 34) 2, none⟩,
    ⟨(some 36), .load 3 (.tmp 35), none⟩,
    ⟨(some 37), .call ⟨.value (.func 25), #[(.tmp 36), (.const (.int .i64 (-99))), (.const (.int .i64 99))], #[3, 3, 3]⟩, none⟩,
    ⟨(some 8), .assign (.tmp 37), none⟩]) c_sheaflaw19_SumsRound_4) K t m := rfl

def c_sheaflaw19_SumsRound_6 : MC := (.seq (.ops [⟨(some 26), .move (.tmp 0), none⟩,
    ⟨(some 27), .move (.tmp 6), none⟩,
    ⟨(some 28), .indexAddr 44 (.tmp 26) (.tmp 27), none⟩,
    ⟨(some 29), .fieldAddr 37 (.tmp 28) 0, none⟩,
    ⟨(some 30), .load 3 (.tmp 29), none⟩,
    ⟨(some 31), .call ⟨.value (.func 25), #[(.tmp 30), (.const (.int .i64 1)), (.const (.int .i64 3))], #[3, 3, 3]⟩, none⟩,
    ⟨(some 7), .assign (.tmp 31), none⟩]) c_sheaflaw19_SumsRound_5)
@[go_sem] theorem c_sheaflaw19_SumsRound_6_at (rd : Option Nat) (K : Post3) (t : Fr) (m : Mem) : wpM E 10 110 rd c_sheaflaw19_SumsRound_6 K t m = wpM E 10 110 rd (.seq (.ops [⟨(some 26), .move (.tmp 0), none⟩,
    ⟨(some 27), .move (.tmp 6), none⟩,
    ⟨(some 28), .indexAddr 44 (.tmp 26) (.tmp 27), none⟩,
    ⟨(some 29), .fieldAddr 37 (.tmp 28) 0, none⟩,
    ⟨(some 30), .load 3 (.tmp 29), none⟩,
    ⟨(some 31), .call ⟨.value (.func 25), #[(.tmp 30), (.const (.int .i64 1)), (.const (.int .i64 3))], #[3, 3, 3]⟩, none⟩,
    ⟨(some 7), .assign (.tmp 31), none⟩]) c_sheaflaw19_SumsRound_5) K t m := rfl

def c_sheaflaw19_SumsRound_7 : MC := (.block 1 c_sheaflaw19_SumsRound_6)
@[go_sem] theorem c_sheaflaw19_SumsRound_7_at (rd : Option Nat) (K : Post3) (t : Fr) (m : Mem) : wpM E 10 110 rd c_sheaflaw19_SumsRound_7 K t m = wpM E 10 110 rd (.block 1 c_sheaflaw19_SumsRound_6) K t m := rfl

def c_sheaflaw19_SumsRound_8 : MC := (.seq c_sheaflaw19_SumsRound_7 (.ops [⟨(some 24), .move (.tmp 6), none⟩,
    ⟨(some 25), .binOp .add 3 (.tmp 24) (.const (.int .i64 1)) 3, none⟩,
    ⟨(some 6), .assign (.tmp 25), none⟩]))
@[go_sem] theorem c_sheaflaw19_SumsRound_8_at (rd : Option Nat) (K : Post3) (t : Fr) (m : Mem) : wpM E 10 110 rd c_sheaflaw19_SumsRound_8 K t m = wpM E 10 110 rd (.seq c_sheaflaw19_SumsRound_7 (.ops [⟨(some 24), .move (.tmp 6), none⟩,
    ⟨(some 25), .binOp .add 3 (.tmp 24) (.const (.int .i64 1)) 3, none⟩,
    ⟨(some 6), .assign (.tmp 25), none⟩])) K t m := rfl

def c_sheaflaw19_SumsRound_9 : MC := (.seq c_sheaflaw19_SumsRound_1 c_sheaflaw19_SumsRound_8)
@[go_sem] theorem c_sheaflaw19_SumsRound_9_at (rd : Option Nat) (K : Post3) (t : Fr) (m : Mem) : wpM E 10 110 rd c_sheaflaw19_SumsRound_9 K t m = wpM E 10 110 rd (.seq c_sheaflaw19_SumsRound_1 c_sheaflaw19_SumsRound_8) K t m := rfl

def c_sheaflaw19_SumsRound_10 : MC := (.loop c_sheaflaw19_SumsRound_9)
theorem c_sheaflaw19_SumsRound_10_at (rd : Option Nat) (K : Post3) (t : Fr) (m : Mem) : wpM E 10 110 rd c_sheaflaw19_SumsRound_10 K t m = wpM E 10 110 rd (.loop c_sheaflaw19_SumsRound_9) K t m := rfl

def c_sheaflaw19_SumsRound_11 : MC := (.block 0 c_sheaflaw19_SumsRound_10)
theorem c_sheaflaw19_SumsRound_11_at (rd : Option Nat) (K : Post3) (t : Fr) (m : Mem) : wpM E 10 110 rd c_sheaflaw19_SumsRound_11 K t m = wpM E 10 110 rd (.block 0 c_sheaflaw19_SumsRound_10) K t m := rfl

def c_sheaflaw19_SumsRound_12 : MC := (.seq (.ops [⟨(some 6), .assign (.const (.int .i64 0)), none⟩]) c_sheaflaw19_SumsRound_11)
@[go_sem] theorem c_sheaflaw19_SumsRound_12_at (rd : Option Nat) (K : Post3) (t : Fr) (m : Mem) : wpM E 10 110 rd c_sheaflaw19_SumsRound_12 K t m = wpM E 10 110 rd (.seq (.ops [⟨(some 6), .assign (.const (.int .i64 0)), none⟩]) c_sheaflaw19_SumsRound_11) K t m := rfl

def c_sheaflaw19_SumsRound_13 : MC := (.seq (.ops [⟨(some 4), .assign (.const (.bool false)), none⟩]) .ret)
@[go_sem] theorem c_sheaflaw19_SumsRound_13_at (rd : Option Nat) (K : Post3) (t : Fr) (m : Mem) : wpM E 10 110 rd c_sheaflaw19_SumsRound_13 K t m = wpM E 10 110 rd (.seq (.ops [⟨(some 4), .assign (.const (.bool false)), none⟩]) .ret) K t m := rfl

def c_sheaflaw19_SumsRound_14 : MC := (.cond (.tmp 79) c_sheaflaw19_SumsRound_13 .skip)
@[go_sem] theorem c_sheaflaw19_SumsRound_14_at (rd : Option Nat) (K : Post3) (t : Fr) (m : Mem) : wpM E 10 110 rd c_sheaflaw19_SumsRound_14 K t m = wpM E 10 110 rd (.cond (.tmp 79) c_sheaflaw19_SumsRound_13 .skip) K t m := rfl

def c_sheaflaw19_SumsRound_15 : MC := (.seq (.ops [⟨(some 78), .move (.tmp 11), none⟩,
    ⟨(some 79), .binOp .eql 64 (.tmp 78) (.const .nilFunc) 64, none⟩]) c_sheaflaw19_SumsRound_14)
@[go_sem] theorem c_sheaflaw19_SumsRound_15_at (rd : Option Nat) (K : Post3) (t : Fr) (m : Mem) : wpM E 10 110 rd c_sheaflaw19_SumsRound_15 K t m = wpM E 10 110 rd (.seq (.ops [⟨(some 78), .move (.tmp 11), none⟩,
    ⟨(some 79), .binOp .eql 64 (.tmp 78) (.const .nilFunc) 64, none⟩]) c_sheaflaw19_SumsRound_14) K t m := rfl

def c_sheaflaw19_SumsRound_16 : MC := (.seq (.ops [⟨(some 12), .assign (.tmp 81), none⟩]) (.ops [⟨(some 13), .assign (.tmp 82), none⟩]))
@[go_sem] theorem c_sheaflaw19_SumsRound_16_at (rd : Option Nat) (K : Post3) (t : Fr) (m : Mem) : wpM E 10 110 rd c_sheaflaw19_SumsRound_16 K t m = wpM E 10 110 rd (.seq (.ops [⟨(some 12), .assign (.tmp 81), none⟩]) (.ops [⟨(some 13), .assign (.tmp 82), none⟩])) K t m := rfl

def c_sheaflaw19_SumsRound_17 : MC := (.seq (.ops [⟨(some 85), .move (.tmp 13), none⟩,
    ⟨none, .store 62 (.tmp 10) (.tmp 85), none⟩]) (.exit 2))
@[go_sem] theorem c_sheaflaw19_SumsRound_17_at (rd : Option Nat) (K : Post3) (t : Fr) (m : Mem) : wpM E 10 110 rd c_sheaflaw19_SumsRound_17 K t m = wpM E 10 110 rd (.seq (.ops [⟨(some 85), .move (.tmp 13), none⟩,
    ⟨none, .store 62 (.tmp 10) (.tmp 85), none⟩]) (.exit 2)) K t m := rfl

def c_sheaflaw19_SumsRound_18 : MC := (.cond (.tmp 84) c_sheaflaw19_SumsRound_17 .skip)
@[go_sem] theorem c_sheaflaw19_SumsRound_18_at (rd : Option Nat) (K : Post3) (t : Fr) (m : Mem) : wpM E 10 110 rd c_sheaflaw19_SumsRound_18 K t m = wpM E 10 110 rd (.cond (.tmp 84) c_sheaflaw19_SumsRound_17 .skip) K t m := rfl

def c_sheaflaw19_SumsRound_19 : MC := (.seq (.ops [⟨(some 83), .move (.tmp 13), none⟩,
    ⟨(some 84), .binOp .neq 62 (.tmp 83) (.const (.int .i64 0)) 62, none⟩]) c_sheaflaw19_SumsRound_18)
@[go_sem] theorem c_sheaflaw19_SumsRound_19_at (rd : Option Nat) (K : Post3) (t : Fr) (m : Mem) : wpM E 10 110 rd c_sheaflaw19_SumsRound_19 K t m = wpM E 10 110 rd (.seq (.ops [⟨(some 83), .move (.tmp 13), none⟩,
    ⟨(some 84), .binOp .neq 62 (.tmp 83) (.const (.int .i64 0)) 62, none⟩]) c_sheaflaw19_SumsRound_18) K t m := rfl

def c_sheaflaw19_SumsRound_20 : MC := (.seq c_sheaflaw19_SumsRound_19 (.ops [⟨(some 86), .load 40 (.tmp 9), none⟩,
    ⟨(some 87), .move (.tmp 12), none⟩,
    ⟨(some 88), .buildSlice 40 1 #[(0, (.tmp 87))], none⟩,
    ⟨(some 89), .call ⟨.builtin .append, #[(.tmp 86), (.tmp 88)], #[40, 40]⟩, none⟩,
    ⟨none, .store 40 (.tmp 9) (.tmp 89), none⟩]))
@[go_sem] theorem c_sheaflaw19_SumsRound_20_at (rd : Option Nat) (K : Post3) (t : Fr) (m : Mem) : wpM E 10 110 rd c_sheaflaw19_SumsRound_20 K t m = wpM E 10 110 rd (.seq c_sheaflaw19_SumsRound_19 (.ops [⟨(some 86), .load 40 (.tmp 9), none⟩,
    ⟨(some 87), .move (.tmp 12), none⟩,
    ⟨(some 88), .buildSlice 40 1 #[(0, (.tmp 87))], none⟩,
    ⟨(some 89), .call ⟨.builtin .append, #[(.tmp 86), (.tmp 88)], #[40, 40]⟩, none⟩,
    ⟨none, .store 40 (.tmp 9) (.tmp 89), none⟩])) K t m := rfl

def c_sheaflaw19_SumsRound_21 : MC := (.block 3 c_sheaflaw19_SumsRound_20)
@[go_sem] theorem c_sheaflaw19_SumsRound_21_at (rd : Option Nat) (K : Post3) (t : Fr) (m : Mem) : wpM E 10 110 rd c_sheaflaw19_SumsRound_21 K t m = wpM E 10 110 rd (.block 3 c_sheaflaw19_SumsRound_20) K t m := rfl

theorem asg_sheaflaw19_SumsRound_0 : compile E 10 110 (asgAt E 10 0) = some c_sheaflaw19_SumsRound_16 := by kernel_rfl

theorem body_sheaflaw19_SumsRound_0 : compile E 10 110 (bodyAt E 10 0) = some c_sheaflaw19_SumsRound_21 := by kernel_rfl

def c_sheaflaw19_SumsRound_22 : MC := (.range (.tmp 80) #[81, 82] (asgAt E 10 0) (bodyAt E 10 0))
theorem c_sheaflaw19_SumsRound_22_at (rd : Option Nat) (K : Post3) (t : Fr) (m : Mem) : wpM E 10 110 rd c_sheaflaw19_SumsRound_22 K t m = wpM E 10 110 rd (.range (.tmp 80) #[81, 82] (asgAt E 10 0) (bodyAt E 10 0)) K t m := rfl

def c_sheaflaw19_SumsRound_23 : MC := (.block 2 c_sheaflaw19_SumsRound_22)
@[go_sem] theorem c_sheaflaw19_SumsRound_23_at (rd : Option Nat) (K : Post3) (t : Fr) (m : Mem) : wpM E 10 110 rd c_sheaflaw19_SumsRound_23 K t m = wpM E 10 110 rd (.block 2 c_sheaflaw19_SumsRound_22) K t m := rfl

def c_sheaflaw19_SumsRound_24 : MC := (.seq (.ops [⟨(some 80), .move (.tmp 11), none⟩]) c_sheaflaw19_SumsRound_23)
@[go_sem] theorem c_sheaflaw19_SumsRound_24_at (rd : Option Nat) (K : Post3) (t : Fr) (m : Mem) : wpM E 10 110 rd c_sheaflaw19_SumsRound_24 K t m = wpM E 10 110 rd (.seq (.ops [⟨(some 80), .move (.tmp 11), none⟩]) c_sheaflaw19_SumsRound_23) K t m := rfl

def c_sheaflaw19_SumsRound_25 : MC := (.seq (.ops [⟨(some 95), .load 62 (.tmp 10), none⟩,
    ⟨(some 96), .move (.tmp 15), none⟩,
    ⟨(some 97), .binOp .eql 62 (.tmp 95) (.tmp 96) 62, none⟩,
    ⟨(some 98), .move (.tmp 97), none⟩,
    ⟨(some 99), .move (.tmp 15), (some (some 98, true))⟩,
    ⟨(some 100), .binOp .neq 62 (.tmp 99) (.const (.int .i64 0)) 62, (some (some 98, true))⟩,
    ⟨(some 101), .move (.tmp 100), (some (some 98, true))⟩,
    ⟨(some 102), .load 40 (.tmp 9), (some (some 101, false))⟩,
    ⟨(some 103), .move (.tmp 14), (some (some 101, false))⟩,
    ⟨(some 104), .call ⟨.value (.func 22), #[(.tmp 102), (.tmp 103)], #[40, 40]⟩, (some (some 101, false))⟩,
    ⟨(some 105), .pick (.tmp 101) (.const (.bool true)) (.tmp 104), (some (some 98, true))⟩,
    ⟨(some 106), .pick (.tmp 98) (.tmp 105) (.const (.bool false)), none⟩,
    ⟨(some 107), .move (.tmp 106), none⟩,
    ⟨(some 108), .call ⟨.value (.func 5), #[], #[]⟩, (some (some 107, true))⟩,
    ⟨(some 109), .pick (.tmp 107) (.tmp 108) (.const (.bool false)), none⟩,
    ⟨(some 4), .assign (.tmp 109), none⟩]) .ret)
@[go_sem] theorem c_sheaflaw19_SumsRound_25_at (rd : Option Nat) (K : Post3) (t : Fr) (m : Mem) : wpM E 10 110 rd c_sheaflaw19_SumsRound_25 K t m = wpM E 10 110 rd (.seq (.ops [⟨(some 95), .load 62 (.tmp 10), none⟩,
    ⟨(some 96), .move (.tmp 15), none⟩,
    ⟨(some 97), .binOp .eql 62 (.tmp 95) (.tmp 96) 62, none⟩,
    ⟨(some 98), .move (.tmp 97), none⟩,
    ⟨(some 99), .move (.tmp 15), (some (some 98, true))⟩,
    ⟨(some 100), .binOp .neq 62 (.tmp 99) (.const (.int .i64 0)) 62, (some (some 98, true))⟩,
    ⟨(some 101), .move (.tmp 100), (some (some 98, true))⟩,
    ⟨(some 102), .load 40 (.tmp 9), (some (some 101, false))⟩,
    ⟨(some 103), .move (.tmp 14), (some (some 101, false))⟩,
    ⟨(some 104), .call ⟨.value (.func 22), #[(.tmp 102), (.tmp 103)], #[40, 40]⟩, (some (some 101, false))⟩,
    ⟨(some 105), .pick (.tmp 101) (.const (.bool true)) (.tmp 104), (some (some 98, true))⟩,
    ⟨(some 106), .pick (.tmp 98) (.tmp 105) (.const (.bool false)), none⟩,
    ⟨(some 107), .move (.tmp 106), none⟩,
    ⟨(some 108), .call ⟨.value (.func 5), #[], #[]⟩, (some (some 107, true))⟩,
    ⟨(some 109), .pick (.tmp 107) (.tmp 108) (.const (.bool false)), none⟩,
    ⟨(some 4), .assign (.tmp 109), none⟩]) .ret) K t m := rfl

def c_sheaflaw19_SumsRound_26 : MC := (.seq (.ops [⟨(some 91), .move (.tmp 5), none⟩,
    ⟨(some 92), .call ⟨.value (.func 33), #[(.tmp 91)], #[40]⟩, none⟩,
    ⟨(some 90), .move (.tmp 92), none⟩,
    ⟨(some 93), .extract (.tmp 90) 0, none⟩,
    ⟨(some 94), .extract (.tmp 90) 1, none⟩,
    ⟨(some 14), .assign (.tmp 93), none⟩,
    ⟨(some 15), .assign (.tmp 94), none⟩]) c_sheaflaw19_SumsRound_25)
@[go_sem] theorem c_sheaflaw19_SumsRound_26_at (rd : Option Nat) (K : Post3) (t : Fr) (m : Mem) : wpM E 10 110 rd c_sheaflaw19_SumsRound_26 K t m = wpM E 10 110 rd (.seq (.ops [⟨(some 91), .move (.tmp 5), none⟩,
    ⟨(some 92), .call ⟨.value (.func 33), #[(.tmp 91)], #[40]⟩, none⟩,
    ⟨(some 90), .move (.tmp 92), none⟩,
    ⟨(some 93), .extract (.tmp 90) 0, none⟩,
    ⟨(some 94), .extract (.tmp 90) 1, none⟩,
    ⟨(some 14), .assign (.tmp 93), none⟩,
    ⟨(some 15), .assign (.tmp 94), none⟩]) c_sheaflaw19_SumsRound_25) K t m := rfl

def c_sheaflaw19_SumsRound_27 : MC := (.seq c_sheaflaw19_SumsRound_24 c_sheaflaw19_SumsRound_26)
@[go_sem] theorem c_sheaflaw19_SumsRound_27_at (rd : Option Nat) (K : Post3) (t : Fr) (m : Mem) : wpM E 10 110 rd c_sheaflaw19_SumsRound_27 K t m = wpM E 10 110 rd (.seq c_sheaflaw19_SumsRound_24 c_sheaflaw19_SumsRound_26) K t m := rfl

def c_sheaflaw19_SumsRound_28 : MC := (.seq c_sheaflaw19_SumsRound_15 c_sheaflaw19_SumsRound_27)
@[go_sem] theorem c_sheaflaw19_SumsRound_28_at (rd : Option Nat) (K : Post3) (t : Fr) (m : Mem) : wpM E 10 110 rd c_sheaflaw19_SumsRound_28 K t m = wpM E 10 110 rd (.seq c_sheaflaw19_SumsRound_15 c_sheaflaw19_SumsRound_27) K t m := rfl

def c_sheaflaw19_SumsRound_29 : MC := (.seq (.ops [⟨(some 75), .move (.tmp 5), none⟩,
    ⟨(some 76), .call ⟨.value (.func 28), #[(.tmp 75)], #[40]⟩, none⟩,
    ⟨(some 77), .call ⟨.value (.func 32), #[(.tmp 76)], #[54]⟩, none⟩,
    ⟨(some 11), .assign (.tmp 77), none⟩]) c_sheaflaw19_SumsRound_28)
@[go_sem] theorem c_sheaflaw19_SumsRound_29_at (rd : Option Nat) (K : Post3) (t : Fr) (m : Mem) : wpM E 10 110 rd c_sheaflaw19_SumsRound_29 K t m = wpM E 10 110 rd (.seq (.ops [⟨(some 75), .move (.tmp 5), none⟩,
    ⟨(some 76), .call ⟨.value (.func 28), #[(.tmp 75)], #[40]⟩, none⟩,
    ⟨(some 77), .call ⟨.value (.func 32), #[(.tmp 76)], #[54]⟩, none⟩,
    ⟨(some 11), .assign (.tmp 77), none⟩]) c_sheaflaw19_SumsRound_28) K t m := rfl

def c_sheaflaw19_SumsRound_30 : MC := (.seq (.ops [⟨(some 10), .alloc 62, none⟩,
    ⟨none, .store 62 (.tmp 10) (.const (.int .i64 0)), none⟩]) c_sheaflaw19_SumsRound_29)
@[go_sem] theorem c_sheaflaw19_SumsRound_30_at (rd : Option Nat) (K : Post3) (t : Fr) (m : Mem) : wpM E 10 110 rd c_sheaflaw19_SumsRound_30 K t m = wpM E 10 110 rd (.seq (.ops [⟨(some 10), .alloc 62, none⟩,
    ⟨none, .store 62 (.tmp 10) (.const (.int .i64 0)), none⟩]) c_sheaflaw19_SumsRound_29) K t m := rfl

def c_sheaflaw19_SumsRound_31 : MC := (.seq (.ops [⟨(some 9), .alloc 40, none⟩]) c_sheaflaw19_SumsRound_30)
@[go_sem] theorem c_sheaflaw19_SumsRound_31_at (rd : Option Nat) (K : Post3) (t : Fr) (m : Mem) : wpM E 10 110 rd c_sheaflaw19_SumsRound_31 K t m = wpM E 10 110 rd (.seq (.ops [⟨(some 9), .alloc 40, none⟩]) c_sheaflaw19_SumsRound_30) K t m := rfl

def c_sheaflaw19_SumsRound_32 : MC := (.seq (.ops [⟨(some 72), .move (.tmp 5), none⟩,
    ⟨(some 73), .buildSlice 22 1 #[(0, (.const (.int .i64 1)))], none⟩,
    ⟨(some 74), .call ⟨.value (.func 26), #[(.tmp 72), (.tmp 73)], #[40, 22]⟩, none⟩,
    ⟨(some 5), .assign (.tmp 74), none⟩]) c_sheaflaw19_SumsRound_31)
@[go_sem] theorem c_sheaflaw19_SumsRound_32_at (rd : Option Nat) (K : Post3) (t : Fr) (m : Mem) : wpM E 10 110 rd c_sheaflaw19_SumsRound_32 K t m = wpM E 10 110 rd (.seq (.ops [⟨(some 72), .move (.tmp 5), none⟩,
    ⟨(some 73), .buildSlice 22 1 #[(0, (.const (.int .i64 1)))], none⟩,
    ⟨(some 74), .call ⟨.value (.func 26), #[(.tmp 72), (.tmp 73)], #[40, 22]⟩, none⟩,
    ⟨(some 5), .assign (.tmp 74), none⟩]) c_sheaflaw19_SumsRound_31) K t m := rfl

def c_sheaflaw19_SumsRound_33 : MC := (.seq c_sheaflaw19_SumsRound_12 c_sheaflaw19_SumsRound_32)
@[go_sem] theorem c_sheaflaw19_SumsRound_33_at (rd : Option Nat) (K : Post3) (t : Fr) (m : Mem) : wpM E 10 110 rd c_sheaflaw19_SumsRound_33 K t m = wpM E 10 110 rd (.seq c_sheaflaw19_SumsRound_12 c_sheaflaw19_SumsRound_32) K t m := rfl

def c_sheaflaw19_SumsRound_34 : MC := (.seq (.ops [⟨(some 5), .assign (.const (.slice none 0 0)), none⟩]) c_sheaflaw19_SumsRound_33)
@[go_sem] theorem c_sheaflaw19_SumsRound_34_at (rd : Option Nat) (K : Post3) (t : Fr) (m : Mem) : wpM E 10 110 rd c_sheaflaw19_SumsRound_34 K t m = wpM E 10 110 rd (.seq (.ops [⟨(some 5), .assign (.const (.slice none 0 0)), none⟩]) c_sheaflaw19_SumsRound_33) K t m := rfl

def c_sheaflaw19_SumsRound_35 : MC := (.seq (.ops [⟨(some 4), .assign (.const (.bool false)), none⟩]) c_sheaflaw19_SumsRound_34)
@[go_sem] theorem c_sheaflaw19_SumsRound_35_at (rd : Option Nat) (K : Post3) (t : Fr) (m : Mem) : wpM E 10 110 rd c_sheaflaw19_SumsRound_35 K t m = wpM E 10 110 rd (.seq (.ops [⟨(some 4), .assign (.const (.bool false)), none⟩]) c_sheaflaw19_SumsRound_34) K t m := rfl

@[go_sem] theorem some10 : (E.fn 10).isSome = true := by kernel_rfl
set_option maxRecDepth 100000 in
theorem fn_sheaflaw19_SumsRound : FnIs E 10 110 [.tmp 4] c_sheaflaw19_SumsRound_35 := ⟨by kernel_rfl, by kernel_rfl⟩

/-! sheaf/sheaflaw19.SumsRounding -/
abbrev F_sheaflaw19_SumsRounding : FuncId := 11
def c_sheaflaw19_SumsRounding_0 : MC := (.cond (.tmp 31) .skip (.exit 0))
@[go_sem] theorem c_sheaflaw19_SumsRounding_0_at (rd : Option Nat) (K : Post3) (t : Fr) (m : Mem) : wpM E 11 171 rd c_sheaflaw19_SumsRounding_0 K t m = wpM E 11 171 rd (.cond (.tmp 31) .skip (.exit 0)) K t m := rfl

def c_sheaflaw19_SumsRounding_1 : MC := (.seq (.ops [⟨(some 24), .move (.tmp 7), none⟩,
    ⟨(some 25), .move (.tmp 0), none⟩,
    ⟨(some 26), .call ⟨.builtin .len, #[(.tmp 25)], #[44]⟩, none⟩,
    ⟨(some 27), .binOp .lss 3 (.tmp 24) (.tmp 26) 3, none⟩,
    ⟨(some 28), .move (.tmp 27), none⟩,
    ⟨(some 29), .move (.tmp 7), (some (some 28, true))⟩,
    ⟨(some 30), .binOp .lss 3 (.tmp 29) (.const (.int .i64 12)) 3, (some (some 28, true))⟩,
    ⟨(some 31), .pick (.tmp 28) (.tmp 30) (.const (.bool false)), none⟩]) c_sheaflaw19_SumsRounding_0)
@[go_sem] theorem c_sheaflaw19_SumsRounding_1_at (rd : Option Nat) (K : Post3) (t : Fr) (m : Mem) : wpM E 11 171 rd c_sheaflaw19_SumsRounding_1 K t m = wpM E 11 171 rd (.seq (.ops [⟨(some 24), .move (.tmp 7), none⟩,
    ⟨(some 25), .move (.tmp 0), none⟩,
    ⟨(some 26), .call ⟨.builtin .len, #[(.tmp 25)], #[44]⟩, none⟩,
    ⟨(some 27), .binOp .lss 3 (.tmp 24) (.tmp 26) 3, none⟩,
    ⟨(some 28), .move (.tmp 27), none⟩,
    ⟨(some 29), .move (.tmp 7), (some (some 28, true))⟩,
    ⟨(some 30), .binOp .lss 3 (.tmp 29) (.const (.int .i64 12)) 3, (some (some 28, true))⟩,
    ⟨(some 31), .pick (.tmp 28) (.tmp 30) (.const (.bool false)), none⟩]) c_sheaflaw19_SumsRounding_0) K t m := rfl

def c_sheaflaw19_SumsRounding_2 : MC := (.seq (.ops [⟨(some 58), .move (.tmp 5), none⟩,
    ⟨(some 59), .move (.tmp 7), none⟩,
    ⟨(some 60), .binOp .mul 3 (.const (.int .i64 2)) (.tmp 59) 3, none⟩,
    ⟨(some 61), .binOp .add 3 (.tmp 60) (.const (.int .i64 1)) 3, none⟩,
    ⟨(some 62), .move (.tmp 8), none⟩,
    ⟨(some 63), .move (.tmp 9), none⟩,
    ⟨(some 64), .move (.tmp 8), none⟩,
    ⟨(some 65), .binOp .mul 3 (.const (.int .i64 500)) (.tmp 64) 3, none⟩,
    ⟨(some 66), .move (.tmp 10), none⟩,
    ⟨(some 67), .buildSlice 22 10 #[(0, (.tmp 61)), (1, (.tmp 62)), (2, (.const (.int .i64 1))), (3, (.const (.int .i64 10))), (4, (.tmp 63)), (5, (.const (.int .i64 0))), (6, (.const (.int .i64 1))), (7, (.tmp 65)), (8, (.const (.int .i64 5))), (9, (.tmp 66))], none⟩,
    ⟨(some 68), .move (.tmp 7), none⟩,
    ⟨(some 69), .binOp .mul 3 (.const (.int .i64 2)) (.tmp 68) 3, none⟩,
    ⟨(some 70), .binOp .add 3 (.tmp 69) (.const (.int .i64 2)) 3, none⟩,
    ⟨(some 71), .move (.tmp 8), none⟩,
    ⟨(some 72), .move (.tmp 9), none⟩,
    ⟨(some 73), .unOp .neg 3 (.tmp 72), none⟩,
    ⟨(some 74), .move (.tmp 8), none⟩,
    ⟨(some 75), .binOp .mul 3 (.const (.int .i64 500)) (.tmp 74) 3, none⟩,
    ⟨(some 76), .move (.tmp 11), none⟩,
    ⟨(some 77), .buildSlice 22 10 #[(0, (.tmp 70)), (1, (.tmp 71)), (2, (.const (.int .i64 1))), (3, (.const (.int .i64 10))), (4, (.tmp 73)), (5, (.const (.int .i64 0))), (6, (.const (.int .i64 1))), (7, (.tmp 75)), (8, (.const (.int .i64 6))), (9, (.tmp 76))], none⟩,
    ⟨(some 78), .buildSlice 40 2 #[(0, (.tmp 67)), (1, (.tmp 77))], none⟩,
    ⟨(some 79), .call ⟨.builtin .append, #[(.tmp 58), (.tmp 78)], #[40, 40]⟩, none⟩,
    ⟨(some 5), .assign (.tmp 79), none⟩]) (.ops [⟨(some 80), .move (.tmp 6), none⟩,
    ⟨(some 81), .move (.tmp 8), none⟩,
    ⟨(some 82), .move (.tmp 6), none⟩,
    ⟨(some 83), .move (.tmp 8), none⟩,
    ⟨(some 84), .lookup 68 (.tmp 82) (.tmp 83) false, none⟩,
    ⟨(some 85), .move (.tmp 10), none⟩,
    ⟨(some 86), .binOp .sub 3 (.tmp 84) (.tmp 85) 3, none⟩,
    ⟨(some 87), .move (.tmp 11), none⟩,
    ⟨(some 88), .binOp .sub 3 (.tmp 86) (.tmp 87) 3, none⟩,
    ⟨none, .mapUpdate 68 (.tmp 80) (.tmp 81) (.tmp 88), none⟩]))
@[go_sem] theorem c_sheaflaw19_SumsRounding_2_at (rd : Option Nat) (K : Post3) (t : Fr) (m : Mem) : wpM E 11 171 rd c_sheaflaw19_SumsRounding_2 K t m = wpM E 11 171 rd (.seq (.ops [⟨(some 58), .move (.tmp 5), none⟩,
    ⟨(some 59), .move (.tmp 7), none⟩,
    ⟨(some 60), .binOp .mul 3 (.const (.int .i64 2)) (.tmp 59) 3, none⟩,
    ⟨(some 61), .binOp .add 3 (.tmp 60) (.const (.int .i64 1)) 3, none⟩,
    ⟨(some 62), .move (.tmp 8), none⟩,
    ⟨(some 63), .move (.tmp 9), none⟩,
    ⟨(some 64), .move (.tmp 8), none⟩,
    ⟨(some 65), .binOp .mul 3 (.const (.int .i64 500)) (.tmp 64) 3, none⟩,
    ⟨(some 66), .move (.tmp 10), none⟩,
    ⟨(some 67), .buildSlice 22 10 #[(0, (.tmp 61)), (1, (.tmp 62)), (2, (.const (.int .i64 1))), (3, (.const (.int .i64 10))), (4, (.tmp 63)), (5, (.const (.int .i64 0))), (6, (.const (.int .i64 1))), (7, (.tmp 65)), (8, (.const (.int .i64 5))), (9, (.tmp 66))], none⟩,
    ⟨(some 68), .move (.tmp 7), none⟩,
    ⟨(some 69), .binOp .mul 3 (.const (.int .i64 2)) (.tmp 68) 3, none⟩,
    ⟨(some 70), .binOp .add 3 (.tmp 69) (.const (.int .i64 2)) 3, none⟩,
    ⟨(some 71), .move (.tmp 8), none⟩,
    ⟨(some 72), .move (.tmp 9), none⟩,
    ⟨(some 73), .unOp .neg 3 (.tmp 72), none⟩,
    ⟨(some 74), .move (.tmp 8), none⟩,
    ⟨(some 75), .binOp .mul 3 (.const (.int .i64 500)) (.tmp 74) 3, none⟩,
    ⟨(some 76), .move (.tmp 11), none⟩,
    ⟨(some 77), .buildSlice 22 10 #[(0, (.tmp 70)), (1, (.tmp 71)), (2, (.const (.int .i64 1))), (3, (.const (.int .i64 10))), (4, (.tmp 73)), (5, (.const (.int .i64 0))), (6, (.const (.int .i64 1))), (7, (.tmp 75)), (8, (.const (.int .i64 6))), (9, (.tmp 76))], none⟩,
    ⟨(some 78), .buildSlice 40 2 #[(0, (.tmp 67)), (1, (.tmp 77))], none⟩,
    ⟨(some 79), .call ⟨.builtin .append, #[(.tmp 58), (.tmp 78)], #[40, 40]⟩, none⟩,
    ⟨(some 5), .assign (.tmp 79), none⟩]) (.ops [⟨(some 80), .move (.tmp 6), none⟩,
    ⟨(some 81), .move (.tmp 8), none⟩,
    ⟨(some 82), .move (.tmp 6), none⟩,
    ⟨(some 83), .move (.tmp 8), none⟩,
    ⟨(some 84), .lookup 68 (.tmp 82) (.tmp 83) false, none⟩,
    ⟨(some 85), .move (.tmp 10), none⟩,
    ⟨(some 86), .binOp .sub 3 (.tmp 84) (.tmp 85) 3, none⟩,
    ⟨(some 87), .move (.tmp 11), none⟩,
    ⟨(some 88), .binOp .sub 3 (.tmp 86) (.tmp 87) 3, none⟩,
    ⟨none, .mapUpdate 68 (.tmp 80) (.tmp 81) (.tmp 88), none⟩])) K t m := rfl

def c_sheaflaw19_SumsRounding_3 : MC := (.seq (.draw [(0, [], ⟨(some 46), .move (.tmp 0), none⟩),
    (1, [], ⟨(some 47), .move (.tmp 7), none⟩),
    (2, [], ⟨(some 48), .indexAddr 44 (.tmp 46) (.tmp 47), none⟩),
    (3, [], ⟨(some 49), .fieldAddr 37 (.tmp 48) 5, none⟩),
    (4, [], ⟨(some 50), .load 3 (.tmp 49), none⟩),
    (6, [], ⟨(some 52), .move (.tmp 0), none⟩),
    (7, [], ⟨(some 53), .move (.tmp 7), none⟩),
    (8, [], ⟨(some 54), .indexAddr 44 (.tmp 52) (.tmp 53), none⟩),
    (9, [], ⟨(some 55), .fieldAddr 37 (.tmp 54) 3, none⟩),
    (10, [], ⟨(some 56), .load 3 (.tmp 55), none⟩),
    (5, [10], ⟨(some 51), .call ⟨.value (.func 25), #[(.tmp 50), (.const (.int .i64 (-1099511627776))), (.const (.int .i64 1099511627776))], #[3, 3, 3]⟩, none⟩),
    (11, [], ⟨(some 57), .call ⟨.value (.func 25), #[(.tmp 56), (.const (.int .i64 (-1099511627776))), (.const (.int .i64 1099511627776))], #[3, 3, 3]⟩, none⟩),
    (12, [], ⟨(some 10), .assign (.tmp 51), none⟩),
    (13, [], ⟨(some 11), .assign (.tmp 57), none⟩)]) c_sheaflaw19_SumsRounding_2)
@[go_sem] theorem c_sheaflaw19_SumsRounding_3_at (rd : Option Nat) (K : Post3) (t : Fr) (m : Mem) : wpM E 11 171 rd c_sheaflaw19_SumsRounding_3 K t m = wpM E 11 171 rd (.seq (.draw [(0, [], ⟨(some 46), .move (.tmp 0), none⟩),
    (1, [], ⟨(some 47), .move (.tmp 7), none⟩),
    (2, [], ⟨(some 48), .indexAddr 44 (.tmp 46) (.tmp 47), none⟩),
    (3, [], ⟨(some 49), .fieldAddr 37 (.tmp 48) 5, none⟩),
    (4, [], ⟨(some 50), .load 3 (.tmp 49), none⟩),
    (6, [], ⟨(some 52), .move (.tmp 0), none⟩),
    (7, [], ⟨(some 53), .move (.tmp 7), none⟩),
    (8, [], ⟨(some 54), .indexAddr 44 (.tmp 52) (.tmp 53), none⟩),
    (9, [], ⟨(some 55), .fieldAddr 37 (.tmp 54) 3, none⟩),
    (10, [], ⟨(some 56), .load 3 (.tmp 55), none⟩),
    (5, [10], ⟨(some 51), .call ⟨.value (.func 25), #[(.tmp 50), (.const (.int .i64 (-1099511627776))), (.const (.int .i64 1099511627776))], #[3, 3, 3]⟩, none⟩),
    (11, [], ⟨(some 57), .call ⟨.value (.func 25), #[(.tmp 56), (.const (.int .i64 (-1099511627776))), (.const (.int .i64 1099511627776))], #[3, 3, 3]⟩, none⟩),
    (12, [], ⟨(some 10), .assign (.tmp 51), none⟩),
    (13, [], ⟨(some 11), .assign (.tmp 57), none⟩)]) c_sheaflaw19_SumsRounding_2) K t m := rfl

def c_sheaflaw19_SumsRounding_4 : MC := (.seq (.draw [(0, [], ⟨(some 34), .move (.tmp 0), none⟩),
    (1, [], ⟨(some 35), .move (.tmp 7), none⟩),
    (2, [], ⟨(some 36), .indexAddr 44 (.tmp 34) (.tmp 35), none⟩),
    (3, [], ⟨(some 37), .fieldAddr 37 (.tmp 36) 0, none⟩),
    (4, [], ⟨(some 38), .load 3 (.tmp 37), none⟩),
    (6, [], ⟨(some 40), .move (.tmp 0), none⟩),
    (7, [], ⟨(some 41), .move (.tmp 7), none⟩),
    (8, [], ⟨(some 42), .indexAddr 44 (.tmp 40) (.tmp 41), none⟩),
    (9, [], ⟨(some 43), .fieldAddr 37 (.tmp 42) 2, none⟩),
    (10, [], ⟨(some 44), .load 3 (.tmp 43), none⟩),
    (5, [10], ⟨(some 39), .call ⟨.value (.func 25), #[(.tmp 38), (.const (.int .i64 1)), (.const (.int .i64 4))], #[3, 3, 3]⟩, none⟩),
    (11, [], ⟨(some 45), .call ⟨.value (.func 25), #[(.tmp 44), (.const (.int .i64 (-99))), (.const (.int .i64 99))], #[3, 3, 3]⟩, none⟩),
    (12, [], ⟨(some 8), .assign (.tmp 39), none⟩),
    (13, [], ⟨(some 9), .assign (.tmp 45), none⟩)]) c_sheaflaw19_SumsRounding_3)
@[go_sem] theorem c_sheaflaw19_SumsRounding_4_at (rd : Option Nat) (K : Post3) (t : Fr) (m : Mem) : wpM E 11 171 rd c_sheaflaw19_SumsRounding_4 K t m = wpM E 11 171 rd (.seq (.draw [(0, [], ⟨(some 34), .move (.tmp 0), none⟩),
    (1, [], ⟨(some 35), .move (.tmp 7), none⟩),
    (2, [], ⟨(some 36), .indexAddr 44 (.tmp 34) (.tmp 35), none⟩),
    (3, [], ⟨(some 37), .fieldAddr 37 (.tmp 36) 0, none⟩),
    (4, [], ⟨(some 38), .load 3 (.tmp 37), none⟩),
    (6, [], ⟨(some 40), .move (.tmp 0), none⟩),
    (7, [], ⟨(some 41), .move (.tmp 7), none⟩),
    (8, [], ⟨(some 42), .indexAddr 44 (.tmp 40) (.tmp 41), none⟩),
    (9, [], ⟨(some 43), .fieldAddr 37 (.tmp 42) 2, none⟩),
    (10, [], ⟨(some 44), .load 3 (.tmp 43), none⟩),
    (5, [10], ⟨(some 39), .call ⟨.value (.func 25), #[(.tmp 38), (.const (.int .i64 1)), (.const (.int .i64 4))], #[3, 3, 3]⟩, none⟩),
    (11, [], ⟨(some 45), .call ⟨.value (.func 25), #[(.tmp 44), (.const (.int .i64 (-99))), (.const (.int .i64 99))], #[3, 3, 3]⟩, none⟩),
    (12, [], ⟨(some 8), .assign (.tmp 39), none⟩),
    (13, [], ⟨(some 9), .assign (.tmp 45), none⟩)]) c_sheaflaw19_SumsRounding_3) K t m := rfl

def c_sheaflaw19_SumsRounding_5 : MC := (.block 1 c_sheaflaw19_SumsRounding_4)
@[go_sem] theorem c_sheaflaw19_SumsRounding_5_at (rd : Option Nat) (K : Post3) (t : Fr) (m : Mem) : wpM E 11 171 rd c_sheaflaw19_SumsRounding_5 K t m = wpM E 11 171 rd (.block 1 c_sheaflaw19_SumsRounding_4) K t m := rfl

def c_sheaflaw19_SumsRounding_6 : MC := (.seq c_sheaflaw19_SumsRounding_5 (.ops [⟨(some 32), .move (.tmp 7), none⟩,
    ⟨(some 33), .binOp .add 3 (.tmp 32) (.const (.int .i64 1)) 3, none⟩,
    ⟨(some 7), .assign (.tmp 33), none⟩]))
@[go_sem] theorem c_sheaflaw19_SumsRounding_6_at (rd : Option Nat) (K : Post3) (t : Fr) (m : Mem) : wpM E 11 171 rd c_sheaflaw19_SumsRounding_6 K t m = wpM E 11 171 rd (.seq c_sheaflaw19_SumsRounding_5 (.ops [⟨(some 32), .move (.tmp 7), none⟩,
    ⟨(some 33), .binOp .add 3 (.tmp 32) (.const (.int .i64 1)) 3, none⟩,
    ⟨(some 7), .assign (.tmp 33), none⟩])) K t m := rfl

def c_sheaflaw19_SumsRounding_7 : MC := (.seq c_sheaflaw19_SumsRounding_1 c_sheaflaw19_SumsRounding_6)
@[go_sem] theorem c_sheaflaw19_SumsRounding_7_at (rd : Option Nat) (K : Post3) (t : Fr) (m : Mem) : wpM E 11 171 rd c_sheaflaw19_SumsRounding_7 K t m = wpM E 11 171 rd (.seq c_sheaflaw19_SumsRounding_1 c_sheaflaw19_SumsRounding_6) K t m := rfl

def c_sheaflaw19_SumsRounding_8 : MC := (.loop c_sheaflaw19_SumsRounding_7)
theorem c_sheaflaw19_SumsRounding_8_at (rd : Option Nat) (K : Post3) (t : Fr) (m : Mem) : wpM E 11 171 rd c_sheaflaw19_SumsRounding_8 K t m = wpM E 11 171 rd (.loop c_sheaflaw19_SumsRounding_7) K t m := rfl

def c_sheaflaw19_SumsRounding_9 : MC := (.block 0 c_sheaflaw19_SumsRounding_8)
theorem c_sheaflaw19_SumsRounding_9_at (rd : Option Nat) (K : Post3) (t : Fr) (m : Mem) : wpM E 11 171 rd c_sheaflaw19_SumsRounding_9 K t m = wpM E 11 171 rd (.block 0 c_sheaflaw19_SumsRounding_8) K t m := rfl

def c_sheaflaw19_SumsRounding_10 : MC := (.seq (.ops [⟨(some 7), .assign (.const (.int .i64 0)), none⟩]) c_sheaflaw19_SumsRounding_9)
@[go_sem] theorem c_sheaflaw19_SumsRounding_10_at (rd : Option Nat) (K : Post3) (t : Fr) (m : Mem) : wpM E 11 171 rd c_sheaflaw19_SumsRounding_10 K t m = wpM E 11 171 rd (.seq (.ops [⟨(some 7), .assign (.const (.int .i64 0)), none⟩]) c_sheaflaw19_SumsRounding_9) K t m := rfl

def c_sheaflaw19_SumsRounding_11 : MC := (.cond (.tmp 93) .skip (.exit 2))
@[go_sem] theorem c_sheaflaw19_SumsRounding_11_at (rd : Option Nat) (K : Post3) (t : Fr) (m : Mem) : wpM E 11 171 rd c_sheaflaw19_SumsRounding_11 K t m = wpM E 11 171 rd (.cond (.tmp 93) .skip (.exit 2)) K t m := rfl

def c_sheaflaw19_SumsRounding_12 : MC := (.seq (.ops [⟨(some 92), .move (.tmp 14), none⟩,
    ⟨(some 93), .binOp .leq 3 (.tmp 92) (.const (.int .i64 4)) 3, none⟩]) c_sheaflaw19_SumsRounding_11)
@[go_sem] theorem c_sheaflaw19_SumsRounding_12_at (rd : Option Nat) (K : Post3) (t : Fr) (m : Mem) : wpM E 11 171 rd c_sheaflaw19_SumsRounding_12 K t m = wpM E 11 171 rd (.seq (.ops [⟨(some 92), .move (.tmp 14), none⟩,
    ⟨(some 93), .binOp .leq 3 (.tmp 92) (.const (.int .i64 4)) 3, none⟩]) c_sheaflaw19_SumsRounding_11) K t m := rfl

def c_sheaflaw19_SumsRounding_13 : MC := (.cond (.tmp 99) (.ops [⟨(some 100), .move (.tmp 12), none⟩,
    ⟨(some 101), .move (.tmp 14), none⟩,
    ⟨(some 102), .move (.tmp 14), none⟩,
    ⟨(some 103), .binOp .mul 3 (.const (.int .i64 500)) (.tmp 102) 3, none⟩,
    ⟨(some 104), .move (.tmp 6), none⟩,
    ⟨(some 105), .move (.tmp 14), none⟩,
    ⟨(some 106), .lookup 68 (.tmp 104) (.tmp 105) false, none⟩,
    ⟨(some 107), .buildSlice 22 4 #[(0, (.tmp 101)), (1, (.tmp 103)), (2, (.const (.int .i64 9999))), (3, (.tmp 106))], none⟩,
    ⟨(some 108), .buildSlice 40 1 #[(0, (.tmp 107))], none⟩,
    ⟨(some 109), .call ⟨.builtin .append, #[(.tmp 100), (.tmp 108)], #[40, 40]⟩, none⟩,
    ⟨(some 12), .assign (.tmp 109), none⟩]) .skip)
@[go_sem] theorem c_sheaflaw19_SumsRounding_13_at (rd : Option Nat) (K : Post3) (t : Fr) (m : Mem) : wpM E 11 171 rd c_sheaflaw19_SumsRounding_13 K t m = wpM E 11 171 rd (.cond (.tmp 99) (.ops [⟨(some 100), .move (.tmp 12), none⟩,
    ⟨(some 101), .move (.tmp 14), none⟩,
    ⟨(some 102), .move (.tmp 14), none⟩,
    ⟨(some 103), .binOp .mul 3 (.const (.int .i64 500)) (.tmp 102) 3, none⟩,
    ⟨(some 104), .move (.tmp 6), none⟩,
    ⟨(some 105), .move (.tmp 14), none⟩,
    ⟨(some 106), .lookup 68 (.tmp 104) (.tmp 105) false, none⟩,
    ⟨(some 107), .buildSlice 22 4 #[(0, (.tmp 101)), (1, (.tmp 103)), (2, (.const (.int .i64 9999))), (3, (.tmp 106))], none⟩,
    ⟨(some 108), .buildSlice 40 1 #[(0, (.tmp 107))], none⟩,
    ⟨(some 109), .call ⟨.builtin .append, #[(.tmp 100), (.tmp 108)], #[40, 40]⟩, none⟩,
    ⟨(some 12), .assign (.tmp 109), none⟩]) .skip) K t m := rfl

def c_sheaflaw19_SumsRounding_14 : MC := (.seq (.ops [⟨(some 96), .move (.tmp 6), none⟩,
    ⟨(some 97), .move (.tmp 14), none⟩,
    ⟨(some 98), .lookup 68 (.tmp 96) (.tmp 97) false, none⟩,
    ⟨(some 99), .binOp .neq 3 (.tmp 98) (.const (.int .i64 0)) 3, none⟩]) c_sheaflaw19_SumsRounding_13)
@[go_sem] theorem c_sheaflaw19_SumsRounding_14_at (rd : Option Nat) (K : Post3) (t : Fr) (m : Mem) : wpM E 11 171 rd c_sheaflaw19_SumsRounding_14 K t m = wpM E 11 171 rd (.seq (.ops [⟨(some 96), .move (.tmp 6), none⟩,
    ⟨(some 97), .move (.tmp 14), none⟩,
    ⟨(some 98), .lookup 68 (.tmp 96) (.tmp 97) false, none⟩,
    ⟨(some 99), .binOp .neq 3 (.tmp 98) (.const (.int .i64 0)) 3, none⟩]) c_sheaflaw19_SumsRounding_13) K t m := rfl

def c_sheaflaw19_SumsRounding_15 : MC := (.block 3 c_sheaflaw19_SumsRounding_14)
@[go_sem] theorem c_sheaflaw19_SumsRounding_15_at (rd : Option Nat) (K : Post3) (t : Fr) (m : Mem) : wpM E 11 171 rd c_sheaflaw19_SumsRounding_15 K t m = wpM E 11 171 rd (.block 3 c_sheaflaw19_SumsRounding_14) K t m := rfl

def c_sheaflaw19_SumsRounding_16 : MC := (.seq c_sheaflaw19_SumsRounding_15 (.ops [⟨(some 94), .move (.tmp 14), none⟩,
    ⟨(some 95), .binOp .add 3 (.tmp 94) (.const (.int .i64 1)) 3, none⟩,
    ⟨(some 14), .assign (.tmp 95), none⟩]))
@[go_sem] theorem c_sheaflaw19_SumsRounding_16_at (rd : Option Nat) (K : Post3) (t : Fr) (m : Mem) : wpM E 11 171 rd c_sheaflaw19_SumsRounding_16 K t m = wpM E 11 171 rd (.seq c_sheaflaw19_SumsRounding_15 (.ops [⟨(some 94), .move (.tmp 14), none⟩,
    ⟨(some 95), .binOp .add 3 (.tmp 94) (.const (.int .i64 1)) 3, none⟩,
    ⟨(some 14), .assign (.tmp 95), none⟩])) K t m := rfl

def c_sheaflaw19_SumsRounding_17 : MC := (.seq c_sheaflaw19_SumsRounding_12 c_sheaflaw19_SumsRounding_16)
@[go_sem] theorem c_sheaflaw19_SumsRounding_17_at (rd : Option Nat) (K : Post3) (t : Fr) (m : Mem) : wpM E 11 171 rd c_sheaflaw19_SumsRounding_17 K t m = wpM E 11 171 rd (.seq c_sheaflaw19_SumsRounding_12 c_sheaflaw19_SumsRounding_16) K t m := rfl

def c_sheaflaw19_SumsRounding_18 : MC := (.loop c_sheaflaw19_SumsRounding_17)
theorem c_sheaflaw19_SumsRounding_18_at (rd : Option Nat) (K : Post3) (t : Fr) (m : Mem) : wpM E 11 171 rd c_sheaflaw19_SumsRounding_18 K t m = wpM E 11 171 rd (.loop c_sheaflaw19_SumsRounding_17) K t m := rfl

def c_sheaflaw19_SumsRounding_19 : MC := (.block 2 c_sheaflaw19_SumsRounding_18)
theorem c_sheaflaw19_SumsRounding_19_at (rd : Option Nat) (K : Post3) (t : Fr) (m : Mem) : wpM E 11 171 rd c_sheaflaw19_SumsRounding_19 K t m = wpM E 11 171 rd (.block 2 c_sheaflaw19_SumsRounding_18) K t m := rfl

def c_sheaflaw19_SumsRounding_20 : MC := (.seq (.ops [⟨(some 14), .assign (.const (.int .i64 1)), none⟩]) c_sheaflaw19_SumsRounding_19)
@[go_sem] theorem c_sheaflaw19_SumsRounding_20_at (rd : Option Nat) (K : Post3) (t : Fr) (m : Mem) : wpM E 11 171 rd c_sheaflaw19_SumsRounding_20 K t m = wpM E 11 171 rd (.seq (.ops [⟨(some 14), .assign (.const (.int .i64 1)), none⟩]) c_sheaflaw19_SumsRounding_19) K t m := rfl

def c_sheaflaw19_SumsRounding_21 : MC := (.seq (.ops [⟨none, .store 4 (.tmp 4) (.const (.bool false)), none⟩]) .ret)
@[go_sem] theorem c_sheaflaw19_SumsRounding_21_at (rd : Option Nat) (K : Post3) (t : Fr) (m : Mem) : wpM E 11 171 rd c_sheaflaw19_SumsRounding_21 K t m = wpM E 11 171 rd (.seq (.ops [⟨none, .store 4 (.tmp 4) (.const (.bool false)), none⟩]) .ret) K t m := rfl

def c_sheaflaw19_SumsRounding_22 : MC := (.cond (.tmp 114) c_sheaflaw19_SumsRounding_21 .skip)
@[go_sem] theorem c_sheaflaw19_SumsRounding_22_at (rd : Option Nat) (K : Post3) (t : Fr) (m : Mem) : wpM E 11 171 rd c_sheaflaw19_SumsRounding_22 K t m = wpM E 11 171 rd (.cond (.tmp 114) c_sheaflaw19_SumsRounding_21 .skip) K t m := rfl

def c_sheaflaw19_SumsRounding_23 : MC := (.seq (.ops [⟨(some 113), .move (.tmp 15), none⟩,
    ⟨(some 114), .binOp .eql 64 (.tmp 113) (.const .nilFunc) 64, none⟩]) c_sheaflaw19_SumsRounding_22)
@[go_sem] theorem c_sheaflaw19_SumsRounding_23_at (rd : Option Nat) (K : Post3) (t : Fr) (m : Mem) : wpM E 11 171 rd c_sheaflaw19_SumsRounding_23 K t m = wpM E 11 171 rd (.seq (.ops [⟨(some 113), .move (.tmp 15), none⟩,
    ⟨(some 114), .binOp .eql 64 (.tmp 113) (.const .nilFunc) 64, none⟩]) c_sheaflaw19_SumsRounding_22) K t m := rfl

def c_sheaflaw19_SumsRounding_24 : MC := (.seq (.ops [⟨(some 16), .assign (.tmp 116), none⟩]) (.ops [⟨(some 17), .assign (.tmp 117), none⟩]))
@[go_sem] theorem c_sheaflaw19_SumsRounding_24_at (rd : Option Nat) (K : Post3) (t : Fr) (m : Mem) : wpM E 11 171 rd c_sheaflaw19_SumsRounding_24 K t m = wpM E 11 171 rd (.seq (.ops [⟨(some 16), .assign (.tmp 116), none⟩]) (.ops [⟨(some 17), .assign (.tmp 117), none⟩])) K t m := rfl

def c_sheaflaw19_SumsRounding_25 : MC := (.seq (.ops [⟨none, .store 4 (.tmp 4) (.const (.bool false)), none⟩]) .ret)
@[go_sem] theorem c_sheaflaw19_SumsRounding_25_at (rd : Option Nat) (K : Post3) (t : Fr) (m : Mem) : wpM E 11 171 rd c_sheaflaw19_SumsRounding_25 K t m = wpM E 11 171 rd (.seq (.ops [⟨none, .store 4 (.tmp 4) (.const (.bool false)), none⟩]) .ret) K t m := rfl

def c_sheaflaw19_SumsRounding_26 : MC := (.cond (.tmp 119) c_sheaflaw19_SumsRounding_25 .skip)
@[go_sem] theorem c_sheaflaw19_SumsRounding_26_at (rd : Option Nat) (K : Post3) (t : Fr) (m : Mem) : wpM E 11 171 rd c_sheaflaw19_SumsRounding_26 K t m = wpM E 11 171 rd (.cond (.tmp 119) c_sheaflaw19_SumsRounding_25 .skip) K t m := rfl

def c_sheaflaw19_SumsRounding_27 : MC := (.seq (.ops [⟨(some 118), .move (.tmp 17), none⟩,
    ⟨(some 119), .binOp .neq 62 (.tmp 118) (.const (.int .i64 0)) 62, none⟩]) c_sheaflaw19_SumsRounding_26)
@[go_sem] theorem c_sheaflaw19_SumsRounding_27_at (rd : Option Nat) (K : Post3) (t : Fr) (m : Mem) : wpM E 11 171 rd c_sheaflaw19_SumsRounding_27 K t m = wpM E 11 171 rd (.seq (.ops [⟨(some 118), .move (.tmp 17), none⟩,
    ⟨(some 119), .binOp .neq 62 (.tmp 118) (.const (.int .i64 0)) 62, none⟩]) c_sheaflaw19_SumsRounding_26) K t m := rfl

def c_sheaflaw19_SumsRounding_28 : MC := (.seq c_sheaflaw19_SumsRounding_27 (.ops [⟨(some 120), .load 40 (.tmp 13), none⟩,
    ⟨(some 121), .move (.tmp 16), none⟩,
    ⟨(some 122), .buildSlice 40 1 #[(0, (.tmp 121))], none⟩,
    ⟨(some 123), .call ⟨.builtin .append, #[(.tmp 120), (.tmp 122)], #[40, 40]⟩, none⟩,
    ⟨none, .store 40 (.tmp 13) (.tmp 123), none⟩]))
@[go_sem] theorem c_sheaflaw19_SumsRounding_28_at (rd : Option Nat) (K : Post3) (t : Fr) (m : Mem) : wpM E 11 171 rd c_sheaflaw19_SumsRounding_28 K t m = wpM E 11 171 rd (.seq c_sheaflaw19_SumsRounding_27 (.ops [⟨(some 120), .load 40 (.tmp 13), none⟩,
    ⟨(some 121), .move (.tmp 16), none⟩,
    ⟨(some 122), .buildSlice 40 1 #[(0, (.tmp 121))], none⟩,
    ⟨(some 123), .call ⟨.builtin .append, #[(.tmp 120), (.tmp 122)], #[40, 40]⟩, none⟩,
    ⟨none, .store 40 (.tmp 13) (.tmp 123), none⟩])) K t m := rfl

def c_sheaflaw19_SumsRounding_29 : MC := (.block 5 c_sheaflaw19_SumsRounding_28)
@[go_sem] theorem c_sheaflaw19_SumsRounding_29_at (rd : Option Nat) (K : Post3) (t : Fr) (m : Mem) : wpM E 11 171 rd c_sheaflaw19_SumsRounding_29 K t m = wpM E 11 171 rd (.block 5 c_sheaflaw19_SumsRounding_28) K t m := rfl

theorem asg_sheaflaw19_SumsRounding_0 : compile E 11 171 (asgAt E 11 0) = some c_sheaflaw19_SumsRounding_24 := by kernel_rfl

theorem body_sheaflaw19_SumsRounding_0 : compile E 11 171 (bodyAt E 11 0) = some c_sheaflaw19_SumsRounding_29 := by kernel_rfl

def c_sheaflaw19_SumsRounding_30 : MC := (.range (.tmp 115) #[116, 117] (asgAt E 11 0) (bodyAt E 11 0))
theorem c_sheaflaw19_SumsRounding_30_at (rd : Option Nat) (K : Post3) (t : Fr) (m : Mem) : wpM E 11 171 rd c_sheaflaw19_SumsRounding_30 K t m = wpM E 11 171 rd (.range (.tmp 115) #[116, 117] (asgAt E 11 0) (bodyAt E 11 0)) K t m := rfl

def c_sheaflaw19_SumsRounding_31 : MC := (.block 4 c_sheaflaw19_SumsRounding_30)
@[go_sem] theorem c_sheaflaw19_SumsRounding_31_at (rd : Option Nat) (K : Post3) (t : Fr) (m : Mem) : wpM E 11 171 rd c_sheaflaw19_SumsRounding_31 K t m = wpM E 11 171 rd (.block 4 c_sheaflaw19_SumsRounding_30) K t m := rfl

def c_sheaflaw19_SumsRounding_32 : MC := (.seq (.ops [⟨(some 115), .move (.tmp 15), none⟩]) c_sheaflaw19_SumsRounding_31)
@[go_sem] theorem c_sheaflaw19_SumsRounding_32_at (rd : Option Nat) (K : Post3) (t : Fr) (m : Mem) : wpM E 11 171 rd c_sheaflaw19_SumsRounding_32 K t m = wpM E 11 171 rd (.seq (.ops [⟨(some 115), .move (.tmp 15), none⟩]) c_sheaflaw19_SumsRounding_31) K t m := rfl

def c_sheaflaw19_SumsRounding_33 : MC := (.seq (.ops [⟨(some 133), .move (.tmp 5), none⟩,
    ⟨(some 134), .call ⟨.builtin .len, #[(.tmp 133)], #[40]⟩, none⟩,
    ⟨(some 135), .binOp .eql 3 (.tmp 134) (.const (.int .i64 0)) 3, none⟩,
    ⟨(some 136), .move (.tmp 135), none⟩,
    ⟨(some 137), .load 40 (.tmp 13), (some (some 136, true))⟩,
    ⟨(some 138), .call ⟨.builtin .len, #[(.tmp 137)], #[40]⟩, (some (some 136, true))⟩,
    ⟨(some 139), .binOp .eql 3 (.tmp 138) (.const (.int .i64 0)) 3, (some (some 136, true))⟩,
    ⟨(some 140), .pick (.tmp 136) (.tmp 139) (.const (.bool false)), none⟩,
    ⟨(some 141), .move (.tmp 140), none⟩,
    ⟨(some 142), .call ⟨.value (.func 5), #[], #[]⟩, (some (some 141, true))⟩,
    ⟨(some 143), .pick (.tmp 141) (.tmp 142) (.const (.bool false)), none⟩,
    ⟨none, .store 4 (.tmp 4) (.tmp 143), none⟩]) .ret)
@[go_sem] theorem c_sheaflaw19_SumsRounding_33_at (rd : Option Nat) (K : Post3) (t : Fr) (m : Mem) : wpM E 11 171 rd c_sheaflaw19_SumsRounding_33 K t m = wpM E 11 171 rd (.seq (.ops [⟨(some 133), .move (.tmp 5), none⟩,
    ⟨(some 134), .call ⟨.builtin .len, #[(.tmp 133)], #[40]⟩, none⟩,
    ⟨(some 135), .binOp .eql 3 (.tmp 134) (.const (.int .i64 0)) 3, none⟩,
    ⟨(some 136), .move (.tmp 135), none⟩,
    ⟨(some 137), .load 40 (.tmp 13), (some (some 136, true))⟩,
    ⟨(some 138), .call ⟨.builtin .len, #[(.tmp 137)], #[40]⟩, (some (some 136, true))⟩,
    ⟨(some 139), .binOp .eql 3 (.tmp 138) (.const (.int .i64 0)) 3, (some (some 136, true))⟩,
    ⟨(some 140), .pick (.tmp 136) (.tmp 139) (.const (.bool false)), none⟩,
    ⟨(some 141), .move (.tmp 140), none⟩,
    ⟨(some 142), .call ⟨.value (.func 5), #[], #[]⟩, (some (some 141, true))⟩,
    ⟨(some 143), .pick (.tmp 141) (.tmp 142) (.const (.bool false)), none⟩,
    ⟨none, .store 4 (.tmp 4) (.tmp 143), none⟩]) .ret) K t m := rfl

def c_sheaflaw19_SumsRounding_34 : MC := (.cond (.tmp 132) c_sheaflaw19_SumsRounding_33 .skip)
@[go_sem] theorem c_sheaflaw19_SumsRounding_34_at (rd : Option Nat) (K : Post3) (t : Fr) (m : Mem) : wpM E 11 171 rd c_sheaflaw19_SumsRounding_34 K t m = wpM E 11 171 rd (.cond (.tmp 132) c_sheaflaw19_SumsRounding_33 .skip) K t m := rfl

def c_sheaflaw19_SumsRounding_35 : MC := (.seq (.ops [⟨(some 124), .load 40 (.tmp 13), none⟩,
    ⟨(some 125), .move (.tmp 12), none⟩,
    ⟨(some 126), .call ⟨.value (.func 22), #[(.tmp 124), (.tmp 125)], #[40, 40]⟩, none⟩,
    ⟨(some 127), .unOp .not 4 (.tmp 126), none⟩,
    ⟨(some 128), .move (.tmp 127), none⟩,
    ⟨(some 129), .move (.tmp 5), (some (some 128, false))⟩,
    ⟨(some 130), .call ⟨.builtin .len, #[(.tmp 129)], #[40]⟩, (some (some 128, false))⟩,
    ⟨(some 131), .binOp .eql 3 (.tmp 130) (.const (.int .i64 0)) 3, (some (some 128, false))⟩,
    ⟨(some 132), .pick (.tmp 128) (.const (.bool true)) (.tmp 131), none⟩]) c_sheaflaw19_SumsRounding_34)
@[go_sem] theorem c_sheaflaw19_SumsRounding_35_at (rd : Option Nat) (K : Post3) (t : Fr) (m : Mem) : wpM E 11 171 rd c_sheaflaw19_SumsRounding_35 K t m = wpM E 11 171 rd (.seq (.ops [⟨(some 124), .load 40 (.tmp 13), none⟩,
    ⟨(some 125), .move (.tmp 12), none⟩,
    ⟨(some 126), .call ⟨.value (.func 22), #[(.tmp 124), (.tmp 125)], #[40, 40]⟩, none⟩,
    ⟨(some 127), .unOp .not 4 (.tmp 126), none⟩,
    ⟨(some 128), .move (.tmp 127), none⟩,
    ⟨(some 129), .move (.tmp 5), (some (some 128, false))⟩,
    ⟨(some 130), .call ⟨.builtin .len, #[(.tmp 129)], #[40]⟩, (some (some 128, false))⟩,
    ⟨(some 131), .binOp .eql 3 (.tmp 130) (.const (.int .i64 0)) 3, (some (some 128, false))⟩,
    ⟨(some 132), .pick (.tmp 128) (.const (.bool true)) (.tmp 131), none⟩]) c_sheaflaw19_SumsRounding_34) K t m := rfl

def c_sheaflaw19_SumsRounding_36 : MC := (.seq (.ops [⟨none, .store 4 (.tmp 4) (.const (.bool false)), none⟩]) .ret)
@[go_sem] theorem c_sheaflaw19_SumsRounding_36_at (rd : Option Nat) (K : Post3) (t : Fr) (m : Mem) : wpM E 11 171 rd c_sheaflaw19_SumsRounding_36 K t m = wpM E 11 171 rd (.seq (.ops [⟨none, .store 4 (.tmp 4) (.const (.bool false)), none⟩]) .ret) K t m := rfl

def c_sheaflaw19_SumsRounding_37 : MC := (.cond (.tmp 161) c_sheaflaw19_SumsRounding_36 .skip)
@[go_sem] theorem c_sheaflaw19_SumsRounding_37_at (rd : Option Nat) (K : Post3) (t : Fr) (m : Mem) : wpM E 11 171 rd c_sheaflaw19_SumsRounding_37 K t m = wpM E 11 171 rd (.cond (.tmp 161) c_sheaflaw19_SumsRounding_36 .skip) K t m := rfl

def c_sheaflaw19_SumsRounding_38 : MC := (.seq (.ops [⟨(some 160), .move (.tmp 20), none⟩,
    ⟨(some 161), .binOp .eql 64 (.tmp 160) (.const .nilFunc) 64, none⟩]) c_sheaflaw19_SumsRounding_37)
@[go_sem] theorem c_sheaflaw19_SumsRounding_38_at (rd : Option Nat) (K : Post3) (t : Fr) (m : Mem) : wpM E 11 171 rd c_sheaflaw19_SumsRounding_38 K t m = wpM E 11 171 rd (.seq (.ops [⟨(some 160), .move (.tmp 20), none⟩,
    ⟨(some 161), .binOp .eql 64 (.tmp 160) (.const .nilFunc) 64, none⟩]) c_sheaflaw19_SumsRounding_37) K t m := rfl

def c_sheaflaw19_SumsRounding_39 : MC := (.block 7 (.ops [⟨(some 165), .move (.tmp 22), none⟩,
    ⟨none, .store 62 (.tmp 19) (.tmp 165), none⟩]))
@[go_sem] theorem c_sheaflaw19_SumsRounding_39_at (rd : Option Nat) (K : Post3) (t : Fr) (m : Mem) : wpM E 11 171 rd c_sheaflaw19_SumsRounding_39 K t m = wpM E 11 171 rd (.block 7 (.ops [⟨(some 165), .move (.tmp 22), none⟩,
    ⟨none, .store 62 (.tmp 19) (.tmp 165), none⟩])) K t m := rfl

theorem asg_sheaflaw19_SumsRounding_1 : compile E 11 171 (asgAt E 11 1) = some (.ops [⟨(some 22), .assign (.tmp 164), none⟩]) := by kernel_rfl

theorem body_sheaflaw19_SumsRounding_1 : compile E 11 171 (bodyAt E 11 1) = some c_sheaflaw19_SumsRounding_39 := by kernel_rfl

def c_sheaflaw19_SumsRounding_40 : MC := (.range (.tmp 162) #[163, 164] (asgAt E 11 1) (bodyAt E 11 1))
theorem c_sheaflaw19_SumsRounding_40_at (rd : Option Nat) (K : Post3) (t : Fr) (m : Mem) : wpM E 11 171 rd c_sheaflaw19_SumsRounding_40 K t m = wpM E 11 171 rd (.range (.tmp 162) #[163, 164] (asgAt E 11 1) (bodyAt E 11 1)) K t m := rfl

def c_sheaflaw19_SumsRounding_41 : MC := (.block 6 c_sheaflaw19_SumsRounding_40)
@[go_sem] theorem c_sheaflaw19_SumsRounding_41_at (rd : Option Nat) (K : Post3) (t : Fr) (m : Mem) : wpM E 11 171 rd c_sheaflaw19_SumsRounding_41 K t m = wpM E 11 171 rd (.block 6 c_sheaflaw19_SumsRounding_40) K t m := rfl

def c_sheaflaw19_SumsRounding_42 : MC := (.seq (.ops [⟨(some 162), .move (.tmp 20), none⟩]) c_sheaflaw19_SumsRounding_41)
@[go_sem] theorem c_sheaflaw19_SumsRounding_42_at (rd : Option Nat) (K : Post3) (t : Fr) (m : Mem) : wpM E 11 171 rd c_sheaflaw19_SumsRounding_42 K t m = wpM E 11 171 rd (.seq (.ops [⟨(some 162), .move (.tmp 20), none⟩]) c_sheaflaw19_SumsRounding_41) K t m := rfl

def c_sheaflaw19_SumsRounding_43 : MC := (.seq (.ops [⟨(some 166), .load 62 (.tmp 19), none⟩,
    ⟨(some 167), .binOp .eql 62 (.tmp 166) (.const (.int .i64 4)) 62, none⟩,
    ⟨(some 168), .move (.tmp 167), none⟩,
    ⟨(some 169), .call ⟨.value (.func 5), #[], #[]⟩, (some (some 168, true))⟩,
    ⟨(some 170), .pick (.tmp 168) (.tmp 169) (.const (.bool false)), none⟩,
    ⟨none, .store 4 (.tmp 4) (.tmp 170), none⟩]) .ret)
@[go_sem] theorem c_sheaflaw19_SumsRounding_43_at (rd : Option Nat) (K : Post3) (t : Fr) (m : Mem) : wpM E 11 171 rd c_sheaflaw19_SumsRounding_43 K t m = wpM E 11 171 rd (.seq (.ops [⟨(some 166), .load 62 (.tmp 19), none⟩,
    ⟨(some 167), .binOp .eql 62 (.tmp 166) (.const (.int .i64 4)) 62, none⟩,
    ⟨(some 168), .move (.tmp 167), none⟩,
    ⟨(some 169), .call ⟨.value (.func 5), #[], #[]⟩, (some (some 168, true))⟩,
    ⟨(some 170), .pick (.tmp 168) (.tmp 169) (.const (.bool false)), none⟩,
    ⟨none, .store 4 (.tmp 4) (.tmp 170), none⟩]) .ret) K t m := rfl

def c_sheaflaw19_SumsRounding_44 : MC := (.seq c_sheaflaw19_SumsRounding_42 c_sheaflaw19_SumsRounding_43)
@[go_sem] theorem c_sheaflaw19_SumsRounding_44_at (rd : Option Nat) (K : Post3) (t : Fr) (m : Mem) : wpM E 11 171 rd c_sheaflaw19_SumsRounding_44 K t m = wpM E 11 171 rd (.seq c_sheaflaw19_SumsRounding_42 c_sheaflaw19_SumsRounding_43) K t m := rfl

def c_sheaflaw19_SumsRounding_45 : MC := (.seq c_sheaflaw19_SumsRounding_38 c_sheaflaw19_SumsRounding_44)
@[go_sem] theorem c_sheaflaw19_SumsRounding_45_at (rd : Option Nat) (K : Post3) (t : Fr) (m : Mem) : wpM E 11 171 rd c_sheaflaw19_SumsRounding_45 K t m = wpM E 11 171 rd (.seq c_sheaflaw19_SumsRounding_38 c_sheaflaw19_SumsRounding_44) K t m := rfl

def c_sheaflaw19_SumsRounding_46 : MC := (.seq (.ops [⟨(some 157), .move (.tmp 5), none⟩,
    ⟨(some 158), .call ⟨.value (.func 28), #[(.tmp 157)], #[40]⟩, none⟩,
    ⟨(some 159), .call ⟨.value (.func 32), #[(.tmp 158)], #[54]⟩, none⟩,
    ⟨(some 20), .assign (.tmp 159), none⟩]) c_sheaflaw19_SumsRounding_45)
@[go_sem] theorem c_sheaflaw19_SumsRounding_46_at (rd : Option Nat) (K : Post3) (t : Fr) (m : Mem) : wpM E 11 171 rd c_sheaflaw19_SumsRounding_46 K t m = wpM E 11 171 rd (.seq (.ops [⟨(some 157), .move (.tmp 5), none⟩,
    ⟨(some 158), .call ⟨.value (.func 28), #[(.tmp 157)], #[40]⟩, none⟩,
    ⟨(some 159), .call ⟨.value (.func 32), #[(.tmp 158)], #[54]⟩, none⟩,
    ⟨(some 20), .assign (.tmp 159), none⟩]) c_sheaflaw19_SumsRounding_45) K t m := rfl

def c_sheaflaw19_SumsRounding_47 : MC := (.seq (.ops [⟨(some 19), .alloc 62, none⟩,
    ⟨none, .store 62 (.tmp 19) (.const (.int .i64 0)), none⟩]) c_sheaflaw19_SumsRounding_46)
@[go_sem] theorem c_sheaflaw19_SumsRounding_47_at (rd : Option Nat) (K : Post3) (t : Fr) (m : Mem) : wpM E 11 171 rd c_sheaflaw19_SumsRounding_47 K t m = wpM E 11 171 rd (.seq (.ops [⟨(some 19), .alloc 62, none⟩,
    ⟨none, .store 62 (.tmp 19) (.const (.int .i64 0)), none⟩]) c_sheaflaw19_SumsRounding_46) K t m := rfl

def c_sheaflaw19_SumsRounding_48 : MC := (.seq (.ops [⟨(some 149), .move (.tmp 5), none⟩,
    ⟨(some 150), .move (.tmp 18), none⟩,
    ⟨(some 151), .indexAddr 40 (.tmp 149) (.tmp 150), none⟩,
    ⟨(some 152), .load 22 (.tmp 151), none⟩,
    ⟨(some 153), .indexAddr 22 (.tmp 152) (.const (.int .i64 4)), none⟩,
    ⟨(some 154), .load 3 (.tmp 153), none⟩,
    ⟨(some 155), .binOp .add 3 (.tmp 154) (.const (.int .i64 1)) 3, none⟩,
    ⟨(some 156), .indexAddr 22 (.tmp 152) (.const (.int .i64 4)), none⟩,
    ⟨none, .store 3 (.tmp 156) (.tmp 155), none⟩]) c_sheaflaw19_SumsRounding_47)
@[go_sem] theorem c_sheaflaw19_SumsRounding_48_at (rd : Option Nat) (K : Post3) (t : Fr) (m : Mem) : wpM E 11 171 rd c_sheaflaw19_SumsRounding_48 K t m = wpM E 11 171 rd (.seq (.ops [⟨(some 149), .move (.tmp 5), none⟩,
    ⟨(some 150), .move (.tmp 18), none⟩,
    ⟨(some 151), .indexAddr 40 (.tmp 149) (.tmp 150), none⟩,
    ⟨(some 152), .load 22 (.tmp 151), none⟩,
    ⟨(some 153), .indexAddr 22 (.tmp 152) (.const (.int .i64 4)), none⟩,
    ⟨(some 154), .load 3 (.tmp 153), none⟩,
    ⟨(some 155), .binOp .add 3 (.tmp 154) (.const (.int .i64 1)) 3, none⟩,
    ⟨(some 156), .indexAddr 22 (.tmp 152) (.const (.int .i64 4)), none⟩,
    ⟨none, .store 3 (.tmp 156) (.tmp 155), none⟩]) c_sheaflaw19_SumsRounding_47) K t m := rfl

def c_sheaflaw19_SumsRounding_49 : MC := (.seq (.ops [⟨(some 144), .move (.tmp 1), none⟩,
    ⟨(some 145), .move (.tmp 5), none⟩,
    ⟨(some 146), .call ⟨.builtin .len, #[(.tmp 145)], #[40]⟩, none⟩,
    ⟨(some 147), .binOp .sub 3 (.tmp 146) (.const (.int .i64 1)) 3, none⟩,
    ⟨(some 148), .call ⟨.value (.func 25), #[(.tmp 144), (.const (.int .i64 0)), (.tmp 147)], #[3, 3, 3]⟩, none⟩,
    ⟨(some 18), .assign (.tmp 148), none⟩]) c_sheaflaw19_SumsRounding_48)
@[go_sem] theorem c_sheaflaw19_SumsRounding_49_at (rd : Option Nat) (K : Post3) (t : Fr) (m : Mem) : wpM E 11 171 rd c_sheaflaw19_SumsRounding_49 K t m = wpM E 11 171 rd (.seq (.ops [⟨(some 144), .move (.tmp 1), none⟩,
    ⟨(some 145), .move (.tmp 5), none⟩,
    ⟨(some 146), .call ⟨.builtin .len, #[(.tmp 145)], #[40]⟩, none⟩,
    ⟨(some 147), .binOp .sub 3 (.tmp 146) (.const (.int .i64 1)) 3, none⟩,
    ⟨(some 148), .call ⟨.value (.func 25), #[(.tmp 144), (.const (.int .i64 0)), (.tmp 147)], #[3, 3, 3]⟩, none⟩,
    ⟨(some 18), .assign (.tmp 148), none⟩]) c_sheaflaw19_SumsRounding_48) K t m := rfl

def c_sheaflaw19_SumsRounding_50 : MC := (.seq c_sheaflaw19_SumsRounding_35 c_sheaflaw19_SumsRounding_49)
@[go_sem] theorem c_sheaflaw19_SumsRounding_50_at (rd : Option Nat) (K : Post3) (t : Fr) (m : Mem) : wpM E 11 171 rd c_sheaflaw19_SumsRounding_50 K t m = wpM E 11 171 rd (.seq c_sheaflaw19_SumsRounding_35 c_sheaflaw19_SumsRounding_49) K t m := rfl

def c_sheaflaw19_SumsRounding_51 : MC := (.seq c_sheaflaw19_SumsRounding_32 c_sheaflaw19_SumsRounding_50)
@[go_sem] theorem c_sheaflaw19_SumsRounding_51_at (rd : Option Nat) (K : Post3) (t : Fr) (m : Mem) : wpM E 11 171 rd c_sheaflaw19_SumsRounding_51 K t m = wpM E 11 171 rd (.seq c_sheaflaw19_SumsRounding_32 c_sheaflaw19_SumsRounding_50) K t m := rfl

def c_sheaflaw19_SumsRounding_52 : MC := (.seq c_sheaflaw19_SumsRounding_23 c_sheaflaw19_SumsRounding_51)
@[go_sem] theorem c_sheaflaw19_SumsRounding_52_at (rd : Option Nat) (K : Post3) (t : Fr) (m : Mem) : wpM E 11 171 rd c_sheaflaw19_SumsRounding_52 K t m = wpM E 11 171 rd (.seq c_sheaflaw19_SumsRounding_23 c_sheaflaw19_SumsRounding_51) K t m := rfl

def c_sheaflaw19_SumsRounding_53 : MC := (.seq (.ops [⟨(some 110), .move (.tmp 5), none⟩,
    ⟨(some 111), .call ⟨.value (.func 28), #[(.tmp 110)], #[40]⟩, none⟩,
    ⟨(some 112), .call ⟨.value (.func 32), #[(.tmp 111)], #[54]⟩, none⟩,
    ⟨(some 15), .assign (.tmp 112), none⟩]) c_sheaflaw19_SumsRounding_52)
@[go_sem] theorem c_sheaflaw19_SumsRounding_53_at (rd : Option Nat) (K : Post3) (t : Fr) (m : Mem) : wpM E 11 171 rd c_sheaflaw19_SumsRounding_53 K t m = wpM E 11 171 rd (.seq (.ops [⟨(some 110), .move (.tmp 5), none⟩,
    ⟨(some 111), .call ⟨.value (.func 28), #[(.tmp 110)], #[40]⟩, none⟩,
    ⟨(some 112), .call ⟨.value (.func 32), #[(.tmp 111)], #[54]⟩, none⟩,
    ⟨(some 15), .assign (.tmp 112), none⟩]) c_sheaflaw19_SumsRounding_52) K t m := rfl

def c_sheaflaw19_SumsRounding_54 : MC := (.seq c_sheaflaw19_SumsRounding_20 c_sheaflaw19_SumsRounding_53)
@[go_sem] theorem c_sheaflaw19_SumsRounding_54_at (rd : Option Nat) (K : Post3) (t : Fr) (m : Mem) : wpM E 11 171 rd c_sheaflaw19_SumsRounding_54 K t m = wpM E 11 171 rd (.seq c_sheaflaw19_SumsRounding_20 c_sheaflaw19_SumsRounding_53) K t m := rfl

def c_sheaflaw19_SumsRounding_55 : MC := (.seq (.ops [⟨(some 12), .assign (.const (.slice none 0 0)), none⟩,
    ⟨(some 13), .alloc 40, none⟩]) c_sheaflaw19_SumsRounding_54)
@[go_sem] theorem c_sheaflaw19_SumsRounding_55_at (rd : Option Nat) (K : Post3) (t : Fr) (m : Mem) : wpM E 11 171 rd c_sheaflaw19_SumsRounding_55 K t m = wpM E 11 171 rd (.seq (.ops [⟨(some 12), .assign (.const (.slice none 0 0)), none⟩,
    ⟨(some 13), .alloc 40, none⟩]) c_sheaflaw19_SumsRounding_54) K t m := rfl

def c_sheaflaw19_SumsRounding_56 : MC := (.seq (.ops [⟨(some 89), .move (.tmp 5), none⟩,
    ⟨(some 90), .buildSlice 22 1 #[(0, (.const (.int .i64 1)))], none⟩,
    ⟨(some 91), .call ⟨.value (.func 26), #[(.tmp 89), (.tmp 90)], #[40, 22]⟩, none⟩,
    ⟨(some 5), .assign (.tmp 91), none⟩]) c_sheaflaw19_SumsRounding_55)
@[go_sem] theorem c_sheaflaw19_SumsRounding_56_at (rd : Option Nat) (K : Post3) (t : Fr) (m : Mem) : wpM E 11 171 rd c_sheaflaw19_SumsRounding_56 K t m = wpM E 11 171 rd (.seq (.ops [⟨(some 89), .move (.tmp 5), none⟩,
    ⟨(some 90), .buildSlice 22 1 #[(0, (.const (.int .i64 1)))], none⟩,
    ⟨(some 91), .call ⟨.value (.func 26), #[(.tmp 89), (.tmp 90)], #[40, 22]⟩, none⟩,
    ⟨(some 5), .assign (.tmp 91), none⟩]) c_sheaflaw19_SumsRounding_55) K t m := rfl

def c_sheaflaw19_SumsRounding_57 : MC := (.seq c_sheaflaw19_SumsRounding_10 c_sheaflaw19_SumsRounding_56)
@[go_sem] theorem c_sheaflaw19_SumsRounding_57_at (rd : Option Nat) (K : Post3) (t : Fr) (m : Mem) : wpM E 11 171 rd c_sheaflaw19_SumsRounding_57 K t m = wpM E 11 171 rd (.seq c_sheaflaw19_SumsRounding_10 c_sheaflaw19_SumsRounding_56) K t m := rfl

def c_sheaflaw19_SumsRounding_58 : MC := (.seq (.ops [⟨(some 23), .makeMap 68 none, none⟩,
    ⟨(some 6), .assign (.tmp 23), none⟩]) c_sheaflaw19_SumsRounding_57)
@[go_sem] theorem c_sheaflaw19_SumsRounding_58_at (rd : Option Nat) (K : Post3) (t : Fr) (m : Mem) : wpM E 11 171 rd c_sheaflaw19_SumsRounding_58 K t m = wpM E 11 171 rd (.seq (.ops [⟨(some 23), .makeMap 68 none, none⟩,
    ⟨(some 6), .assign (.tmp 23), none⟩]) c_sheaflaw19_SumsRounding_57) K t m := rfl

def c_sheaflaw19_SumsRounding_59 : MC := (.seq (.ops [⟨(some 5), .assign (.const (.slice none 0 0)), none⟩]) c_sheaflaw19_SumsRounding_58)
@[go_sem] theorem c_sheaflaw19_SumsRounding_59_at (rd : Option Nat) (K : Post3) (t : Fr) (m : Mem) : wpM E 11 171 rd c_sheaflaw19_SumsRounding_59 K t m = wpM E 11 171 rd (.seq (.ops [⟨(some 5), .assign (.const (.slice none 0 0)), none⟩]) c_sheaflaw19_SumsRounding_58) K t m := rfl

def c_sheaflaw19_SumsRounding_60 : MC := (.seq (.ops [⟨(some 4), .alloc 4, none⟩]) c_sheaflaw19_SumsRounding_59)
@[go_sem] theorem c_sheaflaw19_SumsRounding_60_at (rd : Option Nat) (K : Post3) (t : Fr) (m : Mem) : wpM E 11 171 rd c_sheaflaw19_SumsRounding_60 K t m = wpM E 11 171 rd (.seq (.ops [⟨(some 4), .alloc 4, none⟩]) c_sheaflaw19_SumsRounding_59) K t m := rfl

@[go_sem] theorem some11 : (E.fn 11).isSome = true := by kernel_rfl
set_option maxRecDepth 100000 in
theorem fn_sheaflaw19_SumsRounding : FnIs E 11 171 [.cell 4 4] c_sheaflaw19_SumsRounding_60 := ⟨by kernel_rfl, by kernel_rfl⟩

/-! sheaf/sheaflaw19.total -/
abbrev F_sheaflaw19_total : FuncId := 21
def c_sheaflaw19_total_0 : MC := (.seq (.ops [⟨none, .store 40 (.tmp 6) (.const (.slice none 0 0)), none⟩,
    ⟨none, .store 4 (.tmp 7) (.const (.bool false)), none⟩]) .ret)
@[go_sem] theorem c_sheaflaw19_total_0_at (rd : Option Nat) (K : Post3) (t : Fr) (m : Mem) : wpM E 21 29 rd c_sheaflaw19_total_0 K t m = wpM E 21 29 rd (.seq (.ops [⟨none, .store 40 (.tmp 6) (.const (.slice none 0 0)), none⟩,
    ⟨none, .store 4 (.tmp 7) (.const (.bool false)), none⟩]) .ret) K t m := rfl

def c_sheaflaw19_total_1 : MC := (.cond (.tmp 18) c_sheaflaw19_total_0 .skip)
@[go_sem] theorem c_sheaflaw19_total_1_at (rd : Option Nat) (K : Post3) (t : Fr) (m : Mem) : wpM E 21 29 rd c_sheaflaw19_total_1 K t m = wpM E 21 29 rd (.cond (.tmp 18) c_sheaflaw19_total_0 .skip) K t m := rfl

def c_sheaflaw19_total_2 : MC := (.seq (.ops [⟨(some 17), .move (.tmp 9), none⟩,
    ⟨(some 18), .binOp .eql 51 (.tmp 17) (.const .nilFunc) 51, none⟩]) c_sheaflaw19_total_1)
@[go_sem] theorem c_sheaflaw19_total_2_at (rd : Option Nat) (K : Post3) (t : Fr) (m : Mem) : wpM E 21 29 rd c_sheaflaw19_total_2 K t m = wpM E 21 29 rd (.seq (.ops [⟨(some 17), .move (.tmp 9), none⟩,
    ⟨(some 18), .binOp .eql 51 (.tmp 17) (.const .nilFunc) 51, none⟩]) c_sheaflaw19_total_1) K t m := rfl

def c_sheaflaw19_total_3 : MC := (.seq (.ops [⟨(some 10), .assign (.tmp 20), none⟩]) (.ops [⟨(some 11), .assign (.tmp 21), none⟩]))
@[go_sem] theorem c_sheaflaw19_total_3_at (rd : Option Nat) (K : Post3) (t : Fr) (m : Mem) : wpM E 21 29 rd c_sheaflaw19_total_3 K t m = wpM E 21 29 rd (.seq (.ops [⟨(some 10), .assign (.tmp 20), none⟩]) (.ops [⟨(some 11), .assign (.tmp 21), none⟩])) K t m := rfl

def c_sheaflaw19_total_4 : MC := (.seq (.ops [⟨none, .store 40 (.tmp 6) (.const (.slice none 0 0)), none⟩,
    ⟨none, .store 4 (.tmp 7) (.const (.bool false)), none⟩]) .ret)
@[go_sem] theorem c_sheaflaw19_total_4_at (rd : Option Nat) (K : Post3) (t : Fr) (m : Mem) : wpM E 21 29 rd c_sheaflaw19_total_4 K t m = wpM E 21 29 rd (.seq (.ops [⟨none, .store 40 (.tmp 6) (.const (.slice none 0 0)), none⟩,
    ⟨none, .store 4 (.tmp 7) (.const (.bool false)), none⟩]) .ret) K t m := rfl

def c_sheaflaw19_total_5 : MC := (.cond (.tmp 23) c_sheaflaw19_total_4 .skip)
@[go_sem] theorem c_sheaflaw19_total_5_at (rd : Option Nat) (K : Post3) (t : Fr) (m : Mem) : wpM E 21 29 rd c_sheaflaw19_total_5 K t m = wpM E 21 29 rd (.cond (.tmp 23) c_sheaflaw19_total_4 .skip) K t m := rfl

def c_sheaflaw19_total_6 : MC := (.seq (.ops [⟨(some 22), .move (.tmp 11), none⟩,
    ⟨(some 23), .unOp .not 4 (.tmp 22), none⟩]) c_sheaflaw19_total_5)
@[go_sem] theorem c_sheaflaw19_total_6_at (rd : Option Nat) (K : Post3) (t : Fr) (m : Mem) : wpM E 21 29 rd c_sheaflaw19_total_6 K t m = wpM E 21 29 rd (.seq (.ops [⟨(some 22), .move (.tmp 11), none⟩,
    ⟨(some 23), .unOp .not 4 (.tmp 22), none⟩]) c_sheaflaw19_total_5) K t m := rfl

def c_sheaflaw19_total_7 : MC := (.seq c_sheaflaw19_total_6 (.ops [⟨(some 24), .load 40 (.tmp 8), none⟩,
    ⟨(some 25), .move (.tmp 10), none⟩,
    ⟨(some 26), .buildSlice 40 1 #[(0, (.tmp 25))], none⟩,
    ⟨(some 27), .call ⟨.builtin .append, #[(.tmp 24), (.tmp 26)], #[40, 40]⟩, none⟩,
    ⟨none, .store 40 (.tmp 8) (.tmp 27), none⟩]))
@[go_sem] theorem c_sheaflaw19_total_7_at (rd : Option Nat) (K : Post3) (t : Fr) (m : Mem) : wpM E 21 29 rd c_sheaflaw19_total_7 K t m = wpM E 21 29 rd (.seq c_sheaflaw19_total_6 (.ops [⟨(some 24), .load 40 (.tmp 8), none⟩,
    ⟨(some 25), .move (.tmp 10), none⟩,
    ⟨(some 26), .buildSlice 40 1 #[(0, (.tmp 25))], none⟩,
    ⟨(some 27), .call ⟨.builtin .append, #[(.tmp 24), (.tmp 26)], #[40, 40]⟩, none⟩,
    ⟨none, .store 40 (.tmp 8) (.tmp 27), none⟩])) K t m := rfl

def c_sheaflaw19_total_8 : MC := (.block 1 c_sheaflaw19_total_7)
@[go_sem] theorem c_sheaflaw19_total_8_at (rd : Option Nat) (K : Post3) (t : Fr) (m : Mem) : wpM E 21 29 rd c_sheaflaw19_total_8 K t m = wpM E 21 29 rd (.block 1 c_sheaflaw19_total_7) K t m := rfl

theorem asg_sheaflaw19_total_0 : compile E 21 29 (asgAt E 21 0) = some c_sheaflaw19_total_3 := by kernel_rfl

theorem body_sheaflaw19_total_0 : compile E 21 29 (bodyAt E 21 0) = some c_sheaflaw19_total_8 := by kernel_rfl

def c_sheaflaw19_total_9 : MC := (.range (.tmp 19) #[20, 21] (asgAt E 21 0) (bodyAt E 21 0))
theorem c_sheaflaw19_total_9_at (rd : Option Nat) (K : Post3) (t : Fr) (m : Mem) : wpM E 21 29 rd c_sheaflaw19_total_9 K t m = wpM E 21 29 rd (.range (.tmp 19) #[20, 21] (asgAt E 21 0) (bodyAt E 21 0)) K t m := rfl

def c_sheaflaw19_total_10 : MC := (.block 0 c_sheaflaw19_total_9)
@[go_sem] theorem c_sheaflaw19_total_10_at (rd : Option Nat) (K : Post3) (t : Fr) (m : Mem) : wpM E 21 29 rd c_sheaflaw19_total_10 K t m = wpM E 21 29 rd (.block 0 c_sheaflaw19_total_9) K t m := rfl

def c_sheaflaw19_total_11 : MC := (.seq (.ops [⟨(some 19), .move (.tmp 9), none⟩]) c_sheaflaw19_total_10)
@[go_sem] theorem c_sheaflaw19_total_11_at (rd : Option Nat) (K : Post3) (t : Fr) (m : Mem) : wpM E 21 29 rd c_sheaflaw19_total_11 K t m = wpM E 21 29 rd (.seq (.ops [⟨(some 19), .move (.tmp 9), none⟩]) c_sheaflaw19_total_10) K t m := rfl

def c_sheaflaw19_total_12 : MC := (.seq (.ops [⟨(some 28), .load 40 (.tmp 8), none⟩,
    ⟨none, .store 40 (.tmp 6) (.tmp 28), none⟩,
    ⟨none, .store 4 (.tmp 7) (.const (.bool true)), none⟩]) .ret)
@[go_sem] theorem c_sheaflaw19_total_12_at (rd : Option Nat) (K : Post3) (t : Fr) (m : Mem) : wpM E 21 29 rd c_sheaflaw19_total_12 K t m = wpM E 21 29 rd (.seq (.ops [⟨(some 28), .load 40 (.tmp 8), none⟩,
    ⟨none, .store 40 (.tmp 6) (.tmp 28), none⟩,
    ⟨none, .store 4 (.tmp 7) (.const (.bool true)), none⟩]) .ret) K t m := rfl

def c_sheaflaw19_total_13 : MC := (.seq c_sheaflaw19_total_11 c_sheaflaw19_total_12)
@[go_sem] theorem c_sheaflaw19_total_13_at (rd : Option Nat) (K : Post3) (t : Fr) (m : Mem) : wpM E 21 29 rd c_sheaflaw19_total_13 K t m = wpM E 21 29 rd (.seq c_sheaflaw19_total_11 c_sheaflaw19_total_12) K t m := rfl

def c_sheaflaw19_total_14 : MC := (.seq c_sheaflaw19_total_2 c_sheaflaw19_total_13)
@[go_sem] theorem c_sheaflaw19_total_14_at (rd : Option Nat) (K : Post3) (t : Fr) (m : Mem) : wpM E 21 29 rd c_sheaflaw19_total_14 K t m = wpM E 21 29 rd (.seq c_sheaflaw19_total_2 c_sheaflaw19_total_13) K t m := rfl

def c_sheaflaw19_total_15 : MC := (.seq (.ops [⟨(some 12), .move (.tmp 0), none⟩,
    ⟨(some 13), .call ⟨.value (.func 28), #[(.tmp 12)], #[40]⟩, none⟩,
    ⟨(some 14), .move (.tmp 1), none⟩,
    ⟨(some 15), .move (.tmp 2), none⟩,
    ⟨(some 16), .call ⟨.value (.func 27), #[(.tmp 13), (.tmp 14), (.tmp 15)], #[54, 3, 22]⟩, none⟩,
    ⟨(some 9), .assign (.tmp 16), none⟩]) c_sheaflaw19_total_14)
@[go_sem] theorem c_sheaflaw19_total_15_at (rd : Option Nat) (K : Post3) (t : Fr) (m : Mem) : wpM E 21 29 rd c_sheaflaw19_total_15 K t m = wpM E 21 29 rd (.seq (.ops [⟨(some 12), .move (.tmp 0), none⟩,
    ⟨(some 13), .call ⟨.value (.func 28), #[(.tmp 12)], #[40]⟩, none⟩,
    ⟨(some 14), .move (.tmp 1), none⟩,
    ⟨(some 15), .move (.tmp 2), none⟩,
    ⟨(some 16), .call ⟨.value (.func 27), #[(.tmp 13), (.tmp 14), (.tmp 15)], #[54, 3, 22]⟩, none⟩,
    ⟨(some 9), .assign (.tmp 16), none⟩]) c_sheaflaw19_total_14) K t m := rfl

def c_sheaflaw19_total_16 : MC := (.seq (.ops [⟨(some 8), .alloc 40, none⟩]) c_sheaflaw19_total_15)
@[go_sem] theorem c_sheaflaw19_total_16_at (rd : Option Nat) (K : Post3) (t : Fr) (m : Mem) : wpM E 21 29 rd c_sheaflaw19_total_16 K t m = wpM E 21 29 rd (.seq (.ops [⟨(some 8), .alloc 40, none⟩]) c_sheaflaw19_total_15) K t m := rfl

def c_sheaflaw19_total_17 : MC := (.seq (.ops [⟨(some 6), .alloc 40, none⟩,
    ⟨(some 7), .alloc 4, none⟩]) c_sheaflaw19_total_16)
@[go_sem] theorem c_sheaflaw19_total_17_at (rd : Option Nat) (K : Post3) (t : Fr) (m : Mem) : wpM E 21 29 rd c_sheaflaw19_total_17 K t m = wpM E 21 29 rd (.seq (.ops [⟨(some 6), .alloc 40, none⟩,
    ⟨(some 7), .alloc 4, none⟩]) c_sheaflaw19_total_16) K t m := rfl

@[go_sem] theorem some21 : (E.fn 21).isSome = true := by kernel_rfl
set_option maxRecDepth 100000 in
theorem fn_sheaflaw19_total : FnIs E 21 29 [.cell 6 40, .cell 7 4] c_sheaflaw19_total_17 := ⟨by kernel_rfl, by kernel_rfl⟩

/-! sheaf/sheaflaw19.rows -/
abbrev F_sheaflaw19_rows : FuncId := 23
def c_sheaflaw19_rows_0 : MC := (.cond (.tmp 12) .skip (.exit 0))
@[go_sem] theorem c_sheaflaw19_rows_0_at (rd : Option Nat) (K : Post3) (t : Fr) (m : Mem) : wpM E 23 40 rd c_sheaflaw19_rows_0 K t m = wpM E 23 40 rd (.cond (.tmp 12) .skip (.exit 0)) K t m := rfl

def c_sheaflaw19_rows_1 : MC := (.seq (.ops [⟨(some 5), .move (.tmp 4), none⟩,
    ⟨(some 6), .move (.tmp 0), none⟩,
    ⟨(some 7), .call ⟨.builtin .len, #[(.tmp 6)], #[44]⟩, none⟩,
    ⟨(some 8), .binOp .lss 3 (.tmp 5) (.tmp 7) 3, none⟩,
    ⟨(some 9), .move (.tmp 8), none⟩,
    ⟨(some 10), .move (.tmp 4), (some (some 9, true))⟩,
    ⟨(some 11), .binOp .lss 3 (.tmp 10) (.const (.int .i64 30)) 3, (some (some 9, true))⟩,
    ⟨(some 12), .pick (.tmp 9) (.tmp 11) (.const (.bool false)), none⟩]) c_sheaflaw19_rows_0)
@[go_sem] theorem c_sheaflaw19_rows_1_at (rd : Option Nat) (K : Post3) (t : Fr) (m : Mem) : wpM E 23 40 rd c_sheaflaw19_rows_1 K t m = wpM E 23 40 rd (.seq (.ops [⟨(some 5), .move (.tmp 4), none⟩,
    ⟨(some 6), .move (.tmp 0), none⟩,
    ⟨(some 7), .call ⟨.builtin .len, #[(.tmp 6)], #[44]⟩, none⟩,
    ⟨(some 8), .binOp .lss 3 (.tmp 5) (.tmp 7) 3, none⟩,
    ⟨(some 9), .move (.tmp 8), none⟩,
    ⟨(some 10), .move (.tmp 4), (some (some 9, true))⟩,
    ⟨(some 11), .binOp .lss 3 (.tmp 10) (.const (.int .i64 30)) 3, (some (some 9, true))⟩,
    ⟨(some 12), .pick (.tmp 9) (.tmp 11) (.const (.bool false)), none⟩]) c_sheaflaw19_rows_0) K t m := rfl

def c_sheaflaw19_rows_2 : MC := (.block 1 (.draw [(0, [], ⟨(some 15), .move (.tmp 3), none⟩),
    (1, [], ⟨(some 16), .move (.tmp 0), none⟩),
    (2, [], ⟨(some 17), .move (.tmp 4), none⟩),
    (3, [], ⟨(some 18), .indexAddr 44 (.tmp 16) (.tmp 17), none⟩),
    (4, [], ⟨(some 19), .fieldAddr 37 (.tmp 18) 0, none⟩),
    (5, [], ⟨(some 20), .load 3 (.tmp 19), none⟩),
    (7, [], ⟨(some 22), .move (.tmp 0), none⟩),
    (8, [], ⟨(some 23), .move (.tmp 4), none⟩),
    (9, [], ⟨(some 24), .indexAddr 44 (.tmp 22) (.tmp 23), none⟩),
    (10, [], ⟨(some 25), .fieldAddr 37 (.tmp 24) 1, none⟩),
    (11, [], ⟨(some 26), .load 3 (.tmp 25), none⟩),
    (13, [], ⟨(some 28), .move (.tmp 4), none⟩),
    (14, [], ⟨(some 29), .move (.tmp 0), none⟩),
    (15, [], ⟨(some 30), .move (.tmp 4), none⟩),
    (16, [], ⟨(some 31), .indexAddr 44 (.tmp 29) (.tmp 30), none⟩),
    (17, [], ⟨(some 32), .fieldAddr 37 (.tmp 31) 5, none⟩),
    (18, [], ⟨(some 33), .load 3 (.tmp 32), none⟩),
    (6, [11, 18], ⟨(some 21), .call ⟨.value (.func 25), #[(.tmp 20), (.const (.int .i64 1)), (.const (.int .i64 3))], #[3, 3, 3]⟩, none⟩),
    (12, [18], ⟨(some 27), .call ⟨.value (.func 25), #[(.tmp 26), (.const (.int .i64 0)), (.const (.int .i64 2))], #[3, 3, 3]⟩, none⟩),
    (19, [], ⟨(some 34), .buildSlice 22 4 #[(0, (.tmp 21)), (1, (.tmp 27)), (2, (.tmp 28)), (3, (.tmp 33))], none⟩),
    (20, [], ⟨(some 35), .buildSlice 40 1 #[(0, (.tmp 34))], none⟩),
    (21, [], ⟨(some 36), .call ⟨.builtin .append, #[(.tmp 15), (.tmp 35)], #[40, 40]⟩, none⟩),
    (22, [], ⟨(some 3), .assign (.tmp 36), none⟩)]))
@[go_sem] theorem c_sheaflaw19_rows_2_at (rd : Option Nat) (K : Post3) (t : Fr) (m : Mem) : wpM E 23 40 rd c_sheaflaw19_rows_2 K t m = wpM E 23 40 rd (.block 1 (.draw [(0, [], ⟨(some 15), .move (.tmp 3), none⟩),
    (1, [], ⟨(some 16), .move (.tmp 0), none⟩),
    (2, [], ⟨(some 17), .move (.tmp 4), none⟩),
    (3, [], ⟨(some 18), .indexAddr 44 (.tmp 16) (.tmp 17), none⟩),
    (4, [], ⟨(some 19), .fieldAddr 37 (.tmp 18) 0, none⟩),
    (5, [], ⟨(some 20), .load 3 (.tmp 19), none⟩),
    (7, [], ⟨(some 22), .move (.tmp 0), none⟩),
    (8, [], ⟨(some 23), .move (.tmp 4), none⟩),
    (9, [], ⟨(some 24), .indexAddr 44 (.tmp 22) (.tmp 23), none⟩),
    (10, [], ⟨(some 25), .fieldAddr 37 (.tmp 24) 1, none⟩),
    (11, [], ⟨(some 26), .load 3 (.tmp 25), none⟩),
    (13, [], ⟨(some 28), .move (.tmp 4), none⟩),
    (14, [], ⟨(some 29), .move (.tmp 0), none⟩),
    (15, [], ⟨(some 30), .move (.tmp 4), none⟩),
    (16, [], ⟨(some 31), .indexAddr 44 (.tmp 29) (.tmp 30), none⟩),
    (17, [], ⟨(some 32), .fieldAddr 37 (.tmp 31) 5, none⟩),
    (18, [], ⟨(some 33), .load 3 (.tmp 32), none⟩),
    (6, [11, 18], ⟨(some 21), .call ⟨.value (.func 25), #[(.tmp 20), (.const (.int .i64 1)), (.const (.int .i64 3))], #[3, 3, 3]⟩, none⟩),
    (12, [18], ⟨(some 27), .call ⟨.value (.func 25), #[(.tmp 26), (.const (.int .i64 0)), (.const (.int .i64 2))], #[3, 3, 3]⟩, none⟩),
    (19, [], ⟨(some 34), .buildSlice 22 4 #[(0, (.tmp 21)), (1, (.tmp 27)), (2, (.tmp 28)), (3, (.tmp 33))], none⟩),
    (20, [], ⟨(some 35), .buildSlice 40 1 #[(0, (.tmp 34))], none⟩),
    (21, [], ⟨(some 36), .call ⟨.builtin .append, #[(.tmp 15), (.tmp 35)], #[40, 40]⟩, none⟩),
    (22, [], ⟨(some 3), .assign (.tmp 36), none⟩)])) K t m := rfl

def c_sheaflaw19_rows_3 : MC := (.seq c_sheaflaw19_rows_2 (.ops [⟨(some 13), .move (.tmp 4), none⟩,
    ⟨(some 14), .binOp .add 3 (.tmp 13) (.const (.int .i64 1)) 3, none⟩,
    ⟨(some 4), .assign (.tmp 14), none⟩]))
@[go_sem] theorem c_sheaflaw19_rows_3_at (rd : Option Nat) (K : Post3) (t : Fr) (m : Mem) : wpM E 23 40 rd c_sheaflaw19_rows_3 K t m = wpM E 23 40 rd (.seq c_sheaflaw19_rows_2 (.ops [⟨(some 13), .move (.tmp 4), none⟩,
    ⟨(some 14), .binOp .add 3 (.tmp 13) (.const (.int .i64 1)) 3, none⟩,
    ⟨(some 4), .assign (.tmp 14), none⟩])) K t m := rfl

def c_sheaflaw19_rows_4 : MC := (.seq c_sheaflaw19_rows_1 c_sheaflaw19_rows_3)
@[go_sem] theorem c_sheaflaw19_rows_4_at (rd : Option Nat) (K : Post3) (t : Fr) (m : Mem) : wpM E 23 40 rd c_sheaflaw19_rows_4 K t m = wpM E 23 40 rd (.seq c_sheaflaw19_rows_1 c_sheaflaw19_rows_3) K t m := rfl

def c_sheaflaw19_rows_5 : MC := (.loop c_sheaflaw19_rows_4)
theorem c_sheaflaw19_rows_5_at (rd : Option Nat) (K : Post3) (t : Fr) (m : Mem) : wpM E 23 40 rd c_sheaflaw19_rows_5 K t m = wpM E 23 40 rd (.loop c_sheaflaw19_rows_4) K t m := rfl

def c_sheaflaw19_rows_6 : MC := (.block 0 c_sheaflaw19_rows_5)
theorem c_sheaflaw19_rows_6_at (rd : Option Nat) (K : Post3) (t : Fr) (m : Mem) : wpM E 23 40 rd c_sheaflaw19_rows_6 K t m = wpM E 23 40 rd (.block 0 c_sheaflaw19_rows_5) K t m := rfl

def c_sheaflaw19_rows_7 : MC := (.seq (.ops [⟨(some 4), .assign (.const (.int .i64 0)), none⟩]) c_sheaflaw19_rows_6)
@[go_sem] theorem c_sheaflaw19_rows_7_at (rd : Option Nat) (K : Post3) (t : Fr) (m : Mem) : wpM E 23 40 rd c_sheaflaw19_rows_7 K t m = wpM E 23 40 rd (.seq (.ops [⟨(some 4), .assign (.const (.int .i64 0)), none⟩]) c_sheaflaw19_rows_6) K t m := rfl

def c_sheaflaw19_rows_8 : MC := (.seq (.ops [⟨(some 37), .move (.tmp 3), none⟩,
    ⟨(some 38), .buildSlice 22 2 #[(0, (.const (.int .i64 0))), (1, (.const (.int .i64 1)))], none⟩,
    ⟨(some 39), .call ⟨.value (.func 26), #[(.tmp 37), (.tmp 38)], #[40, 22]⟩, none⟩,
    ⟨(some 2), .assign (.tmp 39), none⟩]) .ret)
@[go_sem] theorem c_sheaflaw19_rows_8_at (rd : Option Nat) (K : Post3) (t : Fr) (m : Mem) : wpM E 23 40 rd c_sheaflaw19_rows_8 K t m = wpM E 23 40 rd (.seq (.ops [⟨(some 37), .move (.tmp 3), none⟩,
    ⟨(some 38), .buildSlice 22 2 #[(0, (.const (.int .i64 0))), (1, (.const (.int .i64 1)))], none⟩,
    ⟨(some 39), .call ⟨.value (.func 26), #[(.tmp 37), (.tmp 38)], #[40, 22]⟩, none⟩,
    ⟨(some 2), .assign (.tmp 39), none⟩]) .ret) K t m := rfl

def c_sheaflaw19_rows_9 : MC := (.seq c_sheaflaw19_rows_7 c_sheaflaw19_rows_8)
@[go_sem] theorem c_sheaflaw19_rows_9_at (rd : Option Nat) (K : Post3) (t : Fr) (m : Mem) : wpM E 23 40 rd c_sheaflaw19_rows_9 K t m = wpM E 23 40 rd (.seq c_sheaflaw19_rows_7 c_sheaflaw19_rows_8) K t m := rfl

def c_sheaflaw19_rows_10 : MC := (.seq (.ops [⟨(some 3), .assign (.const (.slice none 0 0)), none⟩]) c_sheaflaw19_rows_9)
@[go_sem] theorem c_sheaflaw19_rows_10_at (rd : Option Nat) (K : Post3) (t : Fr) (m : Mem) : wpM E 23 40 rd c_sheaflaw19_rows_10 K t m = wpM E 23 40 rd (.seq (.ops [⟨(some 3), .assign (.const (.slice none 0 0)), none⟩]) c_sheaflaw19_rows_9) K t m := rfl

def c_sheaflaw19_rows_11 : MC := (.seq (.ops [⟨(some 2), .assign (.const (.slice none 0 0)), none⟩]) c_sheaflaw19_rows_10)
@[go_sem] theorem c_sheaflaw19_rows_11_at (rd : Option Nat) (K : Post3) (t : Fr) (m : Mem) : wpM E 23 40 rd c_sheaflaw19_rows_11 K t m = wpM E 23 40 rd (.seq (.ops [⟨(some 2), .assign (.const (.slice none 0 0)), none⟩]) c_sheaflaw19_rows_10) K t m := rfl

@[go_sem] theorem some23 : (E.fn 23).isSome = true := by kernel_rfl
set_option maxRecDepth 100000 in
theorem fn_sheaflaw19_rows : FnIs E 23 40 [.tmp 2] c_sheaflaw19_rows_11 := ⟨by kernel_rfl, by kernel_rfl⟩

end
end Go.Proofs.Ytjmppooebppecaa.W
