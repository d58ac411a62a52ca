/-
  Compact code, printed by a program of mine (wip/dev/AbsPrint.lean).
-/
import Derived.Test.YtpabllcacdopdaaTypes
set_option linter.unusedVariables false
namespace Go.Proofs.Ytpabllcacdopdaa.W
open Go.Abs
noncomputable section

/-! sheaf/check.Good -/
abbrev F_check_Good : FuncId := 22
def c_check_Good_0 : MC := (.seq (.ops [⟨(some 4), .assign (.const (.bool false)), none⟩]) .ret)
@[go_sem] theorem c_check_Good_0_at (rd : Option Nat) (K : Post3) (t : Fr) (m : Mem) : wpM E 22 55 rd c_check_Good_0 K t m = wpM E 22 55 rd (.seq (.ops [⟨(some 4), .assign (.const (.bool false)), none⟩]) .ret) K t m := rfl

def c_check_Good_1 : MC := (.cond (.tmp 19) c_check_Good_0 .skip)
@[go_sem] theorem c_check_Good_1_at (rd : Option Nat) (K : Post3) (t : Fr) (m : Mem) : wpM E 22 55 rd c_check_Good_1 K t m = wpM E 22 55 rd (.cond (.tmp 19) c_check_Good_0 .skip) K t m := rfl

def c_check_Good_2 : MC := (.seq (.ops [⟨(some 10), .move (.tmp 5), none⟩,
    ⟨(some 11), .call ⟨.builtin .len, #[(.tmp 10)], #[70]⟩, none⟩,
    ⟨(some 12), .binOp .eql 3 (.tmp 11) (.const (.int .i64 0)) 3, none⟩,
    ⟨(some 13), .move (.tmp 12), none⟩,
    ⟨(some 14), .move (.tmp 1), (some (some 13, false))⟩,
    ⟨(some 15), .call ⟨.builtin .len, #[(.tmp 14)], #[22]⟩, (some (some 13, false))⟩,
    ⟨(some 16), .move (.tmp 5), (some (some 13, false))⟩,
    ⟨(some 17), .call ⟨.builtin .len, #[(.tmp 16)], #[70]⟩, (some (some 13, false))⟩,
    ⟨(some 18), .binOp .neq 3 (.tmp 15) (.tmp 17) 3, (some (some 13, false))⟩,
    ⟨(some 19), .pick (.tmp 13) (.const (.bool true)) (.tmp 18), none⟩]) c_check_Good_1)
@[go_sem] theorem c_check_Good_2_at (rd : Option Nat) (K : Post3) (t : Fr) (m : Mem) : wpM E 22 55 rd c_check_Good_2 K t m = wpM E 22 55 rd (.seq (.ops [⟨(some 10), .move (.tmp 5), none⟩,
    ⟨(some 11), .call ⟨.builtin .len, #[(.tmp 10)], #[70]⟩, none⟩,
    ⟨(some 12), .binOp .eql 3 (.tmp 11) (.const (.int .i64 0)) 3, none⟩,
    ⟨(some 13), .move (.tmp 12), none⟩,
    ⟨(some 14), .move (.tmp 1), (some (some 13, false))⟩,
    ⟨(some 15), .call ⟨.builtin .len, #[(.tmp 14)], #[22]⟩, (some (some 13, false))⟩,
    ⟨(some 16), .move (.tmp 5), (some (some 13, false))⟩,
    ⟨(some 17), .call ⟨.builtin .len, #[(.tmp 16)], #[70]⟩, (some (some 13, false))⟩,
    ⟨(some 18), .binOp .neq 3 (.tmp 15) (.tmp 17) 3, (some (some 13, false))⟩,
    ⟨(some 19), .pick (.tmp 13) (.const (.bool true)) (.tmp 18), none⟩]) c_check_Good_1) K t m := rfl

def c_check_Good_3 : MC := (.cond (.tmp 23) .skip (.exit 0))
@[go_sem] theorem c_check_Good_3_at (rd : Option Nat) (K : Post3) (t : Fr) (m : Mem) : wpM E 22 55 rd c_check_Good_3 K t m = wpM E 22 55 rd (.cond (.tmp 23) .skip (.exit 0)) K t m := rfl

def c_check_Good_4 : MC := (.seq (.ops [⟨(some 4), .assign (.const (.bool false)), none⟩]) .ret)
@[go_sem] theorem c_check_Good_4_at (rd : Option Nat) (K : Post3) (t : Fr) (m : Mem) : wpM E 22 55 rd c_check_Good_4 K t m = wpM E 22 55 rd (.seq (.ops [⟨(some 4), .assign (.const (.bool false)), none⟩]) .ret) K t m := rfl

def c_check_Good_5 : MC := (.cond (.tmp 42) c_check_Good_4 .skip)
@[go_sem] theorem c_check_Good_5_at (rd : Option Nat) (K : Post3) (t : Fr) (m : Mem) : wpM E 22 55 rd c_check_Good_5 K t m = wpM E 22 55 rd (.cond (.tmp 42) c_check_Good_4 .skip) K t m := rfl

def c_check_Good_6 : MC := (.seq (.ops [⟨(some 27), .move (.tmp 1), none⟩,
    ⟨(some 28), .move (.tmp 6), none⟩,
    ⟨(some 29), .indexAddr 22 (.tmp 27) (.tmp 28), none⟩,
    ⟨(some 30), .load 3 (.tmp 29), none⟩,
    ⟨(some 31), .fieldAddr 73 (.tmp 7) 0, none⟩,
    ⟨(some 32), .load 3 (.tmp 31), none⟩,
    ⟨(some 33), .binOp .lss 3 (.tmp 30) (.tmp 32) 3, none⟩,
    ⟨(some 34), .move (.tmp 33), none⟩,
    ⟨(some 35), .move (.tmp 1), (some (some 34, false))⟩,
    ⟨(some 36), .move (.tmp 6), (some (some 34, false))⟩,
    ⟨(some 37), .indexAddr 22 (.tmp 35) (.tmp 36), (some (some 34, false))⟩,
    ⟨(some 38), .load 3 (.tmp 37), (some (some 34, false))⟩,
    ⟨(some 39), .fieldAddr 73 (.tmp 7) 1, (some (some 34, false))⟩,
    ⟨(some 40), .load 3 (.tmp 39), (some (some 34, false))⟩,
    ⟨(some 41), .binOp .gtr 3 (.tmp 38) (.tmp 40) 3, (some (some 34, false))⟩,
    ⟨(some 42), .pick (.tmp 34) (.const (.bool true)) (.tmp 41), none⟩]) c_check_Good_5)
@[go_sem] theorem c_check_Good_6_at (rd : Option Nat) (K : Post3) (t : Fr) (m : Mem) : wpM E 22 55 rd c_check_Good_6 K t m = wpM E 22 55 rd (.seq (.ops [⟨(some 27), .move (.tmp 1), none⟩,
    ⟨(some 28), .move (.tmp 6), none⟩,
    ⟨(some 29), .indexAddr 22 (.tmp 27) (.tmp 28), none⟩,
    ⟨(some 30), .load 3 (.tmp 29), none⟩,
    ⟨(some 31), .fieldAddr 73 (.tmp 7) 0, none⟩,
    ⟨(some 32), .load 3 (.tmp 31), none⟩,
    ⟨(some 33), .binOp .lss 3 (.tmp 30) (.tmp 32) 3, none⟩,
    ⟨(some 34), .move (.tmp 33), none⟩,
    ⟨(some 35), .move (.tmp 1), (some (some 34, false))⟩,
    ⟨(some 36), .move (.tmp 6), (some (some 34, false))⟩,
    ⟨(some 37), .indexAddr 22 (.tmp 35) (.tmp 36), (some (some 34, false))⟩,
    ⟨(some 38), .load 3 (.tmp 37), (some (some 34, false))⟩,
    ⟨(some 39), .fieldAddr 73 (.tmp 7) 1, (some (some 34, false))⟩,
    ⟨(some 40), .load 3 (.tmp 39), (some (some 34, false))⟩,
    ⟨(some 41), .binOp .gtr 3 (.tmp 38) (.tmp 40) 3, (some (some 34, false))⟩,
    ⟨(some 42), .pick (.tmp 34) (.const (.bool true)) (.tmp 41), none⟩]) c_check_Good_5) K t m := rfl

def c_check_Good_7 : MC := (.seq (.ops [⟨(some 24), .move (.tmp 22), none⟩,
    ⟨(some 25), .indexAddr 70 (.tmp 20) (.tmp 22), none⟩,
    ⟨(some 26), .load 73 (.tmp 25), none⟩,
    ⟨(some 7), .alloc 73, none⟩,
    ⟨(some 6), .assign (.tmp 24), none⟩,
    ⟨none, .store 73 (.tmp 7) (.tmp 26), none⟩]) c_check_Good_6)
@[go_sem] theorem c_check_Good_7_at (rd : Option Nat) (K : Post3) (t : Fr) (m : Mem) : wpM E 22 55 rd c_check_Good_7 K t m = wpM E 22 55 rd (.seq (.ops [⟨(some 24), .move (.tmp 22), none⟩,
    ⟨(some 25), .indexAddr 70 (.tmp 20) (.tmp 22), none⟩,
    ⟨(some 26), .load 73 (.tmp 25), none⟩,
    ⟨(some 7), .alloc 73, none⟩,
    ⟨(some 6), .assign (.tmp 24), none⟩,
    ⟨none, .store 73 (.tmp 7) (.tmp 26), none⟩]) c_check_Good_6) K t m := rfl

def c_check_Good_8 : MC := (.block 1 c_check_Good_7)
@[go_sem] theorem c_check_Good_8_at (rd : Option Nat) (K : Post3) (t : Fr) (m : Mem) : wpM E 22 55 rd c_check_Good_8 K t m = wpM E 22 55 rd (.block 1 c_check_Good_7) K t m := rfl

def c_check_Good_9 : MC := (.seq c_check_Good_8 (.ops [⟨(some 43), .binOp .add 3 (.tmp 22) (.const (.int .i64 1)) 3, none⟩,
    ⟨(some 22), .move (.tmp 43), none⟩]))
@[go_sem] theorem c_check_Good_9_at (rd : Option Nat) (K : Post3) (t : Fr) (m : Mem) : wpM E 22 55 rd c_check_Good_9 K t m = wpM E 22 55 rd (.seq c_check_Good_8 (.ops [⟨(some 43), .binOp .add 3 (.tmp 22) (.const (.int .i64 1)) 3, none⟩,
    ⟨(some 22), .move (.tmp 43), none⟩])) K t m := rfl

def c_check_Good_10 : MC := (.seq c_check_Good_3 c_check_Good_9)
@[go_sem] theorem c_check_Good_10_at (rd : Option Nat) (K : Post3) (t : Fr) (m : Mem) : wpM E 22 55 rd c_check_Good_10 K t m = wpM E 22 55 rd (.seq c_check_Good_3 c_check_Good_9) K t m := rfl

def c_check_Good_11 : MC := (.seq (.ops [⟨(some 23), .binOp .lss 3 (.tmp 22) (.tmp 21) 3, none⟩]) c_check_Good_10)
@[go_sem] theorem c_check_Good_11_at (rd : Option Nat) (K : Post3) (t : Fr) (m : Mem) : wpM E 22 55 rd c_check_Good_11 K t m = wpM E 22 55 rd (.seq (.ops [⟨(some 23), .binOp .lss 3 (.tmp 22) (.tmp 21) 3, none⟩]) c_check_Good_10) K t m := rfl

def c_check_Good_12 : MC := (.loop c_check_Good_11)
theorem c_check_Good_12_at (rd : Option Nat) (K : Post3) (t : Fr) (m : Mem) : wpM E 22 55 rd c_check_Good_12 K t m = wpM E 22 55 rd (.loop c_check_Good_11) K t m := rfl

def c_check_Good_13 : MC := (.block 0 c_check_Good_12)
theorem c_check_Good_13_at (rd : Option Nat) (K : Post3) (t : Fr) (m : Mem) : wpM E 22 55 rd c_check_Good_13 K t m = wpM E 22 55 rd (.block 0 c_check_Good_12) K t m := rfl

def c_check_Good_14 : MC := (.seq (.ops [⟨(some 20), .move (.tmp 5), none⟩,
    ⟨(some 21), .call ⟨.builtin .len, #[(.tmp 20)], #[70]⟩, none⟩,
    ⟨(some 22), .move (.const (.int .i64 0)), none⟩]) c_check_Good_13)
@[go_sem] theorem c_check_Good_14_at (rd : Option Nat) (K : Post3) (t : Fr) (m : Mem) : wpM E 22 55 rd c_check_Good_14 K t m = wpM E 22 55 rd (.seq (.ops [⟨(some 20), .move (.tmp 5), none⟩,
    ⟨(some 21), .call ⟨.builtin .len, #[(.tmp 20)], #[70]⟩, none⟩,
    ⟨(some 22), .move (.const (.int .i64 0)), none⟩]) c_check_Good_13) K t m := rfl

def c_check_Good_15 : MC := (.seq (.ops [⟨(some 44), .move (.tmp 0), none⟩,
    ⟨(some 45), .binOp .neq 3 (.tmp 44) (.const (.int .i64 1)) 3, none⟩,
    ⟨(some 46), .move (.tmp 45), none⟩,
    ⟨(some 47), .move (.tmp 1), (some (some 46, false))⟩,
    ⟨(some 48), .indexAddr 22 (.tmp 47) (.const (.int .i64 5)), (some (some 46, false))⟩,
    ⟨(some 49), .load 3 (.tmp 48), (some (some 46, false))⟩,
    ⟨(some 50), .move (.tmp 1), (some (some 46, false))⟩,
    ⟨(some 51), .indexAddr 22 (.tmp 50) (.const (.int .i64 1)), (some (some 46, false))⟩,
    ⟨(some 52), .load 3 (.tmp 51), (some (some 46, false))⟩,
    ⟨(some 53), .binOp .neq 3 (.tmp 49) (.tmp 52) 3, (some (some 46, false))⟩,
    ⟨(some 54), .pick (.tmp 46) (.const (.bool true)) (.tmp 53), none⟩,
    ⟨(some 4), .assign (.tmp 54), none⟩]) .ret)
@[go_sem] theorem c_check_Good_15_at (rd : Option Nat) (K : Post3) (t : Fr) (m : Mem) : wpM E 22 55 rd c_check_Good_15 K t m = wpM E 22 55 rd (.seq (.ops [⟨(some 44), .move (.tmp 0), none⟩,
    ⟨(some 45), .binOp .neq 3 (.tmp 44) (.const (.int .i64 1)) 3, none⟩,
    ⟨(some 46), .move (.tmp 45), none⟩,
    ⟨(some 47), .move (.tmp 1), (some (some 46, false))⟩,
    ⟨(some 48), .indexAddr 22 (.tmp 47) (.const (.int .i64 5)), (some (some 46, false))⟩,
    ⟨(some 49), .load 3 (.tmp 48), (some (some 46, false))⟩,
    ⟨(some 50), .move (.tmp 1), (some (some 46, false))⟩,
    ⟨(some 51), .indexAddr 22 (.tmp 50) (.const (.int .i64 1)), (some (some 46, false))⟩,
    ⟨(some 52), .load 3 (.tmp 51), (some (some 46, false))⟩,
    ⟨(some 53), .binOp .neq 3 (.tmp 49) (.tmp 52) 3, (some (some 46, false))⟩,
    ⟨(some 54), .pick (.tmp 46) (.const (.bool true)) (.tmp 53), none⟩,
    ⟨(some 4), .assign (.tmp 54), none⟩]) .ret) K t m := rfl

def c_check_Good_16 : MC := (.seq c_check_Good_14 c_check_Good_15)
@[go_sem] theorem c_check_Good_16_at (rd : Option Nat) (K : Post3) (t : Fr) (m : Mem) : wpM E 22 55 rd c_check_Good_16 K t m = wpM E 22 55 rd (.seq c_check_Good_14 c_check_Good_15) K t m := rfl

def c_check_Good_17 : MC := (.seq c_check_Good_2 c_check_Good_16)
@[go_sem] theorem c_check_Good_17_at (rd : Option Nat) (K : Post3) (t : Fr) (m : Mem) : wpM E 22 55 rd c_check_Good_17 K t m = wpM E 22 55 rd (.seq c_check_Good_2 c_check_Good_16) K t m := rfl

def c_check_Good_18 : MC := (.seq (.ops [⟨(some 8), .move (.tmp 0), none⟩,
    ⟨(some 9), .call ⟨.value (.func 45), #[(.tmp 8)], #[3]⟩, none⟩,
    ⟨(some 5), .assign (.tmp 9), none⟩]) c_check_Good_17)
@[go_sem] theorem c_check_Good_18_at (rd : Option Nat) (K : Post3) (t : Fr) (m : Mem) : wpM E 22 55 rd c_check_Good_18 K t m = wpM E 22 55 rd (.seq (.ops [⟨(some 8), .move (.tmp 0), none⟩,
    ⟨(some 9), .call ⟨.value (.func 45), #[(.tmp 8)], #[3]⟩, none⟩,
    ⟨(some 5), .assign (.tmp 9), none⟩]) c_check_Good_17) K t m := rfl

def c_check_Good_19 : MC := (.seq (.ops [⟨(some 4), .assign (.const (.bool false)), none⟩]) c_check_Good_18)
@[go_sem] theorem c_check_Good_19_at (rd : Option Nat) (K : Post3) (t : Fr) (m : Mem) : wpM E 22 55 rd c_check_Good_19 K t m = wpM E 22 55 rd (.seq (.ops [⟨(some 4), .assign (.const (.bool false)), none⟩]) c_check_Good_18) K t m := rfl

@[go_sem] theorem some22 : (E.fn 22).isSome = true := by kernel_rfl
set_option maxRecDepth 100000 in
theorem fn_check_Good : FnIs E 22 55 [.tmp 4] c_check_Good_19 := ⟨by kernel_rfl, by kernel_rfl⟩

/-! sheaf/check.spans -/

abbrev F_check_spans : FuncId := 45
def c_check_spans_0 : MC := (.seq (.ops [⟨(some 8), .load 73 (.tmp 3), none⟩,
    ⟨(some 9), .load 73 (.tmp 3), none⟩,
    ⟨(some 10), .build 73 #[(0, (.const (.int .i64 0))), (1, (.const (.int .i64 10000)))], none⟩,
    ⟨(some 11), .buildSlice 70 3 #[(0, (.tmp 8)), (1, (.tmp 9)), (2, (.tmp 10))], none⟩,
    ⟨(some 2), .assign (.tmp 11), none⟩]) .ret)
@[go_sem] theorem c_check_spans_0_at (rd : Option Nat) (K : Post3) (t : Fr) (m : Mem) : wpM E 45 33 rd c_check_spans_0 K t m = wpM E 45 33 rd (.seq (.ops [⟨(some 8), .load 73 (.tmp 3), none⟩,
    ⟨(some 9), .load 73 (.tmp 3), none⟩,
    ⟨(some 10), .build 73 #[(0, (.const (.int .i64 0))), (1, (.const (.int .i64 10000)))], none⟩,
    ⟨(some 11), .buildSlice 70 3 #[(0, (.tmp 8)), (1, (.tmp 9)), (2, (.tmp 10))], none⟩,
    ⟨(some 2), .assign (.tmp 11), none⟩]) .ret) K t m := rfl

def c_check_spans_1 : MC := (.seq (.ops [⟨(some 14), .load 73 (.tmp 3), none⟩,
    ⟨(some 15), .build 73 #[(0, (.const (.int .i64 1))), (1, (.const (.int .i64 8999)))], none⟩,
    ⟨(some 16), .buildSlice 70 2 #[(0, (.tmp 14)), (1, (.tmp 15))], none⟩,
    ⟨(some 2), .assign (.tmp 16), none⟩]) .ret)
@[go_sem] theorem c_check_spans_1_at (rd : Option Nat) (K : Post3) (t : Fr) (m : Mem) : wpM E 45 33 rd c_check_spans_1 K t m = wpM E 45 33 rd (.seq (.ops [⟨(some 14), .load 73 (.tmp 3), none⟩,
    ⟨(some 15), .build 73 #[(0, (.const (.int .i64 1))), (1, (.const (.int .i64 8999)))], none⟩,
    ⟨(some 16), .buildSlice 70 2 #[(0, (.tmp 14)), (1, (.tmp 15))], none⟩,
    ⟨(some 2), .assign (.tmp 16), none⟩]) .ret) K t m := rfl

def c_check_spans_2 : MC := (.seq (.ops [⟨(some 19), .load 73 (.tmp 3), none⟩,
    ⟨(some 20), .build 73 #[(0, (.const (.int .i64 0))), (1, (.const (.int .i64 1073741824)))], none⟩,
    ⟨(some 21), .build 73 #[(0, (.const (.int .i64 1))), (1, (.const (.int .i64 1099511627776)))], none⟩,
    ⟨(some 22), .build 73 #[(0, (.const (.int .i64 1))), (1, (.const (.int .i64 1099511627776)))], none⟩,
    ⟨(some 23), .buildSlice 70 4 #[(0, (.tmp 19)), (1, (.tmp 20)), (2, (.tmp 21)), (3, (.tmp 22))], none⟩,
    ⟨(some 2), .assign (.tmp 23), none⟩]) .ret)
@[go_sem] theorem c_check_spans_2_at (rd : Option Nat) (K : Post3) (t : Fr) (m : Mem) : wpM E 45 33 rd c_check_spans_2 K t m = wpM E 45 33 rd (.seq (.ops [⟨(some 19), .load 73 (.tmp 3), none⟩,
    ⟨(some 20), .build 73 #[(0, (.const (.int .i64 0))), (1, (.const (.int .i64 1073741824)))], none⟩,
    ⟨(some 21), .build 73 #[(0, (.const (.int .i64 1))), (1, (.const (.int .i64 1099511627776)))], none⟩,
    ⟨(some 22), .build 73 #[(0, (.const (.int .i64 1))), (1, (.const (.int .i64 1099511627776)))], none⟩,
    ⟨(some 23), .buildSlice 70 4 #[(0, (.tmp 19)), (1, (.tmp 20)), (2, (.tmp 21)), (3, (.tmp 22))], none⟩,
    ⟨(some 2), .assign (.tmp 23), none⟩]) .ret) K t m := rfl

def c_check_spans_3 : MC := (.seq (.ops [⟨(some 26), .load 73 (.tmp 3), none⟩,
    ⟨(some 27), .load 73 (.tmp 3), none⟩,
    ⟨(some 28), .load 73 (.tmp 3), none⟩,
    ⟨(some 29), .build 73 #[(0, (.const (.int .i64 0))), (1, (.const (.int .i64 9223372036854775807)))], none⟩,
    ⟨(some 30), .build 73 #[(0, (.const (.int .i64 (-9223372036854775807)))), (1, (.const (.int .i64 9223372036854775807)))], none⟩,
    ⟨(some 31), .build 73 #[(0, (.const (.int .i64 0))), (1, (.const (.int .i64 9223372036854775807)))], none⟩,
    ⟨(some 32), .buildSlice 70 6 #[(0, (.tmp 26)), (1, (.tmp 27)), (2, (.tmp 28)), (3, (.tmp 29)), (4, (.tmp 30)), (5, (.tmp 31))], none⟩,
    ⟨(some 2), .assign (.tmp 32), none⟩]) .ret)
@[go_sem] theorem c_check_spans_3_at (rd : Option Nat) (K : Post3) (t : Fr) (m : Mem) : wpM E 45 33 rd c_check_spans_3 K t m = wpM E 45 33 rd (.seq (.ops [⟨(some 26), .load 73 (.tmp 3), none⟩,
    ⟨(some 27), .load 73 (.tmp 3), none⟩,
    ⟨(some 28), .load 73 (.tmp 3), none⟩,
    ⟨(some 29), .build 73 #[(0, (.const (.int .i64 0))), (1, (.const (.int .i64 9223372036854775807)))], none⟩,
    ⟨(some 30), .build 73 #[(0, (.const (.int .i64 (-9223372036854775807)))), (1, (.const (.int .i64 9223372036854775807)))], none⟩,
    ⟨(some 31), .build 73 #[(0, (.const (.int .i64 0))), (1, (.const (.int .i64 9223372036854775807)))], none⟩,
    ⟨(some 32), .buildSlice 70 6 #[(0, (.tmp 26)), (1, (.tmp 27)), (2, (.tmp 28)), (3, (.tmp 29)), (4, (.tmp 30)), (5, (.tmp 31))], none⟩,
    ⟨(some 2), .assign (.tmp 32), none⟩]) .ret) K t m := rfl

def c_check_spans_4 : MC := (.cond (.tmp 24) c_check_spans_3 .skip)
@[go_sem] theorem c_check_spans_4_at (rd : Option Nat) (K : Post3) (t : Fr) (m : Mem) : wpM E 45 33 rd c_check_spans_4 K t m = wpM E 45 33 rd (.cond (.tmp 24) c_check_spans_3 .skip) K t m := rfl

def c_check_spans_5 : MC := (.seq (.ops [⟨(some 25), .binOp .eql 3 (.tmp 5) (.const (.int .i64 1)) 3, none⟩,
    ⟨(some 24), .assign (.tmp 25), none⟩]) c_check_spans_4)
@[go_sem] theorem c_check_spans_5_at (rd : Option Nat) (K : Post3) (t : Fr) (m : Mem) : wpM E 45 33 rd c_check_spans_5 K t m = wpM E 45 33 rd (.seq (.ops [⟨(some 25), .binOp .eql 3 (.tmp 5) (.const (.int .i64 1)) 3, none⟩,
    ⟨(some 24), .assign (.tmp 25), none⟩]) c_check_spans_4) K t m := rfl

def c_check_spans_6 : MC := (.cond (.tmp 17) c_check_spans_2 c_check_spans_5)
@[go_sem] theorem c_check_spans_6_at (rd : Option Nat) (K : Post3) (t : Fr) (m : Mem) : wpM E 45 33 rd c_check_spans_6 K t m = wpM E 45 33 rd (.cond (.tmp 17) c_check_spans_2 c_check_spans_5) K t m := rfl

def c_check_spans_7 : MC := (.seq (.ops [⟨(some 18), .binOp .eql 3 (.tmp 5) (.const (.int .i64 4)) 3, none⟩,
    ⟨(some 17), .assign (.tmp 18), none⟩]) c_check_spans_6)
@[go_sem] theorem c_check_spans_7_at (rd : Option Nat) (K : Post3) (t : Fr) (m : Mem) : wpM E 45 33 rd c_check_spans_7 K t m = wpM E 45 33 rd (.seq (.ops [⟨(some 18), .binOp .eql 3 (.tmp 5) (.const (.int .i64 4)) 3, none⟩,
    ⟨(some 17), .assign (.tmp 18), none⟩]) c_check_spans_6) K t m := rfl

def c_check_spans_8 : MC := (.cond (.tmp 12) c_check_spans_1 c_check_spans_7)
@[go_sem] theorem c_check_spans_8_at (rd : Option Nat) (K : Post3) (t : Fr) (m : Mem) : wpM E 45 33 rd c_check_spans_8 K t m = wpM E 45 33 rd (.cond (.tmp 12) c_check_spans_1 c_check_spans_7) K t m := rfl

def c_check_spans_9 : MC := (.seq (.ops [⟨(some 13), .binOp .eql 3 (.tmp 5) (.const (.int .i64 3)) 3, none⟩,
    ⟨(some 12), .assign (.tmp 13), none⟩]) c_check_spans_8)
@[go_sem] theorem c_check_spans_9_at (rd : Option Nat) (K : Post3) (t : Fr) (m : Mem) : wpM E 45 33 rd c_check_spans_9 K t m = wpM E 45 33 rd (.seq (.ops [⟨(some 13), .binOp .eql 3 (.tmp 5) (.const (.int .i64 3)) 3, none⟩,
    ⟨(some 12), .assign (.tmp 13), none⟩]) c_check_spans_8) K t m := rfl

def c_check_spans_10 : MC := (.cond (.tmp 6) c_check_spans_0 c_check_spans_9)
@[go_sem] theorem c_check_spans_10_at (rd : Option Nat) (K : Post3) (t : Fr) (m : Mem) : wpM E 45 33 rd c_check_spans_10 K t m = wpM E 45 33 rd (.cond (.tmp 6) c_check_spans_0 c_check_spans_9) K t m := rfl

def c_check_spans_11 : MC := (.seq (.ops [⟨(some 7), .binOp .eql 3 (.tmp 5) (.const (.int .i64 2)) 3, none⟩,
    ⟨(some 6), .assign (.tmp 7), none⟩]) c_check_spans_10)
@[go_sem] theorem c_check_spans_11_at (rd : Option Nat) (K : Post3) (t : Fr) (m : Mem) : wpM E 45 33 rd c_check_spans_11 K t m = wpM E 45 33 rd (.seq (.ops [⟨(some 7), .binOp .eql 3 (.tmp 5) (.const (.int .i64 2)) 3, none⟩,
    ⟨(some 6), .assign (.tmp 7), none⟩]) c_check_spans_10) K t m := rfl

def c_check_spans_12 : MC := (.block 0 c_check_spans_11)
@[go_sem] theorem c_check_spans_12_at (rd : Option Nat) (K : Post3) (t : Fr) (m : Mem) : wpM E 45 33 rd c_check_spans_12 K t m = wpM E 45 33 rd (.block 0 c_check_spans_11) K t m := rfl

def c_check_spans_13 : MC := (.seq (.ops [⟨(some 5), .move (.tmp 0), none⟩]) c_check_spans_12)
@[go_sem] theorem c_check_spans_13_at (rd : Option Nat) (K : Post3) (t : Fr) (m : Mem) : wpM E 45 33 rd c_check_spans_13 K t m = wpM E 45 33 rd (.seq (.ops [⟨(some 5), .move (.tmp 0), none⟩]) c_check_spans_12) K t m := rfl

def c_check_spans_14 : MC := (.seq (.ops [⟨(some 2), .assign (.const (.slice none 0 0)), none⟩]) .ret)
@[go_sem] theorem c_check_spans_14_at (rd : Option Nat) (K : Post3) (t : Fr) (m : Mem) : wpM E 45 33 rd c_check_spans_14 K t m = wpM E 45 33 rd (.seq (.ops [⟨(some 2), .assign (.const (.slice none 0 0)), none⟩]) .ret) K t m := rfl

def c_check_spans_15 : MC := (.seq c_check_spans_13 c_check_spans_14)
@[go_sem] theorem c_check_spans_15_at (rd : Option Nat) (K : Post3) (t : Fr) (m : Mem) : wpM E 45 33 rd c_check_spans_15 K t m = wpM E 45 33 rd (.seq c_check_spans_13 c_check_spans_14) K t m := rfl

def c_check_spans_16 : MC := (.seq (.ops [⟨(some 4), .build 73 #[(0, (.const (.int .i64 1))), (1, (.const (.int .i64 9223372036854775807)))], none⟩,
    ⟨(some 3), .alloc 73, none⟩,
    ⟨none, .store 73 (.tmp 3) (.tmp 4), none⟩]) c_check_spans_15)
@[go_sem] theorem c_check_spans_16_at (rd : Option Nat) (K : Post3) (t : Fr) (m : Mem) : wpM E 45 33 rd c_check_spans_16 K t m = wpM E 45 33 rd (.seq (.ops [⟨(some 4), .build 73 #[(0, (.const (.int .i64 1))), (1, (.const (.int .i64 9223372036854775807)))], none⟩,
    ⟨(some 3), .alloc 73, none⟩,
    ⟨none, .store 73 (.tmp 3) (.tmp 4), none⟩]) c_check_spans_15) K t m := rfl

def c_check_spans_17 : MC := (.seq (.ops [⟨(some 2), .assign (.const (.slice none 0 0)), none⟩]) c_check_spans_16)
@[go_sem] theorem c_check_spans_17_at (rd : Option Nat) (K : Post3) (t : Fr) (m : Mem) : wpM E 45 33 rd c_check_spans_17 K t m = wpM E 45 33 rd (.seq (.ops [⟨(some 2), .assign (.const (.slice none 0 0)), none⟩]) c_check_spans_16) K t m := rfl

@[go_sem] theorem some45 : (E.fn 45).isSome = true := by kernel_rfl
set_option maxRecDepth 100000 in
theorem fn_check_spans : FnIs E 45 33 [.tmp 2] c_check_spans_17 := ⟨by kernel_rfl, by kernel_rfl⟩

end

abbrev F_sheafref16_Good : FuncId := 49
def c_sheafref16_Good_0 : MC := (.seq (.ops [⟨(some 8), .move (.tmp 1), none⟩,
    ⟨(some 9), .call ⟨.builtin .len, #[(.tmp 8)], #[22]⟩, none⟩,
    ⟨(some 10), .binOp .eql 3 (.tmp 9) (.const (.int .i64 3)) 3, none⟩,
    ⟨(some 11), .move (.tmp 10), none⟩,
    ⟨(some 12), .move (.tmp 1), (some (some 11, true))⟩,
    ⟨(some 13), .indexAddr 22 (.tmp 12) (.const (.int .i64 0)), (some (some 11, true))⟩,
    ⟨(some 14), .load 3 (.tmp 13), (some (some 11, true))⟩,
    ⟨(some 15), .binOp .geq 3 (.tmp 14) (.const (.int .i64 1)) 3, (some (some 11, true))⟩,
    ⟨(some 16), .pick (.tmp 11) (.tmp 15) (.const (.bool false)), none⟩,
    ⟨(some 17), .move (.tmp 16), none⟩,
    ⟨(some 18), .move (.tmp 1), (some (some 17, true))⟩,
    ⟨(some 19), .indexAddr 22 (.tmp 18) (.const (.int .i64 1)), (some (some 17, true))⟩,
    ⟨(some 20), .load 3 (.tmp 19), (some (some 17, true))⟩,
    ⟨(some 21), .binOp .geq 3 (.tmp 20) (.const (.int .i64 1)) 3, (some (some 17, true))⟩,
    ⟨(some 22), .pick (.tmp 17) (.tmp 21) (.const (.bool false)), none⟩,
    ⟨(some 23), .move (.tmp 22), none⟩,
    ⟨(some 24), .move (.tmp 1), (some (some 23, true))⟩,
    ⟨(some 25), .indexAddr 22 (.tmp 24) (.const (.int .i64 2)), (some (some 23, true))⟩,
    ⟨(some 26), .load 3 (.tmp 25), (some (some 23, true))⟩,
    ⟨(some 27), .binOp .geq 3 (.tmp 26) (.const (.int .i64 0)) 3, (some (some 23, true))⟩,
    ⟨(some 28), .pick (.tmp 23) (.tmp 27) (.const (.bool false)), none⟩,
    ⟨(some 29), .move (.tmp 28), none⟩,
    ⟨(some 30), .move (.tmp 1), (some (some 29, true))⟩,
    ⟨(some 31), .indexAddr 22 (.tmp 30) (.const (.int .i64 2)), (some (some 29, true))⟩,
    ⟨(some 32), .load 3 (.tmp 31), (some (some 29, true))⟩,
    ⟨(some 33), .binOp .leq 3 (.tmp 32) (.const (.int .i64 10000)) 3, (some (some 29, true))⟩,
    ⟨(some 34), .pick (.tmp 29) (.tmp 33) (.const (.bool false)), none⟩,
    ⟨(some 4), .assign (.tmp 34), none⟩]) .ret)
@[go_sem] theorem c_sheafref16_Good_0_at (rd : Option Nat) (K : Post3) (t : Fr) (m : Mem) : wpM E 49 155 rd c_sheafref16_Good_0 K t m = wpM E 49 155 rd (.seq (.ops [⟨(some 8), .move (.tmp 1), none⟩,
    ⟨(some 9), .call ⟨.builtin .len, #[(.tmp 8)], #[22]⟩, none⟩,
    ⟨(some 10), .binOp .eql 3 (.tmp 9) (.const (.int .i64 3)) 3, none⟩,
    ⟨(some 11), .move (.tmp 10), none⟩,
    ⟨(some 12), .move (.tmp 1), (some (some 11, true))⟩,
    ⟨(some 13), .indexAddr 22 (.tmp 12) (.const (.int .i64 0)), (some (some 11, true))⟩,
    ⟨(some 14), .load 3 (.tmp 13), (some (some 11, true))⟩,
    ⟨(some 15), .binOp .geq 3 (.tmp 14) (.const (.int .i64 1)) 3, (some (some 11, true))⟩,
    ⟨(some 16), .pick (.tmp 11) (.tmp 15) (.const (.bool false)), none⟩,
    ⟨(some 17), .move (.tmp 16), none⟩,
    ⟨(some 18), .move (.tmp 1), (some (some 17, true))⟩,
    ⟨(some 19), .indexAddr 22 (.tmp 18) (.const (.int .i64 1)), (some (some 17, true))⟩,
    ⟨(some 20), .load 3 (.tmp 19), (some (some 17, true))⟩,
    ⟨(some 21), .binOp .geq 3 (.tmp 20) (.const (.int .i64 1)) 3, (some (some 17, true))⟩,
    ⟨(some 22), .pick (.tmp 17) (.tmp 21) (.const (.bool false)), none⟩,
    ⟨(some 23), .move (.tmp 22), none⟩,
    ⟨(some 24), .move (.tmp 1), (some (some 23, true))⟩,
    ⟨(some 25), .indexAddr 22 (.tmp 24) (.const (.int .i64 2)), (some (some 23, true))⟩,
    ⟨(some 26), .load 3 (.tmp 25), (some (some 23, true))⟩,
    ⟨(some 27), .binOp .geq 3 (.tmp 26) (.const (.int .i64 0)) 3, (some (some 23, true))⟩,
    ⟨(some 28), .pick (.tmp 23) (.tmp 27) (.const (.bool false)), none⟩,
    ⟨(some 29), .move (.tmp 28), none⟩,
    ⟨(some 30), .move (.tmp 1), (some (some 29, true))⟩,
    ⟨(some 31), .indexAddr 22 (.tmp 30) (.const (.int .i64 2)), (some (some 29, true))⟩,
    ⟨(some 32), .load 3 (.tmp 31), (some (some 29, true))⟩,
    ⟨(some 33), .binOp .leq 3 (.tmp 32) (.const (.int .i64 10000)) 3, (some (some 29, true))⟩,
    ⟨(some 34), .pick (.tmp 29) (.tmp 33) (.const (.bool false)), none⟩,
    ⟨(some 4), .assign (.tmp 34), none⟩]) .ret) K t m := rfl

def c_sheafref16_Good_1 : MC := (.seq (.ops [⟨(some 37), .move (.tmp 1), none⟩,
    ⟨(some 38), .call ⟨.builtin .len, #[(.tmp 37)], #[22]⟩, none⟩,
    ⟨(some 39), .binOp .eql 3 (.tmp 38) (.const (.int .i64 2)) 3, none⟩,
    ⟨(some 40), .move (.tmp 39), none⟩,
    ⟨(some 41), .move (.tmp 1), (some (some 40, true))⟩,
    ⟨(some 42), .indexAddr 22 (.tmp 41) (.const (.int .i64 0)), (some (some 40, true))⟩,
    ⟨(some 43), .load 3 (.tmp 42), (some (some 40, true))⟩,
    ⟨(some 44), .binOp .geq 3 (.tmp 43) (.const (.int .i64 1)) 3, (some (some 40, true))⟩,
    ⟨(some 45), .pick (.tmp 40) (.tmp 44) (.const (.bool false)), none⟩,
    ⟨(some 46), .move (.tmp 45), none⟩,
    ⟨(some 47), .move (.tmp 1), (some (some 46, true))⟩,
    ⟨(some 48), .indexAddr 22 (.tmp 47) (.const (.int .i64 1)), (some (some 46, true))⟩,
    ⟨(some 49), .load 3 (.tmp 48), (some (some 46, true))⟩,
    ⟨(some 50), .binOp .geq 3 (.tmp 49) (.const (.int .i64 1)) 3, (some (some 46, true))⟩,
    ⟨(some 51), .pick (.tmp 46) (.tmp 50) (.const (.bool false)), none⟩,
    ⟨(some 52), .move (.tmp 51), none⟩,
    ⟨(some 53), .move (.tmp 1), (some (some 52, true))⟩,
    ⟨(some 54), .indexAddr 22 (.tmp 53) (.const (.int .i64 1)), (some (some 52, true))⟩,
    ⟨(some 55), .load 3 (.tmp 54), (some (some 52, true))⟩,
    ⟨(some 56), .binOp .lss 3 (.tmp 55) (.const (.int .i64 9000)) 3, (some (some 52, true))⟩,
    ⟨(some 57), .pick (.tmp 52) (.tmp 56) (.const (.bool false)), none⟩,
    ⟨(some 4), .assign (.tmp 57), none⟩]) .ret)
@[go_sem] theorem c_sheafref16_Good_1_at (rd : Option Nat) (K : Post3) (t : Fr) (m : Mem) : wpM E 49 155 rd c_sheafref16_Good_1 K t m = wpM E 49 155 rd (.seq (.ops [⟨(some 37), .move (.tmp 1), none⟩,
    ⟨(some 38), .call ⟨.builtin .len, #[(.tmp 37)], #[22]⟩, none⟩,
    ⟨(some 39), .binOp .eql 3 (.tmp 38) (.const (.int .i64 2)) 3, none⟩,
    ⟨(some 40), .move (.tmp 39), none⟩,
    ⟨(some 41), .move (.tmp 1), (some (some 40, true))⟩,
    ⟨(some 42), .indexAddr 22 (.tmp 41) (.const (.int .i64 0)), (some (some 40, true))⟩,
    ⟨(some 43), .load 3 (.tmp 42), (some (some 40, true))⟩,
    ⟨(some 44), .binOp .geq 3 (.tmp 43) (.const (.int .i64 1)) 3, (some (some 40, true))⟩,
    ⟨(some 45), .pick (.tmp 40) (.tmp 44) (.const (.bool false)), none⟩,
    ⟨(some 46), .move (.tmp 45), none⟩,
    ⟨(some 47), .move (.tmp 1), (some (some 46, true))⟩,
    ⟨(some 48), .indexAddr 22 (.tmp 47) (.const (.int .i64 1)), (some (some 46, true))⟩,
    ⟨(some 49), .load 3 (.tmp 48), (some (some 46, true))⟩,
    ⟨(some 50), .binOp .geq 3 (.tmp 49) (.const (.int .i64 1)) 3, (some (some 46, true))⟩,
    ⟨(some 51), .pick (.tmp 46) (.tmp 50) (.const (.bool false)), none⟩,
    ⟨(some 52), .move (.tmp 51), none⟩,
    ⟨(some 53), .move (.tmp 1), (some (some 52, true))⟩,
    ⟨(some 54), .indexAddr 22 (.tmp 53) (.const (.int .i64 1)), (some (some 52, true))⟩,
    ⟨(some 55), .load 3 (.tmp 54), (some (some 52, true))⟩,
    ⟨(some 56), .binOp .lss 3 (.tmp 55) (.const (.int .i64 9000)) 3, (some (some 52, true))⟩,
    ⟨(some 57), .pick (.tmp 52) (.tmp 56) (.const (.bool false)), none⟩,
    ⟨(some 4), .assign (.tmp 57), none⟩]) .ret) K t m := rfl

def c_sheafref16_Good_2 : MC := (.seq (.ops [⟨(some 60), .move (.tmp 1), none⟩,
    ⟨(some 61), .call ⟨.builtin .len, #[(.tmp 60)], #[22]⟩, none⟩,
    ⟨(some 62), .binOp .eql 3 (.tmp 61) (.const (.int .i64 4)) 3, none⟩,
    ⟨(some 63), .move (.tmp 62), none⟩,
    ⟨(some 64), .move (.tmp 1), (some (some 63, true))⟩,
    ⟨(some 65), .indexAddr 22 (.tmp 64) (.const (.int .i64 0)), (some (some 63, true))⟩,
    ⟨(some 66), .load 3 (.tmp 65), (some (some 63, true))⟩,
    ⟨(some 67), .binOp .geq 3 (.tmp 66) (.const (.int .i64 1)) 3, (some (some 63, true))⟩,
    ⟨(some 68), .pick (.tmp 63) (.tmp 67) (.const (.bool false)), none⟩,
    ⟨(some 69), .move (.tmp 68), none⟩,
    ⟨(some 70), .move (.tmp 1), (some (some 69, true))⟩,
    ⟨(some 71), .indexAddr 22 (.tmp 70) (.const (.int .i64 1)), (some (some 69, true))⟩,
    ⟨(some 72), .load 3 (.tmp 71), (some (some 69, true))⟩,
    ⟨(some 73), .binOp .geq 3 (.tmp 72) (.const (.int .i64 0)) 3, (some (some 69, true))⟩,
    ⟨(some 74), .pick (.tmp 69) (.tmp 73) (.const (.bool false)), none⟩,
    ⟨(some 75), .move (.tmp 74), none⟩,
    ⟨(some 76), .move (.tmp 1), (some (some 75, true))⟩,
    ⟨(some 77), .indexAddr 22 (.tmp 76) (.const (.int .i64 1)), (some (some 75, true))⟩,
    ⟨(some 78), .load 3 (.tmp 77), (some (some 75, true))⟩,
    ⟨(some 79), .binOp .leq 3 (.tmp 78) (.const (.int .i64 1073741824)) 3, (some (some 75, true))⟩,
    ⟨(some 80), .pick (.tmp 75) (.tmp 79) (.const (.bool false)), none⟩,
    ⟨(some 81), .move (.tmp 80), none⟩,
    ⟨(some 82), .move (.tmp 1), (some (some 81, true))⟩,
    ⟨(some 83), .indexAddr 22 (.tmp 82) (.const (.int .i64 2)), (some (some 81, true))⟩,
    ⟨(some 84), .load 3 (.tmp 83), (some (some 81, true))⟩,
    ⟨(some 85), .binOp .geq 3 (.tmp 84) (.const (.int .i64 1)) 3, (some (some 81, true))⟩,
    ⟨(some 86), .pick (.tmp 81) (.tmp 85) (.const (.bool false)), none⟩,
    ⟨(some 87), .move (.tmp 86), none⟩,
    ⟨(some 88), .move (.tmp 1), (some (some 87, true))⟩,
    ⟨(some 89), .indexAddr 22 (.tmp 88) (.const (.int .i64 2)), (some (some 87, true))⟩,
    ⟨(some 90), .load 3 (.tmp 89), (some (some 87, true))⟩,
    ⟨(some 91), .binOp .leq 3 (.tmp 90) (.const (.int .i64 1099511627776)) 3, (some (some 87, true))⟩,
    ⟨(some 92), .pick (.tmp 87) (.tmp 91) (.const (.bool false)), none⟩,
    ⟨(some 93), .move (.tmp 92), none⟩,
    ⟨(some 94), .move (.tmp 1), (some (some 93, true))⟩,
    ⟨(some 95), .indexAddr 22 (.tmp 94) (.const (.int .i64 3)), (some (some 93, true))⟩,
    ⟨(some 96), .load 3 (.tmp 95), (some (some 93, true))⟩,
    ⟨(some 97), .binOp .geq 3 (.tmp 96) (.const (.int .i64 1)) 3, (some (some 93, true))⟩,
    ⟨(some 98), .pick (.tmp 93) (.tmp 97) (.const (.bool false)), none⟩,
    ⟨(some 99), .move (.tmp 98), none⟩,
    ⟨(some 100), .move (.tmp 1), (some (some 99, true))⟩,
    ⟨(some 101), .indexAddr 22 (.tmp 100) (.const (.int .i64 3)), (some (some 99, true))⟩,
    ⟨(some 102), .load 3 (.tmp 101), (some (some 99, true))⟩,
    ⟨(some 103), .binOp .leq 3 (.tmp 102) (.const (.int .i64 1099511627776)) 3, (some (some 99, true))⟩,
    ⟨(some 104), .pick (.tmp 99) (.tmp 103) (.const (.bool false)), none⟩,
    ⟨(some 4), .assign (.tmp 104), none⟩]) .ret)
@[go_sem] theorem c_sheafref16_Good_2_at (rd : Option Nat) (K : Post3) (t : Fr) (m : Mem) : wpM E 49 155 rd c_sheafref16_Good_2 K t m = wpM E 49 155 rd (.seq (.ops [⟨(some 60), .move (.tmp 1), none⟩,
    ⟨(some 61), .call ⟨.builtin .len, #[(.tmp 60)], #[22]⟩, none⟩,
    ⟨(some 62), .binOp .eql 3 (.tmp 61) (.const (.int .i64 4)) 3, none⟩,
    ⟨(some 63), .move (.tmp 62), none⟩,
    ⟨(some 64), .move (.tmp 1), (some (some 63, true))⟩,
    ⟨(some 65), .indexAddr 22 (.tmp 64) (.const (.int .i64 0)), (some (some 63, true))⟩,
    ⟨(some 66), .load 3 (.tmp 65), (some (some 63, true))⟩,
    ⟨(some 67), .binOp .geq 3 (.tmp 66) (.const (.int .i64 1)) 3, (some (some 63, true))⟩,
    ⟨(some 68), .pick (.tmp 63) (.tmp 67) (.const (.bool false)), none⟩,
    ⟨(some 69), .move (.tmp 68), none⟩,
    ⟨(some 70), .move (.tmp 1), (some (some 69, true))⟩,
    ⟨(some 71), .indexAddr 22 (.tmp 70) (.const (.int .i64 1)), (some (some 69, true))⟩,
    ⟨(some 72), .load 3 (.tmp 71), (some (some 69, true))⟩,
    ⟨(some 73), .binOp .geq 3 (.tmp 72) (.const (.int .i64 0)) 3, (some (some 69, true))⟩,
    ⟨(some 74), .pick (.tmp 69) (.tmp 73) (.const (.bool false)), none⟩,
    ⟨(some 75), .move (.tmp 74), none⟩,
    ⟨(some 76), .move (.tmp 1), (some (some 75, true))⟩,
    ⟨(some 77), .indexAddr 22 (.tmp 76) (.const (.int .i64 1)), (some (some 75, true))⟩,
    ⟨(some 78), .load 3 (.tmp 77), (some (some 75, true))⟩,
    ⟨(some 79), .binOp .leq 3 (.tmp 78) (.const (.int .i64 1073741824)) 3, (some (some 75, true))⟩,
    ⟨(some 80), .pick (.tmp 75) (.tmp 79) (.const (.bool false)), none⟩,
    ⟨(some 81), .move (.tmp 80), none⟩,
    ⟨(some 82), .move (.tmp 1), (some (some 81, true))⟩,
    ⟨(some 83), .indexAddr 22 (.tmp 82) (.const (.int .i64 2)), (some (some 81, true))⟩,
    ⟨(some 84), .load 3 (.tmp 83), (some (some 81, true))⟩,
    ⟨(some 85), .binOp .geq 3 (.tmp 84) (.const (.int .i64 1)) 3, (some (some 81, true))⟩,
    ⟨(some 86), .pick (.tmp 81) (.tmp 85) (.const (.bool false)), none⟩,
    ⟨(some 87), .move (.tmp 86), none⟩,
    ⟨(some 88), .move (.tmp 1), (some (some 87, true))⟩,
    ⟨(some 89), .indexAddr 22 (.tmp 88) (.const (.int .i64 2)), (some (some 87, true))⟩,
    ⟨(some 90), .load 3 (.tmp 89), (some (some 87, true))⟩,
    ⟨(some 91), .binOp .leq 3 (.tmp 90) (.const (.int .i64 1099511627776)) 3, (some (some 87, true))⟩,
    ⟨(some 92), .pick (.tmp 87) (.tmp 91) (.const (.bool false)), none⟩,
    ⟨(some 93), .move (.tmp 92), none⟩,
    ⟨(some 94), .move (.tmp 1), (some (some 93, true))⟩,
    ⟨(some 95), .indexAddr 22 (.tmp 94) (.const (.int .i64 3)), (some (some 93, true))⟩,
    ⟨(some 96), .load 3 (.tmp 95), (some (some 93, true))⟩,
    ⟨(some 97), .binOp .geq 3 (.tmp 96) (.const (.int .i64 1)) 3, (some (some 93, true))⟩,
    ⟨(some 98), .pick (.tmp 93) (.tmp 97) (.const (.bool false)), none⟩,
    ⟨(some 99), .move (.tmp 98), none⟩,
    ⟨(some 100), .move (.tmp 1), (some (some 99, true))⟩,
    ⟨(some 101), .indexAddr 22 (.tmp 100) (.const (.int .i64 3)), (some (some 99, true))⟩,
    ⟨(some 102), .load 3 (.tmp 101), (some (some 99, true))⟩,
    ⟨(some 103), .binOp .leq 3 (.tmp 102) (.const (.int .i64 1099511627776)) 3, (some (some 99, true))⟩,
    ⟨(some 104), .pick (.tmp 99) (.tmp 103) (.const (.bool false)), none⟩,
    ⟨(some 4), .assign (.tmp 104), none⟩]) .ret) K t m := rfl

def c_sheafref16_Good_3 : MC := (.seq (.ops [⟨(some 107), .move (.tmp 1), none⟩,
    ⟨(some 108), .call ⟨.builtin .len, #[(.tmp 107)], #[22]⟩, none⟩,
    ⟨(some 109), .binOp .eql 3 (.tmp 108) (.const (.int .i64 6)) 3, none⟩,
    ⟨(some 110), .move (.tmp 109), none⟩,
    ⟨(some 111), .move (.tmp 1), (some (some 110, true))⟩,
    ⟨(some 112), .indexAddr 22 (.tmp 111) (.const (.int .i64 0)), (some (some 110, true))⟩,
    ⟨(some 113), .load 3 (.tmp 112), (some (some 110, true))⟩,
    ⟨(some 114), .binOp .geq 3 (.tmp 113) (.const (.int .i64 1)) 3, (some (some 110, true))⟩,
    ⟨(some 115), .pick (.tmp 110) (.tmp 114) (.const (.bool false)), none⟩,
    ⟨(some 116), .move (.tmp 115), none⟩,
    ⟨(some 117), .move (.tmp 1), (some (some 116, true))⟩,
    ⟨(some 118), .indexAddr 22 (.tmp 117) (.const (.int .i64 1)), (some (some 116, true))⟩,
    ⟨(some 119), .load 3 (.tmp 118), (some (some 116, true))⟩,
    ⟨(some 120), .binOp .geq 3 (.tmp 119) (.const (.int .i64 1)) 3, (some (some 116, true))⟩,
    ⟨(some 121), .pick (.tmp 116) (.tmp 120) (.const (.bool false)), none⟩,
    ⟨(some 122), .move (.tmp 121), none⟩,
    ⟨(some 123), .move (.tmp 1), (some (some 122, true))⟩,
    ⟨(some 124), .indexAddr 22 (.tmp 123) (.const (.int .i64 2)), (some (some 122, true))⟩,
    ⟨(some 125), .load 3 (.tmp 124), (some (some 122, true))⟩,
    ⟨(some 126), .binOp .geq 3 (.tmp 125) (.const (.int .i64 1)) 3, (some (some 122, true))⟩,
    ⟨(some 127), .pick (.tmp 122) (.tmp 126) (.const (.bool false)), none⟩,
    ⟨(some 128), .move (.tmp 127), none⟩,
    ⟨(some 129), .move (.tmp 1), (some (some 128, true))⟩,
    ⟨(some 130), .indexAddr 22 (.tmp 129) (.const (.int .i64 3)), (some (some 128, true))⟩,
    ⟨(some 131), .load 3 (.tmp 130), (some (some 128, true))⟩,
    ⟨(some 132), .binOp .geq 3 (.tmp 131) (.const (.int .i64 0)) 3, (some (some 128, true))⟩,
    ⟨(some 133), .pick (.tmp 128) (.tmp 132) (.const (.bool false)), none⟩,
    ⟨(some 134), .move (.tmp 133), none⟩,
    ⟨(some 135), .move (.tmp 1), (some (some 134, true))⟩,
    ⟨(some 136), .indexAddr 22 (.tmp 135) (.const (.int .i64 4)), (some (some 134, true))⟩,
    ⟨(some 137), .load 3 (.tmp 136), (some (some 134, true))⟩,
    ⟨(some 138), .binOp .gtr 3 (.tmp 137) (.const (.int .i64 (-9223372036854775808))) 3, (some (some 134, true))⟩,
    ⟨(some 139), .pick (.tmp 134) (.tmp 138) (.const (.bool false)), none⟩,
    ⟨(some 140), .move (.tmp 139), none⟩,
    ⟨(some 141), .move (.tmp 1), (some (some 140, true))⟩,
    ⟨(some 142), .indexAddr 22 (.tmp 141) (.const (.int .i64 5)), (some (some 140, true))⟩,
    ⟨(some 143), .load 3 (.tmp 142), (some (some 140, true))⟩,
    ⟨(some 144), .binOp .geq 3 (.tmp 143) (.const (.int .i64 0)) 3, (some (some 140, true))⟩,
    ⟨(some 145), .pick (.tmp 140) (.tmp 144) (.const (.bool false)), none⟩,
    ⟨(some 146), .move (.tmp 145), none⟩,
    ⟨(some 147), .move (.tmp 1), (some (some 146, true))⟩,
    ⟨(some 148), .indexAddr 22 (.tmp 147) (.const (.int .i64 5)), (some (some 146, true))⟩,
    ⟨(some 149), .load 3 (.tmp 148), (some (some 146, true))⟩,
    ⟨(some 150), .move (.tmp 1), (some (some 146, true))⟩,
    ⟨(some 151), .indexAddr 22 (.tmp 150) (.const (.int .i64 1)), (some (some 146, true))⟩,
    ⟨(some 152), .load 3 (.tmp 151), (some (some 146, true))⟩,
    ⟨(some 153), .binOp .neq 3 (.tmp 149) (.tmp 152) 3, (some (some 146, true))⟩,
    ⟨(some 154), .pick (.tmp 146) (.tmp 153) (.const (.bool false)), none⟩,
    ⟨(some 4), .assign (.tmp 154), none⟩]) .ret)
@[go_sem] theorem c_sheafref16_Good_3_at (rd : Option Nat) (K : Post3) (t : Fr) (m : Mem) : wpM E 49 155 rd c_sheafref16_Good_3 K t m = wpM E 49 155 rd (.seq (.ops [⟨(some 107), .move (.tmp 1), none⟩,
    ⟨(some 108), .call ⟨.builtin .len, #[(.tmp 107)], #[22]⟩, none⟩,
    ⟨(some 109), .binOp .eql 3 (.tmp 108) (.const (.int .i64 6)) 3, none⟩,
    ⟨(some 110), .move (.tmp 109), none⟩,
    ⟨(some 111), .move (.tmp 1), (some (some 110, true))⟩,
    ⟨(some 112), .indexAddr 22 (.tmp 111) (.const (.int .i64 0)), (some (some 110, true))⟩,
    ⟨(some 113), .load 3 (.tmp 112), (some (some 110, true))⟩,
    ⟨(some 114), .binOp .geq 3 (.tmp 113) (.const (.int .i64 1)) 3, (some (some 110, true))⟩,
    ⟨(some 115), .pick (.tmp 110) (.tmp 114) (.const (.bool false)), none⟩,
    ⟨(some 116), .move (.tmp 115), none⟩,
    ⟨(some 117), .move (.tmp 1), (some (some 116, true))⟩,
    ⟨(some 118), .indexAddr 22 (.tmp 117) (.const (.int .i64 1)), (some (some 116, true))⟩,
    ⟨(some 119), .load 3 (.tmp 118), (some (some 116, true))⟩,
    ⟨(some 120), .binOp .geq 3 (.tmp 119) (.const (.int .i64 1)) 3, (some (some 116, true))⟩,
    ⟨(some 121), .pick (.tmp 116) (.tmp 120) (.const (.bool false)), none⟩,
    ⟨(some 122), .move (.tmp 121), none⟩,
    ⟨(some 123), .move (.tmp 1), (some (some 122, true))⟩,
    ⟨(some 124), .indexAddr 22 (.tmp 123) (.const (.int .i64 2)), (some (some 122, true))⟩,
    ⟨(some 125), .load 3 (.tmp 124), (some (some 122, true))⟩,
    ⟨(some 126), .binOp .geq 3 (.tmp 125) (.const (.int .i64 1)) 3, (some (some 122, true))⟩,
    ⟨(some 127), .pick (.tmp 122) (.tmp 126) (.const (.bool false)), none⟩,
    ⟨(some 128), .move (.tmp 127), none⟩,
    ⟨(some 129), .move (.tmp 1), (some (some 128, true))⟩,
    ⟨(some 130), .indexAddr 22 (.tmp 129) (.const (.int .i64 3)), (some (some 128, true))⟩,
    ⟨(some 131), .load 3 (.tmp 130), (some (some 128, true))⟩,
    ⟨(some 132), .binOp .geq 3 (.tmp 131) (.const (.int .i64 0)) 3, (some (some 128, true))⟩,
    ⟨(some 133), .pick (.tmp 128) (.tmp 132) (.const (.bool false)), none⟩,
    ⟨(some 134), .move (.tmp 133), none⟩,
    ⟨(some 135), .move (.tmp 1), (some (some 134, true))⟩,
    ⟨(some 136), .indexAddr 22 (.tmp 135) (.const (.int .i64 4)), (some (some 134, true))⟩,
    ⟨(some 137), .load 3 (.tmp 136), (some (some 134, true))⟩,
    ⟨(some 138), .binOp .gtr 3 (.tmp 137) (.const (.int .i64 (-9223372036854775808))) 3, (some (some 134, true))⟩,
    ⟨(some 139), .pick (.tmp 134) (.tmp 138) (.const (.bool false)), none⟩,
    ⟨(some 140), .move (.tmp 139), none⟩,
    ⟨(some 141), .move (.tmp 1), (some (some 140, true))⟩,
    ⟨(some 142), .indexAddr 22 (.tmp 141) (.const (.int .i64 5)), (some (some 140, true))⟩,
    ⟨(some 143), .load 3 (.tmp 142), (some (some 140, true))⟩,
    ⟨(some 144), .binOp .geq 3 (.tmp 143) (.const (.int .i64 0)) 3, (some (some 140, true))⟩,
    ⟨(some 145), .pick (.tmp 140) (.tmp 144) (.const (.bool false)), none⟩,
    ⟨(some 146), .move (.tmp 145), none⟩,
    ⟨(some 147), .move (.tmp 1), (some (some 146, true))⟩,
    ⟨(some 148), .indexAddr 22 (.tmp 147) (.const (.int .i64 5)), (some (some 146, true))⟩,
    ⟨(some 149), .load 3 (.tmp 148), (some (some 146, true))⟩,
    ⟨(some 150), .move (.tmp 1), (some (some 146, true))⟩,
    ⟨(some 151), .indexAddr 22 (.tmp 150) (.const (.int .i64 1)), (some (some 146, true))⟩,
    ⟨(some 152), .load 3 (.tmp 151), (some (some 146, true))⟩,
    ⟨(some 153), .binOp .neq 3 (.tmp 149) (.tmp 152) 3, (some (some 146, true))⟩,
    ⟨(some 154), .pick (.tmp 146) (.tmp 153) (.const (.bool false)), none⟩,
    ⟨(some 4), .assign (.tmp 154), none⟩]) .ret) K t m := rfl

def c_sheafref16_Good_4 : MC := (.cond (.tmp 105) c_sheafref16_Good_3 .skip)
@[go_sem] theorem c_sheafref16_Good_4_at (rd : Option Nat) (K : Post3) (t : Fr) (m : Mem) : wpM E 49 155 rd c_sheafref16_Good_4 K t m = wpM E 49 155 rd (.cond (.tmp 105) c_sheafref16_Good_3 .skip) K t m := rfl

def c_sheafref16_Good_5 : MC := (.seq (.ops [⟨(some 106), .binOp .eql 3 (.tmp 5) (.const (.int .i64 1)) 3, none⟩,
    ⟨(some 105), .assign (.tmp 106), none⟩]) c_sheafref16_Good_4)
@[go_sem] theorem c_sheafref16_Good_5_at (rd : Option Nat) (K : Post3) (t : Fr) (m : Mem) : wpM E 49 155 rd c_sheafref16_Good_5 K t m = wpM E 49 155 rd (.seq (.ops [⟨(some 106), .binOp .eql 3 (.tmp 5) (.const (.int .i64 1)) 3, none⟩,
    ⟨(some 105), .assign (.tmp 106), none⟩]) c_sheafref16_Good_4) K t m := rfl

def c_sheafref16_Good_6 : MC := (.cond (.tmp 58) c_sheafref16_Good_2 c_sheafref16_Good_5)
@[go_sem] theorem c_sheafref16_Good_6_at (rd : Option Nat) (K : Post3) (t : Fr) (m : Mem) : wpM E 49 155 rd c_sheafref16_Good_6 K t m = wpM E 49 155 rd (.cond (.tmp 58) c_sheafref16_Good_2 c_sheafref16_Good_5) K t m := rfl

def c_sheafref16_Good_7 : MC := (.seq (.ops [⟨(some 59), .binOp .eql 3 (.tmp 5) (.const (.int .i64 4)) 3, none⟩,
    ⟨(some 58), .assign (.tmp 59), none⟩]) c_sheafref16_Good_6)
@[go_sem] theorem c_sheafref16_Good_7_at (rd : Option Nat) (K : Post3) (t : Fr) (m : Mem) : wpM E 49 155 rd c_sheafref16_Good_7 K t m = wpM E 49 155 rd (.seq (.ops [⟨(some 59), .binOp .eql 3 (.tmp 5) (.const (.int .i64 4)) 3, none⟩,
    ⟨(some 58), .assign (.tmp 59), none⟩]) c_sheafref16_Good_6) K t m := rfl

def c_sheafref16_Good_8 : MC := (.cond (.tmp 35) c_sheafref16_Good_1 c_sheafref16_Good_7)
@[go_sem] theorem c_sheafref16_Good_8_at (rd : Option Nat) (K : Post3) (t : Fr) (m : Mem) : wpM E 49 155 rd c_sheafref16_Good_8 K t m = wpM E 49 155 rd (.cond (.tmp 35) c_sheafref16_Good_1 c_sheafref16_Good_7) K t m := rfl

def c_sheafref16_Good_9 : MC := (.seq (.ops [⟨(some 36), .binOp .eql 3 (.tmp 5) (.const (.int .i64 3)) 3, none⟩,
    ⟨(some 35), .assign (.tmp 36), none⟩]) c_sheafref16_Good_8)
@[go_sem] theorem c_sheafref16_Good_9_at (rd : Option Nat) (K : Post3) (t : Fr) (m : Mem) : wpM E 49 155 rd c_sheafref16_Good_9 K t m = wpM E 49 155 rd (.seq (.ops [⟨(some 36), .binOp .eql 3 (.tmp 5) (.const (.int .i64 3)) 3, none⟩,
    ⟨(some 35), .assign (.tmp 36), none⟩]) c_sheafref16_Good_8) K t m := rfl

def c_sheafref16_Good_10 : MC := (.cond (.tmp 6) c_sheafref16_Good_0 c_sheafref16_Good_9)
@[go_sem] theorem c_sheafref16_Good_10_at (rd : Option Nat) (K : Post3) (t : Fr) (m : Mem) : wpM E 49 155 rd c_sheafref16_Good_10 K t m = wpM E 49 155 rd (.cond (.tmp 6) c_sheafref16_Good_0 c_sheafref16_Good_9) K t m := rfl

def c_sheafref16_Good_11 : MC := (.seq (.ops [⟨(some 7), .binOp .eql 3 (.tmp 5) (.const (.int .i64 2)) 3, none⟩,
    ⟨(some 6), .assign (.tmp 7), none⟩]) c_sheafref16_Good_10)
@[go_sem] theorem c_sheafref16_Good_11_at (rd : Option Nat) (K : Post3) (t : Fr) (m : Mem) : wpM E 49 155 rd c_sheafref16_Good_11 K t m = wpM E 49 155 rd (.seq (.ops [⟨(some 7), .binOp .eql 3 (.tmp 5) (.const (.int .i64 2)) 3, none⟩,
    ⟨(some 6), .assign (.tmp 7), none⟩]) c_sheafref16_Good_10) K t m := rfl

def c_sheafref16_Good_12 : MC := (.block 0 c_sheafref16_Good_11)
@[go_sem] theorem c_sheafref16_Good_12_at (rd : Option Nat) (K : Post3) (t : Fr) (m : Mem) : wpM E 49 155 rd c_sheafref16_Good_12 K t m = wpM E 49 155 rd (.block 0 c_sheafref16_Good_11) K t m := rfl

def c_sheafref16_Good_13 : MC := (.seq (.ops [⟨(some 5), .move (.tmp 0), none⟩]) c_sheafref16_Good_12)
@[go_sem] theorem c_sheafref16_Good_13_at (rd : Option Nat) (K : Post3) (t : Fr) (m : Mem) : wpM E 49 155 rd c_sheafref16_Good_13 K t m = wpM E 49 155 rd (.seq (.ops [⟨(some 5), .move (.tmp 0), none⟩]) c_sheafref16_Good_12) K t m := rfl

def c_sheafref16_Good_14 : MC := (.seq (.ops [⟨(some 4), .assign (.const (.bool false)), none⟩]) .ret)
@[go_sem] theorem c_sheafref16_Good_14_at (rd : Option Nat) (K : Post3) (t : Fr) (m : Mem) : wpM E 49 155 rd c_sheafref16_Good_14 K t m = wpM E 49 155 rd (.seq (.ops [⟨(some 4), .assign (.const (.bool false)), none⟩]) .ret) K t m := rfl

def c_sheafref16_Good_15 : MC := (.seq c_sheafref16_Good_13 c_sheafref16_Good_14)
@[go_sem] theorem c_sheafref16_Good_15_at (rd : Option Nat) (K : Post3) (t : Fr) (m : Mem) : wpM E 49 155 rd c_sheafref16_Good_15 K t m = wpM E 49 155 rd (.seq c_sheafref16_Good_13 c_sheafref16_Good_14) K t m := rfl

def c_sheafref16_Good_16 : MC := (.seq (.ops [⟨(some 4), .assign (.const (.bool false)), none⟩]) c_sheafref16_Good_15)
@[go_sem] theorem c_sheafref16_Good_16_at (rd : Option Nat) (K : Post3) (t : Fr) (m : Mem) : wpM E 49 155 rd c_sheafref16_Good_16 K t m = wpM E 49 155 rd (.seq (.ops [⟨(some 4), .assign (.const (.bool false)), none⟩]) c_sheafref16_Good_15) K t m := rfl

@[go_sem] theorem some49 : (E.fn 49).isSome = true := by kernel_rfl
set_option maxRecDepth 100000 in
theorem fn_sheafref16_Good : FnIs E 49 155 [.tmp 4] c_sheafref16_Good_16 := ⟨by kernel_rfl, by kernel_rfl⟩

/-! sheaf/sheafref16.find -/

end Go.Proofs.Ytpabllcacdopdaa.W
