/-
  Compact code, printed by a program of mine (wip/dev/AbsPrint.lean).
-/
import Derived.Test.YtpabllcacdopdaaTypes
set_option linter.unusedVariables false
namespace Go.Proofs.Ytpabllcacdopdaa.W
open Go.Abs
noncomputable section

/-! sheaf/sheafref12.Sorted -/
abbrev F_sheafref12_Sorted : FuncId := 18
def c_sheafref12_Sorted_0 : MC := (.cond (.tmp 14) .skip (.exit 0))
@[go_sem] theorem c_sheafref12_Sorted_0_at (rd : Option Nat) (K : Post3) (t : Fr) (m : Mem) : wpM E 18 53 rd c_sheafref12_Sorted_0 K t m = wpM E 18 53 rd (.cond (.tmp 14) .skip (.exit 0)) K t m := rfl

def c_sheafref12_Sorted_1 : MC := (.seq (.ops [⟨(some 11), .move (.tmp 6), none⟩,
    ⟨(some 12), .move (.tmp 5), none⟩,
    ⟨(some 13), .call ⟨.builtin .len, #[(.tmp 12)], #[23]⟩, none⟩,
    ⟨(some 14), .binOp .lss 3 (.tmp 11) (.tmp 13) 3, none⟩]) c_sheafref12_Sorted_0)
@[go_sem] theorem c_sheafref12_Sorted_1_at (rd : Option Nat) (K : Post3) (t : Fr) (m : Mem) : wpM E 18 53 rd c_sheafref12_Sorted_1 K t m = wpM E 18 53 rd (.seq (.ops [⟨(some 11), .move (.tmp 6), none⟩,
    ⟨(some 12), .move (.tmp 5), none⟩,
    ⟨(some 13), .call ⟨.builtin .len, #[(.tmp 12)], #[23]⟩, none⟩,
    ⟨(some 14), .binOp .lss 3 (.tmp 11) (.tmp 13) 3, none⟩]) c_sheafref12_Sorted_0) K t m := rfl

def c_sheafref12_Sorted_2 : MC := (.cond (.tmp 33) .skip (.exit 2))
@[go_sem] theorem c_sheafref12_Sorted_2_at (rd : Option Nat) (K : Post3) (t : Fr) (m : Mem) : wpM E 18 53 rd c_sheafref12_Sorted_2 K t m = wpM E 18 53 rd (.cond (.tmp 33) .skip (.exit 2)) K t m := rfl

def c_sheafref12_Sorted_3 : MC := (.seq (.ops [⟨(some 18), .move (.tmp 7), none⟩,
    ⟨(some 19), .binOp .gtr 3 (.tmp 18) (.const (.int .i64 0)) 3, none⟩,
    ⟨(some 20), .move (.tmp 19), none⟩,
    ⟨(some 21), .move (.tmp 5), (some (some 20, true))⟩,
    ⟨(some 22), .move (.tmp 7), (some (some 20, true))⟩,
    ⟨(some 23), .indexAddr 23 (.tmp 21) (.tmp 22), (some (some 20, true))⟩,
    ⟨(some 24), .load 22 (.tmp 23), (some (some 20, true))⟩,
    ⟨(some 25), .move (.tmp 5), (some (some 20, true))⟩,
    ⟨(some 26), .move (.tmp 7), (some (some 20, true))⟩,
    ⟨(some 27), .binOp .sub 3 (.tmp 26) (.const (.int .i64 1)) 3, (some (some 20, true))⟩,
    ⟨(some 28), .indexAddr 23 (.tmp 25) (.tmp 27), (some (some 20, true))⟩,
    ⟨(some 29), .load 22 (.tmp 28), (some (some 20, true))⟩,
    ⟨(some 30), .move (.tmp 1), (some (some 20, true))⟩,
    ⟨(some 31), .call ⟨.value (.func 39), #[(.tmp 24), (.tmp 29), (.tmp 30)], #[22, 22, 22]⟩, (some (some 20, true))⟩,
    ⟨(some 32), .binOp .lss 3 (.tmp 31) (.const (.int .i64 0)) 3, (some (some 20, true))⟩,
    ⟨(some 33), .pick (.tmp 20) (.tmp 32) (.const (.bool false)), none⟩]) c_sheafref12_Sorted_2)
@[go_sem] theorem c_sheafref12_Sorted_3_at (rd : Option Nat) (K : Post3) (t : Fr) (m : Mem) : wpM E 18 53 rd c_sheafref12_Sorted_3 K t m = wpM E 18 53 rd (.seq (.ops [⟨(some 18), .move (.tmp 7), none⟩,
    ⟨(some 19), .binOp .gtr 3 (.tmp 18) (.const (.int .i64 0)) 3, none⟩,
    ⟨(some 20), .move (.tmp 19), none⟩,
    ⟨(some 21), .move (.tmp 5), (some (some 20, true))⟩,
    ⟨(some 22), .move (.tmp 7), (some (some 20, true))⟩,
    ⟨(some 23), .indexAddr 23 (.tmp 21) (.tmp 22), (some (some 20, true))⟩,
    ⟨(some 24), .load 22 (.tmp 23), (some (some 20, true))⟩,
    ⟨(some 25), .move (.tmp 5), (some (some 20, true))⟩,
    ⟨(some 26), .move (.tmp 7), (some (some 20, true))⟩,
    ⟨(some 27), .binOp .sub 3 (.tmp 26) (.const (.int .i64 1)) 3, (some (some 20, true))⟩,
    ⟨(some 28), .indexAddr 23 (.tmp 25) (.tmp 27), (some (some 20, true))⟩,
    ⟨(some 29), .load 22 (.tmp 28), (some (some 20, true))⟩,
    ⟨(some 30), .move (.tmp 1), (some (some 20, true))⟩,
    ⟨(some 31), .call ⟨.value (.func 39), #[(.tmp 24), (.tmp 29), (.tmp 30)], #[22, 22, 22]⟩, (some (some 20, true))⟩,
    ⟨(some 32), .binOp .lss 3 (.tmp 31) (.const (.int .i64 0)) 3, (some (some 20, true))⟩,
    ⟨(some 33), .pick (.tmp 20) (.tmp 32) (.const (.bool false)), none⟩]) c_sheafref12_Sorted_2) K t m := rfl

def c_sheafref12_Sorted_4 : MC := (.block 3 (.ops [⟨(some 36), .move (.tmp 5), none⟩,
    ⟨(some 37), .move (.tmp 7), none⟩,
    ⟨(some 38), .move (.tmp 5), none⟩,
    ⟨(some 39), .move (.tmp 7), none⟩,
    ⟨(some 40), .binOp .sub 3 (.tmp 39) (.const (.int .i64 1)) 3, none⟩,
    ⟨(some 41), .move (.tmp 5), none⟩,
    ⟨(some 42), .move (.tmp 7), none⟩,
    ⟨(some 43), .binOp .sub 3 (.tmp 42) (.const (.int .i64 1)) 3, none⟩,
    ⟨(some 44), .indexAddr 23 (.tmp 41) (.tmp 43), none⟩,
    ⟨(some 45), .load 22 (.tmp 44), none⟩,
    ⟨(some 46), .move (.tmp 5), none⟩,
    ⟨(some 47), .move (.tmp 7), none⟩,
    ⟨(some 48), .indexAddr 23 (.tmp 46) (.tmp 47), none⟩,
    ⟨(some 49), .load 22 (.tmp 48), none⟩,
    ⟨(some 50), .indexAddr 23 (.tmp 36) (.tmp 37), none⟩,
    ⟨none, .store 22 (.tmp 50) (.tmp 45), none⟩,
    ⟨(some 51), .indexAddr 23 (.tmp 38) (.tmp 40), none⟩,
    ⟨none, .store 22 (.tmp 51) (.tmp 49), none⟩]))
@[go_sem] theorem c_sheafref12_Sorted_4_at (rd : Option Nat) (K : Post3) (t : Fr) (m : Mem) : wpM E 18 53 rd c_sheafref12_Sorted_4 K t m = wpM E 18 53 rd (.block 3 (.ops [⟨(some 36), .move (.tmp 5), none⟩,
    ⟨(some 37), .move (.tmp 7), none⟩,
    ⟨(some 38), .move (.tmp 5), none⟩,
    ⟨(some 39), .move (.tmp 7), none⟩,
    ⟨(some 40), .binOp .sub 3 (.tmp 39) (.const (.int .i64 1)) 3, none⟩,
    ⟨(some 41), .move (.tmp 5), none⟩,
    ⟨(some 42), .move (.tmp 7), none⟩,
    ⟨(some 43), .binOp .sub 3 (.tmp 42) (.const (.int .i64 1)) 3, none⟩,
    ⟨(some 44), .indexAddr 23 (.tmp 41) (.tmp 43), none⟩,
    ⟨(some 45), .load 22 (.tmp 44), none⟩,
    ⟨(some 46), .move (.tmp 5), none⟩,
    ⟨(some 47), .move (.tmp 7), none⟩,
    ⟨(some 48), .indexAddr 23 (.tmp 46) (.tmp 47), none⟩,
    ⟨(some 49), .load 22 (.tmp 48), none⟩,
    ⟨(some 50), .indexAddr 23 (.tmp 36) (.tmp 37), none⟩,
    ⟨none, .store 22 (.tmp 50) (.tmp 45), none⟩,
    ⟨(some 51), .indexAddr 23 (.tmp 38) (.tmp 40), none⟩,
    ⟨none, .store 22 (.tmp 51) (.tmp 49), none⟩])) K t m := rfl

def c_sheafref12_Sorted_5 : MC := (.seq c_sheafref12_Sorted_4 (.ops [⟨(some 34), .move (.tmp 7), none⟩,
    ⟨(some 35), .binOp .sub 3 (.tmp 34) (.const (.int .i64 1)) 3, none⟩,
    ⟨(some 7), .assign (.tmp 35), none⟩]))
@[go_sem] theorem c_sheafref12_Sorted_5_at (rd : Option Nat) (K : Post3) (t : Fr) (m : Mem) : wpM E 18 53 rd c_sheafref12_Sorted_5 K t m = wpM E 18 53 rd (.seq c_sheafref12_Sorted_4 (.ops [⟨(some 34), .move (.tmp 7), none⟩,
    ⟨(some 35), .binOp .sub 3 (.tmp 34) (.const (.int .i64 1)) 3, none⟩,
    ⟨(some 7), .assign (.tmp 35), none⟩])) K t m := rfl

def c_sheafref12_Sorted_6 : MC := (.seq c_sheafref12_Sorted_3 c_sheafref12_Sorted_5)
@[go_sem] theorem c_sheafref12_Sorted_6_at (rd : Option Nat) (K : Post3) (t : Fr) (m : Mem) : wpM E 18 53 rd c_sheafref12_Sorted_6 K t m = wpM E 18 53 rd (.seq c_sheafref12_Sorted_3 c_sheafref12_Sorted_5) K t m := rfl

def c_sheafref12_Sorted_7 : MC := (.loop c_sheafref12_Sorted_6)
theorem c_sheafref12_Sorted_7_at (rd : Option Nat) (K : Post3) (t : Fr) (m : Mem) : wpM E 18 53 rd c_sheafref12_Sorted_7 K t m = wpM E 18 53 rd (.loop c_sheafref12_Sorted_6) K t m := rfl

def c_sheafref12_Sorted_8 : MC := (.block 2 c_sheafref12_Sorted_7)
theorem c_sheafref12_Sorted_8_at (rd : Option Nat) (K : Post3) (t : Fr) (m : Mem) : wpM E 18 53 rd c_sheafref12_Sorted_8 K t m = wpM E 18 53 rd (.block 2 c_sheafref12_Sorted_7) K t m := rfl

def c_sheafref12_Sorted_9 : MC := (.seq (.ops [⟨(some 17), .move (.tmp 6), none⟩,
    ⟨(some 7), .assign (.tmp 17), none⟩]) c_sheafref12_Sorted_8)
@[go_sem] theorem c_sheafref12_Sorted_9_at (rd : Option Nat) (K : Post3) (t : Fr) (m : Mem) : wpM E 18 53 rd c_sheafref12_Sorted_9 K t m = wpM E 18 53 rd (.seq (.ops [⟨(some 17), .move (.tmp 6), none⟩,
    ⟨(some 7), .assign (.tmp 17), none⟩]) c_sheafref12_Sorted_8) K t m := rfl

def c_sheafref12_Sorted_10 : MC := (.block 1 c_sheafref12_Sorted_9)
@[go_sem] theorem c_sheafref12_Sorted_10_at (rd : Option Nat) (K : Post3) (t : Fr) (m : Mem) : wpM E 18 53 rd c_sheafref12_Sorted_10 K t m = wpM E 18 53 rd (.block 1 c_sheafref12_Sorted_9) K t m := rfl

def c_sheafref12_Sorted_11 : MC := (.seq c_sheafref12_Sorted_10 (.ops [⟨(some 15), .move (.tmp 6), none⟩,
    ⟨(some 16), .binOp .add 3 (.tmp 15) (.const (.int .i64 1)) 3, none⟩,
    ⟨(some 6), .assign (.tmp 16), none⟩]))
@[go_sem] theorem c_sheafref12_Sorted_11_at (rd : Option Nat) (K : Post3) (t : Fr) (m : Mem) : wpM E 18 53 rd c_sheafref12_Sorted_11 K t m = wpM E 18 53 rd (.seq c_sheafref12_Sorted_10 (.ops [⟨(some 15), .move (.tmp 6), none⟩,
    ⟨(some 16), .binOp .add 3 (.tmp 15) (.const (.int .i64 1)) 3, none⟩,
    ⟨(some 6), .assign (.tmp 16), none⟩])) K t m := rfl

def c_sheafref12_Sorted_12 : MC := (.seq c_sheafref12_Sorted_1 c_sheafref12_Sorted_11)
@[go_sem] theorem c_sheafref12_Sorted_12_at (rd : Option Nat) (K : Post3) (t : Fr) (m : Mem) : wpM E 18 53 rd c_sheafref12_Sorted_12 K t m = wpM E 18 53 rd (.seq c_sheafref12_Sorted_1 c_sheafref12_Sorted_11) K t m := rfl

def c_sheafref12_Sorted_13 : MC := (.loop c_sheafref12_Sorted_12)
theorem c_sheafref12_Sorted_13_at (rd : Option Nat) (K : Post3) (t : Fr) (m : Mem) : wpM E 18 53 rd c_sheafref12_Sorted_13 K t m = wpM E 18 53 rd (.loop c_sheafref12_Sorted_12) K t m := rfl

def c_sheafref12_Sorted_14 : MC := (.block 0 c_sheafref12_Sorted_13)
theorem c_sheafref12_Sorted_14_at (rd : Option Nat) (K : Post3) (t : Fr) (m : Mem) : wpM E 18 53 rd c_sheafref12_Sorted_14 K t m = wpM E 18 53 rd (.block 0 c_sheafref12_Sorted_13) K t m := rfl

def c_sheafref12_Sorted_15 : MC := (.seq (.ops [⟨(some 6), .assign (.const (.int .i64 1)), none⟩]) c_sheafref12_Sorted_14)
@[go_sem] theorem c_sheafref12_Sorted_15_at (rd : Option Nat) (K : Post3) (t : Fr) (m : Mem) : wpM E 18 53 rd c_sheafref12_Sorted_15 K t m = wpM E 18 53 rd (.seq (.ops [⟨(some 6), .assign (.const (.int .i64 1)), none⟩]) c_sheafref12_Sorted_14) K t m := rfl

def c_sheafref12_Sorted_16 : MC := (.seq (.ops [⟨(some 52), .move (.tmp 5), none⟩,
    ⟨(some 4), .assign (.tmp 52), none⟩]) .ret)
@[go_sem] theorem c_sheafref12_Sorted_16_at (rd : Option Nat) (K : Post3) (t : Fr) (m : Mem) : wpM E 18 53 rd c_sheafref12_Sorted_16 K t m = wpM E 18 53 rd (.seq (.ops [⟨(some 52), .move (.tmp 5), none⟩,
    ⟨(some 4), .assign (.tmp 52), none⟩]) .ret) K t m := rfl

def c_sheafref12_Sorted_17 : MC := (.seq c_sheafref12_Sorted_15 c_sheafref12_Sorted_16)
@[go_sem] theorem c_sheafref12_Sorted_17_at (rd : Option Nat) (K : Post3) (t : Fr) (m : Mem) : wpM E 18 53 rd c_sheafref12_Sorted_17 K t m = wpM E 18 53 rd (.seq c_sheafref12_Sorted_15 c_sheafref12_Sorted_16) K t m := rfl

def c_sheafref12_Sorted_18 : MC := (.seq (.ops [⟨(some 8), .buildSlice 23 0 #[], none⟩,
    ⟨(some 9), .move (.tmp 0), none⟩,
    ⟨(some 10), .call ⟨.builtin .append, #[(.tmp 8), (.tmp 9)], #[23, 23]⟩, none⟩,
    ⟨(some 5), .assign (.tmp 10), none⟩]) c_sheafref12_Sorted_17)
@[go_sem] theorem c_sheafref12_Sorted_18_at (rd : Option Nat) (K : Post3) (t : Fr) (m : Mem) : wpM E 18 53 rd c_sheafref12_Sorted_18 K t m = wpM E 18 53 rd (.seq (.ops [⟨(some 8), .buildSlice 23 0 #[], none⟩,
    ⟨(some 9), .move (.tmp 0), none⟩,
    ⟨(some 10), .call ⟨.builtin .append, #[(.tmp 8), (.tmp 9)], #[23, 23]⟩, none⟩,
    ⟨(some 5), .assign (.tmp 10), none⟩]) c_sheafref12_Sorted_17) K t m := rfl

def c_sheafref12_Sorted_19 : MC := (.seq (.ops [⟨(some 4), .assign (.const (.slice none 0 0)), none⟩]) c_sheafref12_Sorted_18)
@[go_sem] theorem c_sheafref12_Sorted_19_at (rd : Option Nat) (K : Post3) (t : Fr) (m : Mem) : wpM E 18 53 rd c_sheafref12_Sorted_19 K t m = wpM E 18 53 rd (.seq (.ops [⟨(some 4), .assign (.const (.slice none 0 0)), none⟩]) c_sheafref12_Sorted_18) K t m := rfl

@[go_sem] theorem some18 : (E.fn 18).isSome = true := by kernel_rfl
set_option maxRecDepth 100000 in
theorem fn_sheafref12_Sorted : FnIs E 18 53 [.tmp 4] c_sheafref12_Sorted_19 := ⟨by kernel_rfl, by kernel_rfl⟩

/-! sheaf/sheafref16.Why -/
abbrev F_sheafref16_Why : FuncId := 28
def c_sheafref16_Why_0 : MC := (.seq (.ops [⟨(some 6), .assign (.const (.slice none 0 0)), none⟩,
    ⟨(some 7), .assign (.const (.int .i64 1)), none⟩]) .ret)
@[go_sem] theorem c_sheafref16_Why_0_at (rd : Option Nat) (K : Post3) (t : Fr) (m : Mem) : wpM E 28 144 rd c_sheafref16_Why_0 K t m = wpM E 28 144 rd (.seq (.ops [⟨(some 6), .assign (.const (.slice none 0 0)), none⟩,
    ⟨(some 7), .assign (.const (.int .i64 1)), none⟩]) .ret) K t m := rfl

def c_sheafref16_Why_1 : MC := (.cond (.tmp 21) c_sheafref16_Why_0 .skip)
@[go_sem] theorem c_sheafref16_Why_1_at (rd : Option Nat) (K : Post3) (t : Fr) (m : Mem) : wpM E 28 144 rd c_sheafref16_Why_1 K t m = wpM E 28 144 rd (.cond (.tmp 21) c_sheafref16_Why_0 .skip) K t m := rfl

def c_sheafref16_Why_2 : MC := (.seq (.ops [⟨(some 19), .move (.tmp 2), none⟩,
    ⟨(some 20), .call ⟨.value (.func 49), #[(.const (.int .i64 1)), (.tmp 19)], #[3, 22]⟩, none⟩,
    ⟨(some 21), .unOp .not 4 (.tmp 20), none⟩]) c_sheafref16_Why_1)
@[go_sem] theorem c_sheafref16_Why_2_at (rd : Option Nat) (K : Post3) (t : Fr) (m : Mem) : wpM E 28 144 rd c_sheafref16_Why_2 K t m = wpM E 28 144 rd (.seq (.ops [⟨(some 19), .move (.tmp 2), none⟩,
    ⟨(some 20), .call ⟨.value (.func 49), #[(.const (.int .i64 1)), (.tmp 19)], #[3, 22]⟩, none⟩,
    ⟨(some 21), .unOp .not 4 (.tmp 20), none⟩]) c_sheafref16_Why_1) K t m := rfl

def c_sheafref16_Why_3 : MC := (.cond (.tmp 26) .skip (.exit 0))
@[go_sem] theorem c_sheafref16_Why_3_at (rd : Option Nat) (K : Post3) (t : Fr) (m : Mem) : wpM E 28 144 rd c_sheafref16_Why_3 K t m = wpM E 28 144 rd (.cond (.tmp 26) .skip (.exit 0)) K t m := rfl

def c_sheafref16_Why_4 : MC := (.cond (.tmp 39) (.ops [⟨(some 40), .move (.tmp 8), none⟩,
    ⟨(some 41), .binOp .add 3 (.tmp 40) (.const (.int .i64 1)) 3, none⟩,
    ⟨(some 8), .assign (.tmp 41), none⟩]) .skip)
@[go_sem] theorem c_sheafref16_Why_4_at (rd : Option Nat) (K : Post3) (t : Fr) (m : Mem) : wpM E 28 144 rd c_sheafref16_Why_4 K t m = wpM E 28 144 rd (.cond (.tmp 39) (.ops [⟨(some 40), .move (.tmp 8), none⟩,
    ⟨(some 41), .binOp .add 3 (.tmp 40) (.const (.int .i64 1)) 3, none⟩,
    ⟨(some 8), .assign (.tmp 41), none⟩]) .skip) K t m := rfl

def c_sheafref16_Why_5 : MC := (.seq (.ops [⟨(some 29), .move (.tmp 10), none⟩,
    ⟨(some 30), .call ⟨.value (.func 49), #[(.const (.int .i64 1)), (.tmp 29)], #[3, 22]⟩, none⟩,
    ⟨(some 31), .move (.tmp 30), none⟩,
    ⟨(some 32), .move (.tmp 10), (some (some 31, true))⟩,
    ⟨(some 33), .indexAddr 22 (.tmp 32) (.const (.int .i64 0)), (some (some 31, true))⟩,
    ⟨(some 34), .load 3 (.tmp 33), (some (some 31, true))⟩,
    ⟨(some 35), .move (.tmp 2), (some (some 31, true))⟩,
    ⟨(some 36), .indexAddr 22 (.tmp 35) (.const (.int .i64 0)), (some (some 31, true))⟩,
    ⟨(some 37), .load 3 (.tmp 36), (some (some 31, true))⟩,
    ⟨(some 38), .binOp .eql 3 (.tmp 34) (.tmp 37) 3, (some (some 31, true))⟩,
    ⟨(some 39), .pick (.tmp 31) (.tmp 38) (.const (.bool false)), none⟩]) c_sheafref16_Why_4)
@[go_sem] theorem c_sheafref16_Why_5_at (rd : Option Nat) (K : Post3) (t : Fr) (m : Mem) : wpM E 28 144 rd c_sheafref16_Why_5 K t m = wpM E 28 144 rd (.seq (.ops [⟨(some 29), .move (.tmp 10), none⟩,
    ⟨(some 30), .call ⟨.value (.func 49), #[(.const (.int .i64 1)), (.tmp 29)], #[3, 22]⟩, none⟩,
    ⟨(some 31), .move (.tmp 30), none⟩,
    ⟨(some 32), .move (.tmp 10), (some (some 31, true))⟩,
    ⟨(some 33), .indexAddr 22 (.tmp 32) (.const (.int .i64 0)), (some (some 31, true))⟩,
    ⟨(some 34), .load 3 (.tmp 33), (some (some 31, true))⟩,
    ⟨(some 35), .move (.tmp 2), (some (some 31, true))⟩,
    ⟨(some 36), .indexAddr 22 (.tmp 35) (.const (.int .i64 0)), (some (some 31, true))⟩,
    ⟨(some 37), .load 3 (.tmp 36), (some (some 31, true))⟩,
    ⟨(some 38), .binOp .eql 3 (.tmp 34) (.tmp 37) 3, (some (some 31, true))⟩,
    ⟨(some 39), .pick (.tmp 31) (.tmp 38) (.const (.bool false)), none⟩]) c_sheafref16_Why_4) K t m := rfl

def c_sheafref16_Why_6 : MC := (.seq (.ops [⟨(some 27), .indexAddr 23 (.tmp 23) (.tmp 25), none⟩,
    ⟨(some 28), .load 22 (.tmp 27), none⟩,
    ⟨(some 10), .assign (.tmp 28), none⟩]) c_sheafref16_Why_5)
@[go_sem] theorem c_sheafref16_Why_6_at (rd : Option Nat) (K : Post3) (t : Fr) (m : Mem) : wpM E 28 144 rd c_sheafref16_Why_6 K t m = wpM E 28 144 rd (.seq (.ops [⟨(some 27), .indexAddr 23 (.tmp 23) (.tmp 25), none⟩,
    ⟨(some 28), .load 22 (.tmp 27), none⟩,
    ⟨(some 10), .assign (.tmp 28), none⟩]) c_sheafref16_Why_5) K t m := rfl

def c_sheafref16_Why_7 : MC := (.block 1 c_sheafref16_Why_6)
@[go_sem] theorem c_sheafref16_Why_7_at (rd : Option Nat) (K : Post3) (t : Fr) (m : Mem) : wpM E 28 144 rd c_sheafref16_Why_7 K t m = wpM E 28 144 rd (.block 1 c_sheafref16_Why_6) K t m := rfl

def c_sheafref16_Why_8 : MC := (.seq c_sheafref16_Why_7 (.ops [⟨(some 42), .binOp .add 3 (.tmp 25) (.const (.int .i64 1)) 3, none⟩,
    ⟨(some 25), .move (.tmp 42), none⟩]))
@[go_sem] theorem c_sheafref16_Why_8_at (rd : Option Nat) (K : Post3) (t : Fr) (m : Mem) : wpM E 28 144 rd c_sheafref16_Why_8 K t m = wpM E 28 144 rd (.seq c_sheafref16_Why_7 (.ops [⟨(some 42), .binOp .add 3 (.tmp 25) (.const (.int .i64 1)) 3, none⟩,
    ⟨(some 25), .move (.tmp 42), none⟩])) K t m := rfl

def c_sheafref16_Why_9 : MC := (.seq c_sheafref16_Why_3 c_sheafref16_Why_8)
@[go_sem] theorem c_sheafref16_Why_9_at (rd : Option Nat) (K : Post3) (t : Fr) (m : Mem) : wpM E 28 144 rd c_sheafref16_Why_9 K t m = wpM E 28 144 rd (.seq c_sheafref16_Why_3 c_sheafref16_Why_8) K t m := rfl

def c_sheafref16_Why_10 : MC := (.seq (.ops [⟨(some 26), .binOp .lss 3 (.tmp 25) (.tmp 24) 3, none⟩]) c_sheafref16_Why_9)
@[go_sem] theorem c_sheafref16_Why_10_at (rd : Option Nat) (K : Post3) (t : Fr) (m : Mem) : wpM E 28 144 rd c_sheafref16_Why_10 K t m = wpM E 28 144 rd (.seq (.ops [⟨(some 26), .binOp .lss 3 (.tmp 25) (.tmp 24) 3, none⟩]) c_sheafref16_Why_9) K t m := rfl

def c_sheafref16_Why_11 : MC := (.loop c_sheafref16_Why_10)
theorem c_sheafref16_Why_11_at (rd : Option Nat) (K : Post3) (t : Fr) (m : Mem) : wpM E 28 144 rd c_sheafref16_Why_11 K t m = wpM E 28 144 rd (.loop c_sheafref16_Why_10) K t m := rfl

def c_sheafref16_Why_12 : MC := (.block 0 c_sheafref16_Why_11)
theorem c_sheafref16_Why_12_at (rd : Option Nat) (K : Post3) (t : Fr) (m : Mem) : wpM E 28 144 rd c_sheafref16_Why_12 K t m = wpM E 28 144 rd (.block 0 c_sheafref16_Why_11) K t m := rfl

def c_sheafref16_Why_13 : MC := (.seq (.ops [⟨(some 22), .fieldAddr 55 (.tmp 3) 0, none⟩,
    ⟨(some 23), .load 23 (.tmp 22), none⟩,
    ⟨(some 24), .call ⟨.builtin .len, #[(.tmp 23)], #[23]⟩, none⟩,
    ⟨(some 25), .move (.const (.int .i64 0)), none⟩]) c_sheafref16_Why_12)
@[go_sem] theorem c_sheafref16_Why_13_at (rd : Option Nat) (K : Post3) (t : Fr) (m : Mem) : wpM E 28 144 rd c_sheafref16_Why_13 K t m = wpM E 28 144 rd (.seq (.ops [⟨(some 22), .fieldAddr 55 (.tmp 3) 0, none⟩,
    ⟨(some 23), .load 23 (.tmp 22), none⟩,
    ⟨(some 24), .call ⟨.builtin .len, #[(.tmp 23)], #[23]⟩, none⟩,
    ⟨(some 25), .move (.const (.int .i64 0)), none⟩]) c_sheafref16_Why_12) K t m := rfl

def c_sheafref16_Why_14 : MC := (.seq (.ops [⟨(some 6), .assign (.const (.slice none 0 0)), none⟩,
    ⟨(some 7), .assign (.const (.int .i64 2)), none⟩]) .ret)
@[go_sem] theorem c_sheafref16_Why_14_at (rd : Option Nat) (K : Post3) (t : Fr) (m : Mem) : wpM E 28 144 rd c_sheafref16_Why_14 K t m = wpM E 28 144 rd (.seq (.ops [⟨(some 6), .assign (.const (.slice none 0 0)), none⟩,
    ⟨(some 7), .assign (.const (.int .i64 2)), none⟩]) .ret) K t m := rfl

def c_sheafref16_Why_15 : MC := (.cond (.tmp 44) c_sheafref16_Why_14 .skip)
@[go_sem] theorem c_sheafref16_Why_15_at (rd : Option Nat) (K : Post3) (t : Fr) (m : Mem) : wpM E 28 144 rd c_sheafref16_Why_15 K t m = wpM E 28 144 rd (.cond (.tmp 44) c_sheafref16_Why_14 .skip) K t m := rfl

def c_sheafref16_Why_16 : MC := (.seq (.ops [⟨(some 43), .move (.tmp 8), none⟩,
    ⟨(some 44), .binOp .gtr 3 (.tmp 43) (.const (.int .i64 1)) 3, none⟩]) c_sheafref16_Why_15)
@[go_sem] theorem c_sheafref16_Why_16_at (rd : Option Nat) (K : Post3) (t : Fr) (m : Mem) : wpM E 28 144 rd c_sheafref16_Why_16 K t m = wpM E 28 144 rd (.seq (.ops [⟨(some 43), .move (.tmp 8), none⟩,
    ⟨(some 44), .binOp .gtr 3 (.tmp 43) (.const (.int .i64 1)) 3, none⟩]) c_sheafref16_Why_15) K t m := rfl

def c_sheafref16_Why_17 : MC := (.seq (.ops [⟨(some 6), .assign (.const (.slice none 0 0)), none⟩,
    ⟨(some 7), .assign (.const (.int .i64 3)), none⟩]) .ret)
@[go_sem] theorem c_sheafref16_Why_17_at (rd : Option Nat) (K : Post3) (t : Fr) (m : Mem) : wpM E 28 144 rd c_sheafref16_Why_17 K t m = wpM E 28 144 rd (.seq (.ops [⟨(some 6), .assign (.const (.slice none 0 0)), none⟩,
    ⟨(some 7), .assign (.const (.int .i64 3)), none⟩]) .ret) K t m := rfl

def c_sheafref16_Why_18 : MC := (.cond (.tmp 58) c_sheafref16_Why_17 .skip)
@[go_sem] theorem c_sheafref16_Why_18_at (rd : Option Nat) (K : Post3) (t : Fr) (m : Mem) : wpM E 28 144 rd c_sheafref16_Why_18 K t m = wpM E 28 144 rd (.cond (.tmp 58) c_sheafref16_Why_17 .skip) K t m := rfl

def c_sheafref16_Why_19 : MC := (.seq (.ops [⟨(some 45), .move (.tmp 2), none⟩,
    ⟨(some 46), .indexAddr 22 (.tmp 45) (.const (.int .i64 3)), none⟩,
    ⟨(some 47), .load 3 (.tmp 46), none⟩,
    ⟨(some 48), .fieldAddr 46 (.tmp 4) 0, none⟩,
    ⟨(some 49), .load 3 (.tmp 48), none⟩,
    ⟨(some 50), .binOp .lss 3 (.tmp 47) (.tmp 49) 3, none⟩,
    ⟨(some 51), .move (.tmp 50), none⟩,
    ⟨(some 52), .move (.tmp 2), (some (some 51, false))⟩,
    ⟨(some 53), .indexAddr 22 (.tmp 52) (.const (.int .i64 3)), (some (some 51, false))⟩,
    ⟨(some 54), .load 3 (.tmp 53), (some (some 51, false))⟩,
    ⟨(some 55), .fieldAddr 46 (.tmp 4) 1, (some (some 51, false))⟩,
    ⟨(some 56), .load 3 (.tmp 55), (some (some 51, false))⟩,
    ⟨(some 57), .binOp .gtr 3 (.tmp 54) (.tmp 56) 3, (some (some 51, false))⟩,
    ⟨(some 58), .pick (.tmp 51) (.const (.bool true)) (.tmp 57), none⟩]) c_sheafref16_Why_18)
@[go_sem] theorem c_sheafref16_Why_19_at (rd : Option Nat) (K : Post3) (t : Fr) (m : Mem) : wpM E 28 144 rd c_sheafref16_Why_19 K t m = wpM E 28 144 rd (.seq (.ops [⟨(some 45), .move (.tmp 2), none⟩,
    ⟨(some 46), .indexAddr 22 (.tmp 45) (.const (.int .i64 3)), none⟩,
    ⟨(some 47), .load 3 (.tmp 46), none⟩,
    ⟨(some 48), .fieldAddr 46 (.tmp 4) 0, none⟩,
    ⟨(some 49), .load 3 (.tmp 48), none⟩,
    ⟨(some 50), .binOp .lss 3 (.tmp 47) (.tmp 49) 3, none⟩,
    ⟨(some 51), .move (.tmp 50), none⟩,
    ⟨(some 52), .move (.tmp 2), (some (some 51, false))⟩,
    ⟨(some 53), .indexAddr 22 (.tmp 52) (.const (.int .i64 3)), (some (some 51, false))⟩,
    ⟨(some 54), .load 3 (.tmp 53), (some (some 51, false))⟩,
    ⟨(some 55), .fieldAddr 46 (.tmp 4) 1, (some (some 51, false))⟩,
    ⟨(some 56), .load 3 (.tmp 55), (some (some 51, false))⟩,
    ⟨(some 57), .binOp .gtr 3 (.tmp 54) (.tmp 56) 3, (some (some 51, false))⟩,
    ⟨(some 58), .pick (.tmp 51) (.const (.bool true)) (.tmp 57), none⟩]) c_sheafref16_Why_18) K t m := rfl

def c_sheafref16_Why_20 : MC := (.seq (.ops [⟨(some 6), .assign (.const (.slice none 0 0)), none⟩,
    ⟨(some 7), .assign (.const (.int .i64 4)), none⟩]) .ret)
@[go_sem] theorem c_sheafref16_Why_20_at (rd : Option Nat) (K : Post3) (t : Fr) (m : Mem) : wpM E 28 144 rd c_sheafref16_Why_20 K t m = wpM E 28 144 rd (.seq (.ops [⟨(some 6), .assign (.const (.slice none 0 0)), none⟩,
    ⟨(some 7), .assign (.const (.int .i64 4)), none⟩]) .ret) K t m := rfl

def c_sheafref16_Why_21 : MC := (.cond (.tmp 69) c_sheafref16_Why_20 .skip)
@[go_sem] theorem c_sheafref16_Why_21_at (rd : Option Nat) (K : Post3) (t : Fr) (m : Mem) : wpM E 28 144 rd c_sheafref16_Why_21 K t m = wpM E 28 144 rd (.cond (.tmp 69) c_sheafref16_Why_20 .skip) K t m := rfl

def c_sheafref16_Why_22 : MC := (.seq (.ops [⟨(some 68), .move (.tmp 12), none⟩,
    ⟨(some 69), .unOp .not 4 (.tmp 68), none⟩]) c_sheafref16_Why_21)
@[go_sem] theorem c_sheafref16_Why_22_at (rd : Option Nat) (K : Post3) (t : Fr) (m : Mem) : wpM E 28 144 rd c_sheafref16_Why_22 K t m = wpM E 28 144 rd (.seq (.ops [⟨(some 68), .move (.tmp 12), none⟩,
    ⟨(some 69), .unOp .not 4 (.tmp 68), none⟩]) c_sheafref16_Why_21) K t m := rfl

def c_sheafref16_Why_23 : MC := (.seq (.ops [⟨(some 6), .assign (.const (.slice none 0 0)), none⟩,
    ⟨(some 7), .assign (.const (.int .i64 5)), none⟩]) .ret)
@[go_sem] theorem c_sheafref16_Why_23_at (rd : Option Nat) (K : Post3) (t : Fr) (m : Mem) : wpM E 28 144 rd c_sheafref16_Why_23 K t m = wpM E 28 144 rd (.seq (.ops [⟨(some 6), .assign (.const (.slice none 0 0)), none⟩,
    ⟨(some 7), .assign (.const (.int .i64 5)), none⟩]) .ret) K t m := rfl

def c_sheafref16_Why_24 : MC := (.cond (.tmp 80) c_sheafref16_Why_23 .skip)
@[go_sem] theorem c_sheafref16_Why_24_at (rd : Option Nat) (K : Post3) (t : Fr) (m : Mem) : wpM E 28 144 rd c_sheafref16_Why_24 K t m = wpM E 28 144 rd (.cond (.tmp 80) c_sheafref16_Why_23 .skip) K t m := rfl

def c_sheafref16_Why_25 : MC := (.seq (.ops [⟨(some 79), .move (.tmp 12), none⟩,
    ⟨(some 80), .unOp .not 4 (.tmp 79), none⟩]) c_sheafref16_Why_24)
@[go_sem] theorem c_sheafref16_Why_25_at (rd : Option Nat) (K : Post3) (t : Fr) (m : Mem) : wpM E 28 144 rd c_sheafref16_Why_25 K t m = wpM E 28 144 rd (.seq (.ops [⟨(some 79), .move (.tmp 12), none⟩,
    ⟨(some 80), .unOp .not 4 (.tmp 79), none⟩]) c_sheafref16_Why_24) K t m := rfl

def c_sheafref16_Why_26 : MC := (.seq (.ops [⟨(some 6), .assign (.const (.slice none 0 0)), none⟩,
    ⟨(some 7), .assign (.const (.int .i64 6)), none⟩]) .ret)
@[go_sem] theorem c_sheafref16_Why_26_at (rd : Option Nat) (K : Post3) (t : Fr) (m : Mem) : wpM E 28 144 rd c_sheafref16_Why_26 K t m = wpM E 28 144 rd (.seq (.ops [⟨(some 6), .assign (.const (.slice none 0 0)), none⟩,
    ⟨(some 7), .assign (.const (.int .i64 6)), none⟩]) .ret) K t m := rfl

def c_sheafref16_Why_27 : MC := (.cond (.tmp 95) c_sheafref16_Why_26 .skip)
@[go_sem] theorem c_sheafref16_Why_27_at (rd : Option Nat) (K : Post3) (t : Fr) (m : Mem) : wpM E 28 144 rd c_sheafref16_Why_27 K t m = wpM E 28 144 rd (.cond (.tmp 95) c_sheafref16_Why_26 .skip) K t m := rfl

def c_sheafref16_Why_28 : MC := (.seq (.ops [⟨(some 94), .move (.tmp 15), none⟩,
    ⟨(some 95), .unOp .not 4 (.tmp 94), none⟩]) c_sheafref16_Why_27)
@[go_sem] theorem c_sheafref16_Why_28_at (rd : Option Nat) (K : Post3) (t : Fr) (m : Mem) : wpM E 28 144 rd c_sheafref16_Why_28 K t m = wpM E 28 144 rd (.seq (.ops [⟨(some 94), .move (.tmp 15), none⟩,
    ⟨(some 95), .unOp .not 4 (.tmp 94), none⟩]) c_sheafref16_Why_27) K t m := rfl

def c_sheafref16_Why_29 : MC := (.seq (.ops [⟨(some 86), .fieldAddr 55 (.tmp 3) 1, none⟩,
    ⟨(some 87), .load 23 (.tmp 86), none⟩,
    ⟨(some 88), .move (.tmp 2), none⟩,
    ⟨(some 89), .indexAddr 22 (.tmp 88) (.const (.int .i64 5)), none⟩,
    ⟨(some 90), .load 3 (.tmp 89), none⟩,
    ⟨(some 91), .call ⟨.value (.func 50), #[(.tmp 87), (.tmp 90)], #[23, 3]⟩, none⟩,
    ⟨(some 85), .move (.tmp 91), none⟩,
    ⟨(some 92), .extract (.tmp 85) 0, none⟩,
    ⟨(some 93), .extract (.tmp 85) 1, none⟩,
    ⟨(some 14), .assign (.tmp 92), none⟩,
    ⟨(some 15), .assign (.tmp 93), none⟩]) c_sheafref16_Why_28)
@[go_sem] theorem c_sheafref16_Why_29_at (rd : Option Nat) (K : Post3) (t : Fr) (m : Mem) : wpM E 28 144 rd c_sheafref16_Why_29 K t m = wpM E 28 144 rd (.seq (.ops [⟨(some 86), .fieldAddr 55 (.tmp 3) 1, none⟩,
    ⟨(some 87), .load 23 (.tmp 86), none⟩,
    ⟨(some 88), .move (.tmp 2), none⟩,
    ⟨(some 89), .indexAddr 22 (.tmp 88) (.const (.int .i64 5)), none⟩,
    ⟨(some 90), .load 3 (.tmp 89), none⟩,
    ⟨(some 91), .call ⟨.value (.func 50), #[(.tmp 87), (.tmp 90)], #[23, 3]⟩, none⟩,
    ⟨(some 85), .move (.tmp 91), none⟩,
    ⟨(some 92), .extract (.tmp 85) 0, none⟩,
    ⟨(some 93), .extract (.tmp 85) 1, none⟩,
    ⟨(some 14), .assign (.tmp 92), none⟩,
    ⟨(some 15), .assign (.tmp 93), none⟩]) c_sheafref16_Why_28) K t m := rfl

def c_sheafref16_Why_30 : MC := (.cond (.tmp 84) c_sheafref16_Why_29 .skip)
@[go_sem] theorem c_sheafref16_Why_30_at (rd : Option Nat) (K : Post3) (t : Fr) (m : Mem) : wpM E 28 144 rd c_sheafref16_Why_30 K t m = wpM E 28 144 rd (.cond (.tmp 84) c_sheafref16_Why_29 .skip) K t m := rfl

def c_sheafref16_Why_31 : MC := (.seq (.ops [⟨(some 81), .move (.tmp 2), none⟩,
    ⟨(some 82), .indexAddr 22 (.tmp 81) (.const (.int .i64 5)), none⟩,
    ⟨(some 83), .load 3 (.tmp 82), none⟩,
    ⟨(some 84), .binOp .neq 3 (.tmp 83) (.const (.int .i64 0)) 3, none⟩]) c_sheafref16_Why_30)
@[go_sem] theorem c_sheafref16_Why_31_at (rd : Option Nat) (K : Post3) (t : Fr) (m : Mem) : wpM E 28 144 rd c_sheafref16_Why_31 K t m = wpM E 28 144 rd (.seq (.ops [⟨(some 81), .move (.tmp 2), none⟩,
    ⟨(some 82), .indexAddr 22 (.tmp 81) (.const (.int .i64 5)), none⟩,
    ⟨(some 83), .load 3 (.tmp 82), none⟩,
    ⟨(some 84), .binOp .neq 3 (.tmp 83) (.const (.int .i64 0)) 3, none⟩]) c_sheafref16_Why_30) K t m := rfl

def c_sheafref16_Why_32 : MC := (.seq (.ops [⟨(some 6), .assign (.const (.slice none 0 0)), none⟩,
    ⟨(some 7), .assign (.const (.int .i64 7)), none⟩]) .ret)
@[go_sem] theorem c_sheafref16_Why_32_at (rd : Option Nat) (K : Post3) (t : Fr) (m : Mem) : wpM E 28 144 rd c_sheafref16_Why_32 K t m = wpM E 28 144 rd (.seq (.ops [⟨(some 6), .assign (.const (.slice none 0 0)), none⟩,
    ⟨(some 7), .assign (.const (.int .i64 7)), none⟩]) .ret) K t m := rfl

def c_sheafref16_Why_33 : MC := (.cond (.tmp 109) c_sheafref16_Why_32 .skip)
@[go_sem] theorem c_sheafref16_Why_33_at (rd : Option Nat) (K : Post3) (t : Fr) (m : Mem) : wpM E 28 144 rd c_sheafref16_Why_33 K t m = wpM E 28 144 rd (.cond (.tmp 109) c_sheafref16_Why_32 .skip) K t m := rfl

def c_sheafref16_Why_34 : MC := (.seq (.ops [⟨(some 108), .move (.tmp 12), none⟩,
    ⟨(some 109), .unOp .not 4 (.tmp 108), none⟩]) c_sheafref16_Why_33)
@[go_sem] theorem c_sheafref16_Why_34_at (rd : Option Nat) (K : Post3) (t : Fr) (m : Mem) : wpM E 28 144 rd c_sheafref16_Why_34 K t m = wpM E 28 144 rd (.seq (.ops [⟨(some 108), .move (.tmp 12), none⟩,
    ⟨(some 109), .unOp .not 4 (.tmp 108), none⟩]) c_sheafref16_Why_33) K t m := rfl

def c_sheafref16_Why_35 : MC := (.seq (.ops [⟨(some 139), .move (.tmp 17), none⟩,
    ⟨(some 6), .assign (.tmp 139), none⟩,
    ⟨(some 7), .assign (.const (.int .i64 0)), none⟩]) .ret)
@[go_sem] theorem c_sheafref16_Why_35_at (rd : Option Nat) (K : Post3) (t : Fr) (m : Mem) : wpM E 28 144 rd c_sheafref16_Why_35 K t m = wpM E 28 144 rd (.seq (.ops [⟨(some 139), .move (.tmp 17), none⟩,
    ⟨(some 6), .assign (.tmp 139), none⟩,
    ⟨(some 7), .assign (.const (.int .i64 0)), none⟩]) .ret) K t m := rfl

def c_sheafref16_Why_36 : MC := (.cond (.tmp 138) c_sheafref16_Why_35 .skip)
@[go_sem] theorem c_sheafref16_Why_36_at (rd : Option Nat) (K : Post3) (t : Fr) (m : Mem) : wpM E 28 144 rd c_sheafref16_Why_36 K t m = wpM E 28 144 rd (.cond (.tmp 138) c_sheafref16_Why_35 .skip) K t m := rfl

def c_sheafref16_Why_37 : MC := (.seq (.ops [⟨(some 137), .move (.tmp 12), none⟩,
    ⟨(some 138), .unOp .not 4 (.tmp 137), none⟩]) c_sheafref16_Why_36)
@[go_sem] theorem c_sheafref16_Why_37_at (rd : Option Nat) (K : Post3) (t : Fr) (m : Mem) : wpM E 28 144 rd c_sheafref16_Why_37 K t m = wpM E 28 144 rd (.seq (.ops [⟨(some 137), .move (.tmp 12), none⟩,
    ⟨(some 138), .unOp .not 4 (.tmp 137), none⟩]) c_sheafref16_Why_36) K t m := rfl

def c_sheafref16_Why_38 : MC := (.seq (.ops [⟨(some 140), .move (.tmp 17), none⟩,
    ⟨(some 141), .move (.tmp 18), none⟩,
    ⟨(some 142), .buildSlice 22 1 #[(0, (.tmp 141))], none⟩,
    ⟨(some 143), .call ⟨.builtin .append, #[(.tmp 140), (.tmp 142)], #[22, 22]⟩, none⟩,
    ⟨(some 6), .assign (.tmp 143), none⟩,
    ⟨(some 7), .assign (.const (.int .i64 0)), none⟩]) .ret)
@[go_sem] theorem c_sheafref16_Why_38_at (rd : Option Nat) (K : Post3) (t : Fr) (m : Mem) : wpM E 28 144 rd c_sheafref16_Why_38 K t m = wpM E 28 144 rd (.seq (.ops [⟨(some 140), .move (.tmp 17), none⟩,
    ⟨(some 141), .move (.tmp 18), none⟩,
    ⟨(some 142), .buildSlice 22 1 #[(0, (.tmp 141))], none⟩,
    ⟨(some 143), .call ⟨.builtin .append, #[(.tmp 140), (.tmp 142)], #[22, 22]⟩, none⟩,
    ⟨(some 6), .assign (.tmp 143), none⟩,
    ⟨(some 7), .assign (.const (.int .i64 0)), none⟩]) .ret) K t m := rfl

def c_sheafref16_Why_39 : MC := (.seq c_sheafref16_Why_37 c_sheafref16_Why_38)
@[go_sem] theorem c_sheafref16_Why_39_at (rd : Option Nat) (K : Post3) (t : Fr) (m : Mem) : wpM E 28 144 rd c_sheafref16_Why_39 K t m = wpM E 28 144 rd (.seq c_sheafref16_Why_37 c_sheafref16_Why_38) K t m := rfl

def c_sheafref16_Why_40 : MC := (.seq (.ops [⟨(some 125), .move (.tmp 2), none⟩,
    ⟨(some 126), .indexAddr 22 (.tmp 125) (.const (.int .i64 4)), none⟩,
    ⟨(some 127), .load 3 (.tmp 126), none⟩,
    ⟨(some 128), .move (.tmp 16), none⟩,
    ⟨(some 129), .indexAddr 22 (.tmp 128) (.const (.int .i64 2)), none⟩,
    ⟨(some 130), .load 3 (.tmp 129), none⟩,
    ⟨(some 131), .move (.tmp 16), none⟩,
    ⟨(some 132), .indexAddr 22 (.tmp 131) (.const (.int .i64 3)), none⟩,
    ⟨(some 133), .load 3 (.tmp 132), none⟩,
    ⟨(some 134), .call ⟨.value (.func 52), #[(.tmp 127), (.tmp 130), (.tmp 133)], #[3, 3, 3]⟩, none⟩,
    ⟨(some 124), .move (.tmp 134), none⟩,
    ⟨(some 135), .extract (.tmp 124) 0, none⟩,
    ⟨(some 136), .extract (.tmp 124) 1, none⟩,
    ⟨(some 18), .assign (.tmp 135), none⟩,
    ⟨(some 12), .assign (.tmp 136), none⟩]) c_sheafref16_Why_39)
@[go_sem] theorem c_sheafref16_Why_40_at (rd : Option Nat) (K : Post3) (t : Fr) (m : Mem) : wpM E 28 144 rd c_sheafref16_Why_40 K t m = wpM E 28 144 rd (.seq (.ops [⟨(some 125), .move (.tmp 2), none⟩,
    ⟨(some 126), .indexAddr 22 (.tmp 125) (.const (.int .i64 4)), none⟩,
    ⟨(some 127), .load 3 (.tmp 126), none⟩,
    ⟨(some 128), .move (.tmp 16), none⟩,
    ⟨(some 129), .indexAddr 22 (.tmp 128) (.const (.int .i64 2)), none⟩,
    ⟨(some 130), .load 3 (.tmp 129), none⟩,
    ⟨(some 131), .move (.tmp 16), none⟩,
    ⟨(some 132), .indexAddr 22 (.tmp 131) (.const (.int .i64 3)), none⟩,
    ⟨(some 133), .load 3 (.tmp 132), none⟩,
    ⟨(some 134), .call ⟨.value (.func 52), #[(.tmp 127), (.tmp 130), (.tmp 133)], #[3, 3, 3]⟩, none⟩,
    ⟨(some 124), .move (.tmp 134), none⟩,
    ⟨(some 135), .extract (.tmp 124) 0, none⟩,
    ⟨(some 136), .extract (.tmp 124) 1, none⟩,
    ⟨(some 18), .assign (.tmp 135), none⟩,
    ⟨(some 12), .assign (.tmp 136), none⟩]) c_sheafref16_Why_39) K t m := rfl

def c_sheafref16_Why_41 : MC := (.seq (.draw [(0, [], ⟨(some 110), .buildSlice 22 0 #[], none⟩),
    (1, [], ⟨(some 111), .move (.tmp 2), none⟩),
    (3, [], ⟨(some 113), .move (.tmp 11), none⟩),
    (4, [], ⟨(some 114), .indexAddr 22 (.tmp 113) (.const (.int .i64 1)), none⟩),
    (5, [], ⟨(some 115), .load 3 (.tmp 114), none⟩),
    (6, [], ⟨(some 116), .move (.tmp 11), none⟩),
    (7, [], ⟨(some 117), .indexAddr 22 (.tmp 116) (.const (.int .i64 2)), none⟩),
    (8, [], ⟨(some 118), .load 3 (.tmp 117), none⟩),
    (9, [], ⟨(some 119), .move (.tmp 13), none⟩),
    (10, [], ⟨(some 120), .indexAddr 22 (.tmp 119) (.const (.int .i64 1)), none⟩),
    (11, [], ⟨(some 121), .load 3 (.tmp 120), none⟩),
    (2, [5, 8, 11], ⟨(some 112), .call ⟨.builtin .append, #[(.tmp 110), (.tmp 111)], #[22, 22]⟩, none⟩),
    (12, [], ⟨(some 122), .buildSlice 22 3 #[(0, (.tmp 115)), (1, (.tmp 118)), (2, (.tmp 121))], none⟩),
    (13, [], ⟨(some 123), .call ⟨.builtin .append, #[(.tmp 112), (.tmp 122)], #[22, 22]⟩, none⟩),
    (14, [], ⟨(some 17), .assign (.tmp 123), none⟩)]) c_sheafref16_Why_40)
@[go_sem] theorem c_sheafref16_Why_41_at (rd : Option Nat) (K : Post3) (t : Fr) (m : Mem) : wpM E 28 144 rd c_sheafref16_Why_41 K t m = wpM E 28 144 rd (.seq (.draw [(0, [], ⟨(some 110), .buildSlice 22 0 #[], none⟩),
    (1, [], ⟨(some 111), .move (.tmp 2), none⟩),
    (3, [], ⟨(some 113), .move (.tmp 11), none⟩),
    (4, [], ⟨(some 114), .indexAddr 22 (.tmp 113) (.const (.int .i64 1)), none⟩),
    (5, [], ⟨(some 115), .load 3 (.tmp 114), none⟩),
    (6, [], ⟨(some 116), .move (.tmp 11), none⟩),
    (7, [], ⟨(some 117), .indexAddr 22 (.tmp 116) (.const (.int .i64 2)), none⟩),
    (8, [], ⟨(some 118), .load 3 (.tmp 117), none⟩),
    (9, [], ⟨(some 119), .move (.tmp 13), none⟩),
    (10, [], ⟨(some 120), .indexAddr 22 (.tmp 119) (.const (.int .i64 1)), none⟩),
    (11, [], ⟨(some 121), .load 3 (.tmp 120), none⟩),
    (2, [5, 8, 11], ⟨(some 112), .call ⟨.builtin .append, #[(.tmp 110), (.tmp 111)], #[22, 22]⟩, none⟩),
    (12, [], ⟨(some 122), .buildSlice 22 3 #[(0, (.tmp 115)), (1, (.tmp 118)), (2, (.tmp 121))], none⟩),
    (13, [], ⟨(some 123), .call ⟨.builtin .append, #[(.tmp 112), (.tmp 122)], #[22, 22]⟩, none⟩),
    (14, [], ⟨(some 17), .assign (.tmp 123), none⟩)]) c_sheafref16_Why_40) K t m := rfl

def c_sheafref16_Why_42 : MC := (.seq c_sheafref16_Why_34 c_sheafref16_Why_41)
@[go_sem] theorem c_sheafref16_Why_42_at (rd : Option Nat) (K : Post3) (t : Fr) (m : Mem) : wpM E 28 144 rd c_sheafref16_Why_42 K t m = wpM E 28 144 rd (.seq c_sheafref16_Why_34 c_sheafref16_Why_41) K t m := rfl

def c_sheafref16_Why_43 : MC := (.seq (.ops [⟨(some 97), .fieldAddr 55 (.tmp 3) 3, none⟩,
    ⟨(some 98), .load 23 (.tmp 97), none⟩,
    ⟨(some 99), .move (.tmp 11), none⟩,
    ⟨(some 100), .indexAddr 22 (.tmp 99) (.const (.int .i64 1)), none⟩,
    ⟨(some 101), .load 3 (.tmp 100), none⟩,
    ⟨(some 102), .move (.tmp 2), none⟩,
    ⟨(some 103), .indexAddr 22 (.tmp 102) (.const (.int .i64 3)), none⟩,
    ⟨(some 104), .load 3 (.tmp 103), none⟩,
    ⟨(some 105), .call ⟨.value (.func 51), #[(.tmp 98), (.tmp 101), (.tmp 104)], #[23, 3, 3]⟩, none⟩,
    ⟨(some 96), .move (.tmp 105), none⟩,
    ⟨(some 106), .extract (.tmp 96) 0, none⟩,
    ⟨(some 107), .extract (.tmp 96) 1, none⟩,
    ⟨(some 16), .assign (.tmp 106), none⟩,
    ⟨(some 12), .assign (.tmp 107), none⟩]) c_sheafref16_Why_42)
@[go_sem] theorem c_sheafref16_Why_43_at (rd : Option Nat) (K : Post3) (t : Fr) (m : Mem) : wpM E 28 144 rd c_sheafref16_Why_43 K t m = wpM E 28 144 rd (.seq (.ops [⟨(some 97), .fieldAddr 55 (.tmp 3) 3, none⟩,
    ⟨(some 98), .load 23 (.tmp 97), none⟩,
    ⟨(some 99), .move (.tmp 11), none⟩,
    ⟨(some 100), .indexAddr 22 (.tmp 99) (.const (.int .i64 1)), none⟩,
    ⟨(some 101), .load 3 (.tmp 100), none⟩,
    ⟨(some 102), .move (.tmp 2), none⟩,
    ⟨(some 103), .indexAddr 22 (.tmp 102) (.const (.int .i64 3)), none⟩,
    ⟨(some 104), .load 3 (.tmp 103), none⟩,
    ⟨(some 105), .call ⟨.value (.func 51), #[(.tmp 98), (.tmp 101), (.tmp 104)], #[23, 3, 3]⟩, none⟩,
    ⟨(some 96), .move (.tmp 105), none⟩,
    ⟨(some 106), .extract (.tmp 96) 0, none⟩,
    ⟨(some 107), .extract (.tmp 96) 1, none⟩,
    ⟨(some 16), .assign (.tmp 106), none⟩,
    ⟨(some 12), .assign (.tmp 107), none⟩]) c_sheafref16_Why_42) K t m := rfl

def c_sheafref16_Why_44 : MC := (.seq c_sheafref16_Why_31 c_sheafref16_Why_43)
@[go_sem] theorem c_sheafref16_Why_44_at (rd : Option Nat) (K : Post3) (t : Fr) (m : Mem) : wpM E 28 144 rd c_sheafref16_Why_44 K t m = wpM E 28 144 rd (.seq c_sheafref16_Why_31 c_sheafref16_Why_43) K t m := rfl

def c_sheafref16_Why_45 : MC := (.seq c_sheafref16_Why_25 c_sheafref16_Why_44)
@[go_sem] theorem c_sheafref16_Why_45_at (rd : Option Nat) (K : Post3) (t : Fr) (m : Mem) : wpM E 28 144 rd c_sheafref16_Why_45 K t m = wpM E 28 144 rd (.seq c_sheafref16_Why_25 c_sheafref16_Why_44) K t m := rfl

def c_sheafref16_Why_46 : MC := (.seq (.ops [⟨(some 71), .fieldAddr 55 (.tmp 3) 2, none⟩,
    ⟨(some 72), .load 23 (.tmp 71), none⟩,
    ⟨(some 73), .move (.tmp 2), none⟩,
    ⟨(some 74), .indexAddr 22 (.tmp 73) (.const (.int .i64 2)), none⟩,
    ⟨(some 75), .load 3 (.tmp 74), none⟩,
    ⟨(some 76), .call ⟨.value (.func 50), #[(.tmp 72), (.tmp 75)], #[23, 3]⟩, none⟩,
    ⟨(some 70), .move (.tmp 76), none⟩,
    ⟨(some 77), .extract (.tmp 70) 0, none⟩,
    ⟨(some 78), .extract (.tmp 70) 1, none⟩,
    ⟨(some 13), .assign (.tmp 77), none⟩,
    ⟨(some 12), .assign (.tmp 78), none⟩]) c_sheafref16_Why_45)
@[go_sem] theorem c_sheafref16_Why_46_at (rd : Option Nat) (K : Post3) (t : Fr) (m : Mem) : wpM E 28 144 rd c_sheafref16_Why_46 K t m = wpM E 28 144 rd (.seq (.ops [⟨(some 71), .fieldAddr 55 (.tmp 3) 2, none⟩,
    ⟨(some 72), .load 23 (.tmp 71), none⟩,
    ⟨(some 73), .move (.tmp 2), none⟩,
    ⟨(some 74), .indexAddr 22 (.tmp 73) (.const (.int .i64 2)), none⟩,
    ⟨(some 75), .load 3 (.tmp 74), none⟩,
    ⟨(some 76), .call ⟨.value (.func 50), #[(.tmp 72), (.tmp 75)], #[23, 3]⟩, none⟩,
    ⟨(some 70), .move (.tmp 76), none⟩,
    ⟨(some 77), .extract (.tmp 70) 0, none⟩,
    ⟨(some 78), .extract (.tmp 70) 1, none⟩,
    ⟨(some 13), .assign (.tmp 77), none⟩,
    ⟨(some 12), .assign (.tmp 78), none⟩]) c_sheafref16_Why_45) K t m := rfl

def c_sheafref16_Why_47 : MC := (.seq c_sheafref16_Why_22 c_sheafref16_Why_46)
@[go_sem] theorem c_sheafref16_Why_47_at (rd : Option Nat) (K : Post3) (t : Fr) (m : Mem) : wpM E 28 144 rd c_sheafref16_Why_47 K t m = wpM E 28 144 rd (.seq c_sheafref16_Why_22 c_sheafref16_Why_46) K t m := rfl

def c_sheafref16_Why_48 : MC := (.seq (.ops [⟨(some 60), .fieldAddr 55 (.tmp 3) 1, none⟩,
    ⟨(some 61), .load 23 (.tmp 60), none⟩,
    ⟨(some 62), .move (.tmp 2), none⟩,
    ⟨(some 63), .indexAddr 22 (.tmp 62) (.const (.int .i64 1)), none⟩,
    ⟨(some 64), .load 3 (.tmp 63), none⟩,
    ⟨(some 65), .call ⟨.value (.func 50), #[(.tmp 61), (.tmp 64)], #[23, 3]⟩, none⟩,
    ⟨(some 59), .move (.tmp 65), none⟩,
    ⟨(some 66), .extract (.tmp 59) 0, none⟩,
    ⟨(some 67), .extract (.tmp 59) 1, none⟩,
    ⟨(some 11), .assign (.tmp 66), none⟩,
    ⟨(some 12), .assign (.tmp 67), none⟩]) c_sheafref16_Why_47)
@[go_sem] theorem c_sheafref16_Why_48_at (rd : Option Nat) (K : Post3) (t : Fr) (m : Mem) : wpM E 28 144 rd c_sheafref16_Why_48 K t m = wpM E 28 144 rd (.seq (.ops [⟨(some 60), .fieldAddr 55 (.tmp 3) 1, none⟩,
    ⟨(some 61), .load 23 (.tmp 60), none⟩,
    ⟨(some 62), .move (.tmp 2), none⟩,
    ⟨(some 63), .indexAddr 22 (.tmp 62) (.const (.int .i64 1)), none⟩,
    ⟨(some 64), .load 3 (.tmp 63), none⟩,
    ⟨(some 65), .call ⟨.value (.func 50), #[(.tmp 61), (.tmp 64)], #[23, 3]⟩, none⟩,
    ⟨(some 59), .move (.tmp 65), none⟩,
    ⟨(some 66), .extract (.tmp 59) 0, none⟩,
    ⟨(some 67), .extract (.tmp 59) 1, none⟩,
    ⟨(some 11), .assign (.tmp 66), none⟩,
    ⟨(some 12), .assign (.tmp 67), none⟩]) c_sheafref16_Why_47) K t m := rfl

def c_sheafref16_Why_49 : MC := (.seq c_sheafref16_Why_19 c_sheafref16_Why_48)
@[go_sem] theorem c_sheafref16_Why_49_at (rd : Option Nat) (K : Post3) (t : Fr) (m : Mem) : wpM E 28 144 rd c_sheafref16_Why_49 K t m = wpM E 28 144 rd (.seq c_sheafref16_Why_19 c_sheafref16_Why_48) K t m := rfl

def c_sheafref16_Why_50 : MC := (.seq c_sheafref16_Why_16 c_sheafref16_Why_49)
@[go_sem] theorem c_sheafref16_Why_50_at (rd : Option Nat) (K : Post3) (t : Fr) (m : Mem) : wpM E 28 144 rd c_sheafref16_Why_50 K t m = wpM E 28 144 rd (.seq c_sheafref16_Why_16 c_sheafref16_Why_49) K t m := rfl

def c_sheafref16_Why_51 : MC := (.seq c_sheafref16_Why_13 c_sheafref16_Why_50)
@[go_sem] theorem c_sheafref16_Why_51_at (rd : Option Nat) (K : Post3) (t : Fr) (m : Mem) : wpM E 28 144 rd c_sheafref16_Why_51 K t m = wpM E 28 144 rd (.seq c_sheafref16_Why_13 c_sheafref16_Why_50) K t m := rfl

def c_sheafref16_Why_52 : MC := (.seq (.ops [⟨(some 8), .assign (.const (.int .i64 0)), none⟩]) c_sheafref16_Why_51)
@[go_sem] theorem c_sheafref16_Why_52_at (rd : Option Nat) (K : Post3) (t : Fr) (m : Mem) : wpM E 28 144 rd c_sheafref16_Why_52 K t m = wpM E 28 144 rd (.seq (.ops [⟨(some 8), .assign (.const (.int .i64 0)), none⟩]) c_sheafref16_Why_51) K t m := rfl

def c_sheafref16_Why_53 : MC := (.seq c_sheafref16_Why_2 c_sheafref16_Why_52)
@[go_sem] theorem c_sheafref16_Why_53_at (rd : Option Nat) (K : Post3) (t : Fr) (m : Mem) : wpM E 28 144 rd c_sheafref16_Why_53 K t m = wpM E 28 144 rd (.seq c_sheafref16_Why_2 c_sheafref16_Why_52) K t m := rfl

def c_sheafref16_Why_54 : MC := (.seq (.ops [⟨(some 3), .box 55 (.tmp 0), none⟩,
    ⟨(some 4), .box 46 (.tmp 1), none⟩,
    ⟨(some 6), .assign (.const (.slice none 0 0)), none⟩,
    ⟨(some 7), .assign (.const (.int .i64 0)), none⟩]) c_sheafref16_Why_53)
@[go_sem] theorem c_sheafref16_Why_54_at (rd : Option Nat) (K : Post3) (t : Fr) (m : Mem) : wpM E 28 144 rd c_sheafref16_Why_54 K t m = wpM E 28 144 rd (.seq (.ops [⟨(some 3), .box 55 (.tmp 0), none⟩,
    ⟨(some 4), .box 46 (.tmp 1), none⟩,
    ⟨(some 6), .assign (.const (.slice none 0 0)), none⟩,
    ⟨(some 7), .assign (.const (.int .i64 0)), none⟩]) c_sheafref16_Why_53) K t m := rfl

@[go_sem] theorem some28 : (E.fn 28).isSome = true := by kernel_rfl
set_option maxRecDepth 100000 in
theorem fn_sheafref16_Why : FnIs E 28 144 [.tmp 6, .tmp 7] c_sheafref16_Why_54 := ⟨by kernel_rfl, by kernel_rfl⟩

/-! sheaf/sheafref16.Reject -/
abbrev F_sheafref16_Reject : FuncId := 29
def c_sheafref16_Reject_0 : MC := (.seq (.ops [⟨(some 10), .move (.tmp 5), none⟩,
    ⟨(some 11), .move (.tmp 5), none⟩,
    ⟨(some 12), .call ⟨.builtin .len, #[(.tmp 11)], #[22]⟩, none⟩,
    ⟨(some 13), .call ⟨.builtin .min, #[(.tmp 12), (.const (.int .i64 10))], #[3, 3]⟩, none⟩,
    ⟨(some 14), .slice 22 (.tmp 10) none (some (.tmp 13)) none, none⟩,
    ⟨(some 4), .assign (.tmp 14), none⟩]) .ret)
@[go_sem] theorem c_sheafref16_Reject_0_at (rd : Option Nat) (K : Post3) (t : Fr) (m : Mem) : wpM E 29 15 rd c_sheafref16_Reject_0 K t m = wpM E 29 15 rd (.seq (.ops [⟨(some 10), .move (.tmp 5), none⟩,
    ⟨(some 11), .move (.tmp 5), none⟩,
    ⟨(some 12), .call ⟨.builtin .len, #[(.tmp 11)], #[22]⟩, none⟩,
    ⟨(some 13), .call ⟨.builtin .min, #[(.tmp 12), (.const (.int .i64 10))], #[3, 3]⟩, none⟩,
    ⟨(some 14), .slice 22 (.tmp 10) none (some (.tmp 13)) none, none⟩,
    ⟨(some 4), .assign (.tmp 14), none⟩]) .ret) K t m := rfl

def c_sheafref16_Reject_1 : MC := (.seq (.ops [⟨(some 6), .move (.tmp 0), none⟩,
    ⟨(some 7), .buildSlice 22 1 #[(0, (.tmp 6))], none⟩,
    ⟨(some 8), .move (.tmp 1), none⟩,
    ⟨(some 9), .call ⟨.builtin .append, #[(.tmp 7), (.tmp 8)], #[22, 22]⟩, none⟩,
    ⟨(some 5), .assign (.tmp 9), none⟩]) c_sheafref16_Reject_0)
@[go_sem] theorem c_sheafref16_Reject_1_at (rd : Option Nat) (K : Post3) (t : Fr) (m : Mem) : wpM E 29 15 rd c_sheafref16_Reject_1 K t m = wpM E 29 15 rd (.seq (.ops [⟨(some 6), .move (.tmp 0), none⟩,
    ⟨(some 7), .buildSlice 22 1 #[(0, (.tmp 6))], none⟩,
    ⟨(some 8), .move (.tmp 1), none⟩,
    ⟨(some 9), .call ⟨.builtin .append, #[(.tmp 7), (.tmp 8)], #[22, 22]⟩, none⟩,
    ⟨(some 5), .assign (.tmp 9), none⟩]) c_sheafref16_Reject_0) K t m := rfl

def c_sheafref16_Reject_2 : MC := (.seq (.ops [⟨(some 4), .assign (.const (.slice none 0 0)), none⟩]) c_sheafref16_Reject_1)
@[go_sem] theorem c_sheafref16_Reject_2_at (rd : Option Nat) (K : Post3) (t : Fr) (m : Mem) : wpM E 29 15 rd c_sheafref16_Reject_2 K t m = wpM E 29 15 rd (.seq (.ops [⟨(some 4), .assign (.const (.slice none 0 0)), none⟩]) c_sheafref16_Reject_1) K t m := rfl

@[go_sem] theorem some29 : (E.fn 29).isSome = true := by kernel_rfl
set_option maxRecDepth 100000 in
theorem fn_sheafref16_Reject : FnIs E 29 15 [.tmp 4] c_sheafref16_Reject_2 := ⟨by kernel_rfl, by kernel_rfl⟩

/-! sheaf/sheafref12.Compare -/
abbrev F_sheafref12_Compare : FuncId := 39
def c_sheafref12_Compare_0 : MC := (.cond (.tmp 15) .skip (.exit 0))
@[go_sem] theorem c_sheafref12_Compare_0_at (rd : Option Nat) (K : Post3) (t : Fr) (m : Mem) : wpM E 39 45 rd c_sheafref12_Compare_0 K t m = wpM E 39 45 rd (.cond (.tmp 15) .skip (.exit 0)) K t m := rfl

def c_sheafref12_Compare_1 : MC := (.seq (.ops [⟨(some 24), .move (.tmp 9), none⟩,
    ⟨(some 6), .assign (.tmp 24), none⟩]) .ret)
@[go_sem] theorem c_sheafref12_Compare_1_at (rd : Option Nat) (K : Post3) (t : Fr) (m : Mem) : wpM E 39 45 rd c_sheafref12_Compare_1 K t m = wpM E 39 45 rd (.seq (.ops [⟨(some 24), .move (.tmp 9), none⟩,
    ⟨(some 6), .assign (.tmp 24), none⟩]) .ret) K t m := rfl

def c_sheafref12_Compare_2 : MC := (.cond (.tmp 23) c_sheafref12_Compare_1 .skip)
@[go_sem] theorem c_sheafref12_Compare_2_at (rd : Option Nat) (K : Post3) (t : Fr) (m : Mem) : wpM E 39 45 rd c_sheafref12_Compare_2 K t m = wpM E 39 45 rd (.cond (.tmp 23) c_sheafref12_Compare_1 .skip) K t m := rfl

def c_sheafref12_Compare_3 : MC := (.seq (.ops [⟨(some 22), .move (.tmp 9), none⟩,
    ⟨(some 23), .binOp .neq 3 (.tmp 22) (.const (.int .i64 0)) 3, none⟩]) c_sheafref12_Compare_2)
@[go_sem] theorem c_sheafref12_Compare_3_at (rd : Option Nat) (K : Post3) (t : Fr) (m : Mem) : wpM E 39 45 rd c_sheafref12_Compare_3 K t m = wpM E 39 45 rd (.seq (.ops [⟨(some 22), .move (.tmp 9), none⟩,
    ⟨(some 23), .binOp .neq 3 (.tmp 22) (.const (.int .i64 0)) 3, none⟩]) c_sheafref12_Compare_2) K t m := rfl

def c_sheafref12_Compare_4 : MC := (.seq (.ops [⟨(some 18), .move (.tmp 0), none⟩,
    ⟨(some 19), .move (.tmp 1), none⟩,
    ⟨(some 20), .move (.tmp 8), none⟩,
    ⟨(some 21), .call ⟨.value (.func 58), #[(.tmp 18), (.tmp 19), (.tmp 20)], #[22, 22, 3]⟩, none⟩,
    ⟨(some 9), .assign (.tmp 21), none⟩]) c_sheafref12_Compare_3)
@[go_sem] theorem c_sheafref12_Compare_4_at (rd : Option Nat) (K : Post3) (t : Fr) (m : Mem) : wpM E 39 45 rd c_sheafref12_Compare_4 K t m = wpM E 39 45 rd (.seq (.ops [⟨(some 18), .move (.tmp 0), none⟩,
    ⟨(some 19), .move (.tmp 1), none⟩,
    ⟨(some 20), .move (.tmp 8), none⟩,
    ⟨(some 21), .call ⟨.value (.func 58), #[(.tmp 18), (.tmp 19), (.tmp 20)], #[22, 22, 3]⟩, none⟩,
    ⟨(some 9), .assign (.tmp 21), none⟩]) c_sheafref12_Compare_3) K t m := rfl

def c_sheafref12_Compare_5 : MC := (.seq (.ops [⟨(some 16), .indexAddr 22 (.tmp 12) (.tmp 14), none⟩,
    ⟨(some 17), .load 3 (.tmp 16), none⟩,
    ⟨(some 8), .assign (.tmp 17), none⟩]) c_sheafref12_Compare_4)
@[go_sem] theorem c_sheafref12_Compare_5_at (rd : Option Nat) (K : Post3) (t : Fr) (m : Mem) : wpM E 39 45 rd c_sheafref12_Compare_5 K t m = wpM E 39 45 rd (.seq (.ops [⟨(some 16), .indexAddr 22 (.tmp 12) (.tmp 14), none⟩,
    ⟨(some 17), .load 3 (.tmp 16), none⟩,
    ⟨(some 8), .assign (.tmp 17), none⟩]) c_sheafref12_Compare_4) K t m := rfl

def c_sheafref12_Compare_6 : MC := (.block 1 c_sheafref12_Compare_5)
@[go_sem] theorem c_sheafref12_Compare_6_at (rd : Option Nat) (K : Post3) (t : Fr) (m : Mem) : wpM E 39 45 rd c_sheafref12_Compare_6 K t m = wpM E 39 45 rd (.block 1 c_sheafref12_Compare_5) K t m := rfl

def c_sheafref12_Compare_7 : MC := (.seq c_sheafref12_Compare_6 (.ops [⟨(some 25), .binOp .add 3 (.tmp 14) (.const (.int .i64 1)) 3, none⟩,
    ⟨(some 14), .move (.tmp 25), none⟩]))
@[go_sem] theorem c_sheafref12_Compare_7_at (rd : Option Nat) (K : Post3) (t : Fr) (m : Mem) : wpM E 39 45 rd c_sheafref12_Compare_7 K t m = wpM E 39 45 rd (.seq c_sheafref12_Compare_6 (.ops [⟨(some 25), .binOp .add 3 (.tmp 14) (.const (.int .i64 1)) 3, none⟩,
    ⟨(some 14), .move (.tmp 25), none⟩])) K t m := rfl

def c_sheafref12_Compare_8 : MC := (.seq c_sheafref12_Compare_0 c_sheafref12_Compare_7)
@[go_sem] theorem c_sheafref12_Compare_8_at (rd : Option Nat) (K : Post3) (t : Fr) (m : Mem) : wpM E 39 45 rd c_sheafref12_Compare_8 K t m = wpM E 39 45 rd (.seq c_sheafref12_Compare_0 c_sheafref12_Compare_7) K t m := rfl

def c_sheafref12_Compare_9 : MC := (.seq (.ops [⟨(some 15), .binOp .lss 3 (.tmp 14) (.tmp 13) 3, none⟩]) c_sheafref12_Compare_8)
@[go_sem] theorem c_sheafref12_Compare_9_at (rd : Option Nat) (K : Post3) (t : Fr) (m : Mem) : wpM E 39 45 rd c_sheafref12_Compare_9 K t m = wpM E 39 45 rd (.seq (.ops [⟨(some 15), .binOp .lss 3 (.tmp 14) (.tmp 13) 3, none⟩]) c_sheafref12_Compare_8) K t m := rfl

def c_sheafref12_Compare_10 : MC := (.loop c_sheafref12_Compare_9)
theorem c_sheafref12_Compare_10_at (rd : Option Nat) (K : Post3) (t : Fr) (m : Mem) : wpM E 39 45 rd c_sheafref12_Compare_10 K t m = wpM E 39 45 rd (.loop c_sheafref12_Compare_9) K t m := rfl

def c_sheafref12_Compare_11 : MC := (.block 0 c_sheafref12_Compare_10)
theorem c_sheafref12_Compare_11_at (rd : Option Nat) (K : Post3) (t : Fr) (m : Mem) : wpM E 39 45 rd c_sheafref12_Compare_11 K t m = wpM E 39 45 rd (.block 0 c_sheafref12_Compare_10) K t m := rfl

def c_sheafref12_Compare_12 : MC := (.seq (.ops [⟨(some 12), .move (.tmp 2), none⟩,
    ⟨(some 13), .call ⟨.builtin .len, #[(.tmp 12)], #[22]⟩, none⟩,
    ⟨(some 14), .move (.const (.int .i64 0)), none⟩]) c_sheafref12_Compare_11)
@[go_sem] theorem c_sheafref12_Compare_12_at (rd : Option Nat) (K : Post3) (t : Fr) (m : Mem) : wpM E 39 45 rd c_sheafref12_Compare_12 K t m = wpM E 39 45 rd (.seq (.ops [⟨(some 12), .move (.tmp 2), none⟩,
    ⟨(some 13), .call ⟨.builtin .len, #[(.tmp 12)], #[22]⟩, none⟩,
    ⟨(some 14), .move (.const (.int .i64 0)), none⟩]) c_sheafref12_Compare_11) K t m := rfl

def c_sheafref12_Compare_13 : MC := (.cond (.tmp 35) .skip (.exit 2))
@[go_sem] theorem c_sheafref12_Compare_13_at (rd : Option Nat) (K : Post3) (t : Fr) (m : Mem) : wpM E 39 45 rd c_sheafref12_Compare_13 K t m = wpM E 39 45 rd (.cond (.tmp 35) .skip (.exit 2)) K t m := rfl

def c_sheafref12_Compare_14 : MC := (.seq (.ops [⟨(some 26), .move (.tmp 10), none⟩,
    ⟨(some 27), .move (.tmp 0), none⟩,
    ⟨(some 28), .call ⟨.builtin .len, #[(.tmp 27)], #[22]⟩, none⟩,
    ⟨(some 29), .binOp .lss 3 (.tmp 26) (.tmp 28) 3, none⟩,
    ⟨(some 30), .move (.tmp 29), none⟩,
    ⟨(some 31), .move (.tmp 10), (some (some 30, false))⟩,
    ⟨(some 32), .move (.tmp 1), (some (some 30, false))⟩,
    ⟨(some 33), .call ⟨.builtin .len, #[(.tmp 32)], #[22]⟩, (some (some 30, false))⟩,
    ⟨(some 34), .binOp .lss 3 (.tmp 31) (.tmp 33) 3, (some (some 30, false))⟩,
    ⟨(some 35), .pick (.tmp 30) (.const (.bool true)) (.tmp 34), none⟩]) c_sheafref12_Compare_13)
@[go_sem] theorem c_sheafref12_Compare_14_at (rd : Option Nat) (K : Post3) (t : Fr) (m : Mem) : wpM E 39 45 rd c_sheafref12_Compare_14 K t m = wpM E 39 45 rd (.seq (.ops [⟨(some 26), .move (.tmp 10), none⟩,
    ⟨(some 27), .move (.tmp 0), none⟩,
    ⟨(some 28), .call ⟨.builtin .len, #[(.tmp 27)], #[22]⟩, none⟩,
    ⟨(some 29), .binOp .lss 3 (.tmp 26) (.tmp 28) 3, none⟩,
    ⟨(some 30), .move (.tmp 29), none⟩,
    ⟨(some 31), .move (.tmp 10), (some (some 30, false))⟩,
    ⟨(some 32), .move (.tmp 1), (some (some 30, false))⟩,
    ⟨(some 33), .call ⟨.builtin .len, #[(.tmp 32)], #[22]⟩, (some (some 30, false))⟩,
    ⟨(some 34), .binOp .lss 3 (.tmp 31) (.tmp 33) 3, (some (some 30, false))⟩,
    ⟨(some 35), .pick (.tmp 30) (.const (.bool true)) (.tmp 34), none⟩]) c_sheafref12_Compare_13) K t m := rfl

def c_sheafref12_Compare_15 : MC := (.seq (.ops [⟨(some 44), .move (.tmp 11), none⟩,
    ⟨(some 6), .assign (.tmp 44), none⟩]) .ret)
@[go_sem] theorem c_sheafref12_Compare_15_at (rd : Option Nat) (K : Post3) (t : Fr) (m : Mem) : wpM E 39 45 rd c_sheafref12_Compare_15 K t m = wpM E 39 45 rd (.seq (.ops [⟨(some 44), .move (.tmp 11), none⟩,
    ⟨(some 6), .assign (.tmp 44), none⟩]) .ret) K t m := rfl

def c_sheafref12_Compare_16 : MC := (.cond (.tmp 43) c_sheafref12_Compare_15 .skip)
@[go_sem] theorem c_sheafref12_Compare_16_at (rd : Option Nat) (K : Post3) (t : Fr) (m : Mem) : wpM E 39 45 rd c_sheafref12_Compare_16 K t m = wpM E 39 45 rd (.cond (.tmp 43) c_sheafref12_Compare_15 .skip) K t m := rfl

def c_sheafref12_Compare_17 : MC := (.seq (.ops [⟨(some 42), .move (.tmp 11), none⟩,
    ⟨(some 43), .binOp .neq 3 (.tmp 42) (.const (.int .i64 0)) 3, none⟩]) c_sheafref12_Compare_16)
@[go_sem] theorem c_sheafref12_Compare_17_at (rd : Option Nat) (K : Post3) (t : Fr) (m : Mem) : wpM E 39 45 rd c_sheafref12_Compare_17 K t m = wpM E 39 45 rd (.seq (.ops [⟨(some 42), .move (.tmp 11), none⟩,
    ⟨(some 43), .binOp .neq 3 (.tmp 42) (.const (.int .i64 0)) 3, none⟩]) c_sheafref12_Compare_16) K t m := rfl

def c_sheafref12_Compare_18 : MC := (.seq (.ops [⟨(some 38), .move (.tmp 0), none⟩,
    ⟨(some 39), .move (.tmp 1), none⟩,
    ⟨(some 40), .move (.tmp 10), none⟩,
    ⟨(some 41), .call ⟨.value (.func 58), #[(.tmp 38), (.tmp 39), (.tmp 40)], #[22, 22, 3]⟩, none⟩,
    ⟨(some 11), .assign (.tmp 41), none⟩]) c_sheafref12_Compare_17)
@[go_sem] theorem c_sheafref12_Compare_18_at (rd : Option Nat) (K : Post3) (t : Fr) (m : Mem) : wpM E 39 45 rd c_sheafref12_Compare_18 K t m = wpM E 39 45 rd (.seq (.ops [⟨(some 38), .move (.tmp 0), none⟩,
    ⟨(some 39), .move (.tmp 1), none⟩,
    ⟨(some 40), .move (.tmp 10), none⟩,
    ⟨(some 41), .call ⟨.value (.func 58), #[(.tmp 38), (.tmp 39), (.tmp 40)], #[22, 22, 3]⟩, none⟩,
    ⟨(some 11), .assign (.tmp 41), none⟩]) c_sheafref12_Compare_17) K t m := rfl

def c_sheafref12_Compare_19 : MC := (.block 3 c_sheafref12_Compare_18)
@[go_sem] theorem c_sheafref12_Compare_19_at (rd : Option Nat) (K : Post3) (t : Fr) (m : Mem) : wpM E 39 45 rd c_sheafref12_Compare_19 K t m = wpM E 39 45 rd (.block 3 c_sheafref12_Compare_18) K t m := rfl

def c_sheafref12_Compare_20 : MC := (.seq c_sheafref12_Compare_19 (.ops [⟨(some 36), .move (.tmp 10), none⟩,
    ⟨(some 37), .binOp .add 3 (.tmp 36) (.const (.int .i64 1)) 3, none⟩,
    ⟨(some 10), .assign (.tmp 37), none⟩]))
@[go_sem] theorem c_sheafref12_Compare_20_at (rd : Option Nat) (K : Post3) (t : Fr) (m : Mem) : wpM E 39 45 rd c_sheafref12_Compare_20 K t m = wpM E 39 45 rd (.seq c_sheafref12_Compare_19 (.ops [⟨(some 36), .move (.tmp 10), none⟩,
    ⟨(some 37), .binOp .add 3 (.tmp 36) (.const (.int .i64 1)) 3, none⟩,
    ⟨(some 10), .assign (.tmp 37), none⟩])) K t m := rfl

def c_sheafref12_Compare_21 : MC := (.seq c_sheafref12_Compare_14 c_sheafref12_Compare_20)
@[go_sem] theorem c_sheafref12_Compare_21_at (rd : Option Nat) (K : Post3) (t : Fr) (m : Mem) : wpM E 39 45 rd c_sheafref12_Compare_21 K t m = wpM E 39 45 rd (.seq c_sheafref12_Compare_14 c_sheafref12_Compare_20) K t m := rfl

def c_sheafref12_Compare_22 : MC := (.loop c_sheafref12_Compare_21)
theorem c_sheafref12_Compare_22_at (rd : Option Nat) (K : Post3) (t : Fr) (m : Mem) : wpM E 39 45 rd c_sheafref12_Compare_22 K t m = wpM E 39 45 rd (.loop c_sheafref12_Compare_21) K t m := rfl

def c_sheafref12_Compare_23 : MC := (.block 2 c_sheafref12_Compare_22)
theorem c_sheafref12_Compare_23_at (rd : Option Nat) (K : Post3) (t : Fr) (m : Mem) : wpM E 39 45 rd c_sheafref12_Compare_23 K t m = wpM E 39 45 rd (.block 2 c_sheafref12_Compare_22) K t m := rfl

def c_sheafref12_Compare_24 : MC := (.seq (.ops [⟨(some 10), .assign (.const (.int .i64 0)), none⟩]) c_sheafref12_Compare_23)
@[go_sem] theorem c_sheafref12_Compare_24_at (rd : Option Nat) (K : Post3) (t : Fr) (m : Mem) : wpM E 39 45 rd c_sheafref12_Compare_24 K t m = wpM E 39 45 rd (.seq (.ops [⟨(some 10), .assign (.const (.int .i64 0)), none⟩]) c_sheafref12_Compare_23) K t m := rfl

def c_sheafref12_Compare_25 : MC := (.seq (.ops [⟨(some 6), .assign (.const (.int .i64 0)), none⟩]) .ret)
@[go_sem] theorem c_sheafref12_Compare_25_at (rd : Option Nat) (K : Post3) (t : Fr) (m : Mem) : wpM E 39 45 rd c_sheafref12_Compare_25 K t m = wpM E 39 45 rd (.seq (.ops [⟨(some 6), .assign (.const (.int .i64 0)), none⟩]) .ret) K t m := rfl

def c_sheafref12_Compare_26 : MC := (.seq c_sheafref12_Compare_24 c_sheafref12_Compare_25)
@[go_sem] theorem c_sheafref12_Compare_26_at (rd : Option Nat) (K : Post3) (t : Fr) (m : Mem) : wpM E 39 45 rd c_sheafref12_Compare_26 K t m = wpM E 39 45 rd (.seq c_sheafref12_Compare_24 c_sheafref12_Compare_25) K t m := rfl

def c_sheafref12_Compare_27 : MC := (.seq c_sheafref12_Compare_12 c_sheafref12_Compare_26)
@[go_sem] theorem c_sheafref12_Compare_27_at (rd : Option Nat) (K : Post3) (t : Fr) (m : Mem) : wpM E 39 45 rd c_sheafref12_Compare_27 K t m = wpM E 39 45 rd (.seq c_sheafref12_Compare_12 c_sheafref12_Compare_26) K t m := rfl

def c_sheafref12_Compare_28 : MC := (.seq (.ops [⟨(some 6), .assign (.const (.int .i64 0)), none⟩]) c_sheafref12_Compare_27)
@[go_sem] theorem c_sheafref12_Compare_28_at (rd : Option Nat) (K : Post3) (t : Fr) (m : Mem) : wpM E 39 45 rd c_sheafref12_Compare_28 K t m = wpM E 39 45 rd (.seq (.ops [⟨(some 6), .assign (.const (.int .i64 0)), none⟩]) c_sheafref12_Compare_27) K t m := rfl

@[go_sem] theorem some39 : (E.fn 39).isSome = true := by kernel_rfl
set_option maxRecDepth 100000 in
theorem fn_sheafref12_Compare : FnIs E 39 45 [.tmp 6] c_sheafref12_Compare_28 := ⟨by kernel_rfl, by kernel_rfl⟩

/-! sheaf/sheafref16.Good -/
abbrev F_sheafref16_Good : FuncId := 49
def c_sheafref16_Good_0 : MC := (.seq (.ops [⟨(some 8), .move (.tmp 1), none⟩,
    ⟨(some 9), .call ⟨.builtin .len, #[(.tmp 8)], #[22]⟩, none⟩,
    ⟨(some 10), .binOp .eql 3 (.tmp 9) (.const (.int .i64 3)) 3, none⟩,
    ⟨(some 11), .move (.tmp 10), none⟩,
    ⟨(some 12), .move (.tmp 1), (some (some 11, true))⟩,
    ⟨(some 13), .indexAddr 22 (.tmp 12) (.const (.int .i64 0)), (some (some 11, true))⟩,
    ⟨(some 14), .load 3 (.tmp 13), (some (some 11, true))⟩,
    ⟨(some 15), .binOp .geq 3 (.tmp 14) (.const (.int .i64 1)) 3, (some (some 11, true))⟩,
    ⟨(some 16), .pick (.tmp 11) (.tmp 15) (.const (.bool false)), none⟩,
    ⟨(some 17), .move (.tmp 16), none⟩,
    ⟨(some 18), .move (.tmp 1), (some (some 17, true))⟩,
    ⟨(some 19), .indexAddr 22 (.tmp 18) (.const (.int .i64 1)), (some (some 17, true))⟩,
    ⟨(some 20), .load 3 (.tmp 19), (some (some 17, true))⟩,
    ⟨(some 21), .binOp .geq 3 (.tmp 20) (.const (.int .i64 1)) 3, (some (some 17, true))⟩,
    ⟨(some 22), .pick (.tmp 17) (.tmp 21) (.const (.bool false)), none⟩,
    ⟨(some 23), .move (.tmp 22), none⟩,
    ⟨(some 24), .move (.tmp 1), (some (some 23, true))⟩,
    ⟨(some 25), .indexAddr 22 (.tmp 24) (.const (.int .i64 2)), (some (some 23, true))⟩,
    ⟨(some 26), .load 3 (.tmp 25), (some (some 23, true))⟩,
    ⟨(some 27), .binOp .geq 3 (.tmp 26) (.const (.int .i64 0)) 3, (some (some 23, true))⟩,
    ⟨(some 28), .pick (.tmp 23) (.tmp 27) (.const (.bool false)), none⟩,
    ⟨(some 29), .move (.tmp 28), none⟩,
    ⟨(some 30), .move (.tmp 1), (some (some 29, true))⟩,
    ⟨(some 31), .indexAddr 22 (.tmp 30) (.const (.int .i64 2)), (some (some 29, true))⟩,
    ⟨(some 32), .load 3 (.tmp 31), (some (some 29, true))⟩,
    ⟨(some 33), .binOp .leq 3 (.tmp 32) (.const (.int .i64 10000)) 3, (some (some 29, true))⟩,
    ⟨(some 34), .pick (.tmp 29) (.tmp 33) (.const (.bool false)), none⟩,
    ⟨(some 4), .assign (.tmp 34), none⟩]) .ret)
@[go_sem] theorem c_sheafref16_Good_0_at (rd : Option Nat) (K : Post3) (t : Fr) (m : Mem) : wpM E 49 155 rd c_sheafref16_Good_0 K t m = wpM E 49 155 rd (.seq (.ops [⟨(some 8), .move (.tmp 1), none⟩,
    ⟨(some 9), .call ⟨.builtin .len, #[(.tmp 8)], #[22]⟩, none⟩,
    ⟨(some 10), .binOp .eql 3 (.tmp 9) (.const (.int .i64 3)) 3, none⟩,
    ⟨(some 11), .move (.tmp 10), none⟩,
    ⟨(some 12), .move (.tmp 1), (some (some 11, true))⟩,
    ⟨(some 13), .indexAddr 22 (.tmp 12) (.const (.int .i64 0)), (some (some 11, true))⟩,
    ⟨(some 14), .load 3 (.tmp 13), (some (some 11, true))⟩,
    ⟨(some 15), .binOp .geq 3 (.tmp 14) (.const (.int .i64 1)) 3, (some (some 11, true))⟩,
    ⟨(some 16), .pick (.tmp 11) (.tmp 15) (.const (.bool false)), none⟩,
    ⟨(some 17), .move (.tmp 16), none⟩,
    ⟨(some 18), .move (.tmp 1), (some (some 17, true))⟩,
    ⟨(some 19), .indexAddr 22 (.tmp 18) (.const (.int .i64 1)), (some (some 17, true))⟩,
    ⟨(some 20), .load 3 (.tmp 19), (some (some 17, true))⟩,
    ⟨(some 21), .binOp .geq 3 (.tmp 20) (.const (.int .i64 1)) 3, (some (some 17, true))⟩,
    ⟨(some 22), .pick (.tmp 17) (.tmp 21) (.const (.bool false)), none⟩,
    ⟨(some 23), .move (.tmp 22), none⟩,
    ⟨(some 24), .move (.tmp 1), (some (some 23, true))⟩,
    ⟨(some 25), .indexAddr 22 (.tmp 24) (.const (.int .i64 2)), (some (some 23, true))⟩,
    ⟨(some 26), .load 3 (.tmp 25), (some (some 23, true))⟩,
    ⟨(some 27), .binOp .geq 3 (.tmp 26) (.const (.int .i64 0)) 3, (some (some 23, true))⟩,
    ⟨(some 28), .pick (.tmp 23) (.tmp 27) (.const (.bool false)), none⟩,
    ⟨(some 29), .move (.tmp 28), none⟩,
    ⟨(some 30), .move (.tmp 1), (some (some 29, true))⟩,
    ⟨(some 31), .indexAddr 22 (.tmp 30) (.const (.int .i64 2)), (some (some 29, true))⟩,
    ⟨(some 32), .load 3 (.tmp 31), (some (some 29, true))⟩,
    ⟨(some 33), .binOp .leq 3 (.tmp 32) (.const (.int .i64 10000)) 3, (some (some 29, true))⟩,
    ⟨(some 34), .pick (.tmp 29) (.tmp 33) (.const (.bool false)), none⟩,
    ⟨(some 4), .assign (.tmp 34), none⟩]) .ret) K t m := rfl

def c_sheafref16_Good_1 : MC := (.seq (.ops [⟨(some 37), .move (.tmp 1), none⟩,
    ⟨(some 38), .call ⟨.builtin .len, #[(.tmp 37)], #[22]⟩, none⟩,
    ⟨(some 39), .binOp .eql 3 (.tmp 38) (.const (.int .i64 2)) 3, none⟩,
    ⟨(some 40), .move (.tmp 39), none⟩,
    ⟨(some 41), .move (.tmp 1), (some (some 40, true))⟩,
    ⟨(some 42), .indexAddr 22 (.tmp 41) (.const (.int .i64 0)), (some (some 40, true))⟩,
    ⟨(some 43), .load 3 (.tmp 42), (some (some 40, true))⟩,
    ⟨(some 44), .binOp .geq 3 (.tmp 43) (.const (.int .i64 1)) 3, (some (some 40, true))⟩,
    ⟨(some 45), .pick (.tmp 40) (.tmp 44) (.const (.bool false)), none⟩,
    ⟨(some 46), .move (.tmp 45), none⟩,
    ⟨(some 47), .move (.tmp 1), (some (some 46, true))⟩,
    ⟨(some 48), .indexAddr 22 (.tmp 47) (.const (.int .i64 1)), (some (some 46, true))⟩,
    ⟨(some 49), .load 3 (.tmp 48), (some (some 46, true))⟩,
    ⟨(some 50), .binOp .geq 3 (.tmp 49) (.const (.int .i64 1)) 3, (some (some 46, true))⟩,
    ⟨(some 51), .pick (.tmp 46) (.tmp 50) (.const (.bool false)), none⟩,
    ⟨(some 52), .move (.tmp 51), none⟩,
    ⟨(some 53), .move (.tmp 1), (some (some 52, true))⟩,
    ⟨(some 54), .indexAddr 22 (.tmp 53) (.const (.int .i64 1)), (some (some 52, true))⟩,
    ⟨(some 55), .load 3 (.tmp 54), (some (some 52, true))⟩,
    ⟨(some 56), .binOp .lss 3 (.tmp 55) (.const (.int .i64 9000)) 3, (some (some 52, true))⟩,
    ⟨(some 57), .pick (.tmp 52) (.tmp 56) (.const (.bool false)), none⟩,
    ⟨(some 4), .assign (.tmp 57), none⟩]) .ret)
@[go_sem] theorem c_sheafref16_Good_1_at (rd : Option Nat) (K : Post3) (t : Fr) (m : Mem) : wpM E 49 155 rd c_sheafref16_Good_1 K t m = wpM E 49 155 rd (.seq (.ops [⟨(some 37), .move (.tmp 1), none⟩,
    ⟨(some 38), .call ⟨.builtin .len, #[(.tmp 37)], #[22]⟩, none⟩,
    ⟨(some 39), .binOp .eql 3 (.tmp 38) (.const (.int .i64 2)) 3, none⟩,
    ⟨(some 40), .move (.tmp 39), none⟩,
    ⟨(some 41), .move (.tmp 1), (some (some 40, true))⟩,
    ⟨(some 42), .indexAddr 22 (.tmp 41) (.const (.int .i64 0)), (some (some 40, true))⟩,
    ⟨(some 43), .load 3 (.tmp 42), (some (some 40, true))⟩,
    ⟨(some 44), .binOp .geq 3 (.tmp 43) (.const (.int .i64 1)) 3, (some (some 40, true))⟩,
    ⟨(some 45), .pick (.tmp 40) (.tmp 44) (.const (.bool false)), none⟩,
    ⟨(some 46), .move (.tmp 45), none⟩,
    ⟨(some 47), .move (.tmp 1), (some (some 46, true))⟩,
    ⟨(some 48), .indexAddr 22 (.tmp 47) (.const (.int .i64 1)), (some (some 46, true))⟩,
    ⟨(some 49), .load 3 (.tmp 48), (some (some 46, true))⟩,
    ⟨(some 50), .binOp .geq 3 (.tmp 49) (.const (.int .i64 1)) 3, (some (some 46, true))⟩,
    ⟨(some 51), .pick (.tmp 46) (.tmp 50) (.const (.bool false)), none⟩,
    ⟨(some 52), .move (.tmp 51), none⟩,
    ⟨(some 53), .move (.tmp 1), (some (some 52, true))⟩,
    ⟨(some 54), .indexAddr 22 (.tmp 53) (.const (.int .i64 1)), (some (some 52, true))⟩,
    ⟨(some 55), .load 3 (.tmp 54), (some (some 52, true))⟩,
    ⟨(some 56), .binOp .lss 3 (.tmp 55) (.const (.int .i64 9000)) 3, (some (some 52, true))⟩,
    ⟨(some 57), .pick (.tmp 52) (.tmp 56) (.const (.bool false)), none⟩,
    ⟨(some 4), .assign (.tmp 57), none⟩]) .ret) K t m := rfl

def c_sheafref16_Good_2 : MC := (.seq (.ops [⟨(some 60), .move (.tmp 1), none⟩,
    ⟨(some 61), .call ⟨.builtin .len, #[(.tmp 60)], #[22]⟩, none⟩,
    ⟨(some 62), .binOp .eql 3 (.tmp 61) (.const (.int .i64 4)) 3, none⟩,
    ⟨(some 63), .move (.tmp 62), none⟩,
    ⟨(some 64), .move (.tmp 1), (some (some 63, true))⟩,
    ⟨(some 65), .indexAddr 22 (.tmp 64) (.const (.int .i64 0)), (some (some 63, true))⟩,
    ⟨(some 66), .load 3 (.tmp 65), (some (some 63, true))⟩,
    ⟨(some 67), .binOp .geq 3 (.tmp 66) (.const (.int .i64 1)) 3, (some (some 63, true))⟩,
    ⟨(some 68), .pick (.tmp 63) (.tmp 67) (.const (.bool false)), none⟩,
    ⟨(some 69), .move (.tmp 68), none⟩,
    ⟨(some 70), .move (.tmp 1), (some (some 69, true))⟩,
    ⟨(some 71), .indexAddr 22 (.tmp 70) (.const (.int .i64 1)), (some (some 69, true))⟩,
    ⟨(some 72), .load 3 (.tmp 71), (some (some 69, true))⟩,
    ⟨(some 73), .binOp .geq 3 (.tmp 72) (.const (.int .i64 0)) 3, (some (some 69, true))⟩,
    ⟨(some 74), .pick (.tmp 69) (.tmp 73) (.const (.bool false)), none⟩,
    ⟨(some 75), .move (.tmp 74), none⟩,
    ⟨(some 76), .move (.tmp 1), (some (some 75, true))⟩,
    ⟨(some 77), .indexAddr 22 (.tmp 76) (.const (.int .i64 1)), (some (some 75, true))⟩,
    ⟨(some 78), .load 3 (.tmp 77), (some (some 75, true))⟩,
    ⟨(some 79), .binOp .leq 3 (.tmp 78) (.const (.int .i64 1073741824)) 3, (some (some 75, true))⟩,
    ⟨(some 80), .pick (.tmp 75) (.tmp 79) (.const (.bool false)), none⟩,
    ⟨(some 81), .move (.tmp 80), none⟩,
    ⟨(some 82), .move (.tmp 1), (some (some 81, true))⟩,
    ⟨(some 83), .indexAddr 22 (.tmp 82) (.const (.int .i64 2)), (some (some 81, true))⟩,
    ⟨(some 84), .load 3 (.tmp 83), (some (some 81, true))⟩,
    ⟨(some 85), .binOp .geq 3 (.tmp 84) (.const (.int .i64 1)) 3, (some (some 81, true))⟩,
    ⟨(some 86), .pick (.tmp 81) (.tmp 85) (.const (.bool false)), none⟩,
    ⟨(some 87), .move (.tmp 86), none⟩,
    ⟨(some 88), .move (.tmp 1), (some (some 87, true))⟩,
    ⟨(some 89), .indexAddr 22 (.tmp 88) (.const (.int .i64 2)), (some (some 87, true))⟩,
    ⟨(some 90), .load 3 (.tmp 89), (some (some 87, true))⟩,
    ⟨(some 91), .binOp .leq 3 (.tmp 90) (.const (.int .i64 1099511627776)) 3, (some (some 87, true))⟩,
    ⟨(some 92), .pick (.tmp 87) (.tmp 91) (.const (.bool false)), none⟩,
    ⟨(some 93), .move (.tmp 92), none⟩,
    ⟨(some 94), .move (.tmp 1), (some (some 93, true))⟩,
    ⟨(some 95), .indexAddr 22 (.tmp 94) (.const (.int .i64 3)), (some (some 93, true))⟩,
    ⟨(some 96), .load 3 (.tmp 95), (some (some 93, true))⟩,
    ⟨(some 97), .binOp .geq 3 (.tmp 96) (.const (.int .i64 1)) 3, (some (some 93, true))⟩,
    ⟨(some 98), .pick (.tmp 93) (.tmp 97) (.const (.bool false)), none⟩,
    ⟨(some 99), .move (.tmp 98), none⟩,
    ⟨(some 100), .move (.tmp 1), (some (some 99, true))⟩,
    ⟨(some 101), .indexAddr 22 (.tmp 100) (.const (.int .i64 3)), (some (some 99, true))⟩,
    ⟨(some 102), .load 3 (.tmp 101), (some (some 99, true))⟩,
    ⟨(some 103), .binOp .leq 3 (.tmp 102) (.const (.int .i64 1099511627776)) 3, (some (some 99, true))⟩,
    ⟨(some 104), .pick (.tmp 99) (.tmp 103) (.const (.bool false)), none⟩,
    ⟨(some 4), .assign (.tmp 104), none⟩]) .ret)
@[go_sem] theorem c_sheafref16_Good_2_at (rd : Option Nat) (K : Post3) (t : Fr) (m : Mem) : wpM E 49 155 rd c_sheafref16_Good_2 K t m = wpM E 49 155 rd (.seq (.ops [⟨(some 60), .move (.tmp 1), none⟩,
    ⟨(some 61), .call ⟨.builtin .len, #[(.tmp 60)], #[22]⟩, none⟩,
    ⟨(some 62), .binOp .eql 3 (.tmp 61) (.const (.int .i64 4)) 3, none⟩,
    ⟨(some 63), .move (.tmp 62), none⟩,
    ⟨(some 64), .move (.tmp 1), (some (some 63, true))⟩,
    ⟨(some 65), .indexAddr 22 (.tmp 64) (.const (.int .i64 0)), (some (some 63, true))⟩,
    ⟨(some 66), .load 3 (.tmp 65), (some (some 63, true))⟩,
    ⟨(some 67), .binOp .geq 3 (.tmp 66) (.const (.int .i64 1)) 3, (some (some 63, true))⟩,
    ⟨(some 68), .pick (.tmp 63) (.tmp 67) (.const (.bool false)), none⟩,
    ⟨(some 69), .move (.tmp 68), none⟩,
    ⟨(some 70), .move (.tmp 1), (some (some 69, true))⟩,
    ⟨(some 71), .indexAddr 22 (.tmp 70) (.const (.int .i64 1)), (some (some 69, true))⟩,
    ⟨(some 72), .load 3 (.tmp 71), (some (some 69, true))⟩,
    ⟨(some 73), .binOp .geq 3 (.tmp 72) (.const (.int .i64 0)) 3, (some (some 69, true))⟩,
    ⟨(some 74), .pick (.tmp 69) (.tmp 73) (.const (.bool false)), none⟩,
    ⟨(some 75), .move (.tmp 74), none⟩,
    ⟨(some 76), .move (.tmp 1), (some (some 75, true))⟩,
    ⟨(some 77), .indexAddr 22 (.tmp 76) (.const (.int .i64 1)), (some (some 75, true))⟩,
    ⟨(some 78), .load 3 (.tmp 77), (some (some 75, true))⟩,
    ⟨(some 79), .binOp .leq 3 (.tmp 78) (.const (.int .i64 1073741824)) 3, (some (some 75, true))⟩,
    ⟨(some 80), .pick (.tmp 75) (.tmp 79) (.const (.bool false)), none⟩,
    ⟨(some 81), .move (.tmp 80), none⟩,
    ⟨(some 82), .move (.tmp 1), (some (some 81, true))⟩,
    ⟨(some 83), .indexAddr 22 (.tmp 82) (.const (.int .i64 2)), (some (some 81, true))⟩,
    ⟨(some 84), .load 3 (.tmp 83), (some (some 81, true))⟩,
    ⟨(some 85), .binOp .geq 3 (.tmp 84) (.const (.int .i64 1)) 3, (some (some 81, true))⟩,
    ⟨(some 86), .pick (.tmp 81) (.tmp 85) (.const (.bool false)), none⟩,
    ⟨(some 87), .move (.tmp 86), none⟩,
    ⟨(some 88), .move (.tmp 1), (some (some 87, true))⟩,
    ⟨(some 89), .indexAddr 22 (.tmp 88) (.const (.int .i64 2)), (some (some 87, true))⟩,
    ⟨(some 90), .load 3 (.tmp 89), (some (some 87, true))⟩,
    ⟨(some 91), .binOp .leq 3 (.tmp 90) (.const (.int .i64 1099511627776)) 3, (some (some 87, true))⟩,
    ⟨(some 92), .pick (.tmp 87) (.tmp 91) (.const (.bool false)), none⟩,
    ⟨(some 93), .move (.tmp 92), none⟩,
    ⟨(some 94), .move (.tmp 1), (some (some 93, true))⟩,
    ⟨(some 95), .indexAddr 22 (.tmp 94) (.const (.int .i64 3)), (some (some 93, true))⟩,
    ⟨(some 96), .load 3 (.tmp 95), (some (some 93, true))⟩,
    ⟨(some 97), .binOp .geq 3 (.tmp 96) (.const (.int .i64 1)) 3, (some (some 93, true))⟩,
    ⟨(some 98), .pick (.tmp 93) (.tmp 97) (.const (.bool false)), none⟩,
    ⟨(some 99), .move (.tmp 98), none⟩,
    ⟨(some 100), .move (.tmp 1), (some (some 99, true))⟩,
    ⟨(some 101), .indexAddr 22 (.tmp 100) (.const (.int .i64 3)), (some (some 99, true))⟩,
    ⟨(some 102), .load 3 (.tmp 101), (some (some 99, true))⟩,
    ⟨(some 103), .binOp .leq 3 (.tmp 102) (.const (.int .i64 1099511627776)) 3, (some (some 99, true))⟩,
    ⟨(some 104), .pick (.tmp 99) (.tmp 103) (.const (.bool false)), none⟩,
    ⟨(some 4), .assign (.tmp 104), none⟩]) .ret) K t m := rfl

def c_sheafref16_Good_3 : MC := (.seq (.ops [⟨(some 107), .move (.tmp 1), none⟩,
    ⟨(some 108), .call ⟨.builtin .len, #[(.tmp 107)], #[22]⟩, none⟩,
    ⟨(some 109), .binOp .eql 3 (.tmp 108) (.const (.int .i64 6)) 3, none⟩,
    ⟨(some 110), .move (.tmp 109), none⟩,
    ⟨(some 111), .move (.tmp 1), (some (some 110, true))⟩,
    ⟨(some 112), .indexAddr 22 (.tmp 111) (.const (.int .i64 0)), (some (some 110, true))⟩,
    ⟨(some 113), .load 3 (.tmp 112), (some (some 110, true))⟩,
    ⟨(some 114), .binOp .geq 3 (.tmp 113) (.const (.int .i64 1)) 3, (some (some 110, true))⟩,
    ⟨(some 115), .pick (.tmp 110) (.tmp 114) (.const (.bool false)), none⟩,
    ⟨(some 116), .move (.tmp 115), none⟩,
    ⟨(some 117), .move (.tmp 1), (some (some 116, true))⟩,
    ⟨(some 118), .indexAddr 22 (.tmp 117) (.const (.int .i64 1)), (some (some 116, true))⟩,
    ⟨(some 119), .load 3 (.tmp 118), (some (some 116, true))⟩,
    ⟨(some 120), .binOp .geq 3 (.tmp 119) (.const (.int .i64 1)) 3, (some (some 116, true))⟩,
    ⟨(some 121), .pick (.tmp 116) (.tmp 120) (.const (.bool false)), none⟩,
    ⟨(some 122), .move (.tmp 121), none⟩,
    ⟨(some 123), .move (.tmp 1), (some (some 122, true))⟩,
    ⟨(some 124), .indexAddr 22 (.tmp 123) (.const (.int .i64 2)), (some (some 122, true))⟩,
    ⟨(some 125), .load 3 (.tmp 124), (some (some 122, true))⟩,
    ⟨(some 126), .binOp .geq 3 (.tmp 125) (.const (.int .i64 1)) 3, (some (some 122, true))⟩,
    ⟨(some 127), .pick (.tmp 122) (.tmp 126) (.const (.bool false)), none⟩,
    ⟨(some 128), .move (.tmp 127), none⟩,
    ⟨(some 129), .move (.tmp 1), (some (some 128, true))⟩,
    ⟨(some 130), .indexAddr 22 (.tmp 129) (.const (.int .i64 3)), (some (some 128, true))⟩,
    ⟨(some 131), .load 3 (.tmp 130), (some (some 128, true))⟩,
    ⟨(some 132), .binOp .geq 3 (.tmp 131) (.const (.int .i64 0)) 3, (some (some 128, true))⟩,
    ⟨(some 133), .pick (.tmp 128) (.tmp 132) (.const (.bool false)), none⟩,
    ⟨(some 134), .move (.tmp 133), none⟩,
    ⟨(some 135), .move (.tmp 1), (some (some 134, true))⟩,
    ⟨(some 136), .indexAddr 22 (.tmp 135) (.const (.int .i64 4)), (some (some 134, true))⟩,
    ⟨(some 137), .load 3 (.tmp 136), (some (some 134, true))⟩,
    ⟨(some 138), .binOp .gtr 3 (.tmp 137) (.const (.int .i64 (-9223372036854775808))) 3, (some (some 134, true))⟩,
    ⟨(some 139), .pick (.tmp 134) (.tmp 138) (.const (.bool false)), none⟩,
    ⟨(some 140), .move (.tmp 139), none⟩,
    ⟨(some 141), .move (.tmp 1), (some (some 140, true))⟩,
    ⟨(some 142), .indexAddr 22 (.tmp 141) (.const (.int .i64 5)), (some (some 140, true))⟩,
    ⟨(some 143), .load 3 (.tmp 142), (some (some 140, true))⟩,
    ⟨(some 144), .binOp .geq 3 (.tmp 143) (.const (.int .i64 0)) 3, (some (some 140, true))⟩,
    ⟨(some 145), .pick (.tmp 140) (.tmp 144) (.const (.bool false)), none⟩,
    ⟨(some 146), .move (.tmp 145), none⟩,
    ⟨(some 147), .move (.tmp 1), (some (some 146, true))⟩,
    ⟨(some 148), .indexAddr 22 (.tmp 147) (.const (.int .i64 5)), (some (some 146, true))⟩,
    ⟨(some 149), .load 3 (.tmp 148), (some (some 146, true))⟩,
    ⟨(some 150), .move (.tmp 1), (some (some 146, true))⟩,
    ⟨(some 151), .indexAddr 22 (.tmp 150) (.const (.int .i64 1)), (some (some 146, true))⟩,
    ⟨(some 152), .load 3 (.tmp 151), (some (some 146, true))⟩,
    ⟨(some 153), .binOp .neq 3 (.tmp 149) (.tmp 152) 3, (some (some 146, true))⟩,
    ⟨(some 154), .pick (.tmp 146) (.tmp 153) (.const (.bool false)), none⟩,
    ⟨(some 4), .assign (.tmp 154), none⟩]) .ret)
@[go_sem] theorem c_sheafref16_Good_3_at (rd : Option Nat) (K : Post3) (t : Fr) (m : Mem) : wpM E 49 155 rd c_sheafref16_Good_3 K t m = wpM E 49 155 rd (.seq (.ops [⟨(some 107), .move (.tmp 1), none⟩,
    ⟨(some 108), .call ⟨.builtin .len, #[(.tmp 107)], #[22]⟩, none⟩,
    ⟨(some 109), .binOp .eql 3 (.tmp 108) (.const (.int .i64 6)) 3, none⟩,
    ⟨(some 110), .move (.tmp 109), none⟩,
    ⟨(some 111), .move (.tmp 1), (some (some 110, true))⟩,
    ⟨(some 112), .indexAddr 22 (.tmp 111) (.const (.int .i64 0)), (some (some 110, true))⟩,
    ⟨(some 113), .load 3 (.tmp 112), (some (some 110, true))⟩,
    ⟨(some 114), .binOp .geq 3 (.tmp 113) (.const (.int .i64 1)) 3, (some (some 110, true))⟩,
    ⟨(some 115), .pick (.tmp 110) (.tmp 114) (.const (.bool false)), none⟩,
    ⟨(some 116), .move (.tmp 115), none⟩,
    ⟨(some 117), .move (.tmp 1), (some (some 116, true))⟩,
    ⟨(some 118), .indexAddr 22 (.tmp 117) (.const (.int .i64 1)), (some (some 116, true))⟩,
    ⟨(some 119), .load 3 (.tmp 118), (some (some 116, true))⟩,
    ⟨(some 120), .binOp .geq 3 (.tmp 119) (.const (.int .i64 1)) 3, (some (some 116, true))⟩,
    ⟨(some 121), .pick (.tmp 116) (.tmp 120) (.const (.bool false)), none⟩,
    ⟨(some 122), .move (.tmp 121), none⟩,
    ⟨(some 123), .move (.tmp 1), (some (some 122, true))⟩,
    ⟨(some 124), .indexAddr 22 (.tmp 123) (.const (.int .i64 2)), (some (some 122, true))⟩,
    ⟨(some 125), .load 3 (.tmp 124), (some (some 122, true))⟩,
    ⟨(some 126), .binOp .geq 3 (.tmp 125) (.const (.int .i64 1)) 3, (some (some 122, true))⟩,
    ⟨(some 127), .pick (.tmp 122) (.tmp 126) (.const (.bool false)), none⟩,
    ⟨(some 128), .move (.tmp 127), none⟩,
    ⟨(some 129), .move (.tmp 1), (some (some 128, true))⟩,
    ⟨(some 130), .indexAddr 22 (.tmp 129) (.const (.int .i64 3)), (some (some 128, true))⟩,
    ⟨(some 131), .load 3 (.tmp 130), (some (some 128, true))⟩,
    ⟨(some 132), .binOp .geq 3 (.tmp 131) (.const (.int .i64 0)) 3, (some (some 128, true))⟩,
    ⟨(some 133), .pick (.tmp 128) (.tmp 132) (.const (.bool false)), none⟩,
    ⟨(some 134), .move (.tmp 133), none⟩,
    ⟨(some 135), .move (.tmp 1), (some (some 134, true))⟩,
    ⟨(some 136), .indexAddr 22 (.tmp 135) (.const (.int .i64 4)), (some (some 134, true))⟩,
    ⟨(some 137), .load 3 (.tmp 136), (some (some 134, true))⟩,
    ⟨(some 138), .binOp .gtr 3 (.tmp 137) (.const (.int .i64 (-9223372036854775808))) 3, (some (some 134, true))⟩,
    ⟨(some 139), .pick (.tmp 134) (.tmp 138) (.const (.bool false)), none⟩,
    ⟨(some 140), .move (.tmp 139), none⟩,
    ⟨(some 141), .move (.tmp 1), (some (some 140, true))⟩,
    ⟨(some 142), .indexAddr 22 (.tmp 141) (.const (.int .i64 5)), (some (some 140, true))⟩,
    ⟨(some 143), .load 3 (.tmp 142), (some (some 140, true))⟩,
    ⟨(some 144), .binOp .geq 3 (.tmp 143) (.const (.int .i64 0)) 3, (some (some 140, true))⟩,
    ⟨(some 145), .pick (.tmp 140) (.tmp 144) (.const (.bool false)), none⟩,
    ⟨(some 146), .move (.tmp 145), none⟩,
    ⟨(some 147), .move (.tmp 1), (some (some 146, true))⟩,
    ⟨(some 148), .indexAddr 22 (.tmp 147) (.const (.int .i64 5)), (some (some 146, true))⟩,
    ⟨(some 149), .load 3 (.tmp 148), (some (some 146, true))⟩,
    ⟨(some 150), .move (.tmp 1), (some (some 146, true))⟩,
    ⟨(some 151), .indexAddr 22 (.tmp 150) (.const (.int .i64 1)), (some (some 146, true))⟩,
    ⟨(some 152), .load 3 (.tmp 151), (some (some 146, true))⟩,
    ⟨(some 153), .binOp .neq 3 (.tmp 149) (.tmp 152) 3, (some (some 146, true))⟩,
    ⟨(some 154), .pick (.tmp 146) (.tmp 153) (.const (.bool false)), none⟩,
    ⟨(some 4), .assign (.tmp 154), none⟩]) .ret) K t m := rfl

def c_sheafref16_Good_4 : MC := (.cond (.tmp 105) c_sheafref16_Good_3 .skip)
@[go_sem] theorem c_sheafref16_Good_4_at (rd : Option Nat) (K : Post3) (t : Fr) (m : Mem) : wpM E 49 155 rd c_sheafref16_Good_4 K t m = wpM E 49 155 rd (.cond (.tmp 105) c_sheafref16_Good_3 .skip) K t m := rfl

def c_sheafref16_Good_5 : MC := (.seq (.ops [⟨(some 106), .binOp .eql 3 (.tmp 5) (.const (.int .i64 1)) 3, none⟩,
    ⟨(some 105), .assign (.tmp 106), none⟩]) c_sheafref16_Good_4)
@[go_sem] theorem c_sheafref16_Good_5_at (rd : Option Nat) (K : Post3) (t : Fr) (m : Mem) : wpM E 49 155 rd c_sheafref16_Good_5 K t m = wpM E 49 155 rd (.seq (.ops [⟨(some 106), .binOp .eql 3 (.tmp 5) (.const (.int .i64 1)) 3, none⟩,
    ⟨(some 105), .assign (.tmp 106), none⟩]) c_sheafref16_Good_4) K t m := rfl

def c_sheafref16_Good_6 : MC := (.cond (.tmp 58) c_sheafref16_Good_2 c_sheafref16_Good_5)
@[go_sem] theorem c_sheafref16_Good_6_at (rd : Option Nat) (K : Post3) (t : Fr) (m : Mem) : wpM E 49 155 rd c_sheafref16_Good_6 K t m = wpM E 49 155 rd (.cond (.tmp 58) c_sheafref16_Good_2 c_sheafref16_Good_5) K t m := rfl

def c_sheafref16_Good_7 : MC := (.seq (.ops [⟨(some 59), .binOp .eql 3 (.tmp 5) (.const (.int .i64 4)) 3, none⟩,
    ⟨(some 58), .assign (.tmp 59), none⟩]) c_sheafref16_Good_6)
@[go_sem] theorem c_sheafref16_Good_7_at (rd : Option Nat) (K : Post3) (t : Fr) (m : Mem) : wpM E 49 155 rd c_sheafref16_Good_7 K t m = wpM E 49 155 rd (.seq (.ops [⟨(some 59), .binOp .eql 3 (.tmp 5) (.const (.int .i64 4)) 3, none⟩,
    ⟨(some 58), .assign (.tmp 59), none⟩]) c_sheafref16_Good_6) K t m := rfl

def c_sheafref16_Good_8 : MC := (.cond (.tmp 35) c_sheafref16_Good_1 c_sheafref16_Good_7)
@[go_sem] theorem c_sheafref16_Good_8_at (rd : Option Nat) (K : Post3) (t : Fr) (m : Mem) : wpM E 49 155 rd c_sheafref16_Good_8 K t m = wpM E 49 155 rd (.cond (.tmp 35) c_sheafref16_Good_1 c_sheafref16_Good_7) K t m := rfl

def c_sheafref16_Good_9 : MC := (.seq (.ops [⟨(some 36), .binOp .eql 3 (.tmp 5) (.const (.int .i64 3)) 3, none⟩,
    ⟨(some 35), .assign (.tmp 36), none⟩]) c_sheafref16_Good_8)
@[go_sem] theorem c_sheafref16_Good_9_at (rd : Option Nat) (K : Post3) (t : Fr) (m : Mem) : wpM E 49 155 rd c_sheafref16_Good_9 K t m = wpM E 49 155 rd (.seq (.ops [⟨(some 36), .binOp .eql 3 (.tmp 5) (.const (.int .i64 3)) 3, none⟩,
    ⟨(some 35), .assign (.tmp 36), none⟩]) c_sheafref16_Good_8) K t m := rfl

def c_sheafref16_Good_10 : MC := (.cond (.tmp 6) c_sheafref16_Good_0 c_sheafref16_Good_9)
@[go_sem] theorem c_sheafref16_Good_10_at (rd : Option Nat) (K : Post3) (t : Fr) (m : Mem) : wpM E 49 155 rd c_sheafref16_Good_10 K t m = wpM E 49 155 rd (.cond (.tmp 6) c_sheafref16_Good_0 c_sheafref16_Good_9) K t m := rfl

def c_sheafref16_Good_11 : MC := (.seq (.ops [⟨(some 7), .binOp .eql 3 (.tmp 5) (.const (.int .i64 2)) 3, none⟩,
    ⟨(some 6), .assign (.tmp 7), none⟩]) c_sheafref16_Good_10)
@[go_sem] theorem c_sheafref16_Good_11_at (rd : Option Nat) (K : Post3) (t : Fr) (m : Mem) : wpM E 49 155 rd c_sheafref16_Good_11 K t m = wpM E 49 155 rd (.seq (.ops [⟨(some 7), .binOp .eql 3 (.tmp 5) (.const (.int .i64 2)) 3, none⟩,
    ⟨(some 6), .assign (.tmp 7), none⟩]) c_sheafref16_Good_10) K t m := rfl

def c_sheafref16_Good_12 : MC := (.block 0 c_sheafref16_Good_11)
@[go_sem] theorem c_sheafref16_Good_12_at (rd : Option Nat) (K : Post3) (t : Fr) (m : Mem) : wpM E 49 155 rd c_sheafref16_Good_12 K t m = wpM E 49 155 rd (.block 0 c_sheafref16_Good_11) K t m := rfl

def c_sheafref16_Good_13 : MC := (.seq (.ops [⟨(some 5), .move (.tmp 0), none⟩]) c_sheafref16_Good_12)
@[go_sem] theorem c_sheafref16_Good_13_at (rd : Option Nat) (K : Post3) (t : Fr) (m : Mem) : wpM E 49 155 rd c_sheafref16_Good_13 K t m = wpM E 49 155 rd (.seq (.ops [⟨(some 5), .move (.tmp 0), none⟩]) c_sheafref16_Good_12) K t m := rfl

def c_sheafref16_Good_14 : MC := (.seq (.ops [⟨(some 4), .assign (.const (.bool false)), none⟩]) .ret)
@[go_sem] theorem c_sheafref16_Good_14_at (rd : Option Nat) (K : Post3) (t : Fr) (m : Mem) : wpM E 49 155 rd c_sheafref16_Good_14 K t m = wpM E 49 155 rd (.seq (.ops [⟨(some 4), .assign (.const (.bool false)), none⟩]) .ret) K t m := rfl

def c_sheafref16_Good_15 : MC := (.seq c_sheafref16_Good_13 c_sheafref16_Good_14)
@[go_sem] theorem c_sheafref16_Good_15_at (rd : Option Nat) (K : Post3) (t : Fr) (m : Mem) : wpM E 49 155 rd c_sheafref16_Good_15 K t m = wpM E 49 155 rd (.seq c_sheafref16_Good_13 c_sheafref16_Good_14) K t m := rfl

def c_sheafref16_Good_16 : MC := (.seq (.ops [⟨(some 4), .assign (.const (.bool false)), none⟩]) c_sheafref16_Good_15)
@[go_sem] theorem c_sheafref16_Good_16_at (rd : Option Nat) (K : Post3) (t : Fr) (m : Mem) : wpM E 49 155 rd c_sheafref16_Good_16 K t m = wpM E 49 155 rd (.seq (.ops [⟨(some 4), .assign (.const (.bool false)), none⟩]) c_sheafref16_Good_15) K t m := rfl

@[go_sem] theorem some49 : (E.fn 49).isSome = true := by kernel_rfl
set_option maxRecDepth 100000 in
theorem fn_sheafref16_Good : FnIs E 49 155 [.tmp 4] c_sheafref16_Good_16 := ⟨by kernel_rfl, by kernel_rfl⟩

/-! sheaf/sheafref16.find -/
abbrev F_sheafref16_find : FuncId := 50
def c_sheafref16_find_0 : MC := (.cond (.tmp 11) .skip (.exit 0))
@[go_sem] theorem c_sheafref16_find_0_at (rd : Option Nat) (K : Post3) (t : Fr) (m : Mem) : wpM E 50 21 rd c_sheafref16_find_0 K t m = wpM E 50 21 rd (.cond (.tmp 11) .skip (.exit 0)) K t m := rfl

def c_sheafref16_find_1 : MC := (.seq (.ops [⟨(some 19), .move (.tmp 7), none⟩,
    ⟨(some 4), .assign (.tmp 19), none⟩,
    ⟨(some 5), .assign (.const (.bool true)), none⟩]) .ret)
@[go_sem] theorem c_sheafref16_find_1_at (rd : Option Nat) (K : Post3) (t : Fr) (m : Mem) : wpM E 50 21 rd c_sheafref16_find_1 K t m = wpM E 50 21 rd (.seq (.ops [⟨(some 19), .move (.tmp 7), none⟩,
    ⟨(some 4), .assign (.tmp 19), none⟩,
    ⟨(some 5), .assign (.const (.bool true)), none⟩]) .ret) K t m := rfl

def c_sheafref16_find_2 : MC := (.cond (.tmp 18) c_sheafref16_find_1 .skip)
@[go_sem] theorem c_sheafref16_find_2_at (rd : Option Nat) (K : Post3) (t : Fr) (m : Mem) : wpM E 50 21 rd c_sheafref16_find_2 K t m = wpM E 50 21 rd (.cond (.tmp 18) c_sheafref16_find_1 .skip) K t m := rfl

def c_sheafref16_find_3 : MC := (.seq (.ops [⟨(some 14), .move (.tmp 7), none⟩,
    ⟨(some 15), .indexAddr 22 (.tmp 14) (.const (.int .i64 0)), none⟩,
    ⟨(some 16), .load 3 (.tmp 15), none⟩,
    ⟨(some 17), .move (.tmp 1), none⟩,
    ⟨(some 18), .binOp .eql 3 (.tmp 16) (.tmp 17) 3, none⟩]) c_sheafref16_find_2)
@[go_sem] theorem c_sheafref16_find_3_at (rd : Option Nat) (K : Post3) (t : Fr) (m : Mem) : wpM E 50 21 rd c_sheafref16_find_3 K t m = wpM E 50 21 rd (.seq (.ops [⟨(some 14), .move (.tmp 7), none⟩,
    ⟨(some 15), .indexAddr 22 (.tmp 14) (.const (.int .i64 0)), none⟩,
    ⟨(some 16), .load 3 (.tmp 15), none⟩,
    ⟨(some 17), .move (.tmp 1), none⟩,
    ⟨(some 18), .binOp .eql 3 (.tmp 16) (.tmp 17) 3, none⟩]) c_sheafref16_find_2) K t m := rfl

def c_sheafref16_find_4 : MC := (.seq (.ops [⟨(some 12), .indexAddr 23 (.tmp 8) (.tmp 10), none⟩,
    ⟨(some 13), .load 22 (.tmp 12), none⟩,
    ⟨(some 7), .assign (.tmp 13), none⟩]) c_sheafref16_find_3)
@[go_sem] theorem c_sheafref16_find_4_at (rd : Option Nat) (K : Post3) (t : Fr) (m : Mem) : wpM E 50 21 rd c_sheafref16_find_4 K t m = wpM E 50 21 rd (.seq (.ops [⟨(some 12), .indexAddr 23 (.tmp 8) (.tmp 10), none⟩,
    ⟨(some 13), .load 22 (.tmp 12), none⟩,
    ⟨(some 7), .assign (.tmp 13), none⟩]) c_sheafref16_find_3) K t m := rfl

def c_sheafref16_find_5 : MC := (.block 1 c_sheafref16_find_4)
@[go_sem] theorem c_sheafref16_find_5_at (rd : Option Nat) (K : Post3) (t : Fr) (m : Mem) : wpM E 50 21 rd c_sheafref16_find_5 K t m = wpM E 50 21 rd (.block 1 c_sheafref16_find_4) K t m := rfl

def c_sheafref16_find_6 : MC := (.seq c_sheafref16_find_5 (.ops [⟨(some 20), .binOp .add 3 (.tmp 10) (.const (.int .i64 1)) 3, none⟩,
    ⟨(some 10), .move (.tmp 20), none⟩]))
@[go_sem] theorem c_sheafref16_find_6_at (rd : Option Nat) (K : Post3) (t : Fr) (m : Mem) : wpM E 50 21 rd c_sheafref16_find_6 K t m = wpM E 50 21 rd (.seq c_sheafref16_find_5 (.ops [⟨(some 20), .binOp .add 3 (.tmp 10) (.const (.int .i64 1)) 3, none⟩,
    ⟨(some 10), .move (.tmp 20), none⟩])) K t m := rfl

def c_sheafref16_find_7 : MC := (.seq c_sheafref16_find_0 c_sheafref16_find_6)
@[go_sem] theorem c_sheafref16_find_7_at (rd : Option Nat) (K : Post3) (t : Fr) (m : Mem) : wpM E 50 21 rd c_sheafref16_find_7 K t m = wpM E 50 21 rd (.seq c_sheafref16_find_0 c_sheafref16_find_6) K t m := rfl

def c_sheafref16_find_8 : MC := (.seq (.ops [⟨(some 11), .binOp .lss 3 (.tmp 10) (.tmp 9) 3, none⟩]) c_sheafref16_find_7)
@[go_sem] theorem c_sheafref16_find_8_at (rd : Option Nat) (K : Post3) (t : Fr) (m : Mem) : wpM E 50 21 rd c_sheafref16_find_8 K t m = wpM E 50 21 rd (.seq (.ops [⟨(some 11), .binOp .lss 3 (.tmp 10) (.tmp 9) 3, none⟩]) c_sheafref16_find_7) K t m := rfl

def c_sheafref16_find_9 : MC := (.loop c_sheafref16_find_8)
theorem c_sheafref16_find_9_at (rd : Option Nat) (K : Post3) (t : Fr) (m : Mem) : wpM E 50 21 rd c_sheafref16_find_9 K t m = wpM E 50 21 rd (.loop c_sheafref16_find_8) K t m := rfl

def c_sheafref16_find_10 : MC := (.block 0 c_sheafref16_find_9)
theorem c_sheafref16_find_10_at (rd : Option Nat) (K : Post3) (t : Fr) (m : Mem) : wpM E 50 21 rd c_sheafref16_find_10 K t m = wpM E 50 21 rd (.block 0 c_sheafref16_find_9) K t m := rfl

def c_sheafref16_find_11 : MC := (.seq (.ops [⟨(some 8), .move (.tmp 0), none⟩,
    ⟨(some 9), .call ⟨.builtin .len, #[(.tmp 8)], #[23]⟩, none⟩,
    ⟨(some 10), .move (.const (.int .i64 0)), none⟩]) c_sheafref16_find_10)
@[go_sem] theorem c_sheafref16_find_11_at (rd : Option Nat) (K : Post3) (t : Fr) (m : Mem) : wpM E 50 21 rd c_sheafref16_find_11 K t m = wpM E 50 21 rd (.seq (.ops [⟨(some 8), .move (.tmp 0), none⟩,
    ⟨(some 9), .call ⟨.builtin .len, #[(.tmp 8)], #[23]⟩, none⟩,
    ⟨(some 10), .move (.const (.int .i64 0)), none⟩]) c_sheafref16_find_10) K t m := rfl

def c_sheafref16_find_12 : MC := (.seq (.ops [⟨(some 4), .assign (.const (.slice none 0 0)), none⟩,
    ⟨(some 5), .assign (.const (.bool false)), none⟩]) .ret)
@[go_sem] theorem c_sheafref16_find_12_at (rd : Option Nat) (K : Post3) (t : Fr) (m : Mem) : wpM E 50 21 rd c_sheafref16_find_12 K t m = wpM E 50 21 rd (.seq (.ops [⟨(some 4), .assign (.const (.slice none 0 0)), none⟩,
    ⟨(some 5), .assign (.const (.bool false)), none⟩]) .ret) K t m := rfl

def c_sheafref16_find_13 : MC := (.seq c_sheafref16_find_11 c_sheafref16_find_12)
@[go_sem] theorem c_sheafref16_find_13_at (rd : Option Nat) (K : Post3) (t : Fr) (m : Mem) : wpM E 50 21 rd c_sheafref16_find_13 K t m = wpM E 50 21 rd (.seq c_sheafref16_find_11 c_sheafref16_find_12) K t m := rfl

def c_sheafref16_find_14 : MC := (.seq (.ops [⟨(some 4), .assign (.const (.slice none 0 0)), none⟩,
    ⟨(some 5), .assign (.const (.bool false)), none⟩]) c_sheafref16_find_13)
@[go_sem] theorem c_sheafref16_find_14_at (rd : Option Nat) (K : Post3) (t : Fr) (m : Mem) : wpM E 50 21 rd c_sheafref16_find_14 K t m = wpM E 50 21 rd (.seq (.ops [⟨(some 4), .assign (.const (.slice none 0 0)), none⟩,
    ⟨(some 5), .assign (.const (.bool false)), none⟩]) c_sheafref16_find_13) K t m := rfl

@[go_sem] theorem some50 : (E.fn 50).isSome = true := by kernel_rfl
set_option maxRecDepth 100000 in
theorem fn_sheafref16_find : FnIs E 50 21 [.tmp 4, .tmp 5] c_sheafref16_find_14 := ⟨by kernel_rfl, by kernel_rfl⟩

/-! sheaf/sheafref16.Rate -/
abbrev F_sheafref16_Rate : FuncId := 51
def c_sheafref16_Rate_0 : MC := (.cond (.tmp 14) .skip (.exit 0))
@[go_sem] theorem c_sheafref16_Rate_0_at (rd : Option Nat) (K : Post3) (t : Fr) (m : Mem) : wpM E 51 49 rd c_sheafref16_Rate_0 K t m = wpM E 51 49 rd (.cond (.tmp 14) .skip (.exit 0)) K t m := rfl

def c_sheafref16_Rate_1 : MC := (.cond (.tmp 42) (.ops [⟨(some 43), .move (.tmp 10), none⟩,
    ⟨(some 8), .assign (.tmp 43), none⟩]) .skip)
@[go_sem] theorem c_sheafref16_Rate_1_at (rd : Option Nat) (K : Post3) (t : Fr) (m : Mem) : wpM E 51 49 rd c_sheafref16_Rate_1 K t m = wpM E 51 49 rd (.cond (.tmp 42) (.ops [⟨(some 43), .move (.tmp 10), none⟩,
    ⟨(some 8), .assign (.tmp 43), none⟩]) .skip) K t m := rfl

def c_sheafref16_Rate_2 : MC := (.seq (.ops [⟨(some 17), .move (.tmp 10), none⟩,
    ⟨(some 18), .indexAddr 22 (.tmp 17) (.const (.int .i64 0)), none⟩,
    ⟨(some 19), .load 3 (.tmp 18), none⟩,
    ⟨(some 20), .move (.tmp 1), none⟩,
    ⟨(some 21), .binOp .eql 3 (.tmp 19) (.tmp 20) 3, none⟩,
    ⟨(some 22), .move (.tmp 21), none⟩,
    ⟨(some 23), .move (.tmp 10), (some (some 22, true))⟩,
    ⟨(some 24), .indexAddr 22 (.tmp 23) (.const (.int .i64 1)), (some (some 22, true))⟩,
    ⟨(some 25), .load 3 (.tmp 24), (some (some 22, true))⟩,
    ⟨(some 26), .move (.tmp 2), (some (some 22, true))⟩,
    ⟨(some 27), .binOp .leq 3 (.tmp 25) (.tmp 26) 3, (some (some 22, true))⟩,
    ⟨(some 28), .pick (.tmp 22) (.tmp 27) (.const (.bool false)), none⟩,
    ⟨(some 29), .move (.tmp 28), none⟩,
    ⟨(some 30), .move (.tmp 8), (some (some 29, true))⟩,
    ⟨(some 31), .call ⟨.builtin .len, #[(.tmp 30)], #[22]⟩, (some (some 29, true))⟩,
    ⟨(some 32), .binOp .eql 3 (.tmp 31) (.const (.int .i64 0)) 3, (some (some 29, true))⟩,
    ⟨(some 33), .move (.tmp 32), (some (some 29, true))⟩,
    ⟨(some 34), .move (.tmp 10), (some (some 33, false))⟩,
    ⟨(some 35), .indexAddr 22 (.tmp 34) (.const (.int .i64 1)), (some (some 33, false))⟩,
    ⟨(some 36), .load 3 (.tmp 35), (some (some 33, false))⟩,
    ⟨(some 37), .move (.tmp 8), (some (some 33, false))⟩,
    ⟨(some 38), .indexAddr 22 (.tmp 37) (.const (.int .i64 1)), (some (some 33, false))⟩,
    ⟨(some 39), .load 3 (.tmp 38), (some (some 33, false))⟩,
    ⟨(some 40), .binOp .gtr 3 (.tmp 36) (.tmp 39) 3, (some (some 33, false))⟩,
    ⟨(some 41), .pick (.tmp 33) (.const (.bool true)) (.tmp 40), (some (some 29, true))⟩,
    ⟨(some 42), .pick (.tmp 29) (.tmp 41) (.const (.bool false)), none⟩]) c_sheafref16_Rate_1)
@[go_sem] theorem c_sheafref16_Rate_2_at (rd : Option Nat) (K : Post3) (t : Fr) (m : Mem) : wpM E 51 49 rd c_sheafref16_Rate_2 K t m = wpM E 51 49 rd (.seq (.ops [⟨(some 17), .move (.tmp 10), none⟩,
    ⟨(some 18), .indexAddr 22 (.tmp 17) (.const (.int .i64 0)), none⟩,
    ⟨(some 19), .load 3 (.tmp 18), none⟩,
    ⟨(some 20), .move (.tmp 1), none⟩,
    ⟨(some 21), .binOp .eql 3 (.tmp 19) (.tmp 20) 3, none⟩,
    ⟨(some 22), .move (.tmp 21), none⟩,
    ⟨(some 23), .move (.tmp 10), (some (some 22, true))⟩,
    ⟨(some 24), .indexAddr 22 (.tmp 23) (.const (.int .i64 1)), (some (some 22, true))⟩,
    ⟨(some 25), .load 3 (.tmp 24), (some (some 22, true))⟩,
    ⟨(some 26), .move (.tmp 2), (some (some 22, true))⟩,
    ⟨(some 27), .binOp .leq 3 (.tmp 25) (.tmp 26) 3, (some (some 22, true))⟩,
    ⟨(some 28), .pick (.tmp 22) (.tmp 27) (.const (.bool false)), none⟩,
    ⟨(some 29), .move (.tmp 28), none⟩,
    ⟨(some 30), .move (.tmp 8), (some (some 29, true))⟩,
    ⟨(some 31), .call ⟨.builtin .len, #[(.tmp 30)], #[22]⟩, (some (some 29, true))⟩,
    ⟨(some 32), .binOp .eql 3 (.tmp 31) (.const (.int .i64 0)) 3, (some (some 29, true))⟩,
    ⟨(some 33), .move (.tmp 32), (some (some 29, true))⟩,
    ⟨(some 34), .move (.tmp 10), (some (some 33, false))⟩,
    ⟨(some 35), .indexAddr 22 (.tmp 34) (.const (.int .i64 1)), (some (some 33, false))⟩,
    ⟨(some 36), .load 3 (.tmp 35), (some (some 33, false))⟩,
    ⟨(some 37), .move (.tmp 8), (some (some 33, false))⟩,
    ⟨(some 38), .indexAddr 22 (.tmp 37) (.const (.int .i64 1)), (some (some 33, false))⟩,
    ⟨(some 39), .load 3 (.tmp 38), (some (some 33, false))⟩,
    ⟨(some 40), .binOp .gtr 3 (.tmp 36) (.tmp 39) 3, (some (some 33, false))⟩,
    ⟨(some 41), .pick (.tmp 33) (.const (.bool true)) (.tmp 40), (some (some 29, true))⟩,
    ⟨(some 42), .pick (.tmp 29) (.tmp 41) (.const (.bool false)), none⟩]) c_sheafref16_Rate_1) K t m := rfl

def c_sheafref16_Rate_3 : MC := (.seq (.ops [⟨(some 15), .indexAddr 23 (.tmp 11) (.tmp 13), none⟩,
    ⟨(some 16), .load 22 (.tmp 15), none⟩,
    ⟨(some 10), .assign (.tmp 16), none⟩]) c_sheafref16_Rate_2)
@[go_sem] theorem c_sheafref16_Rate_3_at (rd : Option Nat) (K : Post3) (t : Fr) (m : Mem) : wpM E 51 49 rd c_sheafref16_Rate_3 K t m = wpM E 51 49 rd (.seq (.ops [⟨(some 15), .indexAddr 23 (.tmp 11) (.tmp 13), none⟩,
    ⟨(some 16), .load 22 (.tmp 15), none⟩,
    ⟨(some 10), .assign (.tmp 16), none⟩]) c_sheafref16_Rate_2) K t m := rfl

def c_sheafref16_Rate_4 : MC := (.block 1 c_sheafref16_Rate_3)
@[go_sem] theorem c_sheafref16_Rate_4_at (rd : Option Nat) (K : Post3) (t : Fr) (m : Mem) : wpM E 51 49 rd c_sheafref16_Rate_4 K t m = wpM E 51 49 rd (.block 1 c_sheafref16_Rate_3) K t m := rfl

def c_sheafref16_Rate_5 : MC := (.seq c_sheafref16_Rate_4 (.ops [⟨(some 44), .binOp .add 3 (.tmp 13) (.const (.int .i64 1)) 3, none⟩,
    ⟨(some 13), .move (.tmp 44), none⟩]))
@[go_sem] theorem c_sheafref16_Rate_5_at (rd : Option Nat) (K : Post3) (t : Fr) (m : Mem) : wpM E 51 49 rd c_sheafref16_Rate_5 K t m = wpM E 51 49 rd (.seq c_sheafref16_Rate_4 (.ops [⟨(some 44), .binOp .add 3 (.tmp 13) (.const (.int .i64 1)) 3, none⟩,
    ⟨(some 13), .move (.tmp 44), none⟩])) K t m := rfl

def c_sheafref16_Rate_6 : MC := (.seq c_sheafref16_Rate_0 c_sheafref16_Rate_5)
@[go_sem] theorem c_sheafref16_Rate_6_at (rd : Option Nat) (K : Post3) (t : Fr) (m : Mem) : wpM E 51 49 rd c_sheafref16_Rate_6 K t m = wpM E 51 49 rd (.seq c_sheafref16_Rate_0 c_sheafref16_Rate_5) K t m := rfl

def c_sheafref16_Rate_7 : MC := (.seq (.ops [⟨(some 14), .binOp .lss 3 (.tmp 13) (.tmp 12) 3, none⟩]) c_sheafref16_Rate_6)
@[go_sem] theorem c_sheafref16_Rate_7_at (rd : Option Nat) (K : Post3) (t : Fr) (m : Mem) : wpM E 51 49 rd c_sheafref16_Rate_7 K t m = wpM E 51 49 rd (.seq (.ops [⟨(some 14), .binOp .lss 3 (.tmp 13) (.tmp 12) 3, none⟩]) c_sheafref16_Rate_6) K t m := rfl

def c_sheafref16_Rate_8 : MC := (.loop c_sheafref16_Rate_7)
theorem c_sheafref16_Rate_8_at (rd : Option Nat) (K : Post3) (t : Fr) (m : Mem) : wpM E 51 49 rd c_sheafref16_Rate_8 K t m = wpM E 51 49 rd (.loop c_sheafref16_Rate_7) K t m := rfl

def c_sheafref16_Rate_9 : MC := (.block 0 c_sheafref16_Rate_8)
theorem c_sheafref16_Rate_9_at (rd : Option Nat) (K : Post3) (t : Fr) (m : Mem) : wpM E 51 49 rd c_sheafref16_Rate_9 K t m = wpM E 51 49 rd (.block 0 c_sheafref16_Rate_8) K t m := rfl

def c_sheafref16_Rate_10 : MC := (.seq (.ops [⟨(some 11), .move (.tmp 0), none⟩,
    ⟨(some 12), .call ⟨.builtin .len, #[(.tmp 11)], #[23]⟩, none⟩,
    ⟨(some 13), .move (.const (.int .i64 0)), none⟩]) c_sheafref16_Rate_9)
@[go_sem] theorem c_sheafref16_Rate_10_at (rd : Option Nat) (K : Post3) (t : Fr) (m : Mem) : wpM E 51 49 rd c_sheafref16_Rate_10 K t m = wpM E 51 49 rd (.seq (.ops [⟨(some 11), .move (.tmp 0), none⟩,
    ⟨(some 12), .call ⟨.builtin .len, #[(.tmp 11)], #[23]⟩, none⟩,
    ⟨(some 13), .move (.const (.int .i64 0)), none⟩]) c_sheafref16_Rate_9) K t m := rfl

def c_sheafref16_Rate_11 : MC := (.seq (.ops [⟨(some 45), .move (.tmp 8), none⟩,
    ⟨(some 46), .move (.tmp 8), none⟩,
    ⟨(some 47), .call ⟨.builtin .len, #[(.tmp 46)], #[22]⟩, none⟩,
    ⟨(some 48), .binOp .gtr 3 (.tmp 47) (.const (.int .i64 0)) 3, none⟩,
    ⟨(some 6), .assign (.tmp 45), none⟩,
    ⟨(some 7), .assign (.tmp 48), none⟩]) .ret)
@[go_sem] theorem c_sheafref16_Rate_11_at (rd : Option Nat) (K : Post3) (t : Fr) (m : Mem) : wpM E 51 49 rd c_sheafref16_Rate_11 K t m = wpM E 51 49 rd (.seq (.ops [⟨(some 45), .move (.tmp 8), none⟩,
    ⟨(some 46), .move (.tmp 8), none⟩,
    ⟨(some 47), .call ⟨.builtin .len, #[(.tmp 46)], #[22]⟩, none⟩,
    ⟨(some 48), .binOp .gtr 3 (.tmp 47) (.const (.int .i64 0)) 3, none⟩,
    ⟨(some 6), .assign (.tmp 45), none⟩,
    ⟨(some 7), .assign (.tmp 48), none⟩]) .ret) K t m := rfl

def c_sheafref16_Rate_12 : MC := (.seq c_sheafref16_Rate_10 c_sheafref16_Rate_11)
@[go_sem] theorem c_sheafref16_Rate_12_at (rd : Option Nat) (K : Post3) (t : Fr) (m : Mem) : wpM E 51 49 rd c_sheafref16_Rate_12 K t m = wpM E 51 49 rd (.seq c_sheafref16_Rate_10 c_sheafref16_Rate_11) K t m := rfl

def c_sheafref16_Rate_13 : MC := (.seq (.ops [⟨(some 8), .assign (.const (.slice none 0 0)), none⟩]) c_sheafref16_Rate_12)
@[go_sem] theorem c_sheafref16_Rate_13_at (rd : Option Nat) (K : Post3) (t : Fr) (m : Mem) : wpM E 51 49 rd c_sheafref16_Rate_13 K t m = wpM E 51 49 rd (.seq (.ops [⟨(some 8), .assign (.const (.slice none 0 0)), none⟩]) c_sheafref16_Rate_12) K t m := rfl

def c_sheafref16_Rate_14 : MC := (.seq (.ops [⟨(some 6), .assign (.const (.slice none 0 0)), none⟩,
    ⟨(some 7), .assign (.const (.bool false)), none⟩]) c_sheafref16_Rate_13)
@[go_sem] theorem c_sheafref16_Rate_14_at (rd : Option Nat) (K : Post3) (t : Fr) (m : Mem) : wpM E 51 49 rd c_sheafref16_Rate_14 K t m = wpM E 51 49 rd (.seq (.ops [⟨(some 6), .assign (.const (.slice none 0 0)), none⟩,
    ⟨(some 7), .assign (.const (.bool false)), none⟩]) c_sheafref16_Rate_13) K t m := rfl

@[go_sem] theorem some51 : (E.fn 51).isSome = true := by kernel_rfl
set_option maxRecDepth 100000 in
theorem fn_sheafref16_Rate : FnIs E 51 49 [.tmp 6, .tmp 7] c_sheafref16_Rate_14 := ⟨by kernel_rfl, by kernel_rfl⟩

/-! sheaf/sheafref1.Scale -/
abbrev F_sheafref1_Scale : FuncId := 52
def c_sheafref1_Scale_0 : MC := (.seq (.ops [⟨(some 8), .move (.tmp 0), none⟩,
    ⟨(some 9), .move (.tmp 1), none⟩,
    ⟨(some 10), .call ⟨.value (.func 64), #[(.tmp 8), (.tmp 9)], #[3, 3]⟩, none⟩,
    ⟨(some 11), .move (.tmp 2), none⟩,
    ⟨(some 12), .call ⟨.value (.func 63), #[(.tmp 10), (.tmp 11)], #[83, 3]⟩, none⟩,
    ⟨(some 13), .extract (.tmp 12) 0, none⟩,
    ⟨(some 14), .extract (.tmp 12) 1, none⟩,
    ⟨(some 6), .assign (.tmp 13), none⟩,
    ⟨(some 7), .assign (.tmp 14), none⟩]) .ret)
@[go_sem] theorem c_sheafref1_Scale_0_at (rd : Option Nat) (K : Post3) (t : Fr) (m : Mem) : wpM E 52 15 rd c_sheafref1_Scale_0 K t m = wpM E 52 15 rd (.seq (.ops [⟨(some 8), .move (.tmp 0), none⟩,
    ⟨(some 9), .move (.tmp 1), none⟩,
    ⟨(some 10), .call ⟨.value (.func 64), #[(.tmp 8), (.tmp 9)], #[3, 3]⟩, none⟩,
    ⟨(some 11), .move (.tmp 2), none⟩,
    ⟨(some 12), .call ⟨.value (.func 63), #[(.tmp 10), (.tmp 11)], #[83, 3]⟩, none⟩,
    ⟨(some 13), .extract (.tmp 12) 0, none⟩,
    ⟨(some 14), .extract (.tmp 12) 1, none⟩,
    ⟨(some 6), .assign (.tmp 13), none⟩,
    ⟨(some 7), .assign (.tmp 14), none⟩]) .ret) K t m := rfl

def c_sheafref1_Scale_1 : MC := (.seq (.ops [⟨(some 6), .assign (.const (.int .i64 0)), none⟩,
    ⟨(some 7), .assign (.const (.bool false)), none⟩]) c_sheafref1_Scale_0)
@[go_sem] theorem c_sheafref1_Scale_1_at (rd : Option Nat) (K : Post3) (t : Fr) (m : Mem) : wpM E 52 15 rd c_sheafref1_Scale_1 K t m = wpM E 52 15 rd (.seq (.ops [⟨(some 6), .assign (.const (.int .i64 0)), none⟩,
    ⟨(some 7), .assign (.const (.bool false)), none⟩]) c_sheafref1_Scale_0) K t m := rfl

@[go_sem] theorem some52 : (E.fn 52).isSome = true := by kernel_rfl
set_option maxRecDepth 100000 in
theorem fn_sheafref1_Scale : FnIs E 52 15 [.tmp 6, .tmp 7] c_sheafref1_Scale_1 := ⟨by kernel_rfl, by kernel_rfl⟩

/-! sheaf/sheafref12.column -/
abbrev F_sheafref12_column : FuncId := 58
def c_sheafref12_column_0 : MC := (.seq (.ops [⟨(some 6), .assign (.const (.int .i64 0)), none⟩]) .ret)
@[go_sem] theorem c_sheafref12_column_0_at (rd : Option Nat) (K : Post3) (t : Fr) (m : Mem) : wpM E 58 63 rd c_sheafref12_column_0 K t m = wpM E 58 63 rd (.seq (.ops [⟨(some 6), .assign (.const (.int .i64 0)), none⟩]) .ret) K t m := rfl

def c_sheafref12_column_1 : MC := (.seq (.ops [⟨(some 6), .assign (.const (.int .i64 (-1))), none⟩]) .ret)
@[go_sem] theorem c_sheafref12_column_1_at (rd : Option Nat) (K : Post3) (t : Fr) (m : Mem) : wpM E 58 63 rd c_sheafref12_column_1 K t m = wpM E 58 63 rd (.seq (.ops [⟨(some 6), .assign (.const (.int .i64 (-1))), none⟩]) .ret) K t m := rfl

def c_sheafref12_column_2 : MC := (.seq (.ops [⟨(some 6), .assign (.const (.int .i64 1)), none⟩]) .ret)
@[go_sem] theorem c_sheafref12_column_2_at (rd : Option Nat) (K : Post3) (t : Fr) (m : Mem) : wpM E 58 63 rd c_sheafref12_column_2 K t m = wpM E 58 63 rd (.seq (.ops [⟨(some 6), .assign (.const (.int .i64 1)), none⟩]) .ret) K t m := rfl

def c_sheafref12_column_3 : MC := (.cond (.tmp 49) c_sheafref12_column_2 .skip)
@[go_sem] theorem c_sheafref12_column_3_at (rd : Option Nat) (K : Post3) (t : Fr) (m : Mem) : wpM E 58 63 rd c_sheafref12_column_3 K t m = wpM E 58 63 rd (.cond (.tmp 49) c_sheafref12_column_2 .skip) K t m := rfl

def c_sheafref12_column_4 : MC := (.seq (.ops [⟨(some 50), .move (.tmp 8), none⟩,
    ⟨(some 51), .unOp .not 4 (.tmp 50), none⟩,
    ⟨(some 52), .move (.tmp 51), none⟩,
    ⟨(some 53), .move (.tmp 0), (some (some 52, false))⟩,
    ⟨(some 54), .move (.tmp 2), (some (some 52, false))⟩,
    ⟨(some 55), .indexAddr 22 (.tmp 53) (.tmp 54), (some (some 52, false))⟩,
    ⟨(some 56), .load 3 (.tmp 55), (some (some 52, false))⟩,
    ⟨(some 57), .move (.tmp 1), (some (some 52, false))⟩,
    ⟨(some 58), .move (.tmp 2), (some (some 52, false))⟩,
    ⟨(some 59), .indexAddr 22 (.tmp 57) (.tmp 58), (some (some 52, false))⟩,
    ⟨(some 60), .load 3 (.tmp 59), (some (some 52, false))⟩,
    ⟨(some 61), .binOp .gtr 3 (.tmp 56) (.tmp 60) 3, (some (some 52, false))⟩,
    ⟨(some 62), .pick (.tmp 52) (.const (.bool true)) (.tmp 61), none⟩,
    ⟨(some 49), .assign (.tmp 62), none⟩]) c_sheafref12_column_3)
@[go_sem] theorem c_sheafref12_column_4_at (rd : Option Nat) (K : Post3) (t : Fr) (m : Mem) : wpM E 58 63 rd c_sheafref12_column_4 K t m = wpM E 58 63 rd (.seq (.ops [⟨(some 50), .move (.tmp 8), none⟩,
    ⟨(some 51), .unOp .not 4 (.tmp 50), none⟩,
    ⟨(some 52), .move (.tmp 51), none⟩,
    ⟨(some 53), .move (.tmp 0), (some (some 52, false))⟩,
    ⟨(some 54), .move (.tmp 2), (some (some 52, false))⟩,
    ⟨(some 55), .indexAddr 22 (.tmp 53) (.tmp 54), (some (some 52, false))⟩,
    ⟨(some 56), .load 3 (.tmp 55), (some (some 52, false))⟩,
    ⟨(some 57), .move (.tmp 1), (some (some 52, false))⟩,
    ⟨(some 58), .move (.tmp 2), (some (some 52, false))⟩,
    ⟨(some 59), .indexAddr 22 (.tmp 57) (.tmp 58), (some (some 52, false))⟩,
    ⟨(some 60), .load 3 (.tmp 59), (some (some 52, false))⟩,
    ⟨(some 61), .binOp .gtr 3 (.tmp 56) (.tmp 60) 3, (some (some 52, false))⟩,
    ⟨(some 62), .pick (.tmp 52) (.const (.bool true)) (.tmp 61), none⟩,
    ⟨(some 49), .assign (.tmp 62), none⟩]) c_sheafref12_column_3) K t m := rfl

def c_sheafref12_column_5 : MC := (.cond (.tmp 32) c_sheafref12_column_1 c_sheafref12_column_4)
@[go_sem] theorem c_sheafref12_column_5_at (rd : Option Nat) (K : Post3) (t : Fr) (m : Mem) : wpM E 58 63 rd c_sheafref12_column_5 K t m = wpM E 58 63 rd (.cond (.tmp 32) c_sheafref12_column_1 c_sheafref12_column_4) K t m := rfl

def c_sheafref12_column_6 : MC := (.seq (.ops [⟨(some 33), .move (.tmp 7), none⟩,
    ⟨(some 34), .unOp .not 4 (.tmp 33), none⟩,
    ⟨(some 35), .move (.tmp 34), none⟩,
    ⟨(some 36), .move (.tmp 8), (some (some 35, false))⟩,
    ⟨(some 37), .move (.tmp 36), (some (some 35, false))⟩,
    ⟨(some 38), .move (.tmp 0), (some (some 37, true))⟩,
    ⟨(some 39), .move (.tmp 2), (some (some 37, true))⟩,
    ⟨(some 40), .indexAddr 22 (.tmp 38) (.tmp 39), (some (some 37, true))⟩,
    ⟨(some 41), .load 3 (.tmp 40), (some (some 37, true))⟩,
    ⟨(some 42), .move (.tmp 1), (some (some 37, true))⟩,
    ⟨(some 43), .move (.tmp 2), (some (some 37, true))⟩,
    ⟨(some 44), .indexAddr 22 (.tmp 42) (.tmp 43), (some (some 37, true))⟩,
    ⟨(some 45), .load 3 (.tmp 44), (some (some 37, true))⟩,
    ⟨(some 46), .binOp .lss 3 (.tmp 41) (.tmp 45) 3, (some (some 37, true))⟩,
    ⟨(some 47), .pick (.tmp 37) (.tmp 46) (.const (.bool false)), (some (some 35, false))⟩,
    ⟨(some 48), .pick (.tmp 35) (.const (.bool true)) (.tmp 47), none⟩,
    ⟨(some 32), .assign (.tmp 48), none⟩]) c_sheafref12_column_5)
@[go_sem] theorem c_sheafref12_column_6_at (rd : Option Nat) (K : Post3) (t : Fr) (m : Mem) : wpM E 58 63 rd c_sheafref12_column_6 K t m = wpM E 58 63 rd (.seq (.ops [⟨(some 33), .move (.tmp 7), none⟩,
    ⟨(some 34), .unOp .not 4 (.tmp 33), none⟩,
    ⟨(some 35), .move (.tmp 34), none⟩,
    ⟨(some 36), .move (.tmp 8), (some (some 35, false))⟩,
    ⟨(some 37), .move (.tmp 36), (some (some 35, false))⟩,
    ⟨(some 38), .move (.tmp 0), (some (some 37, true))⟩,
    ⟨(some 39), .move (.tmp 2), (some (some 37, true))⟩,
    ⟨(some 40), .indexAddr 22 (.tmp 38) (.tmp 39), (some (some 37, true))⟩,
    ⟨(some 41), .load 3 (.tmp 40), (some (some 37, true))⟩,
    ⟨(some 42), .move (.tmp 1), (some (some 37, true))⟩,
    ⟨(some 43), .move (.tmp 2), (some (some 37, true))⟩,
    ⟨(some 44), .indexAddr 22 (.tmp 42) (.tmp 43), (some (some 37, true))⟩,
    ⟨(some 45), .load 3 (.tmp 44), (some (some 37, true))⟩,
    ⟨(some 46), .binOp .lss 3 (.tmp 41) (.tmp 45) 3, (some (some 37, true))⟩,
    ⟨(some 47), .pick (.tmp 37) (.tmp 46) (.const (.bool false)), (some (some 35, false))⟩,
    ⟨(some 48), .pick (.tmp 35) (.const (.bool true)) (.tmp 47), none⟩,
    ⟨(some 32), .assign (.tmp 48), none⟩]) c_sheafref12_column_5) K t m := rfl

def c_sheafref12_column_7 : MC := (.cond (.tmp 25) c_sheafref12_column_0 c_sheafref12_column_6)
@[go_sem] theorem c_sheafref12_column_7_at (rd : Option Nat) (K : Post3) (t : Fr) (m : Mem) : wpM E 58 63 rd c_sheafref12_column_7 K t m = wpM E 58 63 rd (.cond (.tmp 25) c_sheafref12_column_0 c_sheafref12_column_6) K t m := rfl

def c_sheafref12_column_8 : MC := (.seq (.ops [⟨(some 26), .move (.tmp 7), none⟩,
    ⟨(some 27), .unOp .not 4 (.tmp 26), none⟩,
    ⟨(some 28), .move (.tmp 27), none⟩,
    ⟨(some 29), .move (.tmp 8), (some (some 28, true))⟩,
    ⟨(some 30), .unOp .not 4 (.tmp 29), (some (some 28, true))⟩,
    ⟨(some 31), .pick (.tmp 28) (.tmp 30) (.const (.bool false)), none⟩,
    ⟨(some 25), .assign (.tmp 31), none⟩]) c_sheafref12_column_7)
@[go_sem] theorem c_sheafref12_column_8_at (rd : Option Nat) (K : Post3) (t : Fr) (m : Mem) : wpM E 58 63 rd c_sheafref12_column_8 K t m = wpM E 58 63 rd (.seq (.ops [⟨(some 26), .move (.tmp 7), none⟩,
    ⟨(some 27), .unOp .not 4 (.tmp 26), none⟩,
    ⟨(some 28), .move (.tmp 27), none⟩,
    ⟨(some 29), .move (.tmp 8), (some (some 28, true))⟩,
    ⟨(some 30), .unOp .not 4 (.tmp 29), (some (some 28, true))⟩,
    ⟨(some 31), .pick (.tmp 28) (.tmp 30) (.const (.bool false)), none⟩,
    ⟨(some 25), .assign (.tmp 31), none⟩]) c_sheafref12_column_7) K t m := rfl

def c_sheafref12_column_9 : MC := (.block 0 c_sheafref12_column_8)
@[go_sem] theorem c_sheafref12_column_9_at (rd : Option Nat) (K : Post3) (t : Fr) (m : Mem) : wpM E 58 63 rd c_sheafref12_column_9 K t m = wpM E 58 63 rd (.block 0 c_sheafref12_column_8) K t m := rfl

def c_sheafref12_column_10 : MC := (.seq (.ops [⟨(some 6), .assign (.const (.int .i64 0)), none⟩]) .ret)
@[go_sem] theorem c_sheafref12_column_10_at (rd : Option Nat) (K : Post3) (t : Fr) (m : Mem) : wpM E 58 63 rd c_sheafref12_column_10 K t m = wpM E 58 63 rd (.seq (.ops [⟨(some 6), .assign (.const (.int .i64 0)), none⟩]) .ret) K t m := rfl

def c_sheafref12_column_11 : MC := (.seq c_sheafref12_column_9 c_sheafref12_column_10)
@[go_sem] theorem c_sheafref12_column_11_at (rd : Option Nat) (K : Post3) (t : Fr) (m : Mem) : wpM E 58 63 rd c_sheafref12_column_11 K t m = wpM E 58 63 rd (.seq c_sheafref12_column_9 c_sheafref12_column_10) K t m := rfl

def c_sheafref12_column_12 : MC := (.seq (.ops [⟨(some 9), .move (.tmp 2), none⟩,
    ⟨(some 10), .binOp .geq 3 (.tmp 9) (.const (.int .i64 0)) 3, none⟩,
    ⟨(some 11), .move (.tmp 10), none⟩,
    ⟨(some 12), .move (.tmp 2), (some (some 11, true))⟩,
    ⟨(some 13), .move (.tmp 0), (some (some 11, true))⟩,
    ⟨(some 14), .call ⟨.builtin .len, #[(.tmp 13)], #[22]⟩, (some (some 11, true))⟩,
    ⟨(some 15), .binOp .lss 3 (.tmp 12) (.tmp 14) 3, (some (some 11, true))⟩,
    ⟨(some 16), .pick (.tmp 11) (.tmp 15) (.const (.bool false)), none⟩,
    ⟨(some 17), .move (.tmp 2), none⟩,
    ⟨(some 18), .binOp .geq 3 (.tmp 17) (.const (.int .i64 0)) 3, none⟩,
    ⟨(some 19), .move (.tmp 18), none⟩,
    ⟨(some 20), .move (.tmp 2), (some (some 19, true))⟩,
    ⟨(some 21), .move (.tmp 1), (some (some 19, true))⟩,
    ⟨(some 22), .call ⟨.builtin .len, #[(.tmp 21)], #[22]⟩, (some (some 19, true))⟩,
    ⟨(some 23), .binOp .lss 3 (.tmp 20) (.tmp 22) 3, (some (some 19, true))⟩,
    ⟨(some 24), .pick (.tmp 19) (.tmp 23) (.const (.bool false)), none⟩,
    ⟨(some 7), .assign (.tmp 16), none⟩,
    ⟨(some 8), .assign (.tmp 24), none⟩]) c_sheafref12_column_11)
@[go_sem] theorem c_sheafref12_column_12_at (rd : Option Nat) (K : Post3) (t : Fr) (m : Mem) : wpM E 58 63 rd c_sheafref12_column_12 K t m = wpM E 58 63 rd (.seq (.ops [⟨(some 9), .move (.tmp 2), none⟩,
    ⟨(some 10), .binOp .geq 3 (.tmp 9) (.const (.int .i64 0)) 3, none⟩,
    ⟨(some 11), .move (.tmp 10), none⟩,
    ⟨(some 12), .move (.tmp 2), (some (some 11, true))⟩,
    ⟨(some 13), .move (.tmp 0), (some (some 11, true))⟩,
    ⟨(some 14), .call ⟨.builtin .len, #[(.tmp 13)], #[22]⟩, (some (some 11, true))⟩,
    ⟨(some 15), .binOp .lss 3 (.tmp 12) (.tmp 14) 3, (some (some 11, true))⟩,
    ⟨(some 16), .pick (.tmp 11) (.tmp 15) (.const (.bool false)), none⟩,
    ⟨(some 17), .move (.tmp 2), none⟩,
    ⟨(some 18), .binOp .geq 3 (.tmp 17) (.const (.int .i64 0)) 3, none⟩,
    ⟨(some 19), .move (.tmp 18), none⟩,
    ⟨(some 20), .move (.tmp 2), (some (some 19, true))⟩,
    ⟨(some 21), .move (.tmp 1), (some (some 19, true))⟩,
    ⟨(some 22), .call ⟨.builtin .len, #[(.tmp 21)], #[22]⟩, (some (some 19, true))⟩,
    ⟨(some 23), .binOp .lss 3 (.tmp 20) (.tmp 22) 3, (some (some 19, true))⟩,
    ⟨(some 24), .pick (.tmp 19) (.tmp 23) (.const (.bool false)), none⟩,
    ⟨(some 7), .assign (.tmp 16), none⟩,
    ⟨(some 8), .assign (.tmp 24), none⟩]) c_sheafref12_column_11) K t m := rfl

def c_sheafref12_column_13 : MC := (.seq (.ops [⟨(some 6), .assign (.const (.int .i64 0)), none⟩]) c_sheafref12_column_12)
@[go_sem] theorem c_sheafref12_column_13_at (rd : Option Nat) (K : Post3) (t : Fr) (m : Mem) : wpM E 58 63 rd c_sheafref12_column_13 K t m = wpM E 58 63 rd (.seq (.ops [⟨(some 6), .assign (.const (.int .i64 0)), none⟩]) c_sheafref12_column_12) K t m := rfl

@[go_sem] theorem some58 : (E.fn 58).isSome = true := by kernel_rfl
set_option maxRecDepth 100000 in
theorem fn_sheafref12_column : FnIs E 58 63 [.tmp 6] c_sheafref12_column_13 := ⟨by kernel_rfl, by kernel_rfl⟩

/-! sheaf/sheafref1.Quo -/
abbrev F_sheafref1_Quo : FuncId := 63
def c_sheafref1_Quo_0 : MC := (.seq (.ops [⟨(some 4), .assign (.const (.int .i64 0)), none⟩,
    ⟨(some 5), .assign (.const (.bool false)), none⟩]) .ret)
@[go_sem] theorem c_sheafref1_Quo_0_at (rd : Option Nat) (K : Post3) (t : Fr) (m : Mem) : wpM E 63 86 rd c_sheafref1_Quo_0 K t m = wpM E 63 86 rd (.seq (.ops [⟨(some 4), .assign (.const (.int .i64 0)), none⟩,
    ⟨(some 5), .assign (.const (.bool false)), none⟩]) .ret) K t m := rfl

def c_sheafref1_Quo_1 : MC := (.cond (.tmp 13) c_sheafref1_Quo_0 .skip)
@[go_sem] theorem c_sheafref1_Quo_1_at (rd : Option Nat) (K : Post3) (t : Fr) (m : Mem) : wpM E 63 86 rd c_sheafref1_Quo_1 K t m = wpM E 63 86 rd (.cond (.tmp 13) c_sheafref1_Quo_0 .skip) K t m := rfl

def c_sheafref1_Quo_2 : MC := (.seq (.ops [⟨(some 12), .move (.tmp 1), none⟩,
    ⟨(some 13), .binOp .leq 3 (.tmp 12) (.const (.int .i64 0)) 3, none⟩]) c_sheafref1_Quo_1)
@[go_sem] theorem c_sheafref1_Quo_2_at (rd : Option Nat) (K : Post3) (t : Fr) (m : Mem) : wpM E 63 86 rd c_sheafref1_Quo_2 K t m = wpM E 63 86 rd (.seq (.ops [⟨(some 12), .move (.tmp 1), none⟩,
    ⟨(some 13), .binOp .leq 3 (.tmp 12) (.const (.int .i64 0)) 3, none⟩]) c_sheafref1_Quo_1) K t m := rfl

def c_sheafref1_Quo_3 : MC := (.cond (.tmp 17) (.ops [⟨(some 18), .load 83 (.tmp 2), none⟩,
    ⟨(some 19), .call ⟨.value (.func 70), #[(.tmp 18)], #[83]⟩, none⟩,
    ⟨none, .store 83 (.tmp 2) (.tmp 19), none⟩]) .skip)
@[go_sem] theorem c_sheafref1_Quo_3_at (rd : Option Nat) (K : Post3) (t : Fr) (m : Mem) : wpM E 63 86 rd c_sheafref1_Quo_3 K t m = wpM E 63 86 rd (.cond (.tmp 17) (.ops [⟨(some 18), .load 83 (.tmp 2), none⟩,
    ⟨(some 19), .call ⟨.value (.func 70), #[(.tmp 18)], #[83]⟩, none⟩,
    ⟨none, .store 83 (.tmp 2) (.tmp 19), none⟩]) .skip) K t m := rfl

def c_sheafref1_Quo_4 : MC := (.seq (.ops [⟨(some 17), .move (.tmp 6), none⟩]) c_sheafref1_Quo_3)
@[go_sem] theorem c_sheafref1_Quo_4_at (rd : Option Nat) (K : Post3) (t : Fr) (m : Mem) : wpM E 63 86 rd c_sheafref1_Quo_4 K t m = wpM E 63 86 rd (.seq (.ops [⟨(some 17), .move (.tmp 6), none⟩]) c_sheafref1_Quo_3) K t m := rfl

def c_sheafref1_Quo_5 : MC := (.cond (.tmp 22) .skip (.exit 0))
@[go_sem] theorem c_sheafref1_Quo_5_at (rd : Option Nat) (K : Post3) (t : Fr) (m : Mem) : wpM E 63 86 rd c_sheafref1_Quo_5 K t m = wpM E 63 86 rd (.cond (.tmp 22) .skip (.exit 0)) K t m := rfl

def c_sheafref1_Quo_6 : MC := (.seq (.ops [⟨(some 21), .move (.tmp 9), none⟩,
    ⟨(some 22), .binOp .geq 3 (.tmp 21) (.const (.int .i64 0)) 3, none⟩]) c_sheafref1_Quo_5)
@[go_sem] theorem c_sheafref1_Quo_6_at (rd : Option Nat) (K : Post3) (t : Fr) (m : Mem) : wpM E 63 86 rd c_sheafref1_Quo_6 K t m = wpM E 63 86 rd (.seq (.ops [⟨(some 21), .move (.tmp 9), none⟩,
    ⟨(some 22), .binOp .geq 3 (.tmp 21) (.const (.int .i64 0)) 3, none⟩]) c_sheafref1_Quo_5) K t m := rfl

def c_sheafref1_Quo_7 : MC := (.cond (.tmp 31) (.ops [⟨(some 32), .fieldAddr 83 (.tmp 2) 0, none⟩,
    ⟨(some 33), .load 2 (.tmp 32), none⟩,
    ⟨(some 34), .convert 2 81 (.tmp 33), none⟩,
    ⟨(some 35), .move (.tmp 9), none⟩,
    ⟨(some 36), .binOp .sub 3 (.tmp 35) (.const (.int .i64 64)) 3, none⟩,
    ⟨(some 37), .binOp .shr 81 (.tmp 34) (.tmp 36) 3, none⟩,
    ⟨(some 38), .binOp .and 81 (.tmp 37) (.const (.int .u64 1)) 81, none⟩,
    ⟨(some 10), .assign (.tmp 38), none⟩]) .skip)
@[go_sem] theorem c_sheafref1_Quo_7_at (rd : Option Nat) (K : Post3) (t : Fr) (m : Mem) : wpM E 63 86 rd c_sheafref1_Quo_7 K t m = wpM E 63 86 rd (.cond (.tmp 31) (.ops [⟨(some 32), .fieldAddr 83 (.tmp 2) 0, none⟩,
    ⟨(some 33), .load 2 (.tmp 32), none⟩,
    ⟨(some 34), .convert 2 81 (.tmp 33), none⟩,
    ⟨(some 35), .move (.tmp 9), none⟩,
    ⟨(some 36), .binOp .sub 3 (.tmp 35) (.const (.int .i64 64)) 3, none⟩,
    ⟨(some 37), .binOp .shr 81 (.tmp 34) (.tmp 36) 3, none⟩,
    ⟨(some 38), .binOp .and 81 (.tmp 37) (.const (.int .u64 1)) 81, none⟩,
    ⟨(some 10), .assign (.tmp 38), none⟩]) .skip) K t m := rfl

def c_sheafref1_Quo_8 : MC := (.seq (.ops [⟨(some 30), .move (.tmp 9), none⟩,
    ⟨(some 31), .binOp .geq 3 (.tmp 30) (.const (.int .i64 64)) 3, none⟩]) c_sheafref1_Quo_7)
@[go_sem] theorem c_sheafref1_Quo_8_at (rd : Option Nat) (K : Post3) (t : Fr) (m : Mem) : wpM E 63 86 rd c_sheafref1_Quo_8 K t m = wpM E 63 86 rd (.seq (.ops [⟨(some 30), .move (.tmp 9), none⟩,
    ⟨(some 31), .binOp .geq 3 (.tmp 30) (.const (.int .i64 64)) 3, none⟩]) c_sheafref1_Quo_7) K t m := rfl

def c_sheafref1_Quo_9 : MC := (.seq (.ops [⟨(some 50), .move (.tmp 8), none⟩,
    ⟨(some 51), .move (.tmp 1), none⟩,
    ⟨(some 52), .convert 3 81 (.tmp 51), none⟩,
    ⟨(some 53), .binOp .sub 81 (.tmp 50) (.tmp 52) 81, none⟩,
    ⟨(some 8), .assign (.tmp 53), none⟩]) (.ops [⟨(some 54), .fieldAddr 83 (.tmp 7) 1, none⟩,
    ⟨(some 55), .load 81 (.tmp 54), none⟩,
    ⟨(some 56), .binOp .or 81 (.tmp 55) (.const (.int .u64 1)) 81, none⟩,
    ⟨(some 57), .fieldAddr 83 (.tmp 7) 1, none⟩,
    ⟨none, .store 81 (.tmp 57) (.tmp 56), none⟩]))
@[go_sem] theorem c_sheafref1_Quo_9_at (rd : Option Nat) (K : Post3) (t : Fr) (m : Mem) : wpM E 63 86 rd c_sheafref1_Quo_9 K t m = wpM E 63 86 rd (.seq (.ops [⟨(some 50), .move (.tmp 8), none⟩,
    ⟨(some 51), .move (.tmp 1), none⟩,
    ⟨(some 52), .convert 3 81 (.tmp 51), none⟩,
    ⟨(some 53), .binOp .sub 81 (.tmp 50) (.tmp 52) 81, none⟩,
    ⟨(some 8), .assign (.tmp 53), none⟩]) (.ops [⟨(some 54), .fieldAddr 83 (.tmp 7) 1, none⟩,
    ⟨(some 55), .load 81 (.tmp 54), none⟩,
    ⟨(some 56), .binOp .or 81 (.tmp 55) (.const (.int .u64 1)) 81, none⟩,
    ⟨(some 57), .fieldAddr 83 (.tmp 7) 1, none⟩,
    ⟨none, .store 81 (.tmp 57) (.tmp 56), none⟩])) K t m := rfl

def c_sheafref1_Quo_10 : MC := (.cond (.tmp 49) c_sheafref1_Quo_9 .skip)
@[go_sem] theorem c_sheafref1_Quo_10_at (rd : Option Nat) (K : Post3) (t : Fr) (m : Mem) : wpM E 63 86 rd c_sheafref1_Quo_10 K t m = wpM E 63 86 rd (.cond (.tmp 49) c_sheafref1_Quo_9 .skip) K t m := rfl

def c_sheafref1_Quo_11 : MC := (.seq (.ops [⟨(some 46), .move (.tmp 8), none⟩,
    ⟨(some 47), .move (.tmp 1), none⟩,
    ⟨(some 48), .convert 3 81 (.tmp 47), none⟩,
    ⟨(some 49), .binOp .geq 81 (.tmp 46) (.tmp 48) 81, none⟩]) c_sheafref1_Quo_10)
@[go_sem] theorem c_sheafref1_Quo_11_at (rd : Option Nat) (K : Post3) (t : Fr) (m : Mem) : wpM E 63 86 rd c_sheafref1_Quo_11 K t m = wpM E 63 86 rd (.seq (.ops [⟨(some 46), .move (.tmp 8), none⟩,
    ⟨(some 47), .move (.tmp 1), none⟩,
    ⟨(some 48), .convert 3 81 (.tmp 47), none⟩,
    ⟨(some 49), .binOp .geq 81 (.tmp 46) (.tmp 48) 81, none⟩]) c_sheafref1_Quo_10) K t m := rfl

def c_sheafref1_Quo_12 : MC := (.seq (.ops [⟨(some 43), .load 83 (.tmp 7), none⟩,
    ⟨(some 44), .load 83 (.tmp 7), none⟩,
    ⟨(some 45), .call ⟨.value (.func 71), #[(.tmp 43), (.tmp 44)], #[83, 83]⟩, none⟩,
    ⟨none, .store 83 (.tmp 7) (.tmp 45), none⟩]) c_sheafref1_Quo_11)
@[go_sem] theorem c_sheafref1_Quo_12_at (rd : Option Nat) (K : Post3) (t : Fr) (m : Mem) : wpM E 63 86 rd c_sheafref1_Quo_12 K t m = wpM E 63 86 rd (.seq (.ops [⟨(some 43), .load 83 (.tmp 7), none⟩,
    ⟨(some 44), .load 83 (.tmp 7), none⟩,
    ⟨(some 45), .call ⟨.value (.func 71), #[(.tmp 43), (.tmp 44)], #[83, 83]⟩, none⟩,
    ⟨none, .store 83 (.tmp 7) (.tmp 45), none⟩]) c_sheafref1_Quo_11) K t m := rfl

def c_sheafref1_Quo_13 : MC := (.seq (.ops [⟨(some 39), .move (.tmp 8), none⟩,
    ⟨(some 40), .binOp .shl 81 (.tmp 39) (.const (.int .u64 1)) 99, none⟩,
    ⟨(some 41), .move (.tmp 10), none⟩,
    ⟨(some 42), .binOp .or 81 (.tmp 40) (.tmp 41) 81, none⟩,
    ⟨(some 8), .assign (.tmp 42), none⟩]) c_sheafref1_Quo_12)
@[go_sem] theorem c_sheafref1_Quo_13_at (rd : Option Nat) (K : Post3) (t : Fr) (m : Mem) : wpM E 63 86 rd c_sheafref1_Quo_13 K t m = wpM E 63 86 rd (.seq (.ops [⟨(some 39), .move (.tmp 8), none⟩,
    ⟨(some 40), .binOp .shl 81 (.tmp 39) (.const (.int .u64 1)) 99, none⟩,
    ⟨(some 41), .move (.tmp 10), none⟩,
    ⟨(some 42), .binOp .or 81 (.tmp 40) (.tmp 41) 81, none⟩,
    ⟨(some 8), .assign (.tmp 42), none⟩]) c_sheafref1_Quo_12) K t m := rfl

def c_sheafref1_Quo_14 : MC := (.seq c_sheafref1_Quo_8 c_sheafref1_Quo_13)
@[go_sem] theorem c_sheafref1_Quo_14_at (rd : Option Nat) (K : Post3) (t : Fr) (m : Mem) : wpM E 63 86 rd c_sheafref1_Quo_14 K t m = wpM E 63 86 rd (.seq c_sheafref1_Quo_8 c_sheafref1_Quo_13) K t m := rfl

def c_sheafref1_Quo_15 : MC := (.seq (.ops [⟨(some 25), .fieldAddr 83 (.tmp 2) 1, none⟩,
    ⟨(some 26), .load 81 (.tmp 25), none⟩,
    ⟨(some 27), .move (.tmp 9), none⟩,
    ⟨(some 28), .binOp .shr 81 (.tmp 26) (.tmp 27) 3, none⟩,
    ⟨(some 29), .binOp .and 81 (.tmp 28) (.const (.int .u64 1)) 81, none⟩,
    ⟨(some 10), .assign (.tmp 29), none⟩]) c_sheafref1_Quo_14)
@[go_sem] theorem c_sheafref1_Quo_15_at (rd : Option Nat) (K : Post3) (t : Fr) (m : Mem) : wpM E 63 86 rd c_sheafref1_Quo_15 K t m = wpM E 63 86 rd (.seq (.ops [⟨(some 25), .fieldAddr 83 (.tmp 2) 1, none⟩,
    ⟨(some 26), .load 81 (.tmp 25), none⟩,
    ⟨(some 27), .move (.tmp 9), none⟩,
    ⟨(some 28), .binOp .shr 81 (.tmp 26) (.tmp 27) 3, none⟩,
    ⟨(some 29), .binOp .and 81 (.tmp 28) (.const (.int .u64 1)) 81, none⟩,
    ⟨(some 10), .assign (.tmp 29), none⟩]) c_sheafref1_Quo_14) K t m := rfl

def c_sheafref1_Quo_16 : MC := (.block 1 c_sheafref1_Quo_15)
@[go_sem] theorem c_sheafref1_Quo_16_at (rd : Option Nat) (K : Post3) (t : Fr) (m : Mem) : wpM E 63 86 rd c_sheafref1_Quo_16 K t m = wpM E 63 86 rd (.block 1 c_sheafref1_Quo_15) K t m := rfl

def c_sheafref1_Quo_17 : MC := (.seq c_sheafref1_Quo_16 (.ops [⟨(some 23), .move (.tmp 9), none⟩,
    ⟨(some 24), .binOp .sub 3 (.tmp 23) (.const (.int .i64 1)) 3, none⟩,
    ⟨(some 9), .assign (.tmp 24), none⟩]))
@[go_sem] theorem c_sheafref1_Quo_17_at (rd : Option Nat) (K : Post3) (t : Fr) (m : Mem) : wpM E 63 86 rd c_sheafref1_Quo_17 K t m = wpM E 63 86 rd (.seq c_sheafref1_Quo_16 (.ops [⟨(some 23), .move (.tmp 9), none⟩,
    ⟨(some 24), .binOp .sub 3 (.tmp 23) (.const (.int .i64 1)) 3, none⟩,
    ⟨(some 9), .assign (.tmp 24), none⟩])) K t m := rfl

def c_sheafref1_Quo_18 : MC := (.seq c_sheafref1_Quo_6 c_sheafref1_Quo_17)
@[go_sem] theorem c_sheafref1_Quo_18_at (rd : Option Nat) (K : Post3) (t : Fr) (m : Mem) : wpM E 63 86 rd c_sheafref1_Quo_18 K t m = wpM E 63 86 rd (.seq c_sheafref1_Quo_6 c_sheafref1_Quo_17) K t m := rfl

def c_sheafref1_Quo_19 : MC := (.loop c_sheafref1_Quo_18)
theorem c_sheafref1_Quo_19_at (rd : Option Nat) (K : Post3) (t : Fr) (m : Mem) : wpM E 63 86 rd c_sheafref1_Quo_19 K t m = wpM E 63 86 rd (.loop c_sheafref1_Quo_18) K t m := rfl

def c_sheafref1_Quo_20 : MC := (.block 0 c_sheafref1_Quo_19)
theorem c_sheafref1_Quo_20_at (rd : Option Nat) (K : Post3) (t : Fr) (m : Mem) : wpM E 63 86 rd c_sheafref1_Quo_20 K t m = wpM E 63 86 rd (.block 0 c_sheafref1_Quo_19) K t m := rfl

def c_sheafref1_Quo_21 : MC := (.seq (.ops [⟨(some 9), .assign (.const (.int .i64 127)), none⟩]) c_sheafref1_Quo_20)
@[go_sem] theorem c_sheafref1_Quo_21_at (rd : Option Nat) (K : Post3) (t : Fr) (m : Mem) : wpM E 63 86 rd c_sheafref1_Quo_21 K t m = wpM E 63 86 rd (.seq (.ops [⟨(some 9), .assign (.const (.int .i64 127)), none⟩]) c_sheafref1_Quo_20) K t m := rfl

def c_sheafref1_Quo_22 : MC := (.cond (.tmp 75) (.ops [⟨(some 76), .load 83 (.tmp 7), none⟩,
    ⟨(some 77), .build 83 #[(1, (.const (.int .u64 1)))], none⟩,
    ⟨(some 78), .call ⟨.value (.func 71), #[(.tmp 76), (.tmp 77)], #[83, 83]⟩, none⟩,
    ⟨none, .store 83 (.tmp 7) (.tmp 78), none⟩]) .skip)
@[go_sem] theorem c_sheafref1_Quo_22_at (rd : Option Nat) (K : Post3) (t : Fr) (m : Mem) : wpM E 63 86 rd c_sheafref1_Quo_22 K t m = wpM E 63 86 rd (.cond (.tmp 75) (.ops [⟨(some 76), .load 83 (.tmp 7), none⟩,
    ⟨(some 77), .build 83 #[(1, (.const (.int .u64 1)))], none⟩,
    ⟨(some 78), .call ⟨.value (.func 71), #[(.tmp 76), (.tmp 77)], #[83, 83]⟩, none⟩,
    ⟨none, .store 83 (.tmp 7) (.tmp 78), none⟩]) .skip) K t m := rfl

def c_sheafref1_Quo_23 : MC := (.seq (.ops [⟨(some 62), .move (.tmp 8), none⟩,
    ⟨(some 63), .move (.tmp 11), none⟩,
    ⟨(some 64), .binOp .gtr 81 (.tmp 62) (.tmp 63) 81, none⟩,
    ⟨(some 65), .move (.tmp 64), none⟩,
    ⟨(some 66), .move (.tmp 8), (some (some 65, false))⟩,
    ⟨(some 67), .move (.tmp 11), (some (some 65, false))⟩,
    ⟨(some 68), .binOp .eql 81 (.tmp 66) (.tmp 67) 81, (some (some 65, false))⟩,
    ⟨(some 69), .move (.tmp 68), (some (some 65, false))⟩,
    ⟨(some 70), .fieldAddr 83 (.tmp 7) 1, (some (some 69, true))⟩,
    ⟨(some 71), .load 81 (.tmp 70), (some (some 69, true))⟩,
    ⟨(some 72), .binOp .and 81 (.tmp 71) (.const (.int .u64 1)) 81, (some (some 69, true))⟩,
    ⟨(some 73), .binOp .eql 81 (.tmp 72) (.const (.int .u64 1)) 81, (some (some 69, true))⟩,
    ⟨(some 74), .pick (.tmp 69) (.tmp 73) (.const (.bool false)), (some (some 65, false))⟩,
    ⟨(some 75), .pick (.tmp 65) (.const (.bool true)) (.tmp 74), none⟩]) c_sheafref1_Quo_22)
@[go_sem] theorem c_sheafref1_Quo_23_at (rd : Option Nat) (K : Post3) (t : Fr) (m : Mem) : wpM E 63 86 rd c_sheafref1_Quo_23 K t m = wpM E 63 86 rd (.seq (.ops [⟨(some 62), .move (.tmp 8), none⟩,
    ⟨(some 63), .move (.tmp 11), none⟩,
    ⟨(some 64), .binOp .gtr 81 (.tmp 62) (.tmp 63) 81, none⟩,
    ⟨(some 65), .move (.tmp 64), none⟩,
    ⟨(some 66), .move (.tmp 8), (some (some 65, false))⟩,
    ⟨(some 67), .move (.tmp 11), (some (some 65, false))⟩,
    ⟨(some 68), .binOp .eql 81 (.tmp 66) (.tmp 67) 81, (some (some 65, false))⟩,
    ⟨(some 69), .move (.tmp 68), (some (some 65, false))⟩,
    ⟨(some 70), .fieldAddr 83 (.tmp 7) 1, (some (some 69, true))⟩,
    ⟨(some 71), .load 81 (.tmp 70), (some (some 69, true))⟩,
    ⟨(some 72), .binOp .and 81 (.tmp 71) (.const (.int .u64 1)) 81, (some (some 69, true))⟩,
    ⟨(some 73), .binOp .eql 81 (.tmp 72) (.const (.int .u64 1)) 81, (some (some 69, true))⟩,
    ⟨(some 74), .pick (.tmp 69) (.tmp 73) (.const (.bool false)), (some (some 65, false))⟩,
    ⟨(some 75), .pick (.tmp 65) (.const (.bool true)) (.tmp 74), none⟩]) c_sheafref1_Quo_22) K t m := rfl

def c_sheafref1_Quo_24 : MC := (.cond (.tmp 79) (.ops [⟨(some 80), .load 83 (.tmp 7), none⟩,
    ⟨(some 81), .call ⟨.value (.func 70), #[(.tmp 80)], #[83]⟩, none⟩,
    ⟨none, .store 83 (.tmp 7) (.tmp 81), none⟩]) .skip)
@[go_sem] theorem c_sheafref1_Quo_24_at (rd : Option Nat) (K : Post3) (t : Fr) (m : Mem) : wpM E 63 86 rd c_sheafref1_Quo_24 K t m = wpM E 63 86 rd (.cond (.tmp 79) (.ops [⟨(some 80), .load 83 (.tmp 7), none⟩,
    ⟨(some 81), .call ⟨.value (.func 70), #[(.tmp 80)], #[83]⟩, none⟩,
    ⟨none, .store 83 (.tmp 7) (.tmp 81), none⟩]) .skip) K t m := rfl

def c_sheafref1_Quo_25 : MC := (.seq (.ops [⟨(some 79), .move (.tmp 6), none⟩]) c_sheafref1_Quo_24)
@[go_sem] theorem c_sheafref1_Quo_25_at (rd : Option Nat) (K : Post3) (t : Fr) (m : Mem) : wpM E 63 86 rd c_sheafref1_Quo_25 K t m = wpM E 63 86 rd (.seq (.ops [⟨(some 79), .move (.tmp 6), none⟩]) c_sheafref1_Quo_24) K t m := rfl

def c_sheafref1_Quo_26 : MC := (.seq (.ops [⟨(some 82), .load 83 (.tmp 7), none⟩,
    ⟨(some 83), .call ⟨.value (.func 72), #[(.tmp 82)], #[83]⟩, none⟩,
    ⟨(some 84), .extract (.tmp 83) 0, none⟩,
    ⟨(some 85), .extract (.tmp 83) 1, none⟩,
    ⟨(some 4), .assign (.tmp 84), none⟩,
    ⟨(some 5), .assign (.tmp 85), none⟩]) .ret)
@[go_sem] theorem c_sheafref1_Quo_26_at (rd : Option Nat) (K : Post3) (t : Fr) (m : Mem) : wpM E 63 86 rd c_sheafref1_Quo_26 K t m = wpM E 63 86 rd (.seq (.ops [⟨(some 82), .load 83 (.tmp 7), none⟩,
    ⟨(some 83), .call ⟨.value (.func 72), #[(.tmp 82)], #[83]⟩, none⟩,
    ⟨(some 84), .extract (.tmp 83) 0, none⟩,
    ⟨(some 85), .extract (.tmp 83) 1, none⟩,
    ⟨(some 4), .assign (.tmp 84), none⟩,
    ⟨(some 5), .assign (.tmp 85), none⟩]) .ret) K t m := rfl

def c_sheafref1_Quo_27 : MC := (.seq c_sheafref1_Quo_25 c_sheafref1_Quo_26)
@[go_sem] theorem c_sheafref1_Quo_27_at (rd : Option Nat) (K : Post3) (t : Fr) (m : Mem) : wpM E 63 86 rd c_sheafref1_Quo_27 K t m = wpM E 63 86 rd (.seq c_sheafref1_Quo_25 c_sheafref1_Quo_26) K t m := rfl

def c_sheafref1_Quo_28 : MC := (.seq c_sheafref1_Quo_23 c_sheafref1_Quo_27)
@[go_sem] theorem c_sheafref1_Quo_28_at (rd : Option Nat) (K : Post3) (t : Fr) (m : Mem) : wpM E 63 86 rd c_sheafref1_Quo_28 K t m = wpM E 63 86 rd (.seq c_sheafref1_Quo_23 c_sheafref1_Quo_27) K t m := rfl

def c_sheafref1_Quo_29 : MC := (.seq (.ops [⟨(some 58), .move (.tmp 1), none⟩,
    ⟨(some 59), .convert 3 81 (.tmp 58), none⟩,
    ⟨(some 60), .move (.tmp 8), none⟩,
    ⟨(some 61), .binOp .sub 81 (.tmp 59) (.tmp 60) 81, none⟩,
    ⟨(some 11), .assign (.tmp 61), none⟩]) c_sheafref1_Quo_28)
@[go_sem] theorem c_sheafref1_Quo_29_at (rd : Option Nat) (K : Post3) (t : Fr) (m : Mem) : wpM E 63 86 rd c_sheafref1_Quo_29 K t m = wpM E 63 86 rd (.seq (.ops [⟨(some 58), .move (.tmp 1), none⟩,
    ⟨(some 59), .convert 3 81 (.tmp 58), none⟩,
    ⟨(some 60), .move (.tmp 8), none⟩,
    ⟨(some 61), .binOp .sub 81 (.tmp 59) (.tmp 60) 81, none⟩,
    ⟨(some 11), .assign (.tmp 61), none⟩]) c_sheafref1_Quo_28) K t m := rfl

def c_sheafref1_Quo_30 : MC := (.seq c_sheafref1_Quo_21 c_sheafref1_Quo_29)
@[go_sem] theorem c_sheafref1_Quo_30_at (rd : Option Nat) (K : Post3) (t : Fr) (m : Mem) : wpM E 63 86 rd c_sheafref1_Quo_30 K t m = wpM E 63 86 rd (.seq c_sheafref1_Quo_21 c_sheafref1_Quo_29) K t m := rfl

def c_sheafref1_Quo_31 : MC := (.seq (.ops [⟨(some 20), .build 83 #[], none⟩,
    ⟨(some 7), .alloc 83, none⟩,
    ⟨none, .store 83 (.tmp 7) (.tmp 20), none⟩,
    ⟨(some 8), .assign (.const (.int .u64 0)), none⟩]) c_sheafref1_Quo_30)
@[go_sem] theorem c_sheafref1_Quo_31_at (rd : Option Nat) (K : Post3) (t : Fr) (m : Mem) : wpM E 63 86 rd c_sheafref1_Quo_31 K t m = wpM E 63 86 rd (.seq (.ops [⟨(some 20), .build 83 #[], none⟩,
    ⟨(some 7), .alloc 83, none⟩,
    ⟨none, .store 83 (.tmp 7) (.tmp 20), none⟩,
    ⟨(some 8), .assign (.const (.int .u64 0)), none⟩]) c_sheafref1_Quo_30) K t m := rfl

def c_sheafref1_Quo_32 : MC := (.seq c_sheafref1_Quo_4 c_sheafref1_Quo_31)
@[go_sem] theorem c_sheafref1_Quo_32_at (rd : Option Nat) (K : Post3) (t : Fr) (m : Mem) : wpM E 63 86 rd c_sheafref1_Quo_32 K t m = wpM E 63 86 rd (.seq c_sheafref1_Quo_4 c_sheafref1_Quo_31) K t m := rfl

def c_sheafref1_Quo_33 : MC := (.seq (.ops [⟨(some 14), .fieldAddr 83 (.tmp 2) 0, none⟩,
    ⟨(some 15), .load 2 (.tmp 14), none⟩,
    ⟨(some 16), .binOp .lss 2 (.tmp 15) (.const (.int .i64 0)) 2, none⟩,
    ⟨(some 6), .assign (.tmp 16), none⟩]) c_sheafref1_Quo_32)
@[go_sem] theorem c_sheafref1_Quo_33_at (rd : Option Nat) (K : Post3) (t : Fr) (m : Mem) : wpM E 63 86 rd c_sheafref1_Quo_33 K t m = wpM E 63 86 rd (.seq (.ops [⟨(some 14), .fieldAddr 83 (.tmp 2) 0, none⟩,
    ⟨(some 15), .load 2 (.tmp 14), none⟩,
    ⟨(some 16), .binOp .lss 2 (.tmp 15) (.const (.int .i64 0)) 2, none⟩,
    ⟨(some 6), .assign (.tmp 16), none⟩]) c_sheafref1_Quo_32) K t m := rfl

def c_sheafref1_Quo_34 : MC := (.seq c_sheafref1_Quo_2 c_sheafref1_Quo_33)
@[go_sem] theorem c_sheafref1_Quo_34_at (rd : Option Nat) (K : Post3) (t : Fr) (m : Mem) : wpM E 63 86 rd c_sheafref1_Quo_34 K t m = wpM E 63 86 rd (.seq c_sheafref1_Quo_2 c_sheafref1_Quo_33) K t m := rfl

def c_sheafref1_Quo_35 : MC := (.seq (.ops [⟨(some 2), .box 83 (.tmp 0), none⟩,
    ⟨(some 4), .assign (.const (.int .i64 0)), none⟩,
    ⟨(some 5), .assign (.const (.bool false)), none⟩]) c_sheafref1_Quo_34)
@[go_sem] theorem c_sheafref1_Quo_35_at (rd : Option Nat) (K : Post3) (t : Fr) (m : Mem) : wpM E 63 86 rd c_sheafref1_Quo_35 K t m = wpM E 63 86 rd (.seq (.ops [⟨(some 2), .box 83 (.tmp 0), none⟩,
    ⟨(some 4), .assign (.const (.int .i64 0)), none⟩,
    ⟨(some 5), .assign (.const (.bool false)), none⟩]) c_sheafref1_Quo_34) K t m := rfl

@[go_sem] theorem some63 : (E.fn 63).isSome = true := by kernel_rfl
set_option maxRecDepth 100000 in
theorem fn_sheafref1_Quo : FnIs E 63 86 [.tmp 4, .tmp 5] c_sheafref1_Quo_35 := ⟨by kernel_rfl, by kernel_rfl⟩

/-! sheaf/sheafref1.Mul -/
abbrev F_sheafref1_Mul : FuncId := 64
def c_sheafref1_Mul_0 : MC := (.seq (.ops [⟨(some 31), .load 83 (.tmp 6), none⟩,
    ⟨(some 32), .call ⟨.value (.func 70), #[(.tmp 31)], #[83]⟩, none⟩,
    ⟨none, .store 83 (.tmp 4) (.tmp 32), none⟩]) .ret)
@[go_sem] theorem c_sheafref1_Mul_0_at (rd : Option Nat) (K : Post3) (t : Fr) (m : Mem) : wpM E 64 34 rd c_sheafref1_Mul_0 K t m = wpM E 64 34 rd (.seq (.ops [⟨(some 31), .load 83 (.tmp 6), none⟩,
    ⟨(some 32), .call ⟨.value (.func 70), #[(.tmp 31)], #[83]⟩, none⟩,
    ⟨none, .store 83 (.tmp 4) (.tmp 32), none⟩]) .ret) K t m := rfl

def c_sheafref1_Mul_1 : MC := (.cond (.tmp 30) c_sheafref1_Mul_0 .skip)
@[go_sem] theorem c_sheafref1_Mul_1_at (rd : Option Nat) (K : Post3) (t : Fr) (m : Mem) : wpM E 64 34 rd c_sheafref1_Mul_1 K t m = wpM E 64 34 rd (.cond (.tmp 30) c_sheafref1_Mul_0 .skip) K t m := rfl

def c_sheafref1_Mul_2 : MC := (.seq (.ops [⟨(some 26), .move (.tmp 0), none⟩,
    ⟨(some 27), .binOp .lss 3 (.tmp 26) (.const (.int .i64 0)) 3, none⟩,
    ⟨(some 28), .move (.tmp 1), none⟩,
    ⟨(some 29), .binOp .lss 3 (.tmp 28) (.const (.int .i64 0)) 3, none⟩,
    ⟨(some 30), .binOp .neq 4 (.tmp 27) (.tmp 29) 4, none⟩]) c_sheafref1_Mul_1)
@[go_sem] theorem c_sheafref1_Mul_2_at (rd : Option Nat) (K : Post3) (t : Fr) (m : Mem) : wpM E 64 34 rd c_sheafref1_Mul_2 K t m = wpM E 64 34 rd (.seq (.ops [⟨(some 26), .move (.tmp 0), none⟩,
    ⟨(some 27), .binOp .lss 3 (.tmp 26) (.const (.int .i64 0)) 3, none⟩,
    ⟨(some 28), .move (.tmp 1), none⟩,
    ⟨(some 29), .binOp .lss 3 (.tmp 28) (.const (.int .i64 0)) 3, none⟩,
    ⟨(some 30), .binOp .neq 4 (.tmp 27) (.tmp 29) 4, none⟩]) c_sheafref1_Mul_1) K t m := rfl

def c_sheafref1_Mul_3 : MC := (.seq (.ops [⟨(some 33), .load 83 (.tmp 6), none⟩,
    ⟨none, .store 83 (.tmp 4) (.tmp 33), none⟩]) .ret)
@[go_sem] theorem c_sheafref1_Mul_3_at (rd : Option Nat) (K : Post3) (t : Fr) (m : Mem) : wpM E 64 34 rd c_sheafref1_Mul_3 K t m = wpM E 64 34 rd (.seq (.ops [⟨(some 33), .load 83 (.tmp 6), none⟩,
    ⟨none, .store 83 (.tmp 4) (.tmp 33), none⟩]) .ret) K t m := rfl

def c_sheafref1_Mul_4 : MC := (.seq c_sheafref1_Mul_2 c_sheafref1_Mul_3)
@[go_sem] theorem c_sheafref1_Mul_4_at (rd : Option Nat) (K : Post3) (t : Fr) (m : Mem) : wpM E 64 34 rd c_sheafref1_Mul_4 K t m = wpM E 64 34 rd (.seq c_sheafref1_Mul_2 c_sheafref1_Mul_3) K t m := rfl

def c_sheafref1_Mul_5 : MC := (.seq (.ops [⟨(some 12), .indexAddr 102 (.tmp 5) (.const (.int .i64 3)), none⟩,
    ⟨(some 13), .load 81 (.tmp 12), none⟩,
    ⟨(some 14), .binOp .shl 81 (.tmp 13) (.const (.int .u64 32)) 99, none⟩,
    ⟨(some 15), .indexAddr 102 (.tmp 5) (.const (.int .i64 2)), none⟩,
    ⟨(some 16), .load 81 (.tmp 15), none⟩,
    ⟨(some 17), .binOp .or 81 (.tmp 14) (.tmp 16) 81, none⟩,
    ⟨(some 18), .convert 81 2 (.tmp 17), none⟩,
    ⟨(some 19), .indexAddr 102 (.tmp 5) (.const (.int .i64 1)), none⟩,
    ⟨(some 20), .load 81 (.tmp 19), none⟩,
    ⟨(some 21), .binOp .shl 81 (.tmp 20) (.const (.int .u64 32)) 99, none⟩,
    ⟨(some 22), .indexAddr 102 (.tmp 5) (.const (.int .i64 0)), none⟩,
    ⟨(some 23), .load 81 (.tmp 22), none⟩,
    ⟨(some 24), .binOp .or 81 (.tmp 21) (.tmp 23) 81, none⟩,
    ⟨(some 25), .build 83 #[(0, (.tmp 18)), (1, (.tmp 24))], none⟩,
    ⟨(some 6), .alloc 83, none⟩,
    ⟨none, .store 83 (.tmp 6) (.tmp 25), none⟩]) c_sheafref1_Mul_4)
@[go_sem] theorem c_sheafref1_Mul_5_at (rd : Option Nat) (K : Post3) (t : Fr) (m : Mem) : wpM E 64 34 rd c_sheafref1_Mul_5 K t m = wpM E 64 34 rd (.seq (.ops [⟨(some 12), .indexAddr 102 (.tmp 5) (.const (.int .i64 3)), none⟩,
    ⟨(some 13), .load 81 (.tmp 12), none⟩,
    ⟨(some 14), .binOp .shl 81 (.tmp 13) (.const (.int .u64 32)) 99, none⟩,
    ⟨(some 15), .indexAddr 102 (.tmp 5) (.const (.int .i64 2)), none⟩,
    ⟨(some 16), .load 81 (.tmp 15), none⟩,
    ⟨(some 17), .binOp .or 81 (.tmp 14) (.tmp 16) 81, none⟩,
    ⟨(some 18), .convert 81 2 (.tmp 17), none⟩,
    ⟨(some 19), .indexAddr 102 (.tmp 5) (.const (.int .i64 1)), none⟩,
    ⟨(some 20), .load 81 (.tmp 19), none⟩,
    ⟨(some 21), .binOp .shl 81 (.tmp 20) (.const (.int .u64 32)) 99, none⟩,
    ⟨(some 22), .indexAddr 102 (.tmp 5) (.const (.int .i64 0)), none⟩,
    ⟨(some 23), .load 81 (.tmp 22), none⟩,
    ⟨(some 24), .binOp .or 81 (.tmp 21) (.tmp 23) 81, none⟩,
    ⟨(some 25), .build 83 #[(0, (.tmp 18)), (1, (.tmp 24))], none⟩,
    ⟨(some 6), .alloc 83, none⟩,
    ⟨none, .store 83 (.tmp 6) (.tmp 25), none⟩]) c_sheafref1_Mul_4) K t m := rfl

def c_sheafref1_Mul_6 : MC := (.seq (.ops [⟨(some 7), .move (.tmp 0), none⟩,
    ⟨(some 8), .call ⟨.value (.func 74), #[(.tmp 7)], #[3]⟩, none⟩,
    ⟨(some 9), .move (.tmp 1), none⟩,
    ⟨(some 10), .call ⟨.value (.func 74), #[(.tmp 9)], #[3]⟩, none⟩,
    ⟨(some 11), .call ⟨.value (.func 73), #[(.tmp 8), (.tmp 10)], #[81, 81]⟩, none⟩,
    ⟨(some 5), .alloc 102, none⟩,
    ⟨none, .store 102 (.tmp 5) (.tmp 11), none⟩]) c_sheafref1_Mul_5)
@[go_sem] theorem c_sheafref1_Mul_6_at (rd : Option Nat) (K : Post3) (t : Fr) (m : Mem) : wpM E 64 34 rd c_sheafref1_Mul_6 K t m = wpM E 64 34 rd (.seq (.ops [⟨(some 7), .move (.tmp 0), none⟩,
    ⟨(some 8), .call ⟨.value (.func 74), #[(.tmp 7)], #[3]⟩, none⟩,
    ⟨(some 9), .move (.tmp 1), none⟩,
    ⟨(some 10), .call ⟨.value (.func 74), #[(.tmp 9)], #[3]⟩, none⟩,
    ⟨(some 11), .call ⟨.value (.func 73), #[(.tmp 8), (.tmp 10)], #[81, 81]⟩, none⟩,
    ⟨(some 5), .alloc 102, none⟩,
    ⟨none, .store 102 (.tmp 5) (.tmp 11), none⟩]) c_sheafref1_Mul_5) K t m := rfl

def c_sheafref1_Mul_7 : MC := (.seq (.ops [⟨(some 4), .alloc 83, none⟩]) c_sheafref1_Mul_6)
@[go_sem] theorem c_sheafref1_Mul_7_at (rd : Option Nat) (K : Post3) (t : Fr) (m : Mem) : wpM E 64 34 rd c_sheafref1_Mul_7 K t m = wpM E 64 34 rd (.seq (.ops [⟨(some 4), .alloc 83, none⟩]) c_sheafref1_Mul_6) K t m := rfl

@[go_sem] theorem some64 : (E.fn 64).isSome = true := by kernel_rfl
set_option maxRecDepth 100000 in
theorem fn_sheafref1_Mul : FnIs E 64 34 [.cell 4 83] c_sheafref1_Mul_7 := ⟨by kernel_rfl, by kernel_rfl⟩

/-! sheaf/sheafref1.neg -/
abbrev F_sheafref1_neg : FuncId := 70
def c_sheafref1_neg_0 : MC := (.cond (.tmp 13) (.ops [⟨(some 14), .move (.tmp 4), none⟩,
    ⟨(some 15), .binOp .add 2 (.tmp 14) (.const (.int .i64 1)) 2, none⟩,
    ⟨(some 4), .assign (.tmp 15), none⟩]) .skip)
@[go_sem] theorem c_sheafref1_neg_0_at (rd : Option Nat) (K : Post3) (t : Fr) (m : Mem) : wpM E 70 19 rd c_sheafref1_neg_0 K t m = wpM E 70 19 rd (.cond (.tmp 13) (.ops [⟨(some 14), .move (.tmp 4), none⟩,
    ⟨(some 15), .binOp .add 2 (.tmp 14) (.const (.int .i64 1)) 2, none⟩,
    ⟨(some 4), .assign (.tmp 15), none⟩]) .skip) K t m := rfl

def c_sheafref1_neg_1 : MC := (.seq (.ops [⟨(some 12), .move (.tmp 3), none⟩,
    ⟨(some 13), .binOp .eql 81 (.tmp 12) (.const (.int .u64 0)) 81, none⟩]) c_sheafref1_neg_0)
@[go_sem] theorem c_sheafref1_neg_1_at (rd : Option Nat) (K : Post3) (t : Fr) (m : Mem) : wpM E 70 19 rd c_sheafref1_neg_1 K t m = wpM E 70 19 rd (.seq (.ops [⟨(some 12), .move (.tmp 3), none⟩,
    ⟨(some 13), .binOp .eql 81 (.tmp 12) (.const (.int .u64 0)) 81, none⟩]) c_sheafref1_neg_0) K t m := rfl

def c_sheafref1_neg_2 : MC := (.seq (.ops [⟨(some 16), .move (.tmp 4), none⟩,
    ⟨(some 17), .move (.tmp 3), none⟩,
    ⟨(some 18), .build 83 #[(0, (.tmp 16)), (1, (.tmp 17))], none⟩,
    ⟨none, .store 83 (.tmp 2) (.tmp 18), none⟩]) .ret)
@[go_sem] theorem c_sheafref1_neg_2_at (rd : Option Nat) (K : Post3) (t : Fr) (m : Mem) : wpM E 70 19 rd c_sheafref1_neg_2 K t m = wpM E 70 19 rd (.seq (.ops [⟨(some 16), .move (.tmp 4), none⟩,
    ⟨(some 17), .move (.tmp 3), none⟩,
    ⟨(some 18), .build 83 #[(0, (.tmp 16)), (1, (.tmp 17))], none⟩,
    ⟨none, .store 83 (.tmp 2) (.tmp 18), none⟩]) .ret) K t m := rfl

def c_sheafref1_neg_3 : MC := (.seq c_sheafref1_neg_1 c_sheafref1_neg_2)
@[go_sem] theorem c_sheafref1_neg_3_at (rd : Option Nat) (K : Post3) (t : Fr) (m : Mem) : wpM E 70 19 rd c_sheafref1_neg_3 K t m = wpM E 70 19 rd (.seq c_sheafref1_neg_1 c_sheafref1_neg_2) K t m := rfl

def c_sheafref1_neg_4 : MC := (.seq (.ops [⟨(some 9), .fieldAddr 83 (.tmp 1) 0, none⟩,
    ⟨(some 10), .load 2 (.tmp 9), none⟩,
    ⟨(some 11), .unOp .xor 2 (.tmp 10), none⟩,
    ⟨(some 4), .assign (.tmp 11), none⟩]) c_sheafref1_neg_3)
@[go_sem] theorem c_sheafref1_neg_4_at (rd : Option Nat) (K : Post3) (t : Fr) (m : Mem) : wpM E 70 19 rd c_sheafref1_neg_4 K t m = wpM E 70 19 rd (.seq (.ops [⟨(some 9), .fieldAddr 83 (.tmp 1) 0, none⟩,
    ⟨(some 10), .load 2 (.tmp 9), none⟩,
    ⟨(some 11), .unOp .xor 2 (.tmp 10), none⟩,
    ⟨(some 4), .assign (.tmp 11), none⟩]) c_sheafref1_neg_3) K t m := rfl

def c_sheafref1_neg_5 : MC := (.seq (.ops [⟨(some 5), .fieldAddr 83 (.tmp 1) 1, none⟩,
    ⟨(some 6), .load 81 (.tmp 5), none⟩,
    ⟨(some 7), .unOp .xor 81 (.tmp 6), none⟩,
    ⟨(some 8), .binOp .add 81 (.tmp 7) (.const (.int .u64 1)) 81, none⟩,
    ⟨(some 3), .assign (.tmp 8), none⟩]) c_sheafref1_neg_4)
@[go_sem] theorem c_sheafref1_neg_5_at (rd : Option Nat) (K : Post3) (t : Fr) (m : Mem) : wpM E 70 19 rd c_sheafref1_neg_5 K t m = wpM E 70 19 rd (.seq (.ops [⟨(some 5), .fieldAddr 83 (.tmp 1) 1, none⟩,
    ⟨(some 6), .load 81 (.tmp 5), none⟩,
    ⟨(some 7), .unOp .xor 81 (.tmp 6), none⟩,
    ⟨(some 8), .binOp .add 81 (.tmp 7) (.const (.int .u64 1)) 81, none⟩,
    ⟨(some 3), .assign (.tmp 8), none⟩]) c_sheafref1_neg_4) K t m := rfl

def c_sheafref1_neg_6 : MC := (.seq (.ops [⟨(some 1), .box 83 (.tmp 0), none⟩,
    ⟨(some 2), .alloc 83, none⟩]) c_sheafref1_neg_5)
@[go_sem] theorem c_sheafref1_neg_6_at (rd : Option Nat) (K : Post3) (t : Fr) (m : Mem) : wpM E 70 19 rd c_sheafref1_neg_6 K t m = wpM E 70 19 rd (.seq (.ops [⟨(some 1), .box 83 (.tmp 0), none⟩,
    ⟨(some 2), .alloc 83, none⟩]) c_sheafref1_neg_5) K t m := rfl

@[go_sem] theorem some70 : (E.fn 70).isSome = true := by kernel_rfl
set_option maxRecDepth 100000 in
theorem fn_sheafref1_neg : FnIs E 70 19 [.cell 2 83] c_sheafref1_neg_6 := ⟨by kernel_rfl, by kernel_rfl⟩

/-! sheaf/sheafref1.Add -/
abbrev F_sheafref1_Add : FuncId := 71
def c_sheafref1_Add_0 : MC := (.cond (.tmp 20) (.ops [⟨(some 21), .move (.tmp 6), none⟩,
    ⟨(some 22), .binOp .add 2 (.tmp 21) (.const (.int .i64 1)) 2, none⟩,
    ⟨(some 6), .assign (.tmp 22), none⟩]) .skip)
@[go_sem] theorem c_sheafref1_Add_0_at (rd : Option Nat) (K : Post3) (t : Fr) (m : Mem) : wpM E 71 26 rd c_sheafref1_Add_0 K t m = wpM E 71 26 rd (.cond (.tmp 20) (.ops [⟨(some 21), .move (.tmp 6), none⟩,
    ⟨(some 22), .binOp .add 2 (.tmp 21) (.const (.int .i64 1)) 2, none⟩,
    ⟨(some 6), .assign (.tmp 22), none⟩]) .skip) K t m := rfl

def c_sheafref1_Add_1 : MC := (.seq (.ops [⟨(some 17), .move (.tmp 5), none⟩,
    ⟨(some 18), .fieldAddr 83 (.tmp 2) 1, none⟩,
    ⟨(some 19), .load 81 (.tmp 18), none⟩,
    ⟨(some 20), .binOp .lss 81 (.tmp 17) (.tmp 19) 81, none⟩]) c_sheafref1_Add_0)
@[go_sem] theorem c_sheafref1_Add_1_at (rd : Option Nat) (K : Post3) (t : Fr) (m : Mem) : wpM E 71 26 rd c_sheafref1_Add_1 K t m = wpM E 71 26 rd (.seq (.ops [⟨(some 17), .move (.tmp 5), none⟩,
    ⟨(some 18), .fieldAddr 83 (.tmp 2) 1, none⟩,
    ⟨(some 19), .load 81 (.tmp 18), none⟩,
    ⟨(some 20), .binOp .lss 81 (.tmp 17) (.tmp 19) 81, none⟩]) c_sheafref1_Add_0) K t m := rfl

def c_sheafref1_Add_2 : MC := (.seq (.ops [⟨(some 23), .move (.tmp 6), none⟩,
    ⟨(some 24), .move (.tmp 5), none⟩,
    ⟨(some 25), .build 83 #[(0, (.tmp 23)), (1, (.tmp 24))], none⟩,
    ⟨none, .store 83 (.tmp 4) (.tmp 25), none⟩]) .ret)
@[go_sem] theorem c_sheafref1_Add_2_at (rd : Option Nat) (K : Post3) (t : Fr) (m : Mem) : wpM E 71 26 rd c_sheafref1_Add_2 K t m = wpM E 71 26 rd (.seq (.ops [⟨(some 23), .move (.tmp 6), none⟩,
    ⟨(some 24), .move (.tmp 5), none⟩,
    ⟨(some 25), .build 83 #[(0, (.tmp 23)), (1, (.tmp 24))], none⟩,
    ⟨none, .store 83 (.tmp 4) (.tmp 25), none⟩]) .ret) K t m := rfl

def c_sheafref1_Add_3 : MC := (.seq c_sheafref1_Add_1 c_sheafref1_Add_2)
@[go_sem] theorem c_sheafref1_Add_3_at (rd : Option Nat) (K : Post3) (t : Fr) (m : Mem) : wpM E 71 26 rd c_sheafref1_Add_3 K t m = wpM E 71 26 rd (.seq c_sheafref1_Add_1 c_sheafref1_Add_2) K t m := rfl

def c_sheafref1_Add_4 : MC := (.seq (.ops [⟨(some 12), .fieldAddr 83 (.tmp 2) 0, none⟩,
    ⟨(some 13), .load 2 (.tmp 12), none⟩,
    ⟨(some 14), .fieldAddr 83 (.tmp 3) 0, none⟩,
    ⟨(some 15), .load 2 (.tmp 14), none⟩,
    ⟨(some 16), .binOp .add 2 (.tmp 13) (.tmp 15) 2, none⟩,
    ⟨(some 6), .assign (.tmp 16), none⟩]) c_sheafref1_Add_3)
@[go_sem] theorem c_sheafref1_Add_4_at (rd : Option Nat) (K : Post3) (t : Fr) (m : Mem) : wpM E 71 26 rd c_sheafref1_Add_4 K t m = wpM E 71 26 rd (.seq (.ops [⟨(some 12), .fieldAddr 83 (.tmp 2) 0, none⟩,
    ⟨(some 13), .load 2 (.tmp 12), none⟩,
    ⟨(some 14), .fieldAddr 83 (.tmp 3) 0, none⟩,
    ⟨(some 15), .load 2 (.tmp 14), none⟩,
    ⟨(some 16), .binOp .add 2 (.tmp 13) (.tmp 15) 2, none⟩,
    ⟨(some 6), .assign (.tmp 16), none⟩]) c_sheafref1_Add_3) K t m := rfl

def c_sheafref1_Add_5 : MC := (.seq (.ops [⟨(some 7), .fieldAddr 83 (.tmp 2) 1, none⟩,
    ⟨(some 8), .load 81 (.tmp 7), none⟩,
    ⟨(some 9), .fieldAddr 83 (.tmp 3) 1, none⟩,
    ⟨(some 10), .load 81 (.tmp 9), none⟩,
    ⟨(some 11), .binOp .add 81 (.tmp 8) (.tmp 10) 81, none⟩,
    ⟨(some 5), .assign (.tmp 11), none⟩]) c_sheafref1_Add_4)
@[go_sem] theorem c_sheafref1_Add_5_at (rd : Option Nat) (K : Post3) (t : Fr) (m : Mem) : wpM E 71 26 rd c_sheafref1_Add_5 K t m = wpM E 71 26 rd (.seq (.ops [⟨(some 7), .fieldAddr 83 (.tmp 2) 1, none⟩,
    ⟨(some 8), .load 81 (.tmp 7), none⟩,
    ⟨(some 9), .fieldAddr 83 (.tmp 3) 1, none⟩,
    ⟨(some 10), .load 81 (.tmp 9), none⟩,
    ⟨(some 11), .binOp .add 81 (.tmp 8) (.tmp 10) 81, none⟩,
    ⟨(some 5), .assign (.tmp 11), none⟩]) c_sheafref1_Add_4) K t m := rfl

def c_sheafref1_Add_6 : MC := (.seq (.ops [⟨(some 2), .box 83 (.tmp 0), none⟩,
    ⟨(some 3), .box 83 (.tmp 1), none⟩,
    ⟨(some 4), .alloc 83, none⟩]) c_sheafref1_Add_5)
@[go_sem] theorem c_sheafref1_Add_6_at (rd : Option Nat) (K : Post3) (t : Fr) (m : Mem) : wpM E 71 26 rd c_sheafref1_Add_6 K t m = wpM E 71 26 rd (.seq (.ops [⟨(some 2), .box 83 (.tmp 0), none⟩,
    ⟨(some 3), .box 83 (.tmp 1), none⟩,
    ⟨(some 4), .alloc 83, none⟩]) c_sheafref1_Add_5) K t m := rfl

@[go_sem] theorem some71 : (E.fn 71).isSome = true := by kernel_rfl
set_option maxRecDepth 100000 in
theorem fn_sheafref1_Add : FnIs E 71 26 [.cell 4 83] c_sheafref1_Add_6 := ⟨by kernel_rfl, by kernel_rfl⟩

/-! sheaf/sheafref1.Int -/
abbrev F_sheafref1_Int : FuncId := 72
def c_sheafref1_Int_0 : MC := (.seq (.ops [⟨(some 2), .assign (.const (.int .i64 0)), none⟩,
    ⟨(some 3), .assign (.const (.bool false)), none⟩]) .ret)
@[go_sem] theorem c_sheafref1_Int_0_at (rd : Option Nat) (K : Post3) (t : Fr) (m : Mem) : wpM E 72 13 rd c_sheafref1_Int_0 K t m = wpM E 72 13 rd (.seq (.ops [⟨(some 2), .assign (.const (.int .i64 0)), none⟩,
    ⟨(some 3), .assign (.const (.bool false)), none⟩]) .ret) K t m := rfl

def c_sheafref1_Int_1 : MC := (.cond (.tmp 11) c_sheafref1_Int_0 .skip)
@[go_sem] theorem c_sheafref1_Int_1_at (rd : Option Nat) (K : Post3) (t : Fr) (m : Mem) : wpM E 72 13 rd c_sheafref1_Int_1 K t m = wpM E 72 13 rd (.cond (.tmp 11) c_sheafref1_Int_0 .skip) K t m := rfl

def c_sheafref1_Int_2 : MC := (.seq (.draw [(0, [], ⟨(some 8), .move (.tmp 4), none⟩),
    (2, [], ⟨(some 10), .load 83 (.tmp 1), none⟩),
    (1, [2], ⟨(some 9), .call ⟨.value (.func 77), #[(.tmp 8)], #[3]⟩, none⟩),
    (3, [], ⟨(some 11), .binOp .neq 83 (.tmp 9) (.tmp 10) 83, none⟩)]) c_sheafref1_Int_1)
@[go_sem] theorem c_sheafref1_Int_2_at (rd : Option Nat) (K : Post3) (t : Fr) (m : Mem) : wpM E 72 13 rd c_sheafref1_Int_2 K t m = wpM E 72 13 rd (.seq (.draw [(0, [], ⟨(some 8), .move (.tmp 4), none⟩),
    (2, [], ⟨(some 10), .load 83 (.tmp 1), none⟩),
    (1, [2], ⟨(some 9), .call ⟨.value (.func 77), #[(.tmp 8)], #[3]⟩, none⟩),
    (3, [], ⟨(some 11), .binOp .neq 83 (.tmp 9) (.tmp 10) 83, none⟩)]) c_sheafref1_Int_1) K t m := rfl

def c_sheafref1_Int_3 : MC := (.seq (.ops [⟨(some 12), .move (.tmp 4), none⟩,
    ⟨(some 2), .assign (.tmp 12), none⟩,
    ⟨(some 3), .assign (.const (.bool true)), none⟩]) .ret)
@[go_sem] theorem c_sheafref1_Int_3_at (rd : Option Nat) (K : Post3) (t : Fr) (m : Mem) : wpM E 72 13 rd c_sheafref1_Int_3 K t m = wpM E 72 13 rd (.seq (.ops [⟨(some 12), .move (.tmp 4), none⟩,
    ⟨(some 2), .assign (.tmp 12), none⟩,
    ⟨(some 3), .assign (.const (.bool true)), none⟩]) .ret) K t m := rfl

def c_sheafref1_Int_4 : MC := (.seq c_sheafref1_Int_2 c_sheafref1_Int_3)
@[go_sem] theorem c_sheafref1_Int_4_at (rd : Option Nat) (K : Post3) (t : Fr) (m : Mem) : wpM E 72 13 rd c_sheafref1_Int_4 K t m = wpM E 72 13 rd (.seq c_sheafref1_Int_2 c_sheafref1_Int_3) K t m := rfl

def c_sheafref1_Int_5 : MC := (.seq (.ops [⟨(some 5), .fieldAddr 83 (.tmp 1) 1, none⟩,
    ⟨(some 6), .load 81 (.tmp 5), none⟩,
    ⟨(some 7), .convert 81 3 (.tmp 6), none⟩,
    ⟨(some 4), .assign (.tmp 7), none⟩]) c_sheafref1_Int_4)
@[go_sem] theorem c_sheafref1_Int_5_at (rd : Option Nat) (K : Post3) (t : Fr) (m : Mem) : wpM E 72 13 rd c_sheafref1_Int_5 K t m = wpM E 72 13 rd (.seq (.ops [⟨(some 5), .fieldAddr 83 (.tmp 1) 1, none⟩,
    ⟨(some 6), .load 81 (.tmp 5), none⟩,
    ⟨(some 7), .convert 81 3 (.tmp 6), none⟩,
    ⟨(some 4), .assign (.tmp 7), none⟩]) c_sheafref1_Int_4) K t m := rfl

def c_sheafref1_Int_6 : MC := (.seq (.ops [⟨(some 1), .box 83 (.tmp 0), none⟩,
    ⟨(some 2), .assign (.const (.int .i64 0)), none⟩,
    ⟨(some 3), .assign (.const (.bool false)), none⟩]) c_sheafref1_Int_5)
@[go_sem] theorem c_sheafref1_Int_6_at (rd : Option Nat) (K : Post3) (t : Fr) (m : Mem) : wpM E 72 13 rd c_sheafref1_Int_6 K t m = wpM E 72 13 rd (.seq (.ops [⟨(some 1), .box 83 (.tmp 0), none⟩,
    ⟨(some 2), .assign (.const (.int .i64 0)), none⟩,
    ⟨(some 3), .assign (.const (.bool false)), none⟩]) c_sheafref1_Int_5) K t m := rfl

@[go_sem] theorem some72 : (E.fn 72).isSome = true := by kernel_rfl
set_option maxRecDepth 100000 in
theorem fn_sheafref1_Int : FnIs E 72 13 [.tmp 2, .tmp 3] c_sheafref1_Int_6 := ⟨by kernel_rfl, by kernel_rfl⟩

/-! sheaf/sheafref1.limbs -/
abbrev F_sheafref1_limbs : FuncId := 73
def c_sheafref1_limbs_0 : MC := (.cond (.tmp 23) .skip (.exit 0))
@[go_sem] theorem c_sheafref1_limbs_0_at (rd : Option Nat) (K : Post3) (t : Fr) (m : Mem) : wpM E 73 63 rd c_sheafref1_limbs_0 K t m = wpM E 73 63 rd (.cond (.tmp 23) .skip (.exit 0)) K t m := rfl

def c_sheafref1_limbs_1 : MC := (.cond (.tmp 26) .skip (.exit 2))
@[go_sem] theorem c_sheafref1_limbs_1_at (rd : Option Nat) (K : Post3) (t : Fr) (m : Mem) : wpM E 73 63 rd c_sheafref1_limbs_1 K t m = wpM E 73 63 rd (.cond (.tmp 26) .skip (.exit 2)) K t m := rfl

def c_sheafref1_limbs_2 : MC := (.seq (.ops [⟨(some 28), .move (.tmp 8), none⟩,
    ⟨(some 29), .move (.tmp 10), none⟩,
    ⟨(some 30), .binOp .add 3 (.tmp 28) (.tmp 29) 3, none⟩,
    ⟨(some 31), .indexAddr 102 (.tmp 7) (.tmp 30), none⟩,
    ⟨(some 32), .load 81 (.tmp 31), none⟩,
    ⟨(some 33), .move (.tmp 8), none⟩,
    ⟨(some 34), .indexAddr 109 (.tmp 5) (.tmp 33), none⟩,
    ⟨(some 35), .load 81 (.tmp 34), none⟩,
    ⟨(some 36), .move (.tmp 10), none⟩,
    ⟨(some 37), .indexAddr 109 (.tmp 6) (.tmp 36), none⟩,
    ⟨(some 38), .load 81 (.tmp 37), none⟩,
    ⟨(some 39), .binOp .mul 81 (.tmp 35) (.tmp 38) 81, none⟩,
    ⟨(some 40), .binOp .add 81 (.tmp 32) (.tmp 39) 81, none⟩,
    ⟨(some 41), .move (.tmp 9), none⟩,
    ⟨(some 42), .binOp .add 81 (.tmp 40) (.tmp 41) 81, none⟩,
    ⟨(some 11), .assign (.tmp 42), none⟩]) (.ops [⟨(some 43), .move (.tmp 8), none⟩,
    ⟨(some 44), .move (.tmp 10), none⟩,
    ⟨(some 45), .binOp .add 3 (.tmp 43) (.tmp 44) 3, none⟩,
    ⟨(some 46), .move (.tmp 11), none⟩,
    ⟨(some 47), .binOp .and 81 (.tmp 46) (.const (.int .u64 4294967295)) 81, none⟩,
    ⟨(some 48), .move (.tmp 11), none⟩,
    ⟨(some 49), .binOp .shr 81 (.tmp 48) (.const (.int .u64 32)) 99, none⟩,
    ⟨(some 50), .indexAddr 102 (.tmp 7) (.tmp 45), none⟩,
    ⟨none, .store 81 (.tmp 50) (.tmp 47), none⟩,
    ⟨(some 9), .assign (.tmp 49), none⟩]))
@[go_sem] theorem c_sheafref1_limbs_2_at (rd : Option Nat) (K : Post3) (t : Fr) (m : Mem) : wpM E 73 63 rd c_sheafref1_limbs_2 K t m = wpM E 73 63 rd (.seq (.ops [⟨(some 28), .move (.tmp 8), none⟩,
    ⟨(some 29), .move (.tmp 10), none⟩,
    ⟨(some 30), .binOp .add 3 (.tmp 28) (.tmp 29) 3, none⟩,
    ⟨(some 31), .indexAddr 102 (.tmp 7) (.tmp 30), none⟩,
    ⟨(some 32), .load 81 (.tmp 31), none⟩,
    ⟨(some 33), .move (.tmp 8), none⟩,
    ⟨(some 34), .indexAddr 109 (.tmp 5) (.tmp 33), none⟩,
    ⟨(some 35), .load 81 (.tmp 34), none⟩,
    ⟨(some 36), .move (.tmp 10), none⟩,
    ⟨(some 37), .indexAddr 109 (.tmp 6) (.tmp 36), none⟩,
    ⟨(some 38), .load 81 (.tmp 37), none⟩,
    ⟨(some 39), .binOp .mul 81 (.tmp 35) (.tmp 38) 81, none⟩,
    ⟨(some 40), .binOp .add 81 (.tmp 32) (.tmp 39) 81, none⟩,
    ⟨(some 41), .move (.tmp 9), none⟩,
    ⟨(some 42), .binOp .add 81 (.tmp 40) (.tmp 41) 81, none⟩,
    ⟨(some 11), .assign (.tmp 42), none⟩]) (.ops [⟨(some 43), .move (.tmp 8), none⟩,
    ⟨(some 44), .move (.tmp 10), none⟩,
    ⟨(some 45), .binOp .add 3 (.tmp 43) (.tmp 44) 3, none⟩,
    ⟨(some 46), .move (.tmp 11), none⟩,
    ⟨(some 47), .binOp .and 81 (.tmp 46) (.const (.int .u64 4294967295)) 81, none⟩,
    ⟨(some 48), .move (.tmp 11), none⟩,
    ⟨(some 49), .binOp .shr 81 (.tmp 48) (.const (.int .u64 32)) 99, none⟩,
    ⟨(some 50), .indexAddr 102 (.tmp 7) (.tmp 45), none⟩,
    ⟨none, .store 81 (.tmp 50) (.tmp 47), none⟩,
    ⟨(some 9), .assign (.tmp 49), none⟩])) K t m := rfl

def c_sheafref1_limbs_3 : MC := (.seq (.ops [⟨(some 27), .move (.tmp 25), none⟩,
    ⟨(some 10), .assign (.tmp 27), none⟩]) c_sheafref1_limbs_2)
@[go_sem] theorem c_sheafref1_limbs_3_at (rd : Option Nat) (K : Post3) (t : Fr) (m : Mem) : wpM E 73 63 rd c_sheafref1_limbs_3 K t m = wpM E 73 63 rd (.seq (.ops [⟨(some 27), .move (.tmp 25), none⟩,
    ⟨(some 10), .assign (.tmp 27), none⟩]) c_sheafref1_limbs_2) K t m := rfl

def c_sheafref1_limbs_4 : MC := (.block 3 c_sheafref1_limbs_3)
@[go_sem] theorem c_sheafref1_limbs_4_at (rd : Option Nat) (K : Post3) (t : Fr) (m : Mem) : wpM E 73 63 rd c_sheafref1_limbs_4 K t m = wpM E 73 63 rd (.block 3 c_sheafref1_limbs_3) K t m := rfl

def c_sheafref1_limbs_5 : MC := (.seq c_sheafref1_limbs_4 (.ops [⟨(some 51), .binOp .add 3 (.tmp 25) (.const (.int .i64 1)) 3, none⟩,
    ⟨(some 25), .move (.tmp 51), none⟩]))
@[go_sem] theorem c_sheafref1_limbs_5_at (rd : Option Nat) (K : Post3) (t : Fr) (m : Mem) : wpM E 73 63 rd c_sheafref1_limbs_5 K t m = wpM E 73 63 rd (.seq c_sheafref1_limbs_4 (.ops [⟨(some 51), .binOp .add 3 (.tmp 25) (.const (.int .i64 1)) 3, none⟩,
    ⟨(some 25), .move (.tmp 51), none⟩])) K t m := rfl

def c_sheafref1_limbs_6 : MC := (.seq c_sheafref1_limbs_1 c_sheafref1_limbs_5)
@[go_sem] theorem c_sheafref1_limbs_6_at (rd : Option Nat) (K : Post3) (t : Fr) (m : Mem) : wpM E 73 63 rd c_sheafref1_limbs_6 K t m = wpM E 73 63 rd (.seq c_sheafref1_limbs_1 c_sheafref1_limbs_5) K t m := rfl

def c_sheafref1_limbs_7 : MC := (.seq (.ops [⟨(some 26), .binOp .lss 3 (.tmp 25) (.const (.int .i64 2)) 3, none⟩]) c_sheafref1_limbs_6)
@[go_sem] theorem c_sheafref1_limbs_7_at (rd : Option Nat) (K : Post3) (t : Fr) (m : Mem) : wpM E 73 63 rd c_sheafref1_limbs_7 K t m = wpM E 73 63 rd (.seq (.ops [⟨(some 26), .binOp .lss 3 (.tmp 25) (.const (.int .i64 2)) 3, none⟩]) c_sheafref1_limbs_6) K t m := rfl

def c_sheafref1_limbs_8 : MC := (.loop c_sheafref1_limbs_7)
theorem c_sheafref1_limbs_8_at (rd : Option Nat) (K : Post3) (t : Fr) (m : Mem) : wpM E 73 63 rd c_sheafref1_limbs_8 K t m = wpM E 73 63 rd (.loop c_sheafref1_limbs_7) K t m := rfl

def c_sheafref1_limbs_9 : MC := (.block 2 c_sheafref1_limbs_8)
theorem c_sheafref1_limbs_9_at (rd : Option Nat) (K : Post3) (t : Fr) (m : Mem) : wpM E 73 63 rd c_sheafref1_limbs_9 K t m = wpM E 73 63 rd (.block 2 c_sheafref1_limbs_8) K t m := rfl

def c_sheafref1_limbs_10 : MC := (.seq (.ops [⟨(some 25), .move (.const (.int .i64 0)), none⟩]) c_sheafref1_limbs_9)
@[go_sem] theorem c_sheafref1_limbs_10_at (rd : Option Nat) (K : Post3) (t : Fr) (m : Mem) : wpM E 73 63 rd c_sheafref1_limbs_10 K t m = wpM E 73 63 rd (.seq (.ops [⟨(some 25), .move (.const (.int .i64 0)), none⟩]) c_sheafref1_limbs_9) K t m := rfl

def c_sheafref1_limbs_11 : MC := (.seq c_sheafref1_limbs_10 (.ops [⟨(some 52), .move (.tmp 8), none⟩,
    ⟨(some 53), .binOp .add 3 (.tmp 52) (.const (.int .i64 2)) 3, none⟩,
    ⟨(some 54), .move (.tmp 8), none⟩,
    ⟨(some 55), .binOp .add 3 (.tmp 54) (.const (.int .i64 2)) 3, none⟩,
    ⟨(some 56), .indexAddr 102 (.tmp 7) (.tmp 55), none⟩,
    ⟨(some 57), .load 81 (.tmp 56), none⟩,
    ⟨(some 58), .move (.tmp 9), none⟩,
    ⟨(some 59), .binOp .add 81 (.tmp 57) (.tmp 58) 81, none⟩,
    ⟨(some 60), .indexAddr 102 (.tmp 7) (.tmp 53), none⟩,
    ⟨none, .store 81 (.tmp 60) (.tmp 59), none⟩]))
@[go_sem] theorem c_sheafref1_limbs_11_at (rd : Option Nat) (K : Post3) (t : Fr) (m : Mem) : wpM E 73 63 rd c_sheafref1_limbs_11 K t m = wpM E 73 63 rd (.seq c_sheafref1_limbs_10 (.ops [⟨(some 52), .move (.tmp 8), none⟩,
    ⟨(some 53), .binOp .add 3 (.tmp 52) (.const (.int .i64 2)) 3, none⟩,
    ⟨(some 54), .move (.tmp 8), none⟩,
    ⟨(some 55), .binOp .add 3 (.tmp 54) (.const (.int .i64 2)) 3, none⟩,
    ⟨(some 56), .indexAddr 102 (.tmp 7) (.tmp 55), none⟩,
    ⟨(some 57), .load 81 (.tmp 56), none⟩,
    ⟨(some 58), .move (.tmp 9), none⟩,
    ⟨(some 59), .binOp .add 81 (.tmp 57) (.tmp 58) 81, none⟩,
    ⟨(some 60), .indexAddr 102 (.tmp 7) (.tmp 53), none⟩,
    ⟨none, .store 81 (.tmp 60) (.tmp 59), none⟩])) K t m := rfl

def c_sheafref1_limbs_12 : MC := (.seq (.ops [⟨(some 9), .assign (.const (.int .u64 0)), none⟩]) c_sheafref1_limbs_11)
@[go_sem] theorem c_sheafref1_limbs_12_at (rd : Option Nat) (K : Post3) (t : Fr) (m : Mem) : wpM E 73 63 rd c_sheafref1_limbs_12 K t m = wpM E 73 63 rd (.seq (.ops [⟨(some 9), .assign (.const (.int .u64 0)), none⟩]) c_sheafref1_limbs_11) K t m := rfl

def c_sheafref1_limbs_13 : MC := (.seq (.ops [⟨(some 24), .move (.tmp 22), none⟩,
    ⟨(some 8), .assign (.tmp 24), none⟩]) c_sheafref1_limbs_12)
@[go_sem] theorem c_sheafref1_limbs_13_at (rd : Option Nat) (K : Post3) (t : Fr) (m : Mem) : wpM E 73 63 rd c_sheafref1_limbs_13 K t m = wpM E 73 63 rd (.seq (.ops [⟨(some 24), .move (.tmp 22), none⟩,
    ⟨(some 8), .assign (.tmp 24), none⟩]) c_sheafref1_limbs_12) K t m := rfl

def c_sheafref1_limbs_14 : MC := (.block 1 c_sheafref1_limbs_13)
@[go_sem] theorem c_sheafref1_limbs_14_at (rd : Option Nat) (K : Post3) (t : Fr) (m : Mem) : wpM E 73 63 rd c_sheafref1_limbs_14 K t m = wpM E 73 63 rd (.block 1 c_sheafref1_limbs_13) K t m := rfl

def c_sheafref1_limbs_15 : MC := (.seq c_sheafref1_limbs_14 (.ops [⟨(some 61), .binOp .add 3 (.tmp 22) (.const (.int .i64 1)) 3, none⟩,
    ⟨(some 22), .move (.tmp 61), none⟩]))
@[go_sem] theorem c_sheafref1_limbs_15_at (rd : Option Nat) (K : Post3) (t : Fr) (m : Mem) : wpM E 73 63 rd c_sheafref1_limbs_15 K t m = wpM E 73 63 rd (.seq c_sheafref1_limbs_14 (.ops [⟨(some 61), .binOp .add 3 (.tmp 22) (.const (.int .i64 1)) 3, none⟩,
    ⟨(some 22), .move (.tmp 61), none⟩])) K t m := rfl

def c_sheafref1_limbs_16 : MC := (.seq c_sheafref1_limbs_0 c_sheafref1_limbs_15)
@[go_sem] theorem c_sheafref1_limbs_16_at (rd : Option Nat) (K : Post3) (t : Fr) (m : Mem) : wpM E 73 63 rd c_sheafref1_limbs_16 K t m = wpM E 73 63 rd (.seq c_sheafref1_limbs_0 c_sheafref1_limbs_15) K t m := rfl

def c_sheafref1_limbs_17 : MC := (.seq (.ops [⟨(some 23), .binOp .lss 3 (.tmp 22) (.const (.int .i64 2)) 3, none⟩]) c_sheafref1_limbs_16)
@[go_sem] theorem c_sheafref1_limbs_17_at (rd : Option Nat) (K : Post3) (t : Fr) (m : Mem) : wpM E 73 63 rd c_sheafref1_limbs_17 K t m = wpM E 73 63 rd (.seq (.ops [⟨(some 23), .binOp .lss 3 (.tmp 22) (.const (.int .i64 2)) 3, none⟩]) c_sheafref1_limbs_16) K t m := rfl

def c_sheafref1_limbs_18 : MC := (.loop c_sheafref1_limbs_17)
theorem c_sheafref1_limbs_18_at (rd : Option Nat) (K : Post3) (t : Fr) (m : Mem) : wpM E 73 63 rd c_sheafref1_limbs_18 K t m = wpM E 73 63 rd (.loop c_sheafref1_limbs_17) K t m := rfl

def c_sheafref1_limbs_19 : MC := (.block 0 c_sheafref1_limbs_18)
theorem c_sheafref1_limbs_19_at (rd : Option Nat) (K : Post3) (t : Fr) (m : Mem) : wpM E 73 63 rd c_sheafref1_limbs_19 K t m = wpM E 73 63 rd (.block 0 c_sheafref1_limbs_18) K t m := rfl

def c_sheafref1_limbs_20 : MC := (.seq (.ops [⟨(some 22), .move (.const (.int .i64 0)), none⟩]) c_sheafref1_limbs_19)
@[go_sem] theorem c_sheafref1_limbs_20_at (rd : Option Nat) (K : Post3) (t : Fr) (m : Mem) : wpM E 73 63 rd c_sheafref1_limbs_20 K t m = wpM E 73 63 rd (.seq (.ops [⟨(some 22), .move (.const (.int .i64 0)), none⟩]) c_sheafref1_limbs_19) K t m := rfl

def c_sheafref1_limbs_21 : MC := (.seq (.ops [⟨(some 62), .load 102 (.tmp 7), none⟩,
    ⟨none, .store 102 (.tmp 4) (.tmp 62), none⟩]) .ret)
@[go_sem] theorem c_sheafref1_limbs_21_at (rd : Option Nat) (K : Post3) (t : Fr) (m : Mem) : wpM E 73 63 rd c_sheafref1_limbs_21 K t m = wpM E 73 63 rd (.seq (.ops [⟨(some 62), .load 102 (.tmp 7), none⟩,
    ⟨none, .store 102 (.tmp 4) (.tmp 62), none⟩]) .ret) K t m := rfl

def c_sheafref1_limbs_22 : MC := (.seq c_sheafref1_limbs_20 c_sheafref1_limbs_21)
@[go_sem] theorem c_sheafref1_limbs_22_at (rd : Option Nat) (K : Post3) (t : Fr) (m : Mem) : wpM E 73 63 rd c_sheafref1_limbs_22 K t m = wpM E 73 63 rd (.seq c_sheafref1_limbs_20 c_sheafref1_limbs_21) K t m := rfl

def c_sheafref1_limbs_23 : MC := (.seq (.ops [⟨(some 7), .alloc 102, none⟩]) c_sheafref1_limbs_22)
@[go_sem] theorem c_sheafref1_limbs_23_at (rd : Option Nat) (K : Post3) (t : Fr) (m : Mem) : wpM E 73 63 rd c_sheafref1_limbs_23 K t m = wpM E 73 63 rd (.seq (.ops [⟨(some 7), .alloc 102, none⟩]) c_sheafref1_limbs_22) K t m := rfl

def c_sheafref1_limbs_24 : MC := (.seq (.ops [⟨(some 12), .move (.tmp 0), none⟩,
    ⟨(some 13), .binOp .and 81 (.tmp 12) (.const (.int .u64 4294967295)) 81, none⟩,
    ⟨(some 14), .move (.tmp 0), none⟩,
    ⟨(some 15), .binOp .shr 81 (.tmp 14) (.const (.int .u64 32)) 99, none⟩,
    ⟨(some 16), .build 109 #[(0, (.tmp 13)), (1, (.tmp 15))], none⟩,
    ⟨(some 17), .move (.tmp 1), none⟩,
    ⟨(some 18), .binOp .and 81 (.tmp 17) (.const (.int .u64 4294967295)) 81, none⟩,
    ⟨(some 19), .move (.tmp 1), none⟩,
    ⟨(some 20), .binOp .shr 81 (.tmp 19) (.const (.int .u64 32)) 99, none⟩,
    ⟨(some 21), .build 109 #[(0, (.tmp 18)), (1, (.tmp 20))], none⟩,
    ⟨(some 5), .alloc 109, none⟩,
    ⟨(some 6), .alloc 109, none⟩,
    ⟨none, .store 109 (.tmp 5) (.tmp 16), none⟩,
    ⟨none, .store 109 (.tmp 6) (.tmp 21), none⟩]) c_sheafref1_limbs_23)
@[go_sem] theorem c_sheafref1_limbs_24_at (rd : Option Nat) (K : Post3) (t : Fr) (m : Mem) : wpM E 73 63 rd c_sheafref1_limbs_24 K t m = wpM E 73 63 rd (.seq (.ops [⟨(some 12), .move (.tmp 0), none⟩,
    ⟨(some 13), .binOp .and 81 (.tmp 12) (.const (.int .u64 4294967295)) 81, none⟩,
    ⟨(some 14), .move (.tmp 0), none⟩,
    ⟨(some 15), .binOp .shr 81 (.tmp 14) (.const (.int .u64 32)) 99, none⟩,
    ⟨(some 16), .build 109 #[(0, (.tmp 13)), (1, (.tmp 15))], none⟩,
    ⟨(some 17), .move (.tmp 1), none⟩,
    ⟨(some 18), .binOp .and 81 (.tmp 17) (.const (.int .u64 4294967295)) 81, none⟩,
    ⟨(some 19), .move (.tmp 1), none⟩,
    ⟨(some 20), .binOp .shr 81 (.tmp 19) (.const (.int .u64 32)) 99, none⟩,
    ⟨(some 21), .build 109 #[(0, (.tmp 18)), (1, (.tmp 20))], none⟩,
    ⟨(some 5), .alloc 109, none⟩,
    ⟨(some 6), .alloc 109, none⟩,
    ⟨none, .store 109 (.tmp 5) (.tmp 16), none⟩,
    ⟨none, .store 109 (.tmp 6) (.tmp 21), none⟩]) c_sheafref1_limbs_23) K t m := rfl

def c_sheafref1_limbs_25 : MC := (.seq (.ops [⟨(some 4), .alloc 102, none⟩]) c_sheafref1_limbs_24)
@[go_sem] theorem c_sheafref1_limbs_25_at (rd : Option Nat) (K : Post3) (t : Fr) (m : Mem) : wpM E 73 63 rd c_sheafref1_limbs_25 K t m = wpM E 73 63 rd (.seq (.ops [⟨(some 4), .alloc 102, none⟩]) c_sheafref1_limbs_24) K t m := rfl

@[go_sem] theorem some73 : (E.fn 73).isSome = true := by kernel_rfl
set_option maxRecDepth 100000 in
theorem fn_sheafref1_limbs : FnIs E 73 63 [.cell 4 102] c_sheafref1_limbs_25 := ⟨by kernel_rfl, by kernel_rfl⟩

/-! sheaf/sheafref1.size -/
abbrev F_sheafref1_size : FuncId := 74
def c_sheafref1_size_0 : MC := (.seq (.ops [⟨(some 5), .move (.tmp 0), none⟩,
    ⟨(some 6), .binOp .add 3 (.tmp 5) (.const (.int .i64 1)) 3, none⟩,
    ⟨(some 7), .unOp .neg 3 (.tmp 6), none⟩,
    ⟨(some 8), .convert 3 81 (.tmp 7), none⟩,
    ⟨(some 9), .binOp .add 81 (.tmp 8) (.const (.int .u64 1)) 81, none⟩,
    ⟨(some 2), .assign (.tmp 9), none⟩]) .ret)
@[go_sem] theorem c_sheafref1_size_0_at (rd : Option Nat) (K : Post3) (t : Fr) (m : Mem) : wpM E 74 12 rd c_sheafref1_size_0 K t m = wpM E 74 12 rd (.seq (.ops [⟨(some 5), .move (.tmp 0), none⟩,
    ⟨(some 6), .binOp .add 3 (.tmp 5) (.const (.int .i64 1)) 3, none⟩,
    ⟨(some 7), .unOp .neg 3 (.tmp 6), none⟩,
    ⟨(some 8), .convert 3 81 (.tmp 7), none⟩,
    ⟨(some 9), .binOp .add 81 (.tmp 8) (.const (.int .u64 1)) 81, none⟩,
    ⟨(some 2), .assign (.tmp 9), none⟩]) .ret) K t m := rfl

def c_sheafref1_size_1 : MC := (.cond (.tmp 4) c_sheafref1_size_0 .skip)
@[go_sem] theorem c_sheafref1_size_1_at (rd : Option Nat) (K : Post3) (t : Fr) (m : Mem) : wpM E 74 12 rd c_sheafref1_size_1 K t m = wpM E 74 12 rd (.cond (.tmp 4) c_sheafref1_size_0 .skip) K t m := rfl

def c_sheafref1_size_2 : MC := (.seq (.ops [⟨(some 3), .move (.tmp 0), none⟩,
    ⟨(some 4), .binOp .lss 3 (.tmp 3) (.const (.int .i64 0)) 3, none⟩]) c_sheafref1_size_1)
@[go_sem] theorem c_sheafref1_size_2_at (rd : Option Nat) (K : Post3) (t : Fr) (m : Mem) : wpM E 74 12 rd c_sheafref1_size_2 K t m = wpM E 74 12 rd (.seq (.ops [⟨(some 3), .move (.tmp 0), none⟩,
    ⟨(some 4), .binOp .lss 3 (.tmp 3) (.const (.int .i64 0)) 3, none⟩]) c_sheafref1_size_1) K t m := rfl

def c_sheafref1_size_3 : MC := (.seq (.ops [⟨(some 10), .move (.tmp 0), none⟩,
    ⟨(some 11), .convert 3 81 (.tmp 10), none⟩,
    ⟨(some 2), .assign (.tmp 11), none⟩]) .ret)
@[go_sem] theorem c_sheafref1_size_3_at (rd : Option Nat) (K : Post3) (t : Fr) (m : Mem) : wpM E 74 12 rd c_sheafref1_size_3 K t m = wpM E 74 12 rd (.seq (.ops [⟨(some 10), .move (.tmp 0), none⟩,
    ⟨(some 11), .convert 3 81 (.tmp 10), none⟩,
    ⟨(some 2), .assign (.tmp 11), none⟩]) .ret) K t m := rfl

def c_sheafref1_size_4 : MC := (.seq c_sheafref1_size_2 c_sheafref1_size_3)
@[go_sem] theorem c_sheafref1_size_4_at (rd : Option Nat) (K : Post3) (t : Fr) (m : Mem) : wpM E 74 12 rd c_sheafref1_size_4 K t m = wpM E 74 12 rd (.seq c_sheafref1_size_2 c_sheafref1_size_3) K t m := rfl

def c_sheafref1_size_5 : MC := (.seq (.ops [⟨(some 2), .assign (.const (.int .u64 0)), none⟩]) c_sheafref1_size_4)
@[go_sem] theorem c_sheafref1_size_5_at (rd : Option Nat) (K : Post3) (t : Fr) (m : Mem) : wpM E 74 12 rd c_sheafref1_size_5 K t m = wpM E 74 12 rd (.seq (.ops [⟨(some 2), .assign (.const (.int .u64 0)), none⟩]) c_sheafref1_size_4) K t m := rfl

@[go_sem] theorem some74 : (E.fn 74).isSome = true := by kernel_rfl
set_option maxRecDepth 100000 in
theorem fn_sheafref1_size : FnIs E 74 12 [.tmp 2] c_sheafref1_size_5 := ⟨by kernel_rfl, by kernel_rfl⟩

/-! sheaf/sheafref1.Of -/
abbrev F_sheafref1_Of : FuncId := 77
def c_sheafref1_Of_0 : MC := (.seq (.ops [⟨(some 5), .move (.tmp 0), none⟩,
    ⟨(some 6), .convert 3 81 (.tmp 5), none⟩,
    ⟨(some 7), .build 83 #[(0, (.const (.int .i64 (-1)))), (1, (.tmp 6))], none⟩,
    ⟨none, .store 83 (.tmp 2) (.tmp 7), none⟩]) .ret)
@[go_sem] theorem c_sheafref1_Of_0_at (rd : Option Nat) (K : Post3) (t : Fr) (m : Mem) : wpM E 77 11 rd c_sheafref1_Of_0 K t m = wpM E 77 11 rd (.seq (.ops [⟨(some 5), .move (.tmp 0), none⟩,
    ⟨(some 6), .convert 3 81 (.tmp 5), none⟩,
    ⟨(some 7), .build 83 #[(0, (.const (.int .i64 (-1)))), (1, (.tmp 6))], none⟩,
    ⟨none, .store 83 (.tmp 2) (.tmp 7), none⟩]) .ret) K t m := rfl

def c_sheafref1_Of_1 : MC := (.cond (.tmp 4) c_sheafref1_Of_0 .skip)
@[go_sem] theorem c_sheafref1_Of_1_at (rd : Option Nat) (K : Post3) (t : Fr) (m : Mem) : wpM E 77 11 rd c_sheafref1_Of_1 K t m = wpM E 77 11 rd (.cond (.tmp 4) c_sheafref1_Of_0 .skip) K t m := rfl

def c_sheafref1_Of_2 : MC := (.seq (.ops [⟨(some 3), .move (.tmp 0), none⟩,
    ⟨(some 4), .binOp .lss 3 (.tmp 3) (.const (.int .i64 0)) 3, none⟩]) c_sheafref1_Of_1)
@[go_sem] theorem c_sheafref1_Of_2_at (rd : Option Nat) (K : Post3) (t : Fr) (m : Mem) : wpM E 77 11 rd c_sheafref1_Of_2 K t m = wpM E 77 11 rd (.seq (.ops [⟨(some 3), .move (.tmp 0), none⟩,
    ⟨(some 4), .binOp .lss 3 (.tmp 3) (.const (.int .i64 0)) 3, none⟩]) c_sheafref1_Of_1) K t m := rfl

def c_sheafref1_Of_3 : MC := (.seq (.ops [⟨(some 8), .move (.tmp 0), none⟩,
    ⟨(some 9), .convert 3 81 (.tmp 8), none⟩,
    ⟨(some 10), .build 83 #[(1, (.tmp 9))], none⟩,
    ⟨none, .store 83 (.tmp 2) (.tmp 10), none⟩]) .ret)
@[go_sem] theorem c_sheafref1_Of_3_at (rd : Option Nat) (K : Post3) (t : Fr) (m : Mem) : wpM E 77 11 rd c_sheafref1_Of_3 K t m = wpM E 77 11 rd (.seq (.ops [⟨(some 8), .move (.tmp 0), none⟩,
    ⟨(some 9), .convert 3 81 (.tmp 8), none⟩,
    ⟨(some 10), .build 83 #[(1, (.tmp 9))], none⟩,
    ⟨none, .store 83 (.tmp 2) (.tmp 10), none⟩]) .ret) K t m := rfl

def c_sheafref1_Of_4 : MC := (.seq c_sheafref1_Of_2 c_sheafref1_Of_3)
@[go_sem] theorem c_sheafref1_Of_4_at (rd : Option Nat) (K : Post3) (t : Fr) (m : Mem) : wpM E 77 11 rd c_sheafref1_Of_4 K t m = wpM E 77 11 rd (.seq c_sheafref1_Of_2 c_sheafref1_Of_3) K t m := rfl

def c_sheafref1_Of_5 : MC := (.seq (.ops [⟨(some 2), .alloc 83, none⟩]) c_sheafref1_Of_4)
@[go_sem] theorem c_sheafref1_Of_5_at (rd : Option Nat) (K : Post3) (t : Fr) (m : Mem) : wpM E 77 11 rd c_sheafref1_Of_5 K t m = wpM E 77 11 rd (.seq (.ops [⟨(some 2), .alloc 83, none⟩]) c_sheafref1_Of_4) K t m := rfl

@[go_sem] theorem some77 : (E.fn 77).isSome = true := by kernel_rfl
set_option maxRecDepth 100000 in
theorem fn_sheafref1_Of : FnIs E 77 11 [.cell 2 83] c_sheafref1_Of_5 := ⟨by kernel_rfl, by kernel_rfl⟩

end
end Go.Proofs.Ytpabllcacdopdaa.W
