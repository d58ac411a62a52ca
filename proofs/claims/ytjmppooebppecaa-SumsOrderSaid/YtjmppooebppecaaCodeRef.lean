/-
  Compact code, printed by a program of mine (wip/dev/AbsPrint.lean).
-/
import Derived.Test.YtjmppooebppecaaTypes
set_option linter.unusedVariables false
namespace Go.Proofs.Ytjmppooebppecaa.W
open Go.Abs
noncomputable section

-- 24 sheaf/sheafref16.Total: not printed

/-! sheaf/sheafref12.Sorted -/
abbrev F_sheafref12_Sorted : FuncId := 26
def c_sheafref12_Sorted_0 : MC := (.cond (.tmp 14) .skip (.exit 0))
@[go_sem] theorem c_sheafref12_Sorted_0_at (rd : Option Nat) (K : Post3) (t : Fr) (m : Mem) : wpM E 26 53 rd c_sheafref12_Sorted_0 K t m = wpM E 26 53 rd (.cond (.tmp 14) .skip (.exit 0)) K t m := rfl

def c_sheafref12_Sorted_1 : MC := (.seq (.ops [⟨(some 11), .move (.tmp 6), none⟩,
    ⟨(some 12), .move (.tmp 5), none⟩,
    ⟨(some 13), .call ⟨.builtin .len, #[(.tmp 12)], #[40]⟩, none⟩,
    ⟨(some 14), .binOp .lss 3 (.tmp 11) (.tmp 13) 3, none⟩]) c_sheafref12_Sorted_0)
@[go_sem] theorem c_sheafref12_Sorted_1_at (rd : Option Nat) (K : Post3) (t : Fr) (m : Mem) : wpM E 26 53 rd c_sheafref12_Sorted_1 K t m = wpM E 26 53 rd (.seq (.ops [⟨(some 11), .move (.tmp 6), none⟩,
    ⟨(some 12), .move (.tmp 5), none⟩,
    ⟨(some 13), .call ⟨.builtin .len, #[(.tmp 12)], #[40]⟩, none⟩,
    ⟨(some 14), .binOp .lss 3 (.tmp 11) (.tmp 13) 3, none⟩]) c_sheafref12_Sorted_0) K t m := rfl

def c_sheafref12_Sorted_2 : MC := (.cond (.tmp 33) .skip (.exit 2))
@[go_sem] theorem c_sheafref12_Sorted_2_at (rd : Option Nat) (K : Post3) (t : Fr) (m : Mem) : wpM E 26 53 rd c_sheafref12_Sorted_2 K t m = wpM E 26 53 rd (.cond (.tmp 33) .skip (.exit 2)) K t m := rfl

def c_sheafref12_Sorted_3 : MC := (.seq (.ops [⟨(some 18), .move (.tmp 7), none⟩,
    ⟨(some 19), .binOp .gtr 3 (.tmp 18) (.const (.int .i64 0)) 3, none⟩,
    ⟨(some 20), .move (.tmp 19), none⟩,
    ⟨(some 21), .move (.tmp 5), (some (some 20, true))⟩,
    ⟨(some 22), .move (.tmp 7), (some (some 20, true))⟩,
    ⟨(some 23), .indexAddr 40 (.tmp 21) (.tmp 22), (some (some 20, true))⟩,
    ⟨(some 24), .load 22 (.tmp 23), (some (some 20, true))⟩,
    ⟨(some 25), .move (.tmp 5), (some (some 20, true))⟩,
    ⟨(some 26), .move (.tmp 7), (some (some 20, true))⟩,
    ⟨(some 27), .binOp .sub 3 (.tmp 26) (.const (.int .i64 1)) 3, (some (some 20, true))⟩,
    ⟨(some 28), .indexAddr 40 (.tmp 25) (.tmp 27), (some (some 20, true))⟩,
    ⟨(some 29), .load 22 (.tmp 28), (some (some 20, true))⟩,
    ⟨(some 30), .move (.tmp 1), (some (some 20, true))⟩,
    ⟨(some 31), .call ⟨.value (.func 43), #[(.tmp 24), (.tmp 29), (.tmp 30)], #[22, 22, 22]⟩, (some (some 20, true))⟩,
    ⟨(some 32), .binOp .lss 3 (.tmp 31) (.const (.int .i64 0)) 3, (some (some 20, true))⟩,
    ⟨(some 33), .pick (.tmp 20) (.tmp 32) (.const (.bool false)), none⟩]) c_sheafref12_Sorted_2)
@[go_sem] theorem c_sheafref12_Sorted_3_at (rd : Option Nat) (K : Post3) (t : Fr) (m : Mem) : wpM E 26 53 rd c_sheafref12_Sorted_3 K t m = wpM E 26 53 rd (.seq (.ops [⟨(some 18), .move (.tmp 7), none⟩,
    ⟨(some 19), .binOp .gtr 3 (.tmp 18) (.const (.int .i64 0)) 3, none⟩,
    ⟨(some 20), .move (.tmp 19), none⟩,
    ⟨(some 21), .move (.tmp 5), (some (some 20, true))⟩,
    ⟨(some 22), .move (.tmp 7), (some (some 20, true))⟩,
    ⟨(some 23), .indexAddr 40 (.tmp 21) (.tmp 22), (some (some 20, true))⟩,
    ⟨(some 24), .load 22 (.tmp 23), (some (some 20, true))⟩,
    ⟨(some 25), .move (.tmp 5), (some (some 20, true))⟩,
    ⟨(some 26), .move (.tmp 7), (some (some 20, true))⟩,
    ⟨(some 27), .binOp .sub 3 (.tmp 26) (.const (.int .i64 1)) 3, (some (some 20, true))⟩,
    ⟨(some 28), .indexAddr 40 (.tmp 25) (.tmp 27), (some (some 20, true))⟩,
    ⟨(some 29), .load 22 (.tmp 28), (some (some 20, true))⟩,
    ⟨(some 30), .move (.tmp 1), (some (some 20, true))⟩,
    ⟨(some 31), .call ⟨.value (.func 43), #[(.tmp 24), (.tmp 29), (.tmp 30)], #[22, 22, 22]⟩, (some (some 20, true))⟩,
    ⟨(some 32), .binOp .lss 3 (.tmp 31) (.const (.int .i64 0)) 3, (some (some 20, true))⟩,
    ⟨(some 33), .pick (.tmp 20) (.tmp 32) (.const (.bool false)), none⟩]) c_sheafref12_Sorted_2) K t m := rfl

def c_sheafref12_Sorted_4 : MC := (.block 3 (.ops [⟨(some 36), .move (.tmp 5), none⟩,
    ⟨(some 37), .move (.tmp 7), none⟩,
    ⟨(some 38), .move (.tmp 5), none⟩,
    ⟨(some 39), .move (.tmp 7), none⟩,
    ⟨(some 40), .binOp .sub 3 (.tmp 39) (.const (.int .i64 1)) 3, none⟩,
    ⟨(some 41), .move (.tmp 5), none⟩,
    ⟨(some 42), .move (.tmp 7), none⟩,
    ⟨(some 43), .binOp .sub 3 (.tmp 42) (.const (.int .i64 1)) 3, none⟩,
    ⟨(some 44), .indexAddr 40 (.tmp 41) (.tmp 43), none⟩,
    ⟨(some 45), .load 22 (.tmp 44), none⟩,
    ⟨(some 46), .move (.tmp 5), none⟩,
    ⟨(some 47), .move (.tmp 7), none⟩,
    ⟨(some 48), .indexAddr 40 (.tmp 46) (.tmp 47), none⟩,
    ⟨(some 49), .load 22 (.tmp 48), none⟩,
    ⟨(some 50), .indexAddr 40 (.tmp 36) (.tmp 37), none⟩,
    ⟨none, .store 22 (.tmp 50) (.tmp 45), none⟩,
    ⟨(some 51), .indexAddr 40 (.tmp 38) (.tmp 40), none⟩,
    ⟨none, .store 22 (.tmp 51) (.tmp 49), none⟩]))
@[go_sem] theorem c_sheafref12_Sorted_4_at (rd : Option Nat) (K : Post3) (t : Fr) (m : Mem) : wpM E 26 53 rd c_sheafref12_Sorted_4 K t m = wpM E 26 53 rd (.block 3 (.ops [⟨(some 36), .move (.tmp 5), none⟩,
    ⟨(some 37), .move (.tmp 7), none⟩,
    ⟨(some 38), .move (.tmp 5), none⟩,
    ⟨(some 39), .move (.tmp 7), none⟩,
    ⟨(some 40), .binOp .sub 3 (.tmp 39) (.const (.int .i64 1)) 3, none⟩,
    ⟨(some 41), .move (.tmp 5), none⟩,
    ⟨(some 42), .move (.tmp 7), none⟩,
    ⟨(some 43), .binOp .sub 3 (.tmp 42) (.const (.int .i64 1)) 3, none⟩,
    ⟨(some 44), .indexAddr 40 (.tmp 41) (.tmp 43), none⟩,
    ⟨(some 45), .load 22 (.tmp 44), none⟩,
    ⟨(some 46), .move (.tmp 5), none⟩,
    ⟨(some 47), .move (.tmp 7), none⟩,
    ⟨(some 48), .indexAddr 40 (.tmp 46) (.tmp 47), none⟩,
    ⟨(some 49), .load 22 (.tmp 48), none⟩,
    ⟨(some 50), .indexAddr 40 (.tmp 36) (.tmp 37), none⟩,
    ⟨none, .store 22 (.tmp 50) (.tmp 45), none⟩,
    ⟨(some 51), .indexAddr 40 (.tmp 38) (.tmp 40), none⟩,
    ⟨none, .store 22 (.tmp 51) (.tmp 49), none⟩])) K t m := rfl

def c_sheafref12_Sorted_5 : MC := (.seq c_sheafref12_Sorted_4 (.ops [⟨(some 34), .move (.tmp 7), none⟩,
    ⟨(some 35), .binOp .sub 3 (.tmp 34) (.const (.int .i64 1)) 3, none⟩,
    ⟨(some 7), .assign (.tmp 35), none⟩]))
@[go_sem] theorem c_sheafref12_Sorted_5_at (rd : Option Nat) (K : Post3) (t : Fr) (m : Mem) : wpM E 26 53 rd c_sheafref12_Sorted_5 K t m = wpM E 26 53 rd (.seq c_sheafref12_Sorted_4 (.ops [⟨(some 34), .move (.tmp 7), none⟩,
    ⟨(some 35), .binOp .sub 3 (.tmp 34) (.const (.int .i64 1)) 3, none⟩,
    ⟨(some 7), .assign (.tmp 35), none⟩])) K t m := rfl

def c_sheafref12_Sorted_6 : MC := (.seq c_sheafref12_Sorted_3 c_sheafref12_Sorted_5)
@[go_sem] theorem c_sheafref12_Sorted_6_at (rd : Option Nat) (K : Post3) (t : Fr) (m : Mem) : wpM E 26 53 rd c_sheafref12_Sorted_6 K t m = wpM E 26 53 rd (.seq c_sheafref12_Sorted_3 c_sheafref12_Sorted_5) K t m := rfl

def c_sheafref12_Sorted_7 : MC := (.loop c_sheafref12_Sorted_6)
theorem c_sheafref12_Sorted_7_at (rd : Option Nat) (K : Post3) (t : Fr) (m : Mem) : wpM E 26 53 rd c_sheafref12_Sorted_7 K t m = wpM E 26 53 rd (.loop c_sheafref12_Sorted_6) K t m := rfl

def c_sheafref12_Sorted_8 : MC := (.block 2 c_sheafref12_Sorted_7)
theorem c_sheafref12_Sorted_8_at (rd : Option Nat) (K : Post3) (t : Fr) (m : Mem) : wpM E 26 53 rd c_sheafref12_Sorted_8 K t m = wpM E 26 53 rd (.block 2 c_sheafref12_Sorted_7) K t m := rfl

def c_sheafref12_Sorted_9 : MC := (.seq (.ops [⟨(some 17), .move (.tmp 6), none⟩,
    ⟨(some 7), .assign (.tmp 17), none⟩]) c_sheafref12_Sorted_8)
@[go_sem] theorem c_sheafref12_Sorted_9_at (rd : Option Nat) (K : Post3) (t : Fr) (m : Mem) : wpM E 26 53 rd c_sheafref12_Sorted_9 K t m = wpM E 26 53 rd (.seq (.ops [⟨(some 17), .move (.tmp 6), none⟩,
    ⟨(some 7), .assign (.tmp 17), none⟩]) c_sheafref12_Sorted_8) K t m := rfl

def c_sheafref12_Sorted_10 : MC := (.block 1 c_sheafref12_Sorted_9)
@[go_sem] theorem c_sheafref12_Sorted_10_at (rd : Option Nat) (K : Post3) (t : Fr) (m : Mem) : wpM E 26 53 rd c_sheafref12_Sorted_10 K t m = wpM E 26 53 rd (.block 1 c_sheafref12_Sorted_9) K t m := rfl

def c_sheafref12_Sorted_11 : MC := (.seq c_sheafref12_Sorted_10 (.ops [⟨(some 15), .move (.tmp 6), none⟩,
    ⟨(some 16), .binOp .add 3 (.tmp 15) (.const (.int .i64 1)) 3, none⟩,
    ⟨(some 6), .assign (.tmp 16), none⟩]))
@[go_sem] theorem c_sheafref12_Sorted_11_at (rd : Option Nat) (K : Post3) (t : Fr) (m : Mem) : wpM E 26 53 rd c_sheafref12_Sorted_11 K t m = wpM E 26 53 rd (.seq c_sheafref12_Sorted_10 (.ops [⟨(some 15), .move (.tmp 6), none⟩,
    ⟨(some 16), .binOp .add 3 (.tmp 15) (.const (.int .i64 1)) 3, none⟩,
    ⟨(some 6), .assign (.tmp 16), none⟩])) K t m := rfl

def c_sheafref12_Sorted_12 : MC := (.seq c_sheafref12_Sorted_1 c_sheafref12_Sorted_11)
@[go_sem] theorem c_sheafref12_Sorted_12_at (rd : Option Nat) (K : Post3) (t : Fr) (m : Mem) : wpM E 26 53 rd c_sheafref12_Sorted_12 K t m = wpM E 26 53 rd (.seq c_sheafref12_Sorted_1 c_sheafref12_Sorted_11) K t m := rfl

def c_sheafref12_Sorted_13 : MC := (.loop c_sheafref12_Sorted_12)
theorem c_sheafref12_Sorted_13_at (rd : Option Nat) (K : Post3) (t : Fr) (m : Mem) : wpM E 26 53 rd c_sheafref12_Sorted_13 K t m = wpM E 26 53 rd (.loop c_sheafref12_Sorted_12) K t m := rfl

def c_sheafref12_Sorted_14 : MC := (.block 0 c_sheafref12_Sorted_13)
theorem c_sheafref12_Sorted_14_at (rd : Option Nat) (K : Post3) (t : Fr) (m : Mem) : wpM E 26 53 rd c_sheafref12_Sorted_14 K t m = wpM E 26 53 rd (.block 0 c_sheafref12_Sorted_13) K t m := rfl

def c_sheafref12_Sorted_15 : MC := (.seq (.ops [⟨(some 6), .assign (.const (.int .i64 1)), none⟩]) c_sheafref12_Sorted_14)
@[go_sem] theorem c_sheafref12_Sorted_15_at (rd : Option Nat) (K : Post3) (t : Fr) (m : Mem) : wpM E 26 53 rd c_sheafref12_Sorted_15 K t m = wpM E 26 53 rd (.seq (.ops [⟨(some 6), .assign (.const (.int .i64 1)), none⟩]) c_sheafref12_Sorted_14) K t m := rfl

def c_sheafref12_Sorted_16 : MC := (.seq (.ops [⟨(some 52), .move (.tmp 5), none⟩,
    ⟨(some 4), .assign (.tmp 52), none⟩]) .ret)
@[go_sem] theorem c_sheafref12_Sorted_16_at (rd : Option Nat) (K : Post3) (t : Fr) (m : Mem) : wpM E 26 53 rd c_sheafref12_Sorted_16 K t m = wpM E 26 53 rd (.seq (.ops [⟨(some 52), .move (.tmp 5), none⟩,
    ⟨(some 4), .assign (.tmp 52), none⟩]) .ret) K t m := rfl

def c_sheafref12_Sorted_17 : MC := (.seq c_sheafref12_Sorted_15 c_sheafref12_Sorted_16)
@[go_sem] theorem c_sheafref12_Sorted_17_at (rd : Option Nat) (K : Post3) (t : Fr) (m : Mem) : wpM E 26 53 rd c_sheafref12_Sorted_17 K t m = wpM E 26 53 rd (.seq c_sheafref12_Sorted_15 c_sheafref12_Sorted_16) K t m := rfl

def c_sheafref12_Sorted_18 : MC := (.seq (.ops [⟨(some 8), .buildSlice 40 0 #[], none⟩,
    ⟨(some 9), .move (.tmp 0), none⟩,
    ⟨(some 10), .call ⟨.builtin .append, #[(.tmp 8), (.tmp 9)], #[40, 40]⟩, none⟩,
    ⟨(some 5), .assign (.tmp 10), none⟩]) c_sheafref12_Sorted_17)
@[go_sem] theorem c_sheafref12_Sorted_18_at (rd : Option Nat) (K : Post3) (t : Fr) (m : Mem) : wpM E 26 53 rd c_sheafref12_Sorted_18 K t m = wpM E 26 53 rd (.seq (.ops [⟨(some 8), .buildSlice 40 0 #[], none⟩,
    ⟨(some 9), .move (.tmp 0), none⟩,
    ⟨(some 10), .call ⟨.builtin .append, #[(.tmp 8), (.tmp 9)], #[40, 40]⟩, none⟩,
    ⟨(some 5), .assign (.tmp 10), none⟩]) c_sheafref12_Sorted_17) K t m := rfl

def c_sheafref12_Sorted_19 : MC := (.seq (.ops [⟨(some 4), .assign (.const (.slice none 0 0)), none⟩]) c_sheafref12_Sorted_18)
@[go_sem] theorem c_sheafref12_Sorted_19_at (rd : Option Nat) (K : Post3) (t : Fr) (m : Mem) : wpM E 26 53 rd c_sheafref12_Sorted_19 K t m = wpM E 26 53 rd (.seq (.ops [⟨(some 4), .assign (.const (.slice none 0 0)), none⟩]) c_sheafref12_Sorted_18) K t m := rfl

@[go_sem] theorem some26 : (E.fn 26).isSome = true := by kernel_rfl
set_option maxRecDepth 100000 in
theorem fn_sheafref12_Sorted : FnIs E 26 53 [.tmp 4] c_sheafref12_Sorted_19 := ⟨by kernel_rfl, by kernel_rfl⟩

-- 33 sheaf/sheafref16.Round: not printed

-- 35 sheaf/sheafref16.Pairs: not printed

/-! sheaf/sheafref1.Add -/
abbrev F_sheafref1_Add : FuncId := 40
def c_sheafref1_Add_0 : MC := (.cond (.tmp 20) (.ops [⟨(some 21), .move (.tmp 6), none⟩,
    ⟨(some 22), .binOp .add 2 (.tmp 21) (.const (.int .i64 1)) 2, none⟩,
    ⟨(some 6), .assign (.tmp 22), none⟩]) .skip)
@[go_sem] theorem c_sheafref1_Add_0_at (rd : Option Nat) (K : Post3) (t : Fr) (m : Mem) : wpM E 40 26 rd c_sheafref1_Add_0 K t m = wpM E 40 26 rd (.cond (.tmp 20) (.ops [⟨(some 21), .move (.tmp 6), none⟩,
    ⟨(some 22), .binOp .add 2 (.tmp 21) (.const (.int .i64 1)) 2, none⟩,
    ⟨(some 6), .assign (.tmp 22), none⟩]) .skip) K t m := rfl

def c_sheafref1_Add_1 : MC := (.seq (.ops [⟨(some 17), .move (.tmp 5), none⟩,
    ⟨(some 18), .fieldAddr 27 (.tmp 2) 1, none⟩,
    ⟨(some 19), .load 25 (.tmp 18), none⟩,
    ⟨(some 20), .binOp .lss 25 (.tmp 17) (.tmp 19) 25, none⟩]) c_sheafref1_Add_0)
@[go_sem] theorem c_sheafref1_Add_1_at (rd : Option Nat) (K : Post3) (t : Fr) (m : Mem) : wpM E 40 26 rd c_sheafref1_Add_1 K t m = wpM E 40 26 rd (.seq (.ops [⟨(some 17), .move (.tmp 5), none⟩,
    ⟨(some 18), .fieldAddr 27 (.tmp 2) 1, none⟩,
    ⟨(some 19), .load 25 (.tmp 18), none⟩,
    ⟨(some 20), .binOp .lss 25 (.tmp 17) (.tmp 19) 25, none⟩]) c_sheafref1_Add_0) K t m := rfl

def c_sheafref1_Add_2 : MC := (.seq (.ops [⟨(some 23), .move (.tmp 6), none⟩,
    ⟨(some 24), .move (.tmp 5), none⟩,
    ⟨(some 25), .build 27 #[(0, (.tmp 23)), (1, (.tmp 24))], none⟩,
    ⟨none, .store 27 (.tmp 4) (.tmp 25), none⟩]) .ret)
@[go_sem] theorem c_sheafref1_Add_2_at (rd : Option Nat) (K : Post3) (t : Fr) (m : Mem) : wpM E 40 26 rd c_sheafref1_Add_2 K t m = wpM E 40 26 rd (.seq (.ops [⟨(some 23), .move (.tmp 6), none⟩,
    ⟨(some 24), .move (.tmp 5), none⟩,
    ⟨(some 25), .build 27 #[(0, (.tmp 23)), (1, (.tmp 24))], none⟩,
    ⟨none, .store 27 (.tmp 4) (.tmp 25), none⟩]) .ret) K t m := rfl

def c_sheafref1_Add_3 : MC := (.seq c_sheafref1_Add_1 c_sheafref1_Add_2)
@[go_sem] theorem c_sheafref1_Add_3_at (rd : Option Nat) (K : Post3) (t : Fr) (m : Mem) : wpM E 40 26 rd c_sheafref1_Add_3 K t m = wpM E 40 26 rd (.seq c_sheafref1_Add_1 c_sheafref1_Add_2) K t m := rfl

def c_sheafref1_Add_4 : MC := (.seq (.ops [⟨(some 12), .fieldAddr 27 (.tmp 2) 0, none⟩,
    ⟨(some 13), .load 2 (.tmp 12), none⟩,
    ⟨(some 14), .fieldAddr 27 (.tmp 3) 0, none⟩,
    ⟨(some 15), .load 2 (.tmp 14), none⟩,
    ⟨(some 16), .binOp .add 2 (.tmp 13) (.tmp 15) 2, none⟩,
    ⟨(some 6), .assign (.tmp 16), none⟩]) c_sheafref1_Add_3)
@[go_sem] theorem c_sheafref1_Add_4_at (rd : Option Nat) (K : Post3) (t : Fr) (m : Mem) : wpM E 40 26 rd c_sheafref1_Add_4 K t m = wpM E 40 26 rd (.seq (.ops [⟨(some 12), .fieldAddr 27 (.tmp 2) 0, none⟩,
    ⟨(some 13), .load 2 (.tmp 12), none⟩,
    ⟨(some 14), .fieldAddr 27 (.tmp 3) 0, none⟩,
    ⟨(some 15), .load 2 (.tmp 14), none⟩,
    ⟨(some 16), .binOp .add 2 (.tmp 13) (.tmp 15) 2, none⟩,
    ⟨(some 6), .assign (.tmp 16), none⟩]) c_sheafref1_Add_3) K t m := rfl

def c_sheafref1_Add_5 : MC := (.seq (.ops [⟨(some 7), .fieldAddr 27 (.tmp 2) 1, none⟩,
    ⟨(some 8), .load 25 (.tmp 7), none⟩,
    ⟨(some 9), .fieldAddr 27 (.tmp 3) 1, none⟩,
    ⟨(some 10), .load 25 (.tmp 9), none⟩,
    ⟨(some 11), .binOp .add 25 (.tmp 8) (.tmp 10) 25, none⟩,
    ⟨(some 5), .assign (.tmp 11), none⟩]) c_sheafref1_Add_4)
@[go_sem] theorem c_sheafref1_Add_5_at (rd : Option Nat) (K : Post3) (t : Fr) (m : Mem) : wpM E 40 26 rd c_sheafref1_Add_5 K t m = wpM E 40 26 rd (.seq (.ops [⟨(some 7), .fieldAddr 27 (.tmp 2) 1, none⟩,
    ⟨(some 8), .load 25 (.tmp 7), none⟩,
    ⟨(some 9), .fieldAddr 27 (.tmp 3) 1, none⟩,
    ⟨(some 10), .load 25 (.tmp 9), none⟩,
    ⟨(some 11), .binOp .add 25 (.tmp 8) (.tmp 10) 25, none⟩,
    ⟨(some 5), .assign (.tmp 11), none⟩]) c_sheafref1_Add_4) K t m := rfl

def c_sheafref1_Add_6 : MC := (.seq (.ops [⟨(some 2), .box 27 (.tmp 0), none⟩,
    ⟨(some 3), .box 27 (.tmp 1), none⟩,
    ⟨(some 4), .alloc 27, none⟩]) c_sheafref1_Add_5)
@[go_sem] theorem c_sheafref1_Add_6_at (rd : Option Nat) (K : Post3) (t : Fr) (m : Mem) : wpM E 40 26 rd c_sheafref1_Add_6 K t m = wpM E 40 26 rd (.seq (.ops [⟨(some 2), .box 27 (.tmp 0), none⟩,
    ⟨(some 3), .box 27 (.tmp 1), none⟩,
    ⟨(some 4), .alloc 27, none⟩]) c_sheafref1_Add_5) K t m := rfl

@[go_sem] theorem some40 : (E.fn 40).isSome = true := by kernel_rfl
set_option maxRecDepth 100000 in
theorem fn_sheafref1_Add : FnIs E 40 26 [.cell 4 27] c_sheafref1_Add_6 := ⟨by kernel_rfl, by kernel_rfl⟩

/-! sheaf/sheafref1.Of -/
abbrev F_sheafref1_Of : FuncId := 41
def c_sheafref1_Of_0 : MC := (.seq (.ops [⟨(some 5), .move (.tmp 0), none⟩,
    ⟨(some 6), .convert 3 25 (.tmp 5), none⟩,
    ⟨(some 7), .build 27 #[(0, (.const (.int .i64 (-1)))), (1, (.tmp 6))], none⟩,
    ⟨none, .store 27 (.tmp 2) (.tmp 7), none⟩]) .ret)
@[go_sem] theorem c_sheafref1_Of_0_at (rd : Option Nat) (K : Post3) (t : Fr) (m : Mem) : wpM E 41 11 rd c_sheafref1_Of_0 K t m = wpM E 41 11 rd (.seq (.ops [⟨(some 5), .move (.tmp 0), none⟩,
    ⟨(some 6), .convert 3 25 (.tmp 5), none⟩,
    ⟨(some 7), .build 27 #[(0, (.const (.int .i64 (-1)))), (1, (.tmp 6))], none⟩,
    ⟨none, .store 27 (.tmp 2) (.tmp 7), none⟩]) .ret) K t m := rfl

def c_sheafref1_Of_1 : MC := (.cond (.tmp 4) c_sheafref1_Of_0 .skip)
@[go_sem] theorem c_sheafref1_Of_1_at (rd : Option Nat) (K : Post3) (t : Fr) (m : Mem) : wpM E 41 11 rd c_sheafref1_Of_1 K t m = wpM E 41 11 rd (.cond (.tmp 4) c_sheafref1_Of_0 .skip) K t m := rfl

def c_sheafref1_Of_2 : MC := (.seq (.ops [⟨(some 3), .move (.tmp 0), none⟩,
    ⟨(some 4), .binOp .lss 3 (.tmp 3) (.const (.int .i64 0)) 3, none⟩]) c_sheafref1_Of_1)
@[go_sem] theorem c_sheafref1_Of_2_at (rd : Option Nat) (K : Post3) (t : Fr) (m : Mem) : wpM E 41 11 rd c_sheafref1_Of_2 K t m = wpM E 41 11 rd (.seq (.ops [⟨(some 3), .move (.tmp 0), none⟩,
    ⟨(some 4), .binOp .lss 3 (.tmp 3) (.const (.int .i64 0)) 3, none⟩]) c_sheafref1_Of_1) K t m := rfl

def c_sheafref1_Of_3 : MC := (.seq (.ops [⟨(some 8), .move (.tmp 0), none⟩,
    ⟨(some 9), .convert 3 25 (.tmp 8), none⟩,
    ⟨(some 10), .build 27 #[(1, (.tmp 9))], none⟩,
    ⟨none, .store 27 (.tmp 2) (.tmp 10), none⟩]) .ret)
@[go_sem] theorem c_sheafref1_Of_3_at (rd : Option Nat) (K : Post3) (t : Fr) (m : Mem) : wpM E 41 11 rd c_sheafref1_Of_3 K t m = wpM E 41 11 rd (.seq (.ops [⟨(some 8), .move (.tmp 0), none⟩,
    ⟨(some 9), .convert 3 25 (.tmp 8), none⟩,
    ⟨(some 10), .build 27 #[(1, (.tmp 9))], none⟩,
    ⟨none, .store 27 (.tmp 2) (.tmp 10), none⟩]) .ret) K t m := rfl

def c_sheafref1_Of_4 : MC := (.seq c_sheafref1_Of_2 c_sheafref1_Of_3)
@[go_sem] theorem c_sheafref1_Of_4_at (rd : Option Nat) (K : Post3) (t : Fr) (m : Mem) : wpM E 41 11 rd c_sheafref1_Of_4 K t m = wpM E 41 11 rd (.seq c_sheafref1_Of_2 c_sheafref1_Of_3) K t m := rfl

def c_sheafref1_Of_5 : MC := (.seq (.ops [⟨(some 2), .alloc 27, none⟩]) c_sheafref1_Of_4)
@[go_sem] theorem c_sheafref1_Of_5_at (rd : Option Nat) (K : Post3) (t : Fr) (m : Mem) : wpM E 41 11 rd c_sheafref1_Of_5 K t m = wpM E 41 11 rd (.seq (.ops [⟨(some 2), .alloc 27, none⟩]) c_sheafref1_Of_4) K t m := rfl

@[go_sem] theorem some41 : (E.fn 41).isSome = true := by kernel_rfl
set_option maxRecDepth 100000 in
theorem fn_sheafref1_Of : FnIs E 41 11 [.cell 2 27] c_sheafref1_Of_5 := ⟨by kernel_rfl, by kernel_rfl⟩

/-! sheaf/sheafref1.Int -/
abbrev F_sheafref1_Int : FuncId := 42
def c_sheafref1_Int_0 : MC := (.seq (.ops [⟨(some 2), .assign (.const (.int .i64 0)), none⟩,
    ⟨(some 3), .assign (.const (.bool false)), none⟩]) .ret)
@[go_sem] theorem c_sheafref1_Int_0_at (rd : Option Nat) (K : Post3) (t : Fr) (m : Mem) : wpM E 42 13 rd c_sheafref1_Int_0 K t m = wpM E 42 13 rd (.seq (.ops [⟨(some 2), .assign (.const (.int .i64 0)), none⟩,
    ⟨(some 3), .assign (.const (.bool false)), none⟩]) .ret) K t m := rfl

def c_sheafref1_Int_1 : MC := (.cond (.tmp 11) c_sheafref1_Int_0 .skip)
@[go_sem] theorem c_sheafref1_Int_1_at (rd : Option Nat) (K : Post3) (t : Fr) (m : Mem) : wpM E 42 13 rd c_sheafref1_Int_1 K t m = wpM E 42 13 rd (.cond (.tmp 11) c_sheafref1_Int_0 .skip) K t m := rfl

def c_sheafref1_Int_2 : MC := (.seq (.draw [(0, [], ⟨(some 8), .move (.tmp 4), none⟩),
    (2, [], ⟨(some 10), .load 27 (.tmp 1), none⟩),
    (1, [2], ⟨(some 9), .call ⟨.value (.func 41), #[(.tmp 8)], #[3]⟩, none⟩),
    (3, [], ⟨(some 11), .binOp .neq 27 (.tmp 9) (.tmp 10) 27, none⟩)]) c_sheafref1_Int_1)
@[go_sem] theorem c_sheafref1_Int_2_at (rd : Option Nat) (K : Post3) (t : Fr) (m : Mem) : wpM E 42 13 rd c_sheafref1_Int_2 K t m = wpM E 42 13 rd (.seq (.draw [(0, [], ⟨(some 8), .move (.tmp 4), none⟩),
    (2, [], ⟨(some 10), .load 27 (.tmp 1), none⟩),
    (1, [2], ⟨(some 9), .call ⟨.value (.func 41), #[(.tmp 8)], #[3]⟩, none⟩),
    (3, [], ⟨(some 11), .binOp .neq 27 (.tmp 9) (.tmp 10) 27, none⟩)]) c_sheafref1_Int_1) K t m := rfl

def c_sheafref1_Int_3 : MC := (.seq (.ops [⟨(some 12), .move (.tmp 4), none⟩,
    ⟨(some 2), .assign (.tmp 12), none⟩,
    ⟨(some 3), .assign (.const (.bool true)), none⟩]) .ret)
@[go_sem] theorem c_sheafref1_Int_3_at (rd : Option Nat) (K : Post3) (t : Fr) (m : Mem) : wpM E 42 13 rd c_sheafref1_Int_3 K t m = wpM E 42 13 rd (.seq (.ops [⟨(some 12), .move (.tmp 4), none⟩,
    ⟨(some 2), .assign (.tmp 12), none⟩,
    ⟨(some 3), .assign (.const (.bool true)), none⟩]) .ret) K t m := rfl

def c_sheafref1_Int_4 : MC := (.seq c_sheafref1_Int_2 c_sheafref1_Int_3)
@[go_sem] theorem c_sheafref1_Int_4_at (rd : Option Nat) (K : Post3) (t : Fr) (m : Mem) : wpM E 42 13 rd c_sheafref1_Int_4 K t m = wpM E 42 13 rd (.seq c_sheafref1_Int_2 c_sheafref1_Int_3) K t m := rfl

def c_sheafref1_Int_5 : MC := (.seq (.ops [⟨(some 5), .fieldAddr 27 (.tmp 1) 1, none⟩,
    ⟨(some 6), .load 25 (.tmp 5), none⟩,
    ⟨(some 7), .convert 25 3 (.tmp 6), none⟩,
    ⟨(some 4), .assign (.tmp 7), none⟩]) c_sheafref1_Int_4)
@[go_sem] theorem c_sheafref1_Int_5_at (rd : Option Nat) (K : Post3) (t : Fr) (m : Mem) : wpM E 42 13 rd c_sheafref1_Int_5 K t m = wpM E 42 13 rd (.seq (.ops [⟨(some 5), .fieldAddr 27 (.tmp 1) 1, none⟩,
    ⟨(some 6), .load 25 (.tmp 5), none⟩,
    ⟨(some 7), .convert 25 3 (.tmp 6), none⟩,
    ⟨(some 4), .assign (.tmp 7), none⟩]) c_sheafref1_Int_4) K t m := rfl

def c_sheafref1_Int_6 : MC := (.seq (.ops [⟨(some 1), .box 27 (.tmp 0), none⟩,
    ⟨(some 2), .assign (.const (.int .i64 0)), none⟩,
    ⟨(some 3), .assign (.const (.bool false)), none⟩]) c_sheafref1_Int_5)
@[go_sem] theorem c_sheafref1_Int_6_at (rd : Option Nat) (K : Post3) (t : Fr) (m : Mem) : wpM E 42 13 rd c_sheafref1_Int_6 K t m = wpM E 42 13 rd (.seq (.ops [⟨(some 1), .box 27 (.tmp 0), none⟩,
    ⟨(some 2), .assign (.const (.int .i64 0)), none⟩,
    ⟨(some 3), .assign (.const (.bool false)), none⟩]) c_sheafref1_Int_5) K t m := rfl

@[go_sem] theorem some42 : (E.fn 42).isSome = true := by kernel_rfl
set_option maxRecDepth 100000 in
theorem fn_sheafref1_Int : FnIs E 42 13 [.tmp 2, .tmp 3] c_sheafref1_Int_6 := ⟨by kernel_rfl, by kernel_rfl⟩

/-! sheaf/sheafref12.Compare -/
abbrev F_sheafref12_Compare : FuncId := 43
def c_sheafref12_Compare_0 : MC := (.cond (.tmp 15) .skip (.exit 0))
@[go_sem] theorem c_sheafref12_Compare_0_at (rd : Option Nat) (K : Post3) (t : Fr) (m : Mem) : wpM E 43 45 rd c_sheafref12_Compare_0 K t m = wpM E 43 45 rd (.cond (.tmp 15) .skip (.exit 0)) K t m := rfl

def c_sheafref12_Compare_1 : MC := (.seq (.ops [⟨(some 24), .move (.tmp 9), none⟩,
    ⟨(some 6), .assign (.tmp 24), none⟩]) .ret)
@[go_sem] theorem c_sheafref12_Compare_1_at (rd : Option Nat) (K : Post3) (t : Fr) (m : Mem) : wpM E 43 45 rd c_sheafref12_Compare_1 K t m = wpM E 43 45 rd (.seq (.ops [⟨(some 24), .move (.tmp 9), none⟩,
    ⟨(some 6), .assign (.tmp 24), none⟩]) .ret) K t m := rfl

def c_sheafref12_Compare_2 : MC := (.cond (.tmp 23) c_sheafref12_Compare_1 .skip)
@[go_sem] theorem c_sheafref12_Compare_2_at (rd : Option Nat) (K : Post3) (t : Fr) (m : Mem) : wpM E 43 45 rd c_sheafref12_Compare_2 K t m = wpM E 43 45 rd (.cond (.tmp 23) c_sheafref12_Compare_1 .skip) K t m := rfl

def c_sheafref12_Compare_3 : MC := (.seq (.ops [⟨(some 22), .move (.tmp 9), none⟩,
    ⟨(some 23), .binOp .neq 3 (.tmp 22) (.const (.int .i64 0)) 3, none⟩]) c_sheafref12_Compare_2)
@[go_sem] theorem c_sheafref12_Compare_3_at (rd : Option Nat) (K : Post3) (t : Fr) (m : Mem) : wpM E 43 45 rd c_sheafref12_Compare_3 K t m = wpM E 43 45 rd (.seq (.ops [⟨(some 22), .move (.tmp 9), none⟩,
    ⟨(some 23), .binOp .neq 3 (.tmp 22) (.const (.int .i64 0)) 3, none⟩]) c_sheafref12_Compare_2) K t m := rfl

def c_sheafref12_Compare_4 : MC := (.seq (.ops [⟨(some 18), .move (.tmp 0), none⟩,
    ⟨(some 19), .move (.tmp 1), none⟩,
    ⟨(some 20), .move (.tmp 8), none⟩,
    ⟨(some 21), .call ⟨.value (.func 61), #[(.tmp 18), (.tmp 19), (.tmp 20)], #[22, 22, 3]⟩, none⟩,
    ⟨(some 9), .assign (.tmp 21), none⟩]) c_sheafref12_Compare_3)
@[go_sem] theorem c_sheafref12_Compare_4_at (rd : Option Nat) (K : Post3) (t : Fr) (m : Mem) : wpM E 43 45 rd c_sheafref12_Compare_4 K t m = wpM E 43 45 rd (.seq (.ops [⟨(some 18), .move (.tmp 0), none⟩,
    ⟨(some 19), .move (.tmp 1), none⟩,
    ⟨(some 20), .move (.tmp 8), none⟩,
    ⟨(some 21), .call ⟨.value (.func 61), #[(.tmp 18), (.tmp 19), (.tmp 20)], #[22, 22, 3]⟩, none⟩,
    ⟨(some 9), .assign (.tmp 21), none⟩]) c_sheafref12_Compare_3) K t m := rfl

def c_sheafref12_Compare_5 : MC := (.seq (.ops [⟨(some 16), .indexAddr 22 (.tmp 12) (.tmp 14), none⟩,
    ⟨(some 17), .load 3 (.tmp 16), none⟩,
    ⟨(some 8), .assign (.tmp 17), none⟩]) c_sheafref12_Compare_4)
@[go_sem] theorem c_sheafref12_Compare_5_at (rd : Option Nat) (K : Post3) (t : Fr) (m : Mem) : wpM E 43 45 rd c_sheafref12_Compare_5 K t m = wpM E 43 45 rd (.seq (.ops [⟨(some 16), .indexAddr 22 (.tmp 12) (.tmp 14), none⟩,
    ⟨(some 17), .load 3 (.tmp 16), none⟩,
    ⟨(some 8), .assign (.tmp 17), none⟩]) c_sheafref12_Compare_4) K t m := rfl

def c_sheafref12_Compare_6 : MC := (.block 1 c_sheafref12_Compare_5)
@[go_sem] theorem c_sheafref12_Compare_6_at (rd : Option Nat) (K : Post3) (t : Fr) (m : Mem) : wpM E 43 45 rd c_sheafref12_Compare_6 K t m = wpM E 43 45 rd (.block 1 c_sheafref12_Compare_5) K t m := rfl

def c_sheafref12_Compare_7 : MC := (.seq c_sheafref12_Compare_6 (.ops [⟨(some 25), .binOp .add 3 (.tmp 14) (.const (.int .i64 1)) 3, none⟩,
    ⟨(some 14), .move (.tmp 25), none⟩]))
@[go_sem] theorem c_sheafref12_Compare_7_at (rd : Option Nat) (K : Post3) (t : Fr) (m : Mem) : wpM E 43 45 rd c_sheafref12_Compare_7 K t m = wpM E 43 45 rd (.seq c_sheafref12_Compare_6 (.ops [⟨(some 25), .binOp .add 3 (.tmp 14) (.const (.int .i64 1)) 3, none⟩,
    ⟨(some 14), .move (.tmp 25), none⟩])) K t m := rfl

def c_sheafref12_Compare_8 : MC := (.seq c_sheafref12_Compare_0 c_sheafref12_Compare_7)
@[go_sem] theorem c_sheafref12_Compare_8_at (rd : Option Nat) (K : Post3) (t : Fr) (m : Mem) : wpM E 43 45 rd c_sheafref12_Compare_8 K t m = wpM E 43 45 rd (.seq c_sheafref12_Compare_0 c_sheafref12_Compare_7) K t m := rfl

def c_sheafref12_Compare_9 : MC := (.seq (.ops [⟨(some 15), .binOp .lss 3 (.tmp 14) (.tmp 13) 3, none⟩]) c_sheafref12_Compare_8)
@[go_sem] theorem c_sheafref12_Compare_9_at (rd : Option Nat) (K : Post3) (t : Fr) (m : Mem) : wpM E 43 45 rd c_sheafref12_Compare_9 K t m = wpM E 43 45 rd (.seq (.ops [⟨(some 15), .binOp .lss 3 (.tmp 14) (.tmp 13) 3, none⟩]) c_sheafref12_Compare_8) K t m := rfl

def c_sheafref12_Compare_10 : MC := (.loop c_sheafref12_Compare_9)
theorem c_sheafref12_Compare_10_at (rd : Option Nat) (K : Post3) (t : Fr) (m : Mem) : wpM E 43 45 rd c_sheafref12_Compare_10 K t m = wpM E 43 45 rd (.loop c_sheafref12_Compare_9) K t m := rfl

def c_sheafref12_Compare_11 : MC := (.block 0 c_sheafref12_Compare_10)
theorem c_sheafref12_Compare_11_at (rd : Option Nat) (K : Post3) (t : Fr) (m : Mem) : wpM E 43 45 rd c_sheafref12_Compare_11 K t m = wpM E 43 45 rd (.block 0 c_sheafref12_Compare_10) K t m := rfl

def c_sheafref12_Compare_12 : MC := (.seq (.ops [⟨(some 12), .move (.tmp 2), none⟩,
    ⟨(some 13), .call ⟨.builtin .len, #[(.tmp 12)], #[22]⟩, none⟩,
    ⟨(some 14), .move (.const (.int .i64 0)), none⟩]) c_sheafref12_Compare_11)
@[go_sem] theorem c_sheafref12_Compare_12_at (rd : Option Nat) (K : Post3) (t : Fr) (m : Mem) : wpM E 43 45 rd c_sheafref12_Compare_12 K t m = wpM E 43 45 rd (.seq (.ops [⟨(some 12), .move (.tmp 2), none⟩,
    ⟨(some 13), .call ⟨.builtin .len, #[(.tmp 12)], #[22]⟩, none⟩,
    ⟨(some 14), .move (.const (.int .i64 0)), none⟩]) c_sheafref12_Compare_11) K t m := rfl

def c_sheafref12_Compare_13 : MC := (.cond (.tmp 35) .skip (.exit 2))
@[go_sem] theorem c_sheafref12_Compare_13_at (rd : Option Nat) (K : Post3) (t : Fr) (m : Mem) : wpM E 43 45 rd c_sheafref12_Compare_13 K t m = wpM E 43 45 rd (.cond (.tmp 35) .skip (.exit 2)) K t m := rfl

def c_sheafref12_Compare_14 : MC := (.seq (.ops [⟨(some 26), .move (.tmp 10), none⟩,
    ⟨(some 27), .move (.tmp 0), none⟩,
    ⟨(some 28), .call ⟨.builtin .len, #[(.tmp 27)], #[22]⟩, none⟩,
    ⟨(some 29), .binOp .lss 3 (.tmp 26) (.tmp 28) 3, none⟩,
    ⟨(some 30), .move (.tmp 29), none⟩,
    ⟨(some 31), .move (.tmp 10), (some (some 30, false))⟩,
    ⟨(some 32), .move (.tmp 1), (some (some 30, false))⟩,
    ⟨(some 33), .call ⟨.builtin .len, #[(.tmp 32)], #[22]⟩, (some (some 30, false))⟩,
    ⟨(some 34), .binOp .lss 3 (.tmp 31) (.tmp 33) 3, (some (some 30, false))⟩,
    ⟨(some 35), .pick (.tmp 30) (.const (.bool true)) (.tmp 34), none⟩]) c_sheafref12_Compare_13)
@[go_sem] theorem c_sheafref12_Compare_14_at (rd : Option Nat) (K : Post3) (t : Fr) (m : Mem) : wpM E 43 45 rd c_sheafref12_Compare_14 K t m = wpM E 43 45 rd (.seq (.ops [⟨(some 26), .move (.tmp 10), none⟩,
    ⟨(some 27), .move (.tmp 0), none⟩,
    ⟨(some 28), .call ⟨.builtin .len, #[(.tmp 27)], #[22]⟩, none⟩,
    ⟨(some 29), .binOp .lss 3 (.tmp 26) (.tmp 28) 3, none⟩,
    ⟨(some 30), .move (.tmp 29), none⟩,
    ⟨(some 31), .move (.tmp 10), (some (some 30, false))⟩,
    ⟨(some 32), .move (.tmp 1), (some (some 30, false))⟩,
    ⟨(some 33), .call ⟨.builtin .len, #[(.tmp 32)], #[22]⟩, (some (some 30, false))⟩,
    ⟨(some 34), .binOp .lss 3 (.tmp 31) (.tmp 33) 3, (some (some 30, false))⟩,
    ⟨(some 35), .pick (.tmp 30) (.const (.bool true)) (.tmp 34), none⟩]) c_sheafref12_Compare_13) K t m := rfl

def c_sheafref12_Compare_15 : MC := (.seq (.ops [⟨(some 44), .move (.tmp 11), none⟩,
    ⟨(some 6), .assign (.tmp 44), none⟩]) .ret)
@[go_sem] theorem c_sheafref12_Compare_15_at (rd : Option Nat) (K : Post3) (t : Fr) (m : Mem) : wpM E 43 45 rd c_sheafref12_Compare_15 K t m = wpM E 43 45 rd (.seq (.ops [⟨(some 44), .move (.tmp 11), none⟩,
    ⟨(some 6), .assign (.tmp 44), none⟩]) .ret) K t m := rfl

def c_sheafref12_Compare_16 : MC := (.cond (.tmp 43) c_sheafref12_Compare_15 .skip)
@[go_sem] theorem c_sheafref12_Compare_16_at (rd : Option Nat) (K : Post3) (t : Fr) (m : Mem) : wpM E 43 45 rd c_sheafref12_Compare_16 K t m = wpM E 43 45 rd (.cond (.tmp 43) c_sheafref12_Compare_15 .skip) K t m := rfl

def c_sheafref12_Compare_17 : MC := (.seq (.ops [⟨(some 42), .move (.tmp 11), none⟩,
    ⟨(some 43), .binOp .neq 3 (.tmp 42) (.const (.int .i64 0)) 3, none⟩]) c_sheafref12_Compare_16)
@[go_sem] theorem c_sheafref12_Compare_17_at (rd : Option Nat) (K : Post3) (t : Fr) (m : Mem) : wpM E 43 45 rd c_sheafref12_Compare_17 K t m = wpM E 43 45 rd (.seq (.ops [⟨(some 42), .move (.tmp 11), none⟩,
    ⟨(some 43), .binOp .neq 3 (.tmp 42) (.const (.int .i64 0)) 3, none⟩]) c_sheafref12_Compare_16) K t m := rfl

def c_sheafref12_Compare_18 : MC := (.seq (.ops [⟨(some 38), .move (.tmp 0), none⟩,
    ⟨(some 39), .move (.tmp 1), none⟩,
    ⟨(some 40), .move (.tmp 10), none⟩,
    ⟨(some 41), .call ⟨.value (.func 61), #[(.tmp 38), (.tmp 39), (.tmp 40)], #[22, 22, 3]⟩, none⟩,
    ⟨(some 11), .assign (.tmp 41), none⟩]) c_sheafref12_Compare_17)
@[go_sem] theorem c_sheafref12_Compare_18_at (rd : Option Nat) (K : Post3) (t : Fr) (m : Mem) : wpM E 43 45 rd c_sheafref12_Compare_18 K t m = wpM E 43 45 rd (.seq (.ops [⟨(some 38), .move (.tmp 0), none⟩,
    ⟨(some 39), .move (.tmp 1), none⟩,
    ⟨(some 40), .move (.tmp 10), none⟩,
    ⟨(some 41), .call ⟨.value (.func 61), #[(.tmp 38), (.tmp 39), (.tmp 40)], #[22, 22, 3]⟩, none⟩,
    ⟨(some 11), .assign (.tmp 41), none⟩]) c_sheafref12_Compare_17) K t m := rfl

def c_sheafref12_Compare_19 : MC := (.block 3 c_sheafref12_Compare_18)
@[go_sem] theorem c_sheafref12_Compare_19_at (rd : Option Nat) (K : Post3) (t : Fr) (m : Mem) : wpM E 43 45 rd c_sheafref12_Compare_19 K t m = wpM E 43 45 rd (.block 3 c_sheafref12_Compare_18) K t m := rfl

def c_sheafref12_Compare_20 : MC := (.seq c_sheafref12_Compare_19 (.ops [⟨(some 36), .move (.tmp 10), none⟩,
    ⟨(some 37), .binOp .add 3 (.tmp 36) (.const (.int .i64 1)) 3, none⟩,
    ⟨(some 10), .assign (.tmp 37), none⟩]))
@[go_sem] theorem c_sheafref12_Compare_20_at (rd : Option Nat) (K : Post3) (t : Fr) (m : Mem) : wpM E 43 45 rd c_sheafref12_Compare_20 K t m = wpM E 43 45 rd (.seq c_sheafref12_Compare_19 (.ops [⟨(some 36), .move (.tmp 10), none⟩,
    ⟨(some 37), .binOp .add 3 (.tmp 36) (.const (.int .i64 1)) 3, none⟩,
    ⟨(some 10), .assign (.tmp 37), none⟩])) K t m := rfl

def c_sheafref12_Compare_21 : MC := (.seq c_sheafref12_Compare_14 c_sheafref12_Compare_20)
@[go_sem] theorem c_sheafref12_Compare_21_at (rd : Option Nat) (K : Post3) (t : Fr) (m : Mem) : wpM E 43 45 rd c_sheafref12_Compare_21 K t m = wpM E 43 45 rd (.seq c_sheafref12_Compare_14 c_sheafref12_Compare_20) K t m := rfl

def c_sheafref12_Compare_22 : MC := (.loop c_sheafref12_Compare_21)
theorem c_sheafref12_Compare_22_at (rd : Option Nat) (K : Post3) (t : Fr) (m : Mem) : wpM E 43 45 rd c_sheafref12_Compare_22 K t m = wpM E 43 45 rd (.loop c_sheafref12_Compare_21) K t m := rfl

def c_sheafref12_Compare_23 : MC := (.block 2 c_sheafref12_Compare_22)
theorem c_sheafref12_Compare_23_at (rd : Option Nat) (K : Post3) (t : Fr) (m : Mem) : wpM E 43 45 rd c_sheafref12_Compare_23 K t m = wpM E 43 45 rd (.block 2 c_sheafref12_Compare_22) K t m := rfl

def c_sheafref12_Compare_24 : MC := (.seq (.ops [⟨(some 10), .assign (.const (.int .i64 0)), none⟩]) c_sheafref12_Compare_23)
@[go_sem] theorem c_sheafref12_Compare_24_at (rd : Option Nat) (K : Post3) (t : Fr) (m : Mem) : wpM E 43 45 rd c_sheafref12_Compare_24 K t m = wpM E 43 45 rd (.seq (.ops [⟨(some 10), .assign (.const (.int .i64 0)), none⟩]) c_sheafref12_Compare_23) K t m := rfl

def c_sheafref12_Compare_25 : MC := (.seq (.ops [⟨(some 6), .assign (.const (.int .i64 0)), none⟩]) .ret)
@[go_sem] theorem c_sheafref12_Compare_25_at (rd : Option Nat) (K : Post3) (t : Fr) (m : Mem) : wpM E 43 45 rd c_sheafref12_Compare_25 K t m = wpM E 43 45 rd (.seq (.ops [⟨(some 6), .assign (.const (.int .i64 0)), none⟩]) .ret) K t m := rfl

def c_sheafref12_Compare_26 : MC := (.seq c_sheafref12_Compare_24 c_sheafref12_Compare_25)
@[go_sem] theorem c_sheafref12_Compare_26_at (rd : Option Nat) (K : Post3) (t : Fr) (m : Mem) : wpM E 43 45 rd c_sheafref12_Compare_26 K t m = wpM E 43 45 rd (.seq c_sheafref12_Compare_24 c_sheafref12_Compare_25) K t m := rfl

def c_sheafref12_Compare_27 : MC := (.seq c_sheafref12_Compare_12 c_sheafref12_Compare_26)
@[go_sem] theorem c_sheafref12_Compare_27_at (rd : Option Nat) (K : Post3) (t : Fr) (m : Mem) : wpM E 43 45 rd c_sheafref12_Compare_27 K t m = wpM E 43 45 rd (.seq c_sheafref12_Compare_12 c_sheafref12_Compare_26) K t m := rfl

def c_sheafref12_Compare_28 : MC := (.seq (.ops [⟨(some 6), .assign (.const (.int .i64 0)), none⟩]) c_sheafref12_Compare_27)
@[go_sem] theorem c_sheafref12_Compare_28_at (rd : Option Nat) (K : Post3) (t : Fr) (m : Mem) : wpM E 43 45 rd c_sheafref12_Compare_28 K t m = wpM E 43 45 rd (.seq (.ops [⟨(some 6), .assign (.const (.int .i64 0)), none⟩]) c_sheafref12_Compare_27) K t m := rfl

@[go_sem] theorem some43 : (E.fn 43).isSome = true := by kernel_rfl
set_option maxRecDepth 100000 in
theorem fn_sheafref12_Compare : FnIs E 43 45 [.tmp 6] c_sheafref12_Compare_28 := ⟨by kernel_rfl, by kernel_rfl⟩

/-! sheaf/sheafref16.opposite -/
abbrev F_sheafref16_opposite : FuncId := 58
def c_sheafref16_opposite_0 : MC := (.seq (.ops [⟨(some 11), .load 27 (.tmp 3), none⟩,
    ⟨(some 12), .build 27 #[(1, (.const (.int .u64 1)))], none⟩,
    ⟨(some 13), .call ⟨.value (.func 40), #[(.tmp 11), (.tmp 12)], #[27, 27]⟩, none⟩,
    ⟨none, .store 27 (.tmp 2) (.tmp 13), none⟩]) .ret)
@[go_sem] theorem c_sheafref16_opposite_0_at (rd : Option Nat) (K : Post3) (t : Fr) (m : Mem) : wpM E 58 14 rd c_sheafref16_opposite_0 K t m = wpM E 58 14 rd (.seq (.ops [⟨(some 11), .load 27 (.tmp 3), none⟩,
    ⟨(some 12), .build 27 #[(1, (.const (.int .u64 1)))], none⟩,
    ⟨(some 13), .call ⟨.value (.func 40), #[(.tmp 11), (.tmp 12)], #[27, 27]⟩, none⟩,
    ⟨none, .store 27 (.tmp 2) (.tmp 13), none⟩]) .ret) K t m := rfl

def c_sheafref16_opposite_1 : MC := (.seq (.ops [⟨(some 4), .fieldAddr 27 (.tmp 1) 0, none⟩,
    ⟨(some 5), .load 2 (.tmp 4), none⟩,
    ⟨(some 6), .unOp .xor 2 (.tmp 5), none⟩,
    ⟨(some 7), .fieldAddr 27 (.tmp 1) 1, none⟩,
    ⟨(some 8), .load 25 (.tmp 7), none⟩,
    ⟨(some 9), .unOp .xor 25 (.tmp 8), none⟩,
    ⟨(some 10), .build 27 #[(0, (.tmp 6)), (1, (.tmp 9))], none⟩,
    ⟨(some 3), .alloc 27, none⟩,
    ⟨none, .store 27 (.tmp 3) (.tmp 10), none⟩]) c_sheafref16_opposite_0)
@[go_sem] theorem c_sheafref16_opposite_1_at (rd : Option Nat) (K : Post3) (t : Fr) (m : Mem) : wpM E 58 14 rd c_sheafref16_opposite_1 K t m = wpM E 58 14 rd (.seq (.ops [⟨(some 4), .fieldAddr 27 (.tmp 1) 0, none⟩,
    ⟨(some 5), .load 2 (.tmp 4), none⟩,
    ⟨(some 6), .unOp .xor 2 (.tmp 5), none⟩,
    ⟨(some 7), .fieldAddr 27 (.tmp 1) 1, none⟩,
    ⟨(some 8), .load 25 (.tmp 7), none⟩,
    ⟨(some 9), .unOp .xor 25 (.tmp 8), none⟩,
    ⟨(some 10), .build 27 #[(0, (.tmp 6)), (1, (.tmp 9))], none⟩,
    ⟨(some 3), .alloc 27, none⟩,
    ⟨none, .store 27 (.tmp 3) (.tmp 10), none⟩]) c_sheafref16_opposite_0) K t m := rfl

def c_sheafref16_opposite_2 : MC := (.seq (.ops [⟨(some 1), .box 27 (.tmp 0), none⟩,
    ⟨(some 2), .alloc 27, none⟩]) c_sheafref16_opposite_1)
@[go_sem] theorem c_sheafref16_opposite_2_at (rd : Option Nat) (K : Post3) (t : Fr) (m : Mem) : wpM E 58 14 rd c_sheafref16_opposite_2 K t m = wpM E 58 14 rd (.seq (.ops [⟨(some 1), .box 27 (.tmp 0), none⟩,
    ⟨(some 2), .alloc 27, none⟩]) c_sheafref16_opposite_1) K t m := rfl

@[go_sem] theorem some58 : (E.fn 58).isSome = true := by kernel_rfl
set_option maxRecDepth 100000 in
theorem fn_sheafref16_opposite : FnIs E 58 14 [.cell 2 27] c_sheafref16_opposite_2 := ⟨by kernel_rfl, by kernel_rfl⟩

/-! sheaf/sheafref16.Cancel -/
abbrev F_sheafref16_Cancel : FuncId := 60
def c_sheafref16_Cancel_0 : MC := (.seq (.draw [(0, [], ⟨(some 13), .load 27 (.tmp 2), none⟩),
    (1, [], ⟨(some 14), .load 27 (.tmp 3), none⟩),
    (2, [1], ⟨none, .store 27 (.tmp 4) (.tmp 13), none⟩),
    (3, [], ⟨none, .store 27 (.tmp 5) (.tmp 14), none⟩)]) .ret)
@[go_sem] theorem c_sheafref16_Cancel_0_at (rd : Option Nat) (K : Post3) (t : Fr) (m : Mem) : wpM E 60 32 rd c_sheafref16_Cancel_0 K t m = wpM E 60 32 rd (.seq (.draw [(0, [], ⟨(some 13), .load 27 (.tmp 2), none⟩),
    (1, [], ⟨(some 14), .load 27 (.tmp 3), none⟩),
    (2, [1], ⟨none, .store 27 (.tmp 4) (.tmp 13), none⟩),
    (3, [], ⟨none, .store 27 (.tmp 5) (.tmp 14), none⟩)]) .ret) K t m := rfl

def c_sheafref16_Cancel_1 : MC := (.cond (.tmp 12) c_sheafref16_Cancel_0 .skip)
@[go_sem] theorem c_sheafref16_Cancel_1_at (rd : Option Nat) (K : Post3) (t : Fr) (m : Mem) : wpM E 60 32 rd c_sheafref16_Cancel_1 K t m = wpM E 60 32 rd (.cond (.tmp 12) c_sheafref16_Cancel_0 .skip) K t m := rfl

def c_sheafref16_Cancel_2 : MC := (.seq (.draw [(0, [], ⟨(some 7), .load 27 (.tmp 2), none⟩),
    (2, [], ⟨(some 9), .load 27 (.tmp 3), none⟩),
    (1, [2], ⟨(some 8), .call ⟨.value (.func 69), #[(.tmp 7)], #[27]⟩, none⟩),
    (3, [], ⟨(some 10), .call ⟨.value (.func 69), #[(.tmp 9)], #[27]⟩, none⟩),
    (4, [], ⟨(some 11), .binOp .mul 3 (.tmp 8) (.tmp 10) 3, none⟩),
    (5, [], ⟨(some 12), .binOp .geq 3 (.tmp 11) (.const (.int .i64 0)) 3, none⟩)]) c_sheafref16_Cancel_1)
@[go_sem] theorem c_sheafref16_Cancel_2_at (rd : Option Nat) (K : Post3) (t : Fr) (m : Mem) : wpM E 60 32 rd c_sheafref16_Cancel_2 K t m = wpM E 60 32 rd (.seq (.draw [(0, [], ⟨(some 7), .load 27 (.tmp 2), none⟩),
    (2, [], ⟨(some 9), .load 27 (.tmp 3), none⟩),
    (1, [2], ⟨(some 8), .call ⟨.value (.func 69), #[(.tmp 7)], #[27]⟩, none⟩),
    (3, [], ⟨(some 10), .call ⟨.value (.func 69), #[(.tmp 9)], #[27]⟩, none⟩),
    (4, [], ⟨(some 11), .binOp .mul 3 (.tmp 8) (.tmp 10) 3, none⟩),
    (5, [], ⟨(some 12), .binOp .geq 3 (.tmp 11) (.const (.int .i64 0)) 3, none⟩)]) c_sheafref16_Cancel_1) K t m := rfl

def c_sheafref16_Cancel_3 : MC := (.seq (.ops [⟨(some 21), .build 27 #[], none⟩,
    ⟨(some 22), .build 27 #[], none⟩,
    ⟨none, .store 27 (.tmp 4) (.tmp 21), none⟩,
    ⟨none, .store 27 (.tmp 5) (.tmp 22), none⟩]) .ret)
@[go_sem] theorem c_sheafref16_Cancel_3_at (rd : Option Nat) (K : Post3) (t : Fr) (m : Mem) : wpM E 60 32 rd c_sheafref16_Cancel_3 K t m = wpM E 60 32 rd (.seq (.ops [⟨(some 21), .build 27 #[], none⟩,
    ⟨(some 22), .build 27 #[], none⟩,
    ⟨none, .store 27 (.tmp 4) (.tmp 21), none⟩,
    ⟨none, .store 27 (.tmp 5) (.tmp 22), none⟩]) .ret) K t m := rfl

def c_sheafref16_Cancel_4 : MC := (.cond (.tmp 20) c_sheafref16_Cancel_3 .skip)
@[go_sem] theorem c_sheafref16_Cancel_4_at (rd : Option Nat) (K : Post3) (t : Fr) (m : Mem) : wpM E 60 32 rd c_sheafref16_Cancel_4 K t m = wpM E 60 32 rd (.cond (.tmp 20) c_sheafref16_Cancel_3 .skip) K t m := rfl

def c_sheafref16_Cancel_5 : MC := (.seq (.ops [⟨(some 18), .load 27 (.tmp 6), none⟩,
    ⟨(some 19), .call ⟨.value (.func 69), #[(.tmp 18)], #[27]⟩, none⟩,
    ⟨(some 20), .binOp .eql 3 (.tmp 19) (.const (.int .i64 0)) 3, none⟩]) c_sheafref16_Cancel_4)
@[go_sem] theorem c_sheafref16_Cancel_5_at (rd : Option Nat) (K : Post3) (t : Fr) (m : Mem) : wpM E 60 32 rd c_sheafref16_Cancel_5 K t m = wpM E 60 32 rd (.seq (.ops [⟨(some 18), .load 27 (.tmp 6), none⟩,
    ⟨(some 19), .call ⟨.value (.func 69), #[(.tmp 18)], #[27]⟩, none⟩,
    ⟨(some 20), .binOp .eql 3 (.tmp 19) (.const (.int .i64 0)) 3, none⟩]) c_sheafref16_Cancel_4) K t m := rfl

def c_sheafref16_Cancel_6 : MC := (.seq (.ops [⟨(some 28), .load 27 (.tmp 6), none⟩,
    ⟨(some 29), .build 27 #[], none⟩,
    ⟨none, .store 27 (.tmp 4) (.tmp 28), none⟩,
    ⟨none, .store 27 (.tmp 5) (.tmp 29), none⟩]) .ret)
@[go_sem] theorem c_sheafref16_Cancel_6_at (rd : Option Nat) (K : Post3) (t : Fr) (m : Mem) : wpM E 60 32 rd c_sheafref16_Cancel_6 K t m = wpM E 60 32 rd (.seq (.ops [⟨(some 28), .load 27 (.tmp 6), none⟩,
    ⟨(some 29), .build 27 #[], none⟩,
    ⟨none, .store 27 (.tmp 4) (.tmp 28), none⟩,
    ⟨none, .store 27 (.tmp 5) (.tmp 29), none⟩]) .ret) K t m := rfl

def c_sheafref16_Cancel_7 : MC := (.cond (.tmp 27) c_sheafref16_Cancel_6 .skip)
@[go_sem] theorem c_sheafref16_Cancel_7_at (rd : Option Nat) (K : Post3) (t : Fr) (m : Mem) : wpM E 60 32 rd c_sheafref16_Cancel_7 K t m = wpM E 60 32 rd (.cond (.tmp 27) c_sheafref16_Cancel_6 .skip) K t m := rfl

def c_sheafref16_Cancel_8 : MC := (.seq (.draw [(0, [], ⟨(some 23), .load 27 (.tmp 6), none⟩),
    (2, [], ⟨(some 25), .load 27 (.tmp 2), none⟩),
    (1, [2], ⟨(some 24), .call ⟨.value (.func 69), #[(.tmp 23)], #[27]⟩, none⟩),
    (3, [], ⟨(some 26), .call ⟨.value (.func 69), #[(.tmp 25)], #[27]⟩, none⟩),
    (4, [], ⟨(some 27), .binOp .eql 3 (.tmp 24) (.tmp 26) 3, none⟩)]) c_sheafref16_Cancel_7)
@[go_sem] theorem c_sheafref16_Cancel_8_at (rd : Option Nat) (K : Post3) (t : Fr) (m : Mem) : wpM E 60 32 rd c_sheafref16_Cancel_8 K t m = wpM E 60 32 rd (.seq (.draw [(0, [], ⟨(some 23), .load 27 (.tmp 6), none⟩),
    (2, [], ⟨(some 25), .load 27 (.tmp 2), none⟩),
    (1, [2], ⟨(some 24), .call ⟨.value (.func 69), #[(.tmp 23)], #[27]⟩, none⟩),
    (3, [], ⟨(some 26), .call ⟨.value (.func 69), #[(.tmp 25)], #[27]⟩, none⟩),
    (4, [], ⟨(some 27), .binOp .eql 3 (.tmp 24) (.tmp 26) 3, none⟩)]) c_sheafref16_Cancel_7) K t m := rfl

def c_sheafref16_Cancel_9 : MC := (.seq (.draw [(0, [], ⟨(some 30), .build 27 #[], none⟩),
    (1, [], ⟨(some 31), .load 27 (.tmp 6), none⟩),
    (2, [1], ⟨none, .store 27 (.tmp 4) (.tmp 30), none⟩),
    (3, [], ⟨none, .store 27 (.tmp 5) (.tmp 31), none⟩)]) .ret)
@[go_sem] theorem c_sheafref16_Cancel_9_at (rd : Option Nat) (K : Post3) (t : Fr) (m : Mem) : wpM E 60 32 rd c_sheafref16_Cancel_9 K t m = wpM E 60 32 rd (.seq (.draw [(0, [], ⟨(some 30), .build 27 #[], none⟩),
    (1, [], ⟨(some 31), .load 27 (.tmp 6), none⟩),
    (2, [1], ⟨none, .store 27 (.tmp 4) (.tmp 30), none⟩),
    (3, [], ⟨none, .store 27 (.tmp 5) (.tmp 31), none⟩)]) .ret) K t m := rfl

def c_sheafref16_Cancel_10 : MC := (.seq c_sheafref16_Cancel_8 c_sheafref16_Cancel_9)
@[go_sem] theorem c_sheafref16_Cancel_10_at (rd : Option Nat) (K : Post3) (t : Fr) (m : Mem) : wpM E 60 32 rd c_sheafref16_Cancel_10 K t m = wpM E 60 32 rd (.seq c_sheafref16_Cancel_8 c_sheafref16_Cancel_9) K t m := rfl

def c_sheafref16_Cancel_11 : MC := (.seq c_sheafref16_Cancel_5 c_sheafref16_Cancel_10)
@[go_sem] theorem c_sheafref16_Cancel_11_at (rd : Option Nat) (K : Post3) (t : Fr) (m : Mem) : wpM E 60 32 rd c_sheafref16_Cancel_11 K t m = wpM E 60 32 rd (.seq c_sheafref16_Cancel_5 c_sheafref16_Cancel_10) K t m := rfl

def c_sheafref16_Cancel_12 : MC := (.seq (.ops [⟨(some 15), .load 27 (.tmp 2), none⟩,
    ⟨(some 16), .load 27 (.tmp 3), none⟩,
    ⟨(some 17), .call ⟨.value (.func 40), #[(.tmp 15), (.tmp 16)], #[27, 27]⟩, none⟩,
    ⟨(some 6), .alloc 27, none⟩,
    ⟨none, .store 27 (.tmp 6) (.tmp 17), none⟩]) c_sheafref16_Cancel_11)
@[go_sem] theorem c_sheafref16_Cancel_12_at (rd : Option Nat) (K : Post3) (t : Fr) (m : Mem) : wpM E 60 32 rd c_sheafref16_Cancel_12 K t m = wpM E 60 32 rd (.seq (.ops [⟨(some 15), .load 27 (.tmp 2), none⟩,
    ⟨(some 16), .load 27 (.tmp 3), none⟩,
    ⟨(some 17), .call ⟨.value (.func 40), #[(.tmp 15), (.tmp 16)], #[27, 27]⟩, none⟩,
    ⟨(some 6), .alloc 27, none⟩,
    ⟨none, .store 27 (.tmp 6) (.tmp 17), none⟩]) c_sheafref16_Cancel_11) K t m := rfl

def c_sheafref16_Cancel_13 : MC := (.seq c_sheafref16_Cancel_2 c_sheafref16_Cancel_12)
@[go_sem] theorem c_sheafref16_Cancel_13_at (rd : Option Nat) (K : Post3) (t : Fr) (m : Mem) : wpM E 60 32 rd c_sheafref16_Cancel_13 K t m = wpM E 60 32 rd (.seq c_sheafref16_Cancel_2 c_sheafref16_Cancel_12) K t m := rfl

def c_sheafref16_Cancel_14 : MC := (.seq (.ops [⟨(some 2), .box 27 (.tmp 0), none⟩,
    ⟨(some 3), .box 27 (.tmp 1), none⟩,
    ⟨(some 4), .alloc 27, none⟩,
    ⟨(some 5), .alloc 27, none⟩]) c_sheafref16_Cancel_13)
@[go_sem] theorem c_sheafref16_Cancel_14_at (rd : Option Nat) (K : Post3) (t : Fr) (m : Mem) : wpM E 60 32 rd c_sheafref16_Cancel_14 K t m = wpM E 60 32 rd (.seq (.ops [⟨(some 2), .box 27 (.tmp 0), none⟩,
    ⟨(some 3), .box 27 (.tmp 1), none⟩,
    ⟨(some 4), .alloc 27, none⟩,
    ⟨(some 5), .alloc 27, none⟩]) c_sheafref16_Cancel_13) K t m := rfl

@[go_sem] theorem some60 : (E.fn 60).isSome = true := by kernel_rfl
set_option maxRecDepth 100000 in
theorem fn_sheafref16_Cancel : FnIs E 60 32 [.cell 4 27, .cell 5 27] c_sheafref16_Cancel_14 := ⟨by kernel_rfl, by kernel_rfl⟩

/-! sheaf/sheafref12.column -/
abbrev F_sheafref12_column : FuncId := 61
def c_sheafref12_column_0 : MC := (.seq (.ops [⟨(some 6), .assign (.const (.int .i64 0)), none⟩]) .ret)
@[go_sem] theorem c_sheafref12_column_0_at (rd : Option Nat) (K : Post3) (t : Fr) (m : Mem) : wpM E 61 63 rd c_sheafref12_column_0 K t m = wpM E 61 63 rd (.seq (.ops [⟨(some 6), .assign (.const (.int .i64 0)), none⟩]) .ret) K t m := rfl

def c_sheafref12_column_1 : MC := (.seq (.ops [⟨(some 6), .assign (.const (.int .i64 (-1))), none⟩]) .ret)
@[go_sem] theorem c_sheafref12_column_1_at (rd : Option Nat) (K : Post3) (t : Fr) (m : Mem) : wpM E 61 63 rd c_sheafref12_column_1 K t m = wpM E 61 63 rd (.seq (.ops [⟨(some 6), .assign (.const (.int .i64 (-1))), none⟩]) .ret) K t m := rfl

def c_sheafref12_column_2 : MC := (.seq (.ops [⟨(some 6), .assign (.const (.int .i64 1)), none⟩]) .ret)
@[go_sem] theorem c_sheafref12_column_2_at (rd : Option Nat) (K : Post3) (t : Fr) (m : Mem) : wpM E 61 63 rd c_sheafref12_column_2 K t m = wpM E 61 63 rd (.seq (.ops [⟨(some 6), .assign (.const (.int .i64 1)), none⟩]) .ret) K t m := rfl

def c_sheafref12_column_3 : MC := (.cond (.tmp 49) c_sheafref12_column_2 .skip)
@[go_sem] theorem c_sheafref12_column_3_at (rd : Option Nat) (K : Post3) (t : Fr) (m : Mem) : wpM E 61 63 rd c_sheafref12_column_3 K t m = wpM E 61 63 rd (.cond (.tmp 49) c_sheafref12_column_2 .skip) K t m := rfl

def c_sheafref12_column_4 : MC := (.seq (.ops [⟨(some 50), .move (.tmp 8), none⟩,
    ⟨(some 51), .unOp .not 4 (.tmp 50), none⟩,
    ⟨(some 52), .move (.tmp 51), none⟩,
    ⟨(some 53), .move (.tmp 0), (some (some 52, false))⟩,
    ⟨(some 54), .move (.tmp 2), (some (some 52, false))⟩,
    ⟨(some 55), .indexAddr 22 (.tmp 53) (.tmp 54), (some (some 52, false))⟩,
    ⟨(some 56), .load 3 (.tmp 55), (some (some 52, false))⟩,
    ⟨(some 57), .move (.tmp 1), (some (some 52, false))⟩,
    ⟨(some 58), .move (.tmp 2), (some (some 52, false))⟩,
    ⟨(some 59), .indexAddr 22 (.tmp 57) (.tmp 58), (some (some 52, false))⟩,
    ⟨(some 60), .load 3 (.tmp 59), (some (some 52, false))⟩,
    ⟨(some 61), .binOp .gtr 3 (.tmp 56) (.tmp 60) 3, (some (some 52, false))⟩,
    ⟨(some 62), .pick (.tmp 52) (.const (.bool true)) (.tmp 61), none⟩,
    ⟨(some 49), .assign (.tmp 62), none⟩]) c_sheafref12_column_3)
@[go_sem] theorem c_sheafref12_column_4_at (rd : Option Nat) (K : Post3) (t : Fr) (m : Mem) : wpM E 61 63 rd c_sheafref12_column_4 K t m = wpM E 61 63 rd (.seq (.ops [⟨(some 50), .move (.tmp 8), none⟩,
    ⟨(some 51), .unOp .not 4 (.tmp 50), none⟩,
    ⟨(some 52), .move (.tmp 51), none⟩,
    ⟨(some 53), .move (.tmp 0), (some (some 52, false))⟩,
    ⟨(some 54), .move (.tmp 2), (some (some 52, false))⟩,
    ⟨(some 55), .indexAddr 22 (.tmp 53) (.tmp 54), (some (some 52, false))⟩,
    ⟨(some 56), .load 3 (.tmp 55), (some (some 52, false))⟩,
    ⟨(some 57), .move (.tmp 1), (some (some 52, false))⟩,
    ⟨(some 58), .move (.tmp 2), (some (some 52, false))⟩,
    ⟨(some 59), .indexAddr 22 (.tmp 57) (.tmp 58), (some (some 52, false))⟩,
    ⟨(some 60), .load 3 (.tmp 59), (some (some 52, false))⟩,
    ⟨(some 61), .binOp .gtr 3 (.tmp 56) (.tmp 60) 3, (some (some 52, false))⟩,
    ⟨(some 62), .pick (.tmp 52) (.const (.bool true)) (.tmp 61), none⟩,
    ⟨(some 49), .assign (.tmp 62), none⟩]) c_sheafref12_column_3) K t m := rfl

def c_sheafref12_column_5 : MC := (.cond (.tmp 32) c_sheafref12_column_1 c_sheafref12_column_4)
@[go_sem] theorem c_sheafref12_column_5_at (rd : Option Nat) (K : Post3) (t : Fr) (m : Mem) : wpM E 61 63 rd c_sheafref12_column_5 K t m = wpM E 61 63 rd (.cond (.tmp 32) c_sheafref12_column_1 c_sheafref12_column_4) K t m := rfl

def c_sheafref12_column_6 : MC := (.seq (.ops [⟨(some 33), .move (.tmp 7), none⟩,
    ⟨(some 34), .unOp .not 4 (.tmp 33), none⟩,
    ⟨(some 35), .move (.tmp 34), none⟩,
    ⟨(some 36), .move (.tmp 8), (some (some 35, false))⟩,
    ⟨(some 37), .move (.tmp 36), (some (some 35, false))⟩,
    ⟨(some 38), .move (.tmp 0), (some (some 37, true))⟩,
    ⟨(some 39), .move (.tmp 2), (some (some 37, true))⟩,
    ⟨(some 40), .indexAddr 22 (.tmp 38) (.tmp 39), (some (some 37, true))⟩,
    ⟨(some 41), .load 3 (.tmp 40), (some (some 37, true))⟩,
    ⟨(some 42), .move (.tmp 1), (some (some 37, true))⟩,
    ⟨(some 43), .move (.tmp 2), (some (some 37, true))⟩,
    ⟨(some 44), .indexAddr 22 (.tmp 42) (.tmp 43), (some (some 37, true))⟩,
    ⟨(some 45), .load 3 (.tmp 44), (some (some 37, true))⟩,
    ⟨(some 46), .binOp .lss 3 (.tmp 41) (.tmp 45) 3, (some (some 37, true))⟩,
    ⟨(some 47), .pick (.tmp 37) (.tmp 46) (.const (.bool false)), (some (some 35, false))⟩,
    ⟨(some 48), .pick (.tmp 35) (.const (.bool true)) (.tmp 47), none⟩,
    ⟨(some 32), .assign (.tmp 48), none⟩]) c_sheafref12_column_5)
@[go_sem] theorem c_sheafref12_column_6_at (rd : Option Nat) (K : Post3) (t : Fr) (m : Mem) : wpM E 61 63 rd c_sheafref12_column_6 K t m = wpM E 61 63 rd (.seq (.ops [⟨(some 33), .move (.tmp 7), none⟩,
    ⟨(some 34), .unOp .not 4 (.tmp 33), none⟩,
    ⟨(some 35), .move (.tmp 34), none⟩,
    ⟨(some 36), .move (.tmp 8), (some (some 35, false))⟩,
    ⟨(some 37), .move (.tmp 36), (some (some 35, false))⟩,
    ⟨(some 38), .move (.tmp 0), (some (some 37, true))⟩,
    ⟨(some 39), .move (.tmp 2), (some (some 37, true))⟩,
    ⟨(some 40), .indexAddr 22 (.tmp 38) (.tmp 39), (some (some 37, true))⟩,
    ⟨(some 41), .load 3 (.tmp 40), (some (some 37, true))⟩,
    ⟨(some 42), .move (.tmp 1), (some (some 37, true))⟩,
    ⟨(some 43), .move (.tmp 2), (some (some 37, true))⟩,
    ⟨(some 44), .indexAddr 22 (.tmp 42) (.tmp 43), (some (some 37, true))⟩,
    ⟨(some 45), .load 3 (.tmp 44), (some (some 37, true))⟩,
    ⟨(some 46), .binOp .lss 3 (.tmp 41) (.tmp 45) 3, (some (some 37, true))⟩,
    ⟨(some 47), .pick (.tmp 37) (.tmp 46) (.const (.bool false)), (some (some 35, false))⟩,
    ⟨(some 48), .pick (.tmp 35) (.const (.bool true)) (.tmp 47), none⟩,
    ⟨(some 32), .assign (.tmp 48), none⟩]) c_sheafref12_column_5) K t m := rfl

def c_sheafref12_column_7 : MC := (.cond (.tmp 25) c_sheafref12_column_0 c_sheafref12_column_6)
@[go_sem] theorem c_sheafref12_column_7_at (rd : Option Nat) (K : Post3) (t : Fr) (m : Mem) : wpM E 61 63 rd c_sheafref12_column_7 K t m = wpM E 61 63 rd (.cond (.tmp 25) c_sheafref12_column_0 c_sheafref12_column_6) K t m := rfl

def c_sheafref12_column_8 : MC := (.seq (.ops [⟨(some 26), .move (.tmp 7), none⟩,
    ⟨(some 27), .unOp .not 4 (.tmp 26), none⟩,
    ⟨(some 28), .move (.tmp 27), none⟩,
    ⟨(some 29), .move (.tmp 8), (some (some 28, true))⟩,
    ⟨(some 30), .unOp .not 4 (.tmp 29), (some (some 28, true))⟩,
    ⟨(some 31), .pick (.tmp 28) (.tmp 30) (.const (.bool false)), none⟩,
    ⟨(some 25), .assign (.tmp 31), none⟩]) c_sheafref12_column_7)
@[go_sem] theorem c_sheafref12_column_8_at (rd : Option Nat) (K : Post3) (t : Fr) (m : Mem) : wpM E 61 63 rd c_sheafref12_column_8 K t m = wpM E 61 63 rd (.seq (.ops [⟨(some 26), .move (.tmp 7), none⟩,
    ⟨(some 27), .unOp .not 4 (.tmp 26), none⟩,
    ⟨(some 28), .move (.tmp 27), none⟩,
    ⟨(some 29), .move (.tmp 8), (some (some 28, true))⟩,
    ⟨(some 30), .unOp .not 4 (.tmp 29), (some (some 28, true))⟩,
    ⟨(some 31), .pick (.tmp 28) (.tmp 30) (.const (.bool false)), none⟩,
    ⟨(some 25), .assign (.tmp 31), none⟩]) c_sheafref12_column_7) K t m := rfl

def c_sheafref12_column_9 : MC := (.block 0 c_sheafref12_column_8)
@[go_sem] theorem c_sheafref12_column_9_at (rd : Option Nat) (K : Post3) (t : Fr) (m : Mem) : wpM E 61 63 rd c_sheafref12_column_9 K t m = wpM E 61 63 rd (.block 0 c_sheafref12_column_8) K t m := rfl

def c_sheafref12_column_10 : MC := (.seq (.ops [⟨(some 6), .assign (.const (.int .i64 0)), none⟩]) .ret)
@[go_sem] theorem c_sheafref12_column_10_at (rd : Option Nat) (K : Post3) (t : Fr) (m : Mem) : wpM E 61 63 rd c_sheafref12_column_10 K t m = wpM E 61 63 rd (.seq (.ops [⟨(some 6), .assign (.const (.int .i64 0)), none⟩]) .ret) K t m := rfl

def c_sheafref12_column_11 : MC := (.seq c_sheafref12_column_9 c_sheafref12_column_10)
@[go_sem] theorem c_sheafref12_column_11_at (rd : Option Nat) (K : Post3) (t : Fr) (m : Mem) : wpM E 61 63 rd c_sheafref12_column_11 K t m = wpM E 61 63 rd (.seq c_sheafref12_column_9 c_sheafref12_column_10) K t m := rfl

def c_sheafref12_column_12 : MC := (.seq (.ops [⟨(some 9), .move (.tmp 2), none⟩,
    ⟨(some 10), .binOp .geq 3 (.tmp 9) (.const (.int .i64 0)) 3, none⟩,
    ⟨(some 11), .move (.tmp 10), none⟩,
    ⟨(some 12), .move (.tmp 2), (some (some 11, true))⟩,
    ⟨(some 13), .move (.tmp 0), (some (some 11, true))⟩,
    ⟨(some 14), .call ⟨.builtin .len, #[(.tmp 13)], #[22]⟩, (some (some 11, true))⟩,
    ⟨(some 15), .binOp .lss 3 (.tmp 12) (.tmp 14) 3, (some (some 11, true))⟩,
    ⟨(some 16), .pick (.tmp 11) (.tmp 15) (.const (.bool false)), none⟩,
    ⟨(some 17), .move (.tmp 2), none⟩,
    ⟨(some 18), .binOp .geq 3 (.tmp 17) (.const (.int .i64 0)) 3, none⟩,
    ⟨(some 19), .move (.tmp 18), none⟩,
    ⟨(some 20), .move (.tmp 2), (some (some 19, true))⟩,
    ⟨(some 21), .move (.tmp 1), (some (some 19, true))⟩,
    ⟨(some 22), .call ⟨.builtin .len, #[(.tmp 21)], #[22]⟩, (some (some 19, true))⟩,
    ⟨(some 23), .binOp .lss 3 (.tmp 20) (.tmp 22) 3, (some (some 19, true))⟩,
    ⟨(some 24), .pick (.tmp 19) (.tmp 23) (.const (.bool false)), none⟩,
    ⟨(some 7), .assign (.tmp 16), none⟩,
    ⟨(some 8), .assign (.tmp 24), none⟩]) c_sheafref12_column_11)
@[go_sem] theorem c_sheafref12_column_12_at (rd : Option Nat) (K : Post3) (t : Fr) (m : Mem) : wpM E 61 63 rd c_sheafref12_column_12 K t m = wpM E 61 63 rd (.seq (.ops [⟨(some 9), .move (.tmp 2), none⟩,
    ⟨(some 10), .binOp .geq 3 (.tmp 9) (.const (.int .i64 0)) 3, none⟩,
    ⟨(some 11), .move (.tmp 10), none⟩,
    ⟨(some 12), .move (.tmp 2), (some (some 11, true))⟩,
    ⟨(some 13), .move (.tmp 0), (some (some 11, true))⟩,
    ⟨(some 14), .call ⟨.builtin .len, #[(.tmp 13)], #[22]⟩, (some (some 11, true))⟩,
    ⟨(some 15), .binOp .lss 3 (.tmp 12) (.tmp 14) 3, (some (some 11, true))⟩,
    ⟨(some 16), .pick (.tmp 11) (.tmp 15) (.const (.bool false)), none⟩,
    ⟨(some 17), .move (.tmp 2), none⟩,
    ⟨(some 18), .binOp .geq 3 (.tmp 17) (.const (.int .i64 0)) 3, none⟩,
    ⟨(some 19), .move (.tmp 18), none⟩,
    ⟨(some 20), .move (.tmp 2), (some (some 19, true))⟩,
    ⟨(some 21), .move (.tmp 1), (some (some 19, true))⟩,
    ⟨(some 22), .call ⟨.builtin .len, #[(.tmp 21)], #[22]⟩, (some (some 19, true))⟩,
    ⟨(some 23), .binOp .lss 3 (.tmp 20) (.tmp 22) 3, (some (some 19, true))⟩,
    ⟨(some 24), .pick (.tmp 19) (.tmp 23) (.const (.bool false)), none⟩,
    ⟨(some 7), .assign (.tmp 16), none⟩,
    ⟨(some 8), .assign (.tmp 24), none⟩]) c_sheafref12_column_11) K t m := rfl

def c_sheafref12_column_13 : MC := (.seq (.ops [⟨(some 6), .assign (.const (.int .i64 0)), none⟩]) c_sheafref12_column_12)
@[go_sem] theorem c_sheafref12_column_13_at (rd : Option Nat) (K : Post3) (t : Fr) (m : Mem) : wpM E 61 63 rd c_sheafref12_column_13 K t m = wpM E 61 63 rd (.seq (.ops [⟨(some 6), .assign (.const (.int .i64 0)), none⟩]) c_sheafref12_column_12) K t m := rfl

@[go_sem] theorem some61 : (E.fn 61).isSome = true := by kernel_rfl
set_option maxRecDepth 100000 in
theorem fn_sheafref12_column : FnIs E 61 63 [.tmp 6] c_sheafref12_column_13 := ⟨by kernel_rfl, by kernel_rfl⟩

/-! sheaf/sheafref16.sign -/
abbrev F_sheafref16_sign : FuncId := 69
def c_sheafref16_sign_0 : MC := (.seq (.ops [⟨(some 3), .load 27 (.tmp 1), none⟩,
    ⟨(some 4), .build 27 #[], none⟩,
    ⟨(some 5), .call ⟨.value (.func 70), #[(.tmp 3), (.tmp 4)], #[27, 27]⟩, none⟩,
    ⟨(some 2), .assign (.tmp 5), none⟩]) .ret)
@[go_sem] theorem c_sheafref16_sign_0_at (rd : Option Nat) (K : Post3) (t : Fr) (m : Mem) : wpM E 69 6 rd c_sheafref16_sign_0 K t m = wpM E 69 6 rd (.seq (.ops [⟨(some 3), .load 27 (.tmp 1), none⟩,
    ⟨(some 4), .build 27 #[], none⟩,
    ⟨(some 5), .call ⟨.value (.func 70), #[(.tmp 3), (.tmp 4)], #[27, 27]⟩, none⟩,
    ⟨(some 2), .assign (.tmp 5), none⟩]) .ret) K t m := rfl

def c_sheafref16_sign_1 : MC := (.seq (.ops [⟨(some 1), .box 27 (.tmp 0), none⟩,
    ⟨(some 2), .assign (.const (.int .i64 0)), none⟩]) c_sheafref16_sign_0)
@[go_sem] theorem c_sheafref16_sign_1_at (rd : Option Nat) (K : Post3) (t : Fr) (m : Mem) : wpM E 69 6 rd c_sheafref16_sign_1 K t m = wpM E 69 6 rd (.seq (.ops [⟨(some 1), .box 27 (.tmp 0), none⟩,
    ⟨(some 2), .assign (.const (.int .i64 0)), none⟩]) c_sheafref16_sign_0) K t m := rfl

@[go_sem] theorem some69 : (E.fn 69).isSome = true := by kernel_rfl
set_option maxRecDepth 100000 in
theorem fn_sheafref16_sign : FnIs E 69 6 [.tmp 2] c_sheafref16_sign_1 := ⟨by kernel_rfl, by kernel_rfl⟩

/-! sheaf/sheafref1.Cmp -/
abbrev F_sheafref1_Cmp : FuncId := 70
def c_sheafref1_Cmp_0 : MC := (.seq (.ops [⟨(some 4), .assign (.const (.int .i64 (-1))), none⟩]) .ret)
@[go_sem] theorem c_sheafref1_Cmp_0_at (rd : Option Nat) (K : Post3) (t : Fr) (m : Mem) : wpM E 70 29 rd c_sheafref1_Cmp_0 K t m = wpM E 70 29 rd (.seq (.ops [⟨(some 4), .assign (.const (.int .i64 (-1))), none⟩]) .ret) K t m := rfl

def c_sheafref1_Cmp_1 : MC := (.seq (.ops [⟨(some 4), .assign (.const (.int .i64 0)), none⟩]) .ret)
@[go_sem] theorem c_sheafref1_Cmp_1_at (rd : Option Nat) (K : Post3) (t : Fr) (m : Mem) : wpM E 70 29 rd c_sheafref1_Cmp_1 K t m = wpM E 70 29 rd (.seq (.ops [⟨(some 4), .assign (.const (.int .i64 0)), none⟩]) .ret) K t m := rfl

def c_sheafref1_Cmp_2 : MC := (.cond (.tmp 25) c_sheafref1_Cmp_1 .skip)
@[go_sem] theorem c_sheafref1_Cmp_2_at (rd : Option Nat) (K : Post3) (t : Fr) (m : Mem) : wpM E 70 29 rd c_sheafref1_Cmp_2 K t m = wpM E 70 29 rd (.cond (.tmp 25) c_sheafref1_Cmp_1 .skip) K t m := rfl

def c_sheafref1_Cmp_3 : MC := (.seq (.ops [⟨(some 26), .load 27 (.tmp 2), none⟩,
    ⟨(some 27), .load 27 (.tmp 3), none⟩,
    ⟨(some 28), .binOp .eql 27 (.tmp 26) (.tmp 27) 27, none⟩,
    ⟨(some 25), .assign (.tmp 28), none⟩]) c_sheafref1_Cmp_2)
@[go_sem] theorem c_sheafref1_Cmp_3_at (rd : Option Nat) (K : Post3) (t : Fr) (m : Mem) : wpM E 70 29 rd c_sheafref1_Cmp_3 K t m = wpM E 70 29 rd (.seq (.ops [⟨(some 26), .load 27 (.tmp 2), none⟩,
    ⟨(some 27), .load 27 (.tmp 3), none⟩,
    ⟨(some 28), .binOp .eql 27 (.tmp 26) (.tmp 27) 27, none⟩,
    ⟨(some 25), .assign (.tmp 28), none⟩]) c_sheafref1_Cmp_2) K t m := rfl

def c_sheafref1_Cmp_4 : MC := (.cond (.tmp 5) c_sheafref1_Cmp_0 c_sheafref1_Cmp_3)
@[go_sem] theorem c_sheafref1_Cmp_4_at (rd : Option Nat) (K : Post3) (t : Fr) (m : Mem) : wpM E 70 29 rd c_sheafref1_Cmp_4 K t m = wpM E 70 29 rd (.cond (.tmp 5) c_sheafref1_Cmp_0 c_sheafref1_Cmp_3) K t m := rfl

def c_sheafref1_Cmp_5 : MC := (.seq (.ops [⟨(some 6), .fieldAddr 27 (.tmp 2) 0, none⟩,
    ⟨(some 7), .load 2 (.tmp 6), none⟩,
    ⟨(some 8), .fieldAddr 27 (.tmp 3) 0, none⟩,
    ⟨(some 9), .load 2 (.tmp 8), none⟩,
    ⟨(some 10), .binOp .lss 2 (.tmp 7) (.tmp 9) 2, none⟩,
    ⟨(some 11), .move (.tmp 10), none⟩,
    ⟨(some 12), .fieldAddr 27 (.tmp 2) 0, (some (some 11, false))⟩,
    ⟨(some 13), .load 2 (.tmp 12), (some (some 11, false))⟩,
    ⟨(some 14), .fieldAddr 27 (.tmp 3) 0, (some (some 11, false))⟩,
    ⟨(some 15), .load 2 (.tmp 14), (some (some 11, false))⟩,
    ⟨(some 16), .binOp .eql 2 (.tmp 13) (.tmp 15) 2, (some (some 11, false))⟩,
    ⟨(some 17), .move (.tmp 16), (some (some 11, false))⟩,
    ⟨(some 18), .fieldAddr 27 (.tmp 2) 1, (some (some 17, true))⟩,
    ⟨(some 19), .load 25 (.tmp 18), (some (some 17, true))⟩,
    ⟨(some 20), .fieldAddr 27 (.tmp 3) 1, (some (some 17, true))⟩,
    ⟨(some 21), .load 25 (.tmp 20), (some (some 17, true))⟩,
    ⟨(some 22), .binOp .lss 25 (.tmp 19) (.tmp 21) 25, (some (some 17, true))⟩,
    ⟨(some 23), .pick (.tmp 17) (.tmp 22) (.const (.bool false)), (some (some 11, false))⟩,
    ⟨(some 24), .pick (.tmp 11) (.const (.bool true)) (.tmp 23), none⟩,
    ⟨(some 5), .assign (.tmp 24), none⟩]) c_sheafref1_Cmp_4)
@[go_sem] theorem c_sheafref1_Cmp_5_at (rd : Option Nat) (K : Post3) (t : Fr) (m : Mem) : wpM E 70 29 rd c_sheafref1_Cmp_5 K t m = wpM E 70 29 rd (.seq (.ops [⟨(some 6), .fieldAddr 27 (.tmp 2) 0, none⟩,
    ⟨(some 7), .load 2 (.tmp 6), none⟩,
    ⟨(some 8), .fieldAddr 27 (.tmp 3) 0, none⟩,
    ⟨(some 9), .load 2 (.tmp 8), none⟩,
    ⟨(some 10), .binOp .lss 2 (.tmp 7) (.tmp 9) 2, none⟩,
    ⟨(some 11), .move (.tmp 10), none⟩,
    ⟨(some 12), .fieldAddr 27 (.tmp 2) 0, (some (some 11, false))⟩,
    ⟨(some 13), .load 2 (.tmp 12), (some (some 11, false))⟩,
    ⟨(some 14), .fieldAddr 27 (.tmp 3) 0, (some (some 11, false))⟩,
    ⟨(some 15), .load 2 (.tmp 14), (some (some 11, false))⟩,
    ⟨(some 16), .binOp .eql 2 (.tmp 13) (.tmp 15) 2, (some (some 11, false))⟩,
    ⟨(some 17), .move (.tmp 16), (some (some 11, false))⟩,
    ⟨(some 18), .fieldAddr 27 (.tmp 2) 1, (some (some 17, true))⟩,
    ⟨(some 19), .load 25 (.tmp 18), (some (some 17, true))⟩,
    ⟨(some 20), .fieldAddr 27 (.tmp 3) 1, (some (some 17, true))⟩,
    ⟨(some 21), .load 25 (.tmp 20), (some (some 17, true))⟩,
    ⟨(some 22), .binOp .lss 25 (.tmp 19) (.tmp 21) 25, (some (some 17, true))⟩,
    ⟨(some 23), .pick (.tmp 17) (.tmp 22) (.const (.bool false)), (some (some 11, false))⟩,
    ⟨(some 24), .pick (.tmp 11) (.const (.bool true)) (.tmp 23), none⟩,
    ⟨(some 5), .assign (.tmp 24), none⟩]) c_sheafref1_Cmp_4) K t m := rfl

def c_sheafref1_Cmp_6 : MC := (.block 0 c_sheafref1_Cmp_5)
@[go_sem] theorem c_sheafref1_Cmp_6_at (rd : Option Nat) (K : Post3) (t : Fr) (m : Mem) : wpM E 70 29 rd c_sheafref1_Cmp_6 K t m = wpM E 70 29 rd (.block 0 c_sheafref1_Cmp_5) K t m := rfl

def c_sheafref1_Cmp_7 : MC := (.seq (.ops [⟨(some 4), .assign (.const (.int .i64 1)), none⟩]) .ret)
@[go_sem] theorem c_sheafref1_Cmp_7_at (rd : Option Nat) (K : Post3) (t : Fr) (m : Mem) : wpM E 70 29 rd c_sheafref1_Cmp_7 K t m = wpM E 70 29 rd (.seq (.ops [⟨(some 4), .assign (.const (.int .i64 1)), none⟩]) .ret) K t m := rfl

def c_sheafref1_Cmp_8 : MC := (.seq c_sheafref1_Cmp_6 c_sheafref1_Cmp_7)
@[go_sem] theorem c_sheafref1_Cmp_8_at (rd : Option Nat) (K : Post3) (t : Fr) (m : Mem) : wpM E 70 29 rd c_sheafref1_Cmp_8 K t m = wpM E 70 29 rd (.seq c_sheafref1_Cmp_6 c_sheafref1_Cmp_7) K t m := rfl

def c_sheafref1_Cmp_9 : MC := (.seq (.ops [⟨(some 2), .box 27 (.tmp 0), none⟩,
    ⟨(some 3), .box 27 (.tmp 1), none⟩,
    ⟨(some 4), .assign (.const (.int .i64 0)), none⟩]) c_sheafref1_Cmp_8)
@[go_sem] theorem c_sheafref1_Cmp_9_at (rd : Option Nat) (K : Post3) (t : Fr) (m : Mem) : wpM E 70 29 rd c_sheafref1_Cmp_9 K t m = wpM E 70 29 rd (.seq (.ops [⟨(some 2), .box 27 (.tmp 0), none⟩,
    ⟨(some 3), .box 27 (.tmp 1), none⟩,
    ⟨(some 4), .assign (.const (.int .i64 0)), none⟩]) c_sheafref1_Cmp_8) K t m := rfl

@[go_sem] theorem some70 : (E.fn 70).isSome = true := by kernel_rfl
set_option maxRecDepth 100000 in
theorem fn_sheafref1_Cmp : FnIs E 70 29 [.tmp 4] c_sheafref1_Cmp_9 := ⟨by kernel_rfl, by kernel_rfl⟩

end
end Go.Proofs.Ytjmppooebppecaa.W
