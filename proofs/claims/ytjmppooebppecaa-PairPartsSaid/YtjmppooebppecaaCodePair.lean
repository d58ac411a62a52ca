/-
  Compact code, printed by a program of mine (wip/dev/AbsPrint.lean).
-/
import Derived.Test.YtjmppooebppecaaTypes
set_option linter.unusedVariables false
namespace Go.Proofs.Ytjmppooebppecaa.W
open Go.Abs
noncomputable section

/-! sheaf/pair.Cancel -/
abbrev F_pair_Cancel : FuncId := 15
def c_pair_Cancel_0 : MC := (.seq (.draw [(0, [], ⟨(some 14), .load 27 (.tmp 2), none⟩),
    (1, [], ⟨(some 15), .load 27 (.tmp 3), none⟩),
    (2, [1], ⟨none, .store 27 (.tmp 4) (.tmp 14), none⟩),
    (3, [], ⟨none, .store 27 (.tmp 5) (.tmp 15), none⟩)]) .ret)
@[go_sem] theorem c_pair_Cancel_0_at (rd : Option Nat) (K : Post3) (t : Fr) (m : Mem) : wpM E 15 28 rd c_pair_Cancel_0 K t m = wpM E 15 28 rd (.seq (.draw [(0, [], ⟨(some 14), .load 27 (.tmp 2), none⟩),
    (1, [], ⟨(some 15), .load 27 (.tmp 3), none⟩),
    (2, [1], ⟨none, .store 27 (.tmp 4) (.tmp 14), none⟩),
    (3, [], ⟨none, .store 27 (.tmp 5) (.tmp 15), none⟩)]) .ret) K t m := rfl

def c_pair_Cancel_1 : MC := (.cond (.tmp 13) c_pair_Cancel_0 .skip)
@[go_sem] theorem c_pair_Cancel_1_at (rd : Option Nat) (K : Post3) (t : Fr) (m : Mem) : wpM E 15 28 rd c_pair_Cancel_1 K t m = wpM E 15 28 rd (.cond (.tmp 13) c_pair_Cancel_0 .skip) K t m := rfl

def c_pair_Cancel_2 : MC := (.seq (.draw [(0, [], ⟨(some 8), .load 27 (.tmp 2), none⟩),
    (2, [], ⟨(some 10), .load 27 (.tmp 3), none⟩),
    (1, [2], ⟨(some 9), .call ⟨.value (.func 38), #[(.tmp 8)], #[27]⟩, none⟩),
    (3, [], ⟨(some 11), .call ⟨.value (.func 38), #[(.tmp 10)], #[27]⟩, none⟩),
    (4, [], ⟨(some 12), .binOp .mul 3 (.tmp 9) (.tmp 11) 3, none⟩),
    (5, [], ⟨(some 13), .binOp .geq 3 (.tmp 12) (.const (.int .i64 0)) 3, none⟩)]) c_pair_Cancel_1)
@[go_sem] theorem c_pair_Cancel_2_at (rd : Option Nat) (K : Post3) (t : Fr) (m : Mem) : wpM E 15 28 rd c_pair_Cancel_2 K t m = wpM E 15 28 rd (.seq (.draw [(0, [], ⟨(some 8), .load 27 (.tmp 2), none⟩),
    (2, [], ⟨(some 10), .load 27 (.tmp 3), none⟩),
    (1, [2], ⟨(some 9), .call ⟨.value (.func 38), #[(.tmp 8)], #[27]⟩, none⟩),
    (3, [], ⟨(some 11), .call ⟨.value (.func 38), #[(.tmp 10)], #[27]⟩, none⟩),
    (4, [], ⟨(some 12), .binOp .mul 3 (.tmp 9) (.tmp 11) 3, none⟩),
    (5, [], ⟨(some 13), .binOp .geq 3 (.tmp 12) (.const (.int .i64 0)) 3, none⟩)]) c_pair_Cancel_1) K t m := rfl

def c_pair_Cancel_3 : MC := (.seq (.draw [(0, [], ⟨(some 24), .load 27 (.tmp 7), none⟩),
    (1, [], ⟨(some 25), .load 27 (.tmp 6), none⟩),
    (2, [1], ⟨none, .store 27 (.tmp 4) (.tmp 24), none⟩),
    (3, [], ⟨none, .store 27 (.tmp 5) (.tmp 25), none⟩)]) .ret)
@[go_sem] theorem c_pair_Cancel_3_at (rd : Option Nat) (K : Post3) (t : Fr) (m : Mem) : wpM E 15 28 rd c_pair_Cancel_3 K t m = wpM E 15 28 rd (.seq (.draw [(0, [], ⟨(some 24), .load 27 (.tmp 7), none⟩),
    (1, [], ⟨(some 25), .load 27 (.tmp 6), none⟩),
    (2, [1], ⟨none, .store 27 (.tmp 4) (.tmp 24), none⟩),
    (3, [], ⟨none, .store 27 (.tmp 5) (.tmp 25), none⟩)]) .ret) K t m := rfl

def c_pair_Cancel_4 : MC := (.cond (.tmp 23) c_pair_Cancel_3 .skip)
@[go_sem] theorem c_pair_Cancel_4_at (rd : Option Nat) (K : Post3) (t : Fr) (m : Mem) : wpM E 15 28 rd c_pair_Cancel_4 K t m = wpM E 15 28 rd (.cond (.tmp 23) c_pair_Cancel_3 .skip) K t m := rfl

def c_pair_Cancel_5 : MC := (.seq (.draw [(0, [], ⟨(some 19), .load 27 (.tmp 7), none⟩),
    (2, [], ⟨(some 21), .load 27 (.tmp 2), none⟩),
    (1, [2], ⟨(some 20), .call ⟨.value (.func 38), #[(.tmp 19)], #[27]⟩, none⟩),
    (3, [], ⟨(some 22), .call ⟨.value (.func 38), #[(.tmp 21)], #[27]⟩, none⟩),
    (4, [], ⟨(some 23), .binOp .eql 3 (.tmp 20) (.tmp 22) 3, none⟩)]) c_pair_Cancel_4)
@[go_sem] theorem c_pair_Cancel_5_at (rd : Option Nat) (K : Post3) (t : Fr) (m : Mem) : wpM E 15 28 rd c_pair_Cancel_5 K t m = wpM E 15 28 rd (.seq (.draw [(0, [], ⟨(some 19), .load 27 (.tmp 7), none⟩),
    (2, [], ⟨(some 21), .load 27 (.tmp 2), none⟩),
    (1, [2], ⟨(some 20), .call ⟨.value (.func 38), #[(.tmp 19)], #[27]⟩, none⟩),
    (3, [], ⟨(some 22), .call ⟨.value (.func 38), #[(.tmp 21)], #[27]⟩, none⟩),
    (4, [], ⟨(some 23), .binOp .eql 3 (.tmp 20) (.tmp 22) 3, none⟩)]) c_pair_Cancel_4) K t m := rfl

def c_pair_Cancel_6 : MC := (.seq (.draw [(0, [], ⟨(some 26), .load 27 (.tmp 6), none⟩),
    (1, [], ⟨(some 27), .load 27 (.tmp 7), none⟩),
    (2, [1], ⟨none, .store 27 (.tmp 4) (.tmp 26), none⟩),
    (3, [], ⟨none, .store 27 (.tmp 5) (.tmp 27), none⟩)]) .ret)
@[go_sem] theorem c_pair_Cancel_6_at (rd : Option Nat) (K : Post3) (t : Fr) (m : Mem) : wpM E 15 28 rd c_pair_Cancel_6 K t m = wpM E 15 28 rd (.seq (.draw [(0, [], ⟨(some 26), .load 27 (.tmp 6), none⟩),
    (1, [], ⟨(some 27), .load 27 (.tmp 7), none⟩),
    (2, [1], ⟨none, .store 27 (.tmp 4) (.tmp 26), none⟩),
    (3, [], ⟨none, .store 27 (.tmp 5) (.tmp 27), none⟩)]) .ret) K t m := rfl

def c_pair_Cancel_7 : MC := (.seq c_pair_Cancel_5 c_pair_Cancel_6)
@[go_sem] theorem c_pair_Cancel_7_at (rd : Option Nat) (K : Post3) (t : Fr) (m : Mem) : wpM E 15 28 rd c_pair_Cancel_7 K t m = wpM E 15 28 rd (.seq c_pair_Cancel_5 c_pair_Cancel_6) K t m := rfl

def c_pair_Cancel_8 : MC := (.seq (.ops [⟨(some 16), .load 27 (.tmp 2), none⟩,
    ⟨(some 17), .load 27 (.tmp 3), none⟩,
    ⟨(some 18), .call ⟨.value (.func 31), #[(.tmp 16), (.tmp 17)], #[27, 27]⟩, none⟩,
    ⟨(some 7), .alloc 27, none⟩,
    ⟨none, .store 27 (.tmp 7) (.tmp 18), none⟩]) c_pair_Cancel_7)
@[go_sem] theorem c_pair_Cancel_8_at (rd : Option Nat) (K : Post3) (t : Fr) (m : Mem) : wpM E 15 28 rd c_pair_Cancel_8 K t m = wpM E 15 28 rd (.seq (.ops [⟨(some 16), .load 27 (.tmp 2), none⟩,
    ⟨(some 17), .load 27 (.tmp 3), none⟩,
    ⟨(some 18), .call ⟨.value (.func 31), #[(.tmp 16), (.tmp 17)], #[27, 27]⟩, none⟩,
    ⟨(some 7), .alloc 27, none⟩,
    ⟨none, .store 27 (.tmp 7) (.tmp 18), none⟩]) c_pair_Cancel_7) K t m := rfl

def c_pair_Cancel_9 : MC := (.seq (.ops [⟨(some 6), .alloc 27, none⟩]) c_pair_Cancel_8)
@[go_sem] theorem c_pair_Cancel_9_at (rd : Option Nat) (K : Post3) (t : Fr) (m : Mem) : wpM E 15 28 rd c_pair_Cancel_9 K t m = wpM E 15 28 rd (.seq (.ops [⟨(some 6), .alloc 27, none⟩]) c_pair_Cancel_8) K t m := rfl

def c_pair_Cancel_10 : MC := (.seq c_pair_Cancel_2 c_pair_Cancel_9)
@[go_sem] theorem c_pair_Cancel_10_at (rd : Option Nat) (K : Post3) (t : Fr) (m : Mem) : wpM E 15 28 rd c_pair_Cancel_10 K t m = wpM E 15 28 rd (.seq c_pair_Cancel_2 c_pair_Cancel_9) K t m := rfl

def c_pair_Cancel_11 : MC := (.seq (.ops [⟨(some 2), .box 27 (.tmp 0), none⟩,
    ⟨(some 3), .box 27 (.tmp 1), none⟩,
    ⟨(some 4), .alloc 27, none⟩,
    ⟨(some 5), .alloc 27, none⟩]) c_pair_Cancel_10)
@[go_sem] theorem c_pair_Cancel_11_at (rd : Option Nat) (K : Post3) (t : Fr) (m : Mem) : wpM E 15 28 rd c_pair_Cancel_11 K t m = wpM E 15 28 rd (.seq (.ops [⟨(some 2), .box 27 (.tmp 0), none⟩,
    ⟨(some 3), .box 27 (.tmp 1), none⟩,
    ⟨(some 4), .alloc 27, none⟩,
    ⟨(some 5), .alloc 27, none⟩]) c_pair_Cancel_10) K t m := rfl

@[go_sem] theorem some15 : (E.fn 15).isSome = true := by kernel_rfl
set_option maxRecDepth 100000 in
theorem fn_pair_Cancel : FnIs E 15 28 [.cell 4 27, .cell 5 27] c_pair_Cancel_11 := ⟨by kernel_rfl, by kernel_rfl⟩

/-! sheaf/pair.Key -/
abbrev F_pair_Key : FuncId := 19
def c_pair_Key_0 : MC := (.seq (.ops [⟨(some 11), .move (.tmp 3), none⟩,
    ⟨(some 12), .move (.tmp 0), none⟩,
    ⟨(some 13), .call ⟨.value (.func 39), #[(.tmp 12), (.const (.int .i64 8))], #[22, 3]⟩, none⟩,
    ⟨(some 14), .buildSlice 22 3 #[(0, (.tmp 11)), (1, (.const (.int .i64 0))), (2, (.tmp 13))], none⟩,
    ⟨(some 2), .assign (.tmp 14), none⟩]) .ret)
@[go_sem] theorem c_pair_Key_0_at (rd : Option Nat) (K : Post3) (t : Fr) (m : Mem) : wpM E 19 24 rd c_pair_Key_0 K t m = wpM E 19 24 rd (.seq (.ops [⟨(some 11), .move (.tmp 3), none⟩,
    ⟨(some 12), .move (.tmp 0), none⟩,
    ⟨(some 13), .call ⟨.value (.func 39), #[(.tmp 12), (.const (.int .i64 8))], #[22, 3]⟩, none⟩,
    ⟨(some 14), .buildSlice 22 3 #[(0, (.tmp 11)), (1, (.const (.int .i64 0))), (2, (.tmp 13))], none⟩,
    ⟨(some 2), .assign (.tmp 14), none⟩]) .ret) K t m := rfl

def c_pair_Key_1 : MC := (.cond (.tmp 10) c_pair_Key_0 .skip)
@[go_sem] theorem c_pair_Key_1_at (rd : Option Nat) (K : Post3) (t : Fr) (m : Mem) : wpM E 19 24 rd c_pair_Key_1 K t m = wpM E 19 24 rd (.cond (.tmp 10) c_pair_Key_0 .skip) K t m := rfl

def c_pair_Key_2 : MC := (.seq (.ops [⟨(some 9), .move (.tmp 4), none⟩,
    ⟨(some 10), .binOp .eql 3 (.tmp 9) (.const (.int .i64 0)) 3, none⟩]) c_pair_Key_1)
@[go_sem] theorem c_pair_Key_2_at (rd : Option Nat) (K : Post3) (t : Fr) (m : Mem) : wpM E 19 24 rd c_pair_Key_2 K t m = wpM E 19 24 rd (.seq (.ops [⟨(some 9), .move (.tmp 4), none⟩,
    ⟨(some 10), .binOp .eql 3 (.tmp 9) (.const (.int .i64 0)) 3, none⟩]) c_pair_Key_1) K t m := rfl

def c_pair_Key_3 : MC := (.seq (.ops [⟨(some 15), .move (.tmp 3), none⟩,
    ⟨(some 16), .move (.tmp 4), none⟩,
    ⟨(some 17), .call ⟨.builtin .min, #[(.tmp 15), (.tmp 16)], #[3, 3]⟩, none⟩,
    ⟨(some 18), .move (.tmp 3), none⟩,
    ⟨(some 19), .move (.tmp 4), none⟩,
    ⟨(some 20), .call ⟨.builtin .max, #[(.tmp 18), (.tmp 19)], #[3, 3]⟩, none⟩,
    ⟨(some 21), .move (.tmp 0), none⟩,
    ⟨(some 22), .call ⟨.value (.func 39), #[(.tmp 21), (.const (.int .i64 8))], #[22, 3]⟩, none⟩,
    ⟨(some 23), .buildSlice 22 3 #[(0, (.tmp 17)), (1, (.tmp 20)), (2, (.tmp 22))], none⟩,
    ⟨(some 2), .assign (.tmp 23), none⟩]) .ret)
@[go_sem] theorem c_pair_Key_3_at (rd : Option Nat) (K : Post3) (t : Fr) (m : Mem) : wpM E 19 24 rd c_pair_Key_3 K t m = wpM E 19 24 rd (.seq (.ops [⟨(some 15), .move (.tmp 3), none⟩,
    ⟨(some 16), .move (.tmp 4), none⟩,
    ⟨(some 17), .call ⟨.builtin .min, #[(.tmp 15), (.tmp 16)], #[3, 3]⟩, none⟩,
    ⟨(some 18), .move (.tmp 3), none⟩,
    ⟨(some 19), .move (.tmp 4), none⟩,
    ⟨(some 20), .call ⟨.builtin .max, #[(.tmp 18), (.tmp 19)], #[3, 3]⟩, none⟩,
    ⟨(some 21), .move (.tmp 0), none⟩,
    ⟨(some 22), .call ⟨.value (.func 39), #[(.tmp 21), (.const (.int .i64 8))], #[22, 3]⟩, none⟩,
    ⟨(some 23), .buildSlice 22 3 #[(0, (.tmp 17)), (1, (.tmp 20)), (2, (.tmp 22))], none⟩,
    ⟨(some 2), .assign (.tmp 23), none⟩]) .ret) K t m := rfl

def c_pair_Key_4 : MC := (.seq c_pair_Key_2 c_pair_Key_3)
@[go_sem] theorem c_pair_Key_4_at (rd : Option Nat) (K : Post3) (t : Fr) (m : Mem) : wpM E 19 24 rd c_pair_Key_4 K t m = wpM E 19 24 rd (.seq c_pair_Key_2 c_pair_Key_3) K t m := rfl

def c_pair_Key_5 : MC := (.seq (.ops [⟨(some 5), .move (.tmp 0), none⟩,
    ⟨(some 6), .call ⟨.value (.func 39), #[(.tmp 5), (.const (.int .i64 1))], #[22, 3]⟩, none⟩,
    ⟨(some 7), .move (.tmp 0), none⟩,
    ⟨(some 8), .call ⟨.value (.func 39), #[(.tmp 7), (.const (.int .i64 5))], #[22, 3]⟩, none⟩,
    ⟨(some 3), .assign (.tmp 6), none⟩,
    ⟨(some 4), .assign (.tmp 8), none⟩]) c_pair_Key_4)
@[go_sem] theorem c_pair_Key_5_at (rd : Option Nat) (K : Post3) (t : Fr) (m : Mem) : wpM E 19 24 rd c_pair_Key_5 K t m = wpM E 19 24 rd (.seq (.ops [⟨(some 5), .move (.tmp 0), none⟩,
    ⟨(some 6), .call ⟨.value (.func 39), #[(.tmp 5), (.const (.int .i64 1))], #[22, 3]⟩, none⟩,
    ⟨(some 7), .move (.tmp 0), none⟩,
    ⟨(some 8), .call ⟨.value (.func 39), #[(.tmp 7), (.const (.int .i64 5))], #[22, 3]⟩, none⟩,
    ⟨(some 3), .assign (.tmp 6), none⟩,
    ⟨(some 4), .assign (.tmp 8), none⟩]) c_pair_Key_4) K t m := rfl

def c_pair_Key_6 : MC := (.seq (.ops [⟨(some 2), .assign (.const (.slice none 0 0)), none⟩]) c_pair_Key_5)
@[go_sem] theorem c_pair_Key_6_at (rd : Option Nat) (K : Post3) (t : Fr) (m : Mem) : wpM E 19 24 rd c_pair_Key_6 K t m = wpM E 19 24 rd (.seq (.ops [⟨(some 2), .assign (.const (.slice none 0 0)), none⟩]) c_pair_Key_5) K t m := rfl

@[go_sem] theorem some19 : (E.fn 19).isSome = true := by kernel_rfl
set_option maxRecDepth 100000 in
theorem fn_pair_Key : FnIs E 19 24 [.tmp 2] c_pair_Key_6 := ⟨by kernel_rfl, by kernel_rfl⟩

/-! sheaf/pair.sign -/
abbrev F_pair_sign : FuncId := 38
def c_pair_sign_0 : MC := (.seq (.ops [⟨(some 3), .load 27 (.tmp 1), none⟩,
    ⟨(some 4), .build 27 #[], none⟩,
    ⟨(some 5), .call ⟨.value (.func 30), #[(.tmp 3), (.tmp 4)], #[27, 27]⟩, none⟩,
    ⟨(some 2), .assign (.tmp 5), none⟩]) .ret)
@[go_sem] theorem c_pair_sign_0_at (rd : Option Nat) (K : Post3) (t : Fr) (m : Mem) : wpM E 38 6 rd c_pair_sign_0 K t m = wpM E 38 6 rd (.seq (.ops [⟨(some 3), .load 27 (.tmp 1), none⟩,
    ⟨(some 4), .build 27 #[], none⟩,
    ⟨(some 5), .call ⟨.value (.func 30), #[(.tmp 3), (.tmp 4)], #[27, 27]⟩, none⟩,
    ⟨(some 2), .assign (.tmp 5), none⟩]) .ret) K t m := rfl

def c_pair_sign_1 : MC := (.seq (.ops [⟨(some 1), .box 27 (.tmp 0), none⟩,
    ⟨(some 2), .assign (.const (.int .i64 0)), none⟩]) c_pair_sign_0)
@[go_sem] theorem c_pair_sign_1_at (rd : Option Nat) (K : Post3) (t : Fr) (m : Mem) : wpM E 38 6 rd c_pair_sign_1 K t m = wpM E 38 6 rd (.seq (.ops [⟨(some 1), .box 27 (.tmp 0), none⟩,
    ⟨(some 2), .assign (.const (.int .i64 0)), none⟩]) c_pair_sign_0) K t m := rfl

@[go_sem] theorem some38 : (E.fn 38).isSome = true := by kernel_rfl
set_option maxRecDepth 100000 in
theorem fn_pair_sign : FnIs E 38 6 [.tmp 2] c_pair_sign_1 := ⟨by kernel_rfl, by kernel_rfl⟩

/-! sheaf/pair.at -/
abbrev F_pair_at : FuncId := 39
def c_pair_at_0 : MC := (.seq (.ops [⟨(some 4), .assign (.const (.int .i64 0)), none⟩]) .ret)
@[go_sem] theorem c_pair_at_0_at (rd : Option Nat) (K : Post3) (t : Fr) (m : Mem) : wpM E 39 13 rd c_pair_at_0 K t m = wpM E 39 13 rd (.seq (.ops [⟨(some 4), .assign (.const (.int .i64 0)), none⟩]) .ret) K t m := rfl

def c_pair_at_1 : MC := (.cond (.tmp 8) c_pair_at_0 .skip)
@[go_sem] theorem c_pair_at_1_at (rd : Option Nat) (K : Post3) (t : Fr) (m : Mem) : wpM E 39 13 rd c_pair_at_1 K t m = wpM E 39 13 rd (.cond (.tmp 8) c_pair_at_0 .skip) K t m := rfl

def c_pair_at_2 : MC := (.seq (.ops [⟨(some 5), .move (.tmp 1), none⟩,
    ⟨(some 6), .move (.tmp 0), none⟩,
    ⟨(some 7), .call ⟨.builtin .len, #[(.tmp 6)], #[22]⟩, none⟩,
    ⟨(some 8), .binOp .geq 3 (.tmp 5) (.tmp 7) 3, none⟩]) c_pair_at_1)
@[go_sem] theorem c_pair_at_2_at (rd : Option Nat) (K : Post3) (t : Fr) (m : Mem) : wpM E 39 13 rd c_pair_at_2 K t m = wpM E 39 13 rd (.seq (.ops [⟨(some 5), .move (.tmp 1), none⟩,
    ⟨(some 6), .move (.tmp 0), none⟩,
    ⟨(some 7), .call ⟨.builtin .len, #[(.tmp 6)], #[22]⟩, none⟩,
    ⟨(some 8), .binOp .geq 3 (.tmp 5) (.tmp 7) 3, none⟩]) c_pair_at_1) K t m := rfl

def c_pair_at_3 : MC := (.seq (.ops [⟨(some 9), .move (.tmp 0), none⟩,
    ⟨(some 10), .move (.tmp 1), none⟩,
    ⟨(some 11), .indexAddr 22 (.tmp 9) (.tmp 10), none⟩,
    ⟨(some 12), .load 3 (.tmp 11), none⟩,
    ⟨(some 4), .assign (.tmp 12), none⟩]) .ret)
@[go_sem] theorem c_pair_at_3_at (rd : Option Nat) (K : Post3) (t : Fr) (m : Mem) : wpM E 39 13 rd c_pair_at_3 K t m = wpM E 39 13 rd (.seq (.ops [⟨(some 9), .move (.tmp 0), none⟩,
    ⟨(some 10), .move (.tmp 1), none⟩,
    ⟨(some 11), .indexAddr 22 (.tmp 9) (.tmp 10), none⟩,
    ⟨(some 12), .load 3 (.tmp 11), none⟩,
    ⟨(some 4), .assign (.tmp 12), none⟩]) .ret) K t m := rfl

def c_pair_at_4 : MC := (.seq c_pair_at_2 c_pair_at_3)
@[go_sem] theorem c_pair_at_4_at (rd : Option Nat) (K : Post3) (t : Fr) (m : Mem) : wpM E 39 13 rd c_pair_at_4 K t m = wpM E 39 13 rd (.seq c_pair_at_2 c_pair_at_3) K t m := rfl

def c_pair_at_5 : MC := (.seq (.ops [⟨(some 4), .assign (.const (.int .i64 0)), none⟩]) c_pair_at_4)
@[go_sem] theorem c_pair_at_5_at (rd : Option Nat) (K : Post3) (t : Fr) (m : Mem) : wpM E 39 13 rd c_pair_at_5 K t m = wpM E 39 13 rd (.seq (.ops [⟨(some 4), .assign (.const (.int .i64 0)), none⟩]) c_pair_at_4) K t m := rfl

@[go_sem] theorem some39 : (E.fn 39).isSome = true := by kernel_rfl
set_option maxRecDepth 100000 in
theorem fn_pair_at : FnIs E 39 13 [.tmp 4] c_pair_at_5 := ⟨by kernel_rfl, by kernel_rfl⟩

/-! sheaf/pair.Parts -/
abbrev F_pair_Parts : FuncId := 59
def c_pair_Parts_0 : MC := (.seq (.ops [⟨(some 3), .makeFunc (.func 65) #[] #[(.tmp 1)], none⟩,
    ⟨(some 2), .assign (.tmp 3), none⟩]) .ret)
@[go_sem] theorem c_pair_Parts_0_at (rd : Option Nat) (K : Post3) (t : Fr) (m : Mem) : wpM E 59 4 rd c_pair_Parts_0 K t m = wpM E 59 4 rd (.seq (.ops [⟨(some 3), .makeFunc (.func 65) #[] #[(.tmp 1)], none⟩,
    ⟨(some 2), .assign (.tmp 3), none⟩]) .ret) K t m := rfl

def c_pair_Parts_1 : MC := (.seq (.ops [⟨(some 1), .box 54 (.tmp 0), none⟩,
    ⟨(some 2), .assign (.const .nilFunc), none⟩]) c_pair_Parts_0)
@[go_sem] theorem c_pair_Parts_1_at (rd : Option Nat) (K : Post3) (t : Fr) (m : Mem) : wpM E 59 4 rd c_pair_Parts_1 K t m = wpM E 59 4 rd (.seq (.ops [⟨(some 1), .box 54 (.tmp 0), none⟩,
    ⟨(some 2), .assign (.const .nilFunc), none⟩]) c_pair_Parts_0) K t m := rfl

@[go_sem] theorem some59 : (E.fn 59).isSome = true := by kernel_rfl
set_option maxRecDepth 100000 in
theorem fn_pair_Parts : FnIs E 59 4 [.tmp 2] c_pair_Parts_1 := ⟨by kernel_rfl, by kernel_rfl⟩

/-! sheaf/pair.Parts$1 -/
abbrev F_pair_Parts_1 : FuncId := 65
def c_pair_Parts_1_0 : MC := (.cond (.tmp 27) .ret .skip)
@[go_sem] theorem c_pair_Parts_1_0_at (rd : Option Nat) (K : Post3) (t : Fr) (m : Mem) : wpM E 65 71 rd c_pair_Parts_1_0 K t m = wpM E 65 71 rd (.cond (.tmp 27) .ret .skip) K t m := rfl

def c_pair_Parts_1_1 : MC := (.seq (.ops [⟨(some 12), .load 104 (.tmp 3), none⟩,
    ⟨(some 13), .binOp .neq 104 (.tmp 12) (.const (.pointer none)) 104, none⟩,
    ⟨(some 14), .move (.tmp 13), none⟩,
    ⟨(some 15), .load 104 (.tmp 3), (some (some 14, true))⟩,
    ⟨(some 16), .nilCheck (.tmp 15), (some (some 14, true))⟩,
    ⟨(some 17), .fieldAddr 109 (.tmp 16) 0, (some (some 14, true))⟩,
    ⟨(some 18), .load 22 (.tmp 17), (some (some 14, true))⟩,
    ⟨(some 19), .move (.tmp 6), (some (some 14, true))⟩,
    ⟨(some 20), .call ⟨.value (.func 48), #[(.tmp 18), (.tmp 19)], #[22, 22]⟩, (some (some 14, true))⟩,
    ⟨(some 21), .unOp .not 4 (.tmp 20), (some (some 14, true))⟩,
    ⟨(some 22), .pick (.tmp 14) (.tmp 21) (.const (.bool false)), none⟩,
    ⟨(some 23), .move (.tmp 22), none⟩,
    ⟨(some 24), .load 35 (.tmp 4), (some (some 23, true))⟩,
    ⟨(some 25), .call ⟨.value (.tmp 24), #[], #[]⟩, (some (some 23, true))⟩,
    ⟨(some 26), .unOp .not 4 (.tmp 25), (some (some 23, true))⟩,
    ⟨(some 27), .pick (.tmp 23) (.tmp 26) (.const (.bool false)), none⟩]) c_pair_Parts_1_0)
@[go_sem] theorem c_pair_Parts_1_1_at (rd : Option Nat) (K : Post3) (t : Fr) (m : Mem) : wpM E 65 71 rd c_pair_Parts_1_1 K t m = wpM E 65 71 rd (.seq (.ops [⟨(some 12), .load 104 (.tmp 3), none⟩,
    ⟨(some 13), .binOp .neq 104 (.tmp 12) (.const (.pointer none)) 104, none⟩,
    ⟨(some 14), .move (.tmp 13), none⟩,
    ⟨(some 15), .load 104 (.tmp 3), (some (some 14, true))⟩,
    ⟨(some 16), .nilCheck (.tmp 15), (some (some 14, true))⟩,
    ⟨(some 17), .fieldAddr 109 (.tmp 16) 0, (some (some 14, true))⟩,
    ⟨(some 18), .load 22 (.tmp 17), (some (some 14, true))⟩,
    ⟨(some 19), .move (.tmp 6), (some (some 14, true))⟩,
    ⟨(some 20), .call ⟨.value (.func 48), #[(.tmp 18), (.tmp 19)], #[22, 22]⟩, (some (some 14, true))⟩,
    ⟨(some 21), .unOp .not 4 (.tmp 20), (some (some 14, true))⟩,
    ⟨(some 22), .pick (.tmp 14) (.tmp 21) (.const (.bool false)), none⟩,
    ⟨(some 23), .move (.tmp 22), none⟩,
    ⟨(some 24), .load 35 (.tmp 4), (some (some 23, true))⟩,
    ⟨(some 25), .call ⟨.value (.tmp 24), #[], #[]⟩, (some (some 23, true))⟩,
    ⟨(some 26), .unOp .not 4 (.tmp 25), (some (some 23, true))⟩,
    ⟨(some 27), .pick (.tmp 23) (.tmp 26) (.const (.bool false)), none⟩]) c_pair_Parts_1_0) K t m := rfl

def c_pair_Parts_1_2 : MC := (.cond (.tmp 47) .ret .skip)
@[go_sem] theorem c_pair_Parts_1_2_at (rd : Option Nat) (K : Post3) (t : Fr) (m : Mem) : wpM E 65 71 rd c_pair_Parts_1_2 K t m = wpM E 65 71 rd (.cond (.tmp 47) .ret .skip) K t m := rfl

def c_pair_Parts_1_3 : MC := (.seq (.draw [(0, [], ⟨(some 31), .load 35 (.tmp 4), none⟩),
    (1, [], ⟨(some 32), .call ⟨.value (.tmp 31), #[], #[]⟩, none⟩),
    (2, [], ⟨(some 33), .unOp .not 4 (.tmp 32), none⟩),
    (3, [], ⟨(some 34), .move (.tmp 33), none⟩),
    (4, [], ⟨(some 35), .load 81 (.tmp 2), (some (some 34, false))⟩),
    (5, [], ⟨(some 36), .move (.tmp 5), (some (some 34, false))⟩),
    (6, [4], ⟨(some 37), .call ⟨.value (.func 39), #[(.tmp 36), (.const (.int .i64 1))], #[22, 3]⟩, (some (some 34, false))⟩),
    (7, [], ⟨(some 38), .move (.tmp 5), (some (some 34, false))⟩),
    (8, [4], ⟨(some 39), .call ⟨.value (.func 39), #[(.tmp 38), (.const (.int .i64 7))], #[22, 3]⟩, (some (some 34, false))⟩),
    (9, [], ⟨(some 40), .move (.tmp 5), (some (some 34, false))⟩),
    (10, [4], ⟨(some 41), .call ⟨.value (.func 39), #[(.tmp 40), (.const (.int .i64 8))], #[22, 3]⟩, (some (some 34, false))⟩),
    (11, [], ⟨(some 42), .move (.tmp 5), (some (some 34, false))⟩),
    (12, [4], ⟨(some 43), .call ⟨.value (.func 39), #[(.tmp 42), (.const (.int .i64 9))], #[22, 3]⟩, (some (some 34, false))⟩),
    (13, [], ⟨(some 44), .buildSlice 22 4 #[(0, (.tmp 37)), (1, (.tmp 39)), (2, (.tmp 41)), (3, (.tmp 43))], (some (some 34, false))⟩),
    (14, [], ⟨(some 45), .call ⟨.value (.tmp 35), #[(.tmp 44), (.const (.bool true))], #[22, 4]⟩, (some (some 34, false))⟩),
    (15, [], ⟨(some 46), .unOp .not 4 (.tmp 45), (some (some 34, false))⟩),
    (16, [], ⟨(some 47), .pick (.tmp 34) (.const (.bool true)) (.tmp 46), none⟩)]) c_pair_Parts_1_2)
@[go_sem] theorem c_pair_Parts_1_3_at (rd : Option Nat) (K : Post3) (t : Fr) (m : Mem) : wpM E 65 71 rd c_pair_Parts_1_3 K t m = wpM E 65 71 rd (.seq (.draw [(0, [], ⟨(some 31), .load 35 (.tmp 4), none⟩),
    (1, [], ⟨(some 32), .call ⟨.value (.tmp 31), #[], #[]⟩, none⟩),
    (2, [], ⟨(some 33), .unOp .not 4 (.tmp 32), none⟩),
    (3, [], ⟨(some 34), .move (.tmp 33), none⟩),
    (4, [], ⟨(some 35), .load 81 (.tmp 2), (some (some 34, false))⟩),
    (5, [], ⟨(some 36), .move (.tmp 5), (some (some 34, false))⟩),
    (6, [4], ⟨(some 37), .call ⟨.value (.func 39), #[(.tmp 36), (.const (.int .i64 1))], #[22, 3]⟩, (some (some 34, false))⟩),
    (7, [], ⟨(some 38), .move (.tmp 5), (some (some 34, false))⟩),
    (8, [4], ⟨(some 39), .call ⟨.value (.func 39), #[(.tmp 38), (.const (.int .i64 7))], #[22, 3]⟩, (some (some 34, false))⟩),
    (9, [], ⟨(some 40), .move (.tmp 5), (some (some 34, false))⟩),
    (10, [4], ⟨(some 41), .call ⟨.value (.func 39), #[(.tmp 40), (.const (.int .i64 8))], #[22, 3]⟩, (some (some 34, false))⟩),
    (11, [], ⟨(some 42), .move (.tmp 5), (some (some 34, false))⟩),
    (12, [4], ⟨(some 43), .call ⟨.value (.func 39), #[(.tmp 42), (.const (.int .i64 9))], #[22, 3]⟩, (some (some 34, false))⟩),
    (13, [], ⟨(some 44), .buildSlice 22 4 #[(0, (.tmp 37)), (1, (.tmp 39)), (2, (.tmp 41)), (3, (.tmp 43))], (some (some 34, false))⟩),
    (14, [], ⟨(some 45), .call ⟨.value (.tmp 35), #[(.tmp 44), (.const (.bool true))], #[22, 4]⟩, (some (some 34, false))⟩),
    (15, [], ⟨(some 46), .unOp .not 4 (.tmp 45), (some (some 34, false))⟩),
    (16, [], ⟨(some 47), .pick (.tmp 34) (.const (.bool true)) (.tmp 46), none⟩)]) c_pair_Parts_1_2) K t m := rfl

def c_pair_Parts_1_4 : MC := (.seq c_pair_Parts_1_3 (.exit 1))
@[go_sem] theorem c_pair_Parts_1_4_at (rd : Option Nat) (K : Post3) (t : Fr) (m : Mem) : wpM E 65 71 rd c_pair_Parts_1_4 K t m = wpM E 65 71 rd (.seq c_pair_Parts_1_3 (.exit 1)) K t m := rfl

def c_pair_Parts_1_5 : MC := (.cond (.tmp 30) c_pair_Parts_1_4 .skip)
@[go_sem] theorem c_pair_Parts_1_5_at (rd : Option Nat) (K : Post3) (t : Fr) (m : Mem) : wpM E 65 71 rd c_pair_Parts_1_5 K t m = wpM E 65 71 rd (.cond (.tmp 30) c_pair_Parts_1_4 .skip) K t m := rfl

def c_pair_Parts_1_6 : MC := (.seq (.ops [⟨(some 28), .move (.tmp 5), none⟩,
    ⟨(some 29), .call ⟨.value (.func 39), #[(.tmp 28), (.const (.int .i64 5))], #[22, 3]⟩, none⟩,
    ⟨(some 30), .binOp .eql 3 (.tmp 29) (.const (.int .i64 0)) 3, none⟩]) c_pair_Parts_1_5)
@[go_sem] theorem c_pair_Parts_1_6_at (rd : Option Nat) (K : Post3) (t : Fr) (m : Mem) : wpM E 65 71 rd c_pair_Parts_1_6 K t m = wpM E 65 71 rd (.seq (.ops [⟨(some 28), .move (.tmp 5), none⟩,
    ⟨(some 29), .call ⟨.value (.func 39), #[(.tmp 28), (.const (.int .i64 5))], #[22, 3]⟩, none⟩,
    ⟨(some 30), .binOp .eql 3 (.tmp 29) (.const (.int .i64 0)) 3, none⟩]) c_pair_Parts_1_5) K t m := rfl

def c_pair_Parts_1_7 : MC := (.cond (.tmp 49) (.ops [⟨(some 50), .move (.tmp 6), none⟩,
    ⟨(some 51), .build 109 #[(0, (.tmp 50))], none⟩,
    ⟨(some 52), .box 109 (.tmp 51), none⟩,
    ⟨none, .store 104 (.tmp 3) (.tmp 52), none⟩]) .skip)
@[go_sem] theorem c_pair_Parts_1_7_at (rd : Option Nat) (K : Post3) (t : Fr) (m : Mem) : wpM E 65 71 rd c_pair_Parts_1_7 K t m = wpM E 65 71 rd (.cond (.tmp 49) (.ops [⟨(some 50), .move (.tmp 6), none⟩,
    ⟨(some 51), .build 109 #[(0, (.tmp 50))], none⟩,
    ⟨(some 52), .box 109 (.tmp 51), none⟩,
    ⟨none, .store 104 (.tmp 3) (.tmp 52), none⟩]) .skip) K t m := rfl

def c_pair_Parts_1_8 : MC := (.seq (.ops [⟨(some 48), .load 104 (.tmp 3), none⟩,
    ⟨(some 49), .binOp .eql 104 (.tmp 48) (.const (.pointer none)) 104, none⟩]) c_pair_Parts_1_7)
@[go_sem] theorem c_pair_Parts_1_8_at (rd : Option Nat) (K : Post3) (t : Fr) (m : Mem) : wpM E 65 71 rd c_pair_Parts_1_8 K t m = wpM E 65 71 rd (.seq (.ops [⟨(some 48), .load 104 (.tmp 3), none⟩,
    ⟨(some 49), .binOp .eql 104 (.tmp 48) (.const (.pointer none)) 104, none⟩]) c_pair_Parts_1_7) K t m := rfl

def c_pair_Parts_1_9 : MC := (.cond (.tmp 58) (.ops [⟨(some 59), .load 104 (.tmp 3), none⟩,
    ⟨(some 60), .nilCheck (.tmp 59), none⟩,
    ⟨(some 61), .fieldAddr 109 (.tmp 60) 1, none⟩,
    ⟨(some 62), .move (.tmp 5), none⟩,
    ⟨(some 63), .call ⟨.value (.func 68), #[(.tmp 61), (.tmp 62)], #[107, 22]⟩, none⟩]) (.ops [⟨(some 64), .load 104 (.tmp 3), none⟩,
    ⟨(some 65), .nilCheck (.tmp 64), none⟩,
    ⟨(some 66), .fieldAddr 109 (.tmp 65) 2, none⟩,
    ⟨(some 67), .move (.tmp 5), none⟩,
    ⟨(some 68), .call ⟨.value (.func 68), #[(.tmp 66), (.tmp 67)], #[107, 22]⟩, none⟩]))
@[go_sem] theorem c_pair_Parts_1_9_at (rd : Option Nat) (K : Post3) (t : Fr) (m : Mem) : wpM E 65 71 rd c_pair_Parts_1_9 K t m = wpM E 65 71 rd (.cond (.tmp 58) (.ops [⟨(some 59), .load 104 (.tmp 3), none⟩,
    ⟨(some 60), .nilCheck (.tmp 59), none⟩,
    ⟨(some 61), .fieldAddr 109 (.tmp 60) 1, none⟩,
    ⟨(some 62), .move (.tmp 5), none⟩,
    ⟨(some 63), .call ⟨.value (.func 68), #[(.tmp 61), (.tmp 62)], #[107, 22]⟩, none⟩]) (.ops [⟨(some 64), .load 104 (.tmp 3), none⟩,
    ⟨(some 65), .nilCheck (.tmp 64), none⟩,
    ⟨(some 66), .fieldAddr 109 (.tmp 65) 2, none⟩,
    ⟨(some 67), .move (.tmp 5), none⟩,
    ⟨(some 68), .call ⟨.value (.func 68), #[(.tmp 66), (.tmp 67)], #[107, 22]⟩, none⟩])) K t m := rfl

def c_pair_Parts_1_10 : MC := (.seq (.draw [(0, [], ⟨(some 53), .move (.tmp 5), none⟩),
    (2, [], ⟨(some 55), .move (.tmp 6), none⟩),
    (3, [], ⟨(some 56), .indexAddr 22 (.tmp 55) (.const (.int .i64 0)), none⟩),
    (4, [], ⟨(some 57), .load 3 (.tmp 56), none⟩),
    (1, [4], ⟨(some 54), .call ⟨.value (.func 39), #[(.tmp 53), (.const (.int .i64 1))], #[22, 3]⟩, none⟩),
    (5, [], ⟨(some 58), .binOp .eql 3 (.tmp 54) (.tmp 57) 3, none⟩)]) c_pair_Parts_1_9)
@[go_sem] theorem c_pair_Parts_1_10_at (rd : Option Nat) (K : Post3) (t : Fr) (m : Mem) : wpM E 65 71 rd c_pair_Parts_1_10 K t m = wpM E 65 71 rd (.seq (.draw [(0, [], ⟨(some 53), .move (.tmp 5), none⟩),
    (2, [], ⟨(some 55), .move (.tmp 6), none⟩),
    (3, [], ⟨(some 56), .indexAddr 22 (.tmp 55) (.const (.int .i64 0)), none⟩),
    (4, [], ⟨(some 57), .load 3 (.tmp 56), none⟩),
    (1, [4], ⟨(some 54), .call ⟨.value (.func 39), #[(.tmp 53), (.const (.int .i64 1))], #[22, 3]⟩, none⟩),
    (5, [], ⟨(some 58), .binOp .eql 3 (.tmp 54) (.tmp 57) 3, none⟩)]) c_pair_Parts_1_9) K t m := rfl

def c_pair_Parts_1_11 : MC := (.seq c_pair_Parts_1_8 c_pair_Parts_1_10)
@[go_sem] theorem c_pair_Parts_1_11_at (rd : Option Nat) (K : Post3) (t : Fr) (m : Mem) : wpM E 65 71 rd c_pair_Parts_1_11 K t m = wpM E 65 71 rd (.seq c_pair_Parts_1_8 c_pair_Parts_1_10) K t m := rfl

def c_pair_Parts_1_12 : MC := (.seq c_pair_Parts_1_6 c_pair_Parts_1_11)
@[go_sem] theorem c_pair_Parts_1_12_at (rd : Option Nat) (K : Post3) (t : Fr) (m : Mem) : wpM E 65 71 rd c_pair_Parts_1_12 K t m = wpM E 65 71 rd (.seq c_pair_Parts_1_6 c_pair_Parts_1_11) K t m := rfl

def c_pair_Parts_1_13 : MC := (.seq c_pair_Parts_1_1 c_pair_Parts_1_12)
@[go_sem] theorem c_pair_Parts_1_13_at (rd : Option Nat) (K : Post3) (t : Fr) (m : Mem) : wpM E 65 71 rd c_pair_Parts_1_13 K t m = wpM E 65 71 rd (.seq c_pair_Parts_1_1 c_pair_Parts_1_12) K t m := rfl

def c_pair_Parts_1_14 : MC := (.seq (.ops [⟨(some 10), .move (.tmp 5), none⟩,
    ⟨(some 11), .call ⟨.value (.func 19), #[(.tmp 10)], #[22]⟩, none⟩,
    ⟨(some 6), .assign (.tmp 11), none⟩]) c_pair_Parts_1_13)
@[go_sem] theorem c_pair_Parts_1_14_at (rd : Option Nat) (K : Post3) (t : Fr) (m : Mem) : wpM E 65 71 rd c_pair_Parts_1_14 K t m = wpM E 65 71 rd (.seq (.ops [⟨(some 10), .move (.tmp 5), none⟩,
    ⟨(some 11), .call ⟨.value (.func 19), #[(.tmp 10)], #[22]⟩, none⟩,
    ⟨(some 6), .assign (.tmp 11), none⟩]) c_pair_Parts_1_13) K t m := rfl

def c_pair_Parts_1_15 : MC := (.block 1 c_pair_Parts_1_14)
@[go_sem] theorem c_pair_Parts_1_15_at (rd : Option Nat) (K : Post3) (t : Fr) (m : Mem) : wpM E 65 71 rd c_pair_Parts_1_15 K t m = wpM E 65 71 rd (.block 1 c_pair_Parts_1_14) K t m := rfl

theorem asg_pair_Parts_1_0 : compile E 65 71 (asgAt E 65 0) = some (.ops [⟨(some 5), .assign (.tmp 9), none⟩]) := by kernel_rfl

theorem body_pair_Parts_1_0 : compile E 65 71 (bodyAt E 65 0) = some c_pair_Parts_1_15 := by kernel_rfl

def c_pair_Parts_1_16 : MC := (.range (.tmp 8) #[9] (asgAt E 65 0) (bodyAt E 65 0))
theorem c_pair_Parts_1_16_at (rd : Option Nat) (K : Post3) (t : Fr) (m : Mem) : wpM E 65 71 rd c_pair_Parts_1_16 K t m = wpM E 65 71 rd (.range (.tmp 8) #[9] (asgAt E 65 0) (bodyAt E 65 0)) K t m := rfl

def c_pair_Parts_1_17 : MC := (.block 0 c_pair_Parts_1_16)
@[go_sem] theorem c_pair_Parts_1_17_at (rd : Option Nat) (K : Post3) (t : Fr) (m : Mem) : wpM E 65 71 rd c_pair_Parts_1_17 K t m = wpM E 65 71 rd (.block 0 c_pair_Parts_1_16) K t m := rfl

def c_pair_Parts_1_18 : MC := (.seq (.ops [⟨(some 8), .load 54 (.tmp 1), none⟩]) c_pair_Parts_1_17)
@[go_sem] theorem c_pair_Parts_1_18_at (rd : Option Nat) (K : Post3) (t : Fr) (m : Mem) : wpM E 65 71 rd c_pair_Parts_1_18 K t m = wpM E 65 71 rd (.seq (.ops [⟨(some 8), .load 54 (.tmp 1), none⟩]) c_pair_Parts_1_17) K t m := rfl

def c_pair_Parts_1_19 : MC := (.seq c_pair_Parts_1_18 (.ops [⟨(some 69), .load 35 (.tmp 4), none⟩,
    ⟨(some 70), .call ⟨.value (.tmp 69), #[], #[]⟩, none⟩]))
@[go_sem] theorem c_pair_Parts_1_19_at (rd : Option Nat) (K : Post3) (t : Fr) (m : Mem) : wpM E 65 71 rd c_pair_Parts_1_19 K t m = wpM E 65 71 rd (.seq c_pair_Parts_1_18 (.ops [⟨(some 69), .load 35 (.tmp 4), none⟩,
    ⟨(some 70), .call ⟨.value (.tmp 69), #[], #[]⟩, none⟩])) K t m := rfl

def c_pair_Parts_1_20 : MC := (.seq (.ops [⟨(some 7), .makeFunc (.func 66) #[] #[(.tmp 3), (.tmp 2)], none⟩,
    ⟨(some 4), .alloc 35, none⟩,
    ⟨none, .store 35 (.tmp 4) (.tmp 7), none⟩]) c_pair_Parts_1_19)
@[go_sem] theorem c_pair_Parts_1_20_at (rd : Option Nat) (K : Post3) (t : Fr) (m : Mem) : wpM E 65 71 rd c_pair_Parts_1_20 K t m = wpM E 65 71 rd (.seq (.ops [⟨(some 7), .makeFunc (.func 66) #[] #[(.tmp 3), (.tmp 2)], none⟩,
    ⟨(some 4), .alloc 35, none⟩,
    ⟨none, .store 35 (.tmp 4) (.tmp 7), none⟩]) c_pair_Parts_1_19) K t m := rfl

def c_pair_Parts_1_21 : MC := (.seq (.ops [⟨(some 3), .alloc 104, none⟩]) c_pair_Parts_1_20)
@[go_sem] theorem c_pair_Parts_1_21_at (rd : Option Nat) (K : Post3) (t : Fr) (m : Mem) : wpM E 65 71 rd c_pair_Parts_1_21 K t m = wpM E 65 71 rd (.seq (.ops [⟨(some 3), .alloc 104, none⟩]) c_pair_Parts_1_20) K t m := rfl

def c_pair_Parts_1_22 : MC := (.seq (.ops [⟨(some 2), .box 81 (.tmp 0), none⟩]) c_pair_Parts_1_21)
@[go_sem] theorem c_pair_Parts_1_22_at (rd : Option Nat) (K : Post3) (t : Fr) (m : Mem) : wpM E 65 71 rd c_pair_Parts_1_22 K t m = wpM E 65 71 rd (.seq (.ops [⟨(some 2), .box 81 (.tmp 0), none⟩]) c_pair_Parts_1_21) K t m := rfl

@[go_sem] theorem some65 : (E.fn 65).isSome = true := by kernel_rfl
set_option maxRecDepth 100000 in
theorem fn_pair_Parts_1 : FnIs E 65 71 [] c_pair_Parts_1_22 := ⟨by kernel_rfl, by kernel_rfl⟩

/-! sheaf/pair.Parts$1$1 -/
abbrev F_pair_Parts_1_1 : FuncId := 66
def c_pair_Parts_1_1_0 : MC := (.seq (.ops [⟨(some 2), .assign (.const (.bool true)), none⟩]) .ret)
@[go_sem] theorem c_pair_Parts_1_1_0_at (rd : Option Nat) (K : Post3) (t : Fr) (m : Mem) : wpM E 66 29 rd c_pair_Parts_1_1_0 K t m = wpM E 66 29 rd (.seq (.ops [⟨(some 2), .assign (.const (.bool true)), none⟩]) .ret) K t m := rfl

def c_pair_Parts_1_1_1 : MC := (.cond (.tmp 8) c_pair_Parts_1_1_0 .skip)
@[go_sem] theorem c_pair_Parts_1_1_1_at (rd : Option Nat) (K : Post3) (t : Fr) (m : Mem) : wpM E 66 29 rd c_pair_Parts_1_1_1 K t m = wpM E 66 29 rd (.cond (.tmp 8) c_pair_Parts_1_1_0 .skip) K t m := rfl

def c_pair_Parts_1_1_2 : MC := (.seq (.ops [⟨(some 7), .load 104 (.tmp 0), none⟩,
    ⟨(some 8), .binOp .eql 104 (.tmp 7) (.const (.pointer none)) 104, none⟩]) c_pair_Parts_1_1_1)
@[go_sem] theorem c_pair_Parts_1_1_2_at (rd : Option Nat) (K : Post3) (t : Fr) (m : Mem) : wpM E 66 29 rd c_pair_Parts_1_1_2 K t m = wpM E 66 29 rd (.seq (.ops [⟨(some 7), .load 104 (.tmp 0), none⟩,
    ⟨(some 8), .binOp .eql 104 (.tmp 7) (.const (.pointer none)) 104, none⟩]) c_pair_Parts_1_1_1) K t m := rfl

def c_pair_Parts_1_1_3 : MC := (.seq (.ops [⟨(some 2), .assign (.const (.bool false)), none⟩]) .ret)
@[go_sem] theorem c_pair_Parts_1_1_3_at (rd : Option Nat) (K : Post3) (t : Fr) (m : Mem) : wpM E 66 29 rd c_pair_Parts_1_1_3 K t m = wpM E 66 29 rd (.seq (.ops [⟨(some 2), .assign (.const (.bool false)), none⟩]) .ret) K t m := rfl

def c_pair_Parts_1_1_4 : MC := (.seq (.ops [⟨(some 16), .load 81 (.tmp 1), none⟩,
    ⟨(some 17), .call ⟨.value (.tmp 16), #[(.const (.slice none 0 0)), (.const (.bool false))], #[22, 4]⟩, none⟩]) c_pair_Parts_1_1_3)
@[go_sem] theorem c_pair_Parts_1_1_4_at (rd : Option Nat) (K : Post3) (t : Fr) (m : Mem) : wpM E 66 29 rd c_pair_Parts_1_1_4 K t m = wpM E 66 29 rd (.seq (.ops [⟨(some 16), .load 81 (.tmp 1), none⟩,
    ⟨(some 17), .call ⟨.value (.tmp 16), #[(.const (.slice none 0 0)), (.const (.bool false))], #[22, 4]⟩, none⟩]) c_pair_Parts_1_1_3) K t m := rfl

def c_pair_Parts_1_1_5 : MC := (.cond (.tmp 15) c_pair_Parts_1_1_4 .skip)
@[go_sem] theorem c_pair_Parts_1_1_5_at (rd : Option Nat) (K : Post3) (t : Fr) (m : Mem) : wpM E 66 29 rd c_pair_Parts_1_1_5 K t m = wpM E 66 29 rd (.cond (.tmp 15) c_pair_Parts_1_1_4 .skip) K t m := rfl

def c_pair_Parts_1_1_6 : MC := (.seq (.ops [⟨(some 14), .move (.tmp 4), none⟩,
    ⟨(some 15), .unOp .not 4 (.tmp 14), none⟩]) c_pair_Parts_1_1_5)
@[go_sem] theorem c_pair_Parts_1_1_6_at (rd : Option Nat) (K : Post3) (t : Fr) (m : Mem) : wpM E 66 29 rd c_pair_Parts_1_1_6 K t m = wpM E 66 29 rd (.seq (.ops [⟨(some 14), .move (.tmp 4), none⟩,
    ⟨(some 15), .unOp .not 4 (.tmp 14), none⟩]) c_pair_Parts_1_1_5) K t m := rfl

def c_pair_Parts_1_1_7 : MC := (.cond (.tmp 21) .skip (.exit 0))
@[go_sem] theorem c_pair_Parts_1_1_7_at (rd : Option Nat) (K : Post3) (t : Fr) (m : Mem) : wpM E 66 29 rd c_pair_Parts_1_1_7 K t m = wpM E 66 29 rd (.cond (.tmp 21) .skip (.exit 0)) K t m := rfl

def c_pair_Parts_1_1_8 : MC := (.seq (.ops [⟨(some 2), .assign (.const (.bool false)), none⟩]) .ret)
@[go_sem] theorem c_pair_Parts_1_1_8_at (rd : Option Nat) (K : Post3) (t : Fr) (m : Mem) : wpM E 66 29 rd c_pair_Parts_1_1_8 K t m = wpM E 66 29 rd (.seq (.ops [⟨(some 2), .assign (.const (.bool false)), none⟩]) .ret) K t m := rfl

def c_pair_Parts_1_1_9 : MC := (.cond (.tmp 27) c_pair_Parts_1_1_8 .skip)
@[go_sem] theorem c_pair_Parts_1_1_9_at (rd : Option Nat) (K : Post3) (t : Fr) (m : Mem) : wpM E 66 29 rd c_pair_Parts_1_1_9 K t m = wpM E 66 29 rd (.cond (.tmp 27) c_pair_Parts_1_1_8 .skip) K t m := rfl

def c_pair_Parts_1_1_10 : MC := (.seq (.ops [⟨(some 24), .load 81 (.tmp 1), none⟩,
    ⟨(some 25), .move (.tmp 6), none⟩,
    ⟨(some 26), .call ⟨.value (.tmp 24), #[(.tmp 25), (.const (.bool true))], #[22, 4]⟩, none⟩,
    ⟨(some 27), .unOp .not 4 (.tmp 26), none⟩]) c_pair_Parts_1_1_9)
@[go_sem] theorem c_pair_Parts_1_1_10_at (rd : Option Nat) (K : Post3) (t : Fr) (m : Mem) : wpM E 66 29 rd c_pair_Parts_1_1_10 K t m = wpM E 66 29 rd (.seq (.ops [⟨(some 24), .load 81 (.tmp 1), none⟩,
    ⟨(some 25), .move (.tmp 6), none⟩,
    ⟨(some 26), .call ⟨.value (.tmp 24), #[(.tmp 25), (.const (.bool true))], #[22, 4]⟩, none⟩,
    ⟨(some 27), .unOp .not 4 (.tmp 26), none⟩]) c_pair_Parts_1_1_9) K t m := rfl

def c_pair_Parts_1_1_11 : MC := (.seq (.ops [⟨(some 22), .indexAddr 40 (.tmp 18) (.tmp 20), none⟩,
    ⟨(some 23), .load 22 (.tmp 22), none⟩,
    ⟨(some 6), .assign (.tmp 23), none⟩]) c_pair_Parts_1_1_10)
@[go_sem] theorem c_pair_Parts_1_1_11_at (rd : Option Nat) (K : Post3) (t : Fr) (m : Mem) : wpM E 66 29 rd c_pair_Parts_1_1_11 K t m = wpM E 66 29 rd (.seq (.ops [⟨(some 22), .indexAddr 40 (.tmp 18) (.tmp 20), none⟩,
    ⟨(some 23), .load 22 (.tmp 22), none⟩,
    ⟨(some 6), .assign (.tmp 23), none⟩]) c_pair_Parts_1_1_10) K t m := rfl

def c_pair_Parts_1_1_12 : MC := (.block 1 c_pair_Parts_1_1_11)
@[go_sem] theorem c_pair_Parts_1_1_12_at (rd : Option Nat) (K : Post3) (t : Fr) (m : Mem) : wpM E 66 29 rd c_pair_Parts_1_1_12 K t m = wpM E 66 29 rd (.block 1 c_pair_Parts_1_1_11) K t m := rfl

def c_pair_Parts_1_1_13 : MC := (.seq c_pair_Parts_1_1_12 (.ops [⟨(some 28), .binOp .add 3 (.tmp 20) (.const (.int .i64 1)) 3, none⟩,
    ⟨(some 20), .move (.tmp 28), none⟩]))
@[go_sem] theorem c_pair_Parts_1_1_13_at (rd : Option Nat) (K : Post3) (t : Fr) (m : Mem) : wpM E 66 29 rd c_pair_Parts_1_1_13 K t m = wpM E 66 29 rd (.seq c_pair_Parts_1_1_12 (.ops [⟨(some 28), .binOp .add 3 (.tmp 20) (.const (.int .i64 1)) 3, none⟩,
    ⟨(some 20), .move (.tmp 28), none⟩])) K t m := rfl

def c_pair_Parts_1_1_14 : MC := (.seq c_pair_Parts_1_1_7 c_pair_Parts_1_1_13)
@[go_sem] theorem c_pair_Parts_1_1_14_at (rd : Option Nat) (K : Post3) (t : Fr) (m : Mem) : wpM E 66 29 rd c_pair_Parts_1_1_14 K t m = wpM E 66 29 rd (.seq c_pair_Parts_1_1_7 c_pair_Parts_1_1_13) K t m := rfl

def c_pair_Parts_1_1_15 : MC := (.seq (.ops [⟨(some 21), .binOp .lss 3 (.tmp 20) (.tmp 19) 3, none⟩]) c_pair_Parts_1_1_14)
@[go_sem] theorem c_pair_Parts_1_1_15_at (rd : Option Nat) (K : Post3) (t : Fr) (m : Mem) : wpM E 66 29 rd c_pair_Parts_1_1_15 K t m = wpM E 66 29 rd (.seq (.ops [⟨(some 21), .binOp .lss 3 (.tmp 20) (.tmp 19) 3, none⟩]) c_pair_Parts_1_1_14) K t m := rfl

def c_pair_Parts_1_1_16 : MC := (.loop c_pair_Parts_1_1_15)
theorem c_pair_Parts_1_1_16_at (rd : Option Nat) (K : Post3) (t : Fr) (m : Mem) : wpM E 66 29 rd c_pair_Parts_1_1_16 K t m = wpM E 66 29 rd (.loop c_pair_Parts_1_1_15) K t m := rfl

def c_pair_Parts_1_1_17 : MC := (.block 0 c_pair_Parts_1_1_16)
theorem c_pair_Parts_1_1_17_at (rd : Option Nat) (K : Post3) (t : Fr) (m : Mem) : wpM E 66 29 rd c_pair_Parts_1_1_17 K t m = wpM E 66 29 rd (.block 0 c_pair_Parts_1_1_16) K t m := rfl

def c_pair_Parts_1_1_18 : MC := (.seq (.ops [⟨(some 18), .move (.tmp 3), none⟩,
    ⟨(some 19), .call ⟨.builtin .len, #[(.tmp 18)], #[40]⟩, none⟩,
    ⟨(some 20), .move (.const (.int .i64 0)), none⟩]) c_pair_Parts_1_1_17)
@[go_sem] theorem c_pair_Parts_1_1_18_at (rd : Option Nat) (K : Post3) (t : Fr) (m : Mem) : wpM E 66 29 rd c_pair_Parts_1_1_18 K t m = wpM E 66 29 rd (.seq (.ops [⟨(some 18), .move (.tmp 3), none⟩,
    ⟨(some 19), .call ⟨.builtin .len, #[(.tmp 18)], #[40]⟩, none⟩,
    ⟨(some 20), .move (.const (.int .i64 0)), none⟩]) c_pair_Parts_1_1_17) K t m := rfl

def c_pair_Parts_1_1_19 : MC := (.seq (.ops [⟨(some 2), .assign (.const (.bool true)), none⟩]) .ret)
@[go_sem] theorem c_pair_Parts_1_1_19_at (rd : Option Nat) (K : Post3) (t : Fr) (m : Mem) : wpM E 66 29 rd c_pair_Parts_1_1_19 K t m = wpM E 66 29 rd (.seq (.ops [⟨(some 2), .assign (.const (.bool true)), none⟩]) .ret) K t m := rfl

def c_pair_Parts_1_1_20 : MC := (.seq c_pair_Parts_1_1_18 c_pair_Parts_1_1_19)
@[go_sem] theorem c_pair_Parts_1_1_20_at (rd : Option Nat) (K : Post3) (t : Fr) (m : Mem) : wpM E 66 29 rd c_pair_Parts_1_1_20 K t m = wpM E 66 29 rd (.seq c_pair_Parts_1_1_18 c_pair_Parts_1_1_19) K t m := rfl

def c_pair_Parts_1_1_21 : MC := (.seq c_pair_Parts_1_1_6 c_pair_Parts_1_1_20)
@[go_sem] theorem c_pair_Parts_1_1_21_at (rd : Option Nat) (K : Post3) (t : Fr) (m : Mem) : wpM E 66 29 rd c_pair_Parts_1_1_21 K t m = wpM E 66 29 rd (.seq c_pair_Parts_1_1_6 c_pair_Parts_1_1_20) K t m := rfl

def c_pair_Parts_1_1_22 : MC := (.seq (.ops [⟨none, .store 104 (.tmp 0) (.const (.pointer none)), none⟩]) c_pair_Parts_1_1_21)
@[go_sem] theorem c_pair_Parts_1_1_22_at (rd : Option Nat) (K : Post3) (t : Fr) (m : Mem) : wpM E 66 29 rd c_pair_Parts_1_1_22 K t m = wpM E 66 29 rd (.seq (.ops [⟨none, .store 104 (.tmp 0) (.const (.pointer none)), none⟩]) c_pair_Parts_1_1_21) K t m := rfl

def c_pair_Parts_1_1_23 : MC := (.seq (.ops [⟨(some 10), .load 104 (.tmp 0), none⟩,
    ⟨(some 11), .call ⟨.value (.func 67), #[(.tmp 10)], #[104]⟩, none⟩,
    ⟨(some 9), .move (.tmp 11), none⟩,
    ⟨(some 12), .extract (.tmp 9) 0, none⟩,
    ⟨(some 13), .extract (.tmp 9) 1, none⟩,
    ⟨(some 3), .assign (.tmp 12), none⟩,
    ⟨(some 4), .assign (.tmp 13), none⟩]) c_pair_Parts_1_1_22)
@[go_sem] theorem c_pair_Parts_1_1_23_at (rd : Option Nat) (K : Post3) (t : Fr) (m : Mem) : wpM E 66 29 rd c_pair_Parts_1_1_23 K t m = wpM E 66 29 rd (.seq (.ops [⟨(some 10), .load 104 (.tmp 0), none⟩,
    ⟨(some 11), .call ⟨.value (.func 67), #[(.tmp 10)], #[104]⟩, none⟩,
    ⟨(some 9), .move (.tmp 11), none⟩,
    ⟨(some 12), .extract (.tmp 9) 0, none⟩,
    ⟨(some 13), .extract (.tmp 9) 1, none⟩,
    ⟨(some 3), .assign (.tmp 12), none⟩,
    ⟨(some 4), .assign (.tmp 13), none⟩]) c_pair_Parts_1_1_22) K t m := rfl

def c_pair_Parts_1_1_24 : MC := (.seq c_pair_Parts_1_1_2 c_pair_Parts_1_1_23)
@[go_sem] theorem c_pair_Parts_1_1_24_at (rd : Option Nat) (K : Post3) (t : Fr) (m : Mem) : wpM E 66 29 rd c_pair_Parts_1_1_24 K t m = wpM E 66 29 rd (.seq c_pair_Parts_1_1_2 c_pair_Parts_1_1_23) K t m := rfl

def c_pair_Parts_1_1_25 : MC := (.seq (.ops [⟨(some 2), .assign (.const (.bool false)), none⟩]) c_pair_Parts_1_1_24)
@[go_sem] theorem c_pair_Parts_1_1_25_at (rd : Option Nat) (K : Post3) (t : Fr) (m : Mem) : wpM E 66 29 rd c_pair_Parts_1_1_25 K t m = wpM E 66 29 rd (.seq (.ops [⟨(some 2), .assign (.const (.bool false)), none⟩]) c_pair_Parts_1_1_24) K t m := rfl

@[go_sem] theorem some66 : (E.fn 66).isSome = true := by kernel_rfl
set_option maxRecDepth 100000 in
theorem fn_pair_Parts_1_1 : FnIs E 66 29 [.tmp 2] c_pair_Parts_1_1_25 := ⟨by kernel_rfl, by kernel_rfl⟩

/-! (*sheaf/pair.both).rows -/
abbrev F_pair_both_rows : FuncId := 67
def c_pair_both_rows_0 : MC := (.seq (.ops [⟨(some 2), .assign (.const (.slice none 0 0)), none⟩,
    ⟨(some 3), .assign (.const (.bool false)), none⟩]) .ret)
@[go_sem] theorem c_pair_both_rows_0_at (rd : Option Nat) (K : Post3) (t : Fr) (m : Mem) : wpM E 67 96 rd c_pair_both_rows_0 K t m = wpM E 67 96 rd (.seq (.ops [⟨(some 2), .assign (.const (.slice none 0 0)), none⟩,
    ⟨(some 3), .assign (.const (.bool false)), none⟩]) .ret) K t m := rfl

def c_pair_both_rows_1 : MC := (.cond (.tmp 40) c_pair_both_rows_0 .skip)
@[go_sem] theorem c_pair_both_rows_1_at (rd : Option Nat) (K : Post3) (t : Fr) (m : Mem) : wpM E 67 96 rd c_pair_both_rows_1 K t m = wpM E 67 96 rd (.cond (.tmp 40) c_pair_both_rows_0 .skip) K t m := rfl

def c_pair_both_rows_2 : MC := (.seq (.ops [⟨(some 35), .move (.tmp 7), none⟩,
    ⟨(some 36), .unOp .not 4 (.tmp 35), none⟩,
    ⟨(some 37), .move (.tmp 36), none⟩,
    ⟨(some 38), .move (.tmp 9), (some (some 37, false))⟩,
    ⟨(some 39), .unOp .not 4 (.tmp 38), (some (some 37, false))⟩,
    ⟨(some 40), .pick (.tmp 37) (.const (.bool true)) (.tmp 39), none⟩]) c_pair_both_rows_1)
@[go_sem] theorem c_pair_both_rows_2_at (rd : Option Nat) (K : Post3) (t : Fr) (m : Mem) : wpM E 67 96 rd c_pair_both_rows_2 K t m = wpM E 67 96 rd (.seq (.ops [⟨(some 35), .move (.tmp 7), none⟩,
    ⟨(some 36), .unOp .not 4 (.tmp 35), none⟩,
    ⟨(some 37), .move (.tmp 36), none⟩,
    ⟨(some 38), .move (.tmp 9), (some (some 37, false))⟩,
    ⟨(some 39), .unOp .not 4 (.tmp 38), (some (some 37, false))⟩,
    ⟨(some 40), .pick (.tmp 37) (.const (.bool true)) (.tmp 39), none⟩]) c_pair_both_rows_1) K t m := rfl

def c_pair_both_rows_3 : MC := (.cond (.tmp 46) (.ops [⟨(some 47), .move (.tmp 10), none⟩,
    ⟨(some 48), .move (.tmp 0), none⟩,
    ⟨(some 49), .nilCheck (.tmp 48), none⟩,
    ⟨(some 50), .fieldAddr 109 (.tmp 49) 1, none⟩,
    ⟨(some 51), .fieldAddr 107 (.tmp 50) 0, none⟩,
    ⟨(some 52), .load 3 (.tmp 51), none⟩,
    ⟨(some 53), .move (.tmp 0), none⟩,
    ⟨(some 54), .nilCheck (.tmp 53), none⟩,
    ⟨(some 55), .fieldAddr 109 (.tmp 54) 1, none⟩,
    ⟨(some 56), .fieldAddr 107 (.tmp 55) 1, none⟩,
    ⟨(some 57), .load 3 (.tmp 56), none⟩,
    ⟨(some 58), .move (.tmp 0), none⟩,
    ⟨(some 59), .nilCheck (.tmp 58), none⟩,
    ⟨(some 60), .fieldAddr 109 (.tmp 59) 0, none⟩,
    ⟨(some 61), .load 22 (.tmp 60), none⟩,
    ⟨(some 62), .indexAddr 22 (.tmp 61) (.const (.int .i64 2)), none⟩,
    ⟨(some 63), .load 3 (.tmp 62), none⟩,
    ⟨(some 64), .move (.tmp 6), none⟩,
    ⟨(some 65), .buildSlice 22 4 #[(0, (.tmp 52)), (1, (.tmp 57)), (2, (.tmp 63)), (3, (.tmp 64))], none⟩,
    ⟨(some 66), .buildSlice 40 1 #[(0, (.tmp 65))], none⟩,
    ⟨(some 67), .call ⟨.builtin .append, #[(.tmp 47), (.tmp 66)], #[40, 40]⟩, none⟩,
    ⟨(some 10), .assign (.tmp 67), none⟩]) .skip)
@[go_sem] theorem c_pair_both_rows_3_at (rd : Option Nat) (K : Post3) (t : Fr) (m : Mem) : wpM E 67 96 rd c_pair_both_rows_3 K t m = wpM E 67 96 rd (.cond (.tmp 46) (.ops [⟨(some 47), .move (.tmp 10), none⟩,
    ⟨(some 48), .move (.tmp 0), none⟩,
    ⟨(some 49), .nilCheck (.tmp 48), none⟩,
    ⟨(some 50), .fieldAddr 109 (.tmp 49) 1, none⟩,
    ⟨(some 51), .fieldAddr 107 (.tmp 50) 0, none⟩,
    ⟨(some 52), .load 3 (.tmp 51), none⟩,
    ⟨(some 53), .move (.tmp 0), none⟩,
    ⟨(some 54), .nilCheck (.tmp 53), none⟩,
    ⟨(some 55), .fieldAddr 109 (.tmp 54) 1, none⟩,
    ⟨(some 56), .fieldAddr 107 (.tmp 55) 1, none⟩,
    ⟨(some 57), .load 3 (.tmp 56), none⟩,
    ⟨(some 58), .move (.tmp 0), none⟩,
    ⟨(some 59), .nilCheck (.tmp 58), none⟩,
    ⟨(some 60), .fieldAddr 109 (.tmp 59) 0, none⟩,
    ⟨(some 61), .load 22 (.tmp 60), none⟩,
    ⟨(some 62), .indexAddr 22 (.tmp 61) (.const (.int .i64 2)), none⟩,
    ⟨(some 63), .load 3 (.tmp 62), none⟩,
    ⟨(some 64), .move (.tmp 6), none⟩,
    ⟨(some 65), .buildSlice 22 4 #[(0, (.tmp 52)), (1, (.tmp 57)), (2, (.tmp 63)), (3, (.tmp 64))], none⟩,
    ⟨(some 66), .buildSlice 40 1 #[(0, (.tmp 65))], none⟩,
    ⟨(some 67), .call ⟨.builtin .append, #[(.tmp 47), (.tmp 66)], #[40, 40]⟩, none⟩,
    ⟨(some 10), .assign (.tmp 67), none⟩]) .skip) K t m := rfl

def c_pair_both_rows_4 : MC := (.seq (.ops [⟨(some 41), .move (.tmp 0), none⟩,
    ⟨(some 42), .nilCheck (.tmp 41), none⟩,
    ⟨(some 43), .fieldAddr 109 (.tmp 42) 1, none⟩,
    ⟨(some 44), .fieldAddr 107 (.tmp 43) 3, none⟩,
    ⟨(some 45), .load 3 (.tmp 44), none⟩,
    ⟨(some 46), .binOp .gtr 3 (.tmp 45) (.const (.int .i64 0)) 3, none⟩]) c_pair_both_rows_3)
@[go_sem] theorem c_pair_both_rows_4_at (rd : Option Nat) (K : Post3) (t : Fr) (m : Mem) : wpM E 67 96 rd c_pair_both_rows_4 K t m = wpM E 67 96 rd (.seq (.ops [⟨(some 41), .move (.tmp 0), none⟩,
    ⟨(some 42), .nilCheck (.tmp 41), none⟩,
    ⟨(some 43), .fieldAddr 109 (.tmp 42) 1, none⟩,
    ⟨(some 44), .fieldAddr 107 (.tmp 43) 3, none⟩,
    ⟨(some 45), .load 3 (.tmp 44), none⟩,
    ⟨(some 46), .binOp .gtr 3 (.tmp 45) (.const (.int .i64 0)) 3, none⟩]) c_pair_both_rows_3) K t m := rfl

def c_pair_both_rows_5 : MC := (.cond (.tmp 73) (.ops [⟨(some 74), .move (.tmp 10), none⟩,
    ⟨(some 75), .move (.tmp 0), none⟩,
    ⟨(some 76), .nilCheck (.tmp 75), none⟩,
    ⟨(some 77), .fieldAddr 109 (.tmp 76) 2, none⟩,
    ⟨(some 78), .fieldAddr 107 (.tmp 77) 0, none⟩,
    ⟨(some 79), .load 3 (.tmp 78), none⟩,
    ⟨(some 80), .move (.tmp 0), none⟩,
    ⟨(some 81), .nilCheck (.tmp 80), none⟩,
    ⟨(some 82), .fieldAddr 109 (.tmp 81) 2, none⟩,
    ⟨(some 83), .fieldAddr 107 (.tmp 82) 1, none⟩,
    ⟨(some 84), .load 3 (.tmp 83), none⟩,
    ⟨(some 85), .move (.tmp 0), none⟩,
    ⟨(some 86), .nilCheck (.tmp 85), none⟩,
    ⟨(some 87), .fieldAddr 109 (.tmp 86) 0, none⟩,
    ⟨(some 88), .load 22 (.tmp 87), none⟩,
    ⟨(some 89), .indexAddr 22 (.tmp 88) (.const (.int .i64 2)), none⟩,
    ⟨(some 90), .load 3 (.tmp 89), none⟩,
    ⟨(some 91), .move (.tmp 8), none⟩,
    ⟨(some 92), .buildSlice 22 4 #[(0, (.tmp 79)), (1, (.tmp 84)), (2, (.tmp 90)), (3, (.tmp 91))], none⟩,
    ⟨(some 93), .buildSlice 40 1 #[(0, (.tmp 92))], none⟩,
    ⟨(some 94), .call ⟨.builtin .append, #[(.tmp 74), (.tmp 93)], #[40, 40]⟩, none⟩,
    ⟨(some 10), .assign (.tmp 94), none⟩]) .skip)
@[go_sem] theorem c_pair_both_rows_5_at (rd : Option Nat) (K : Post3) (t : Fr) (m : Mem) : wpM E 67 96 rd c_pair_both_rows_5 K t m = wpM E 67 96 rd (.cond (.tmp 73) (.ops [⟨(some 74), .move (.tmp 10), none⟩,
    ⟨(some 75), .move (.tmp 0), none⟩,
    ⟨(some 76), .nilCheck (.tmp 75), none⟩,
    ⟨(some 77), .fieldAddr 109 (.tmp 76) 2, none⟩,
    ⟨(some 78), .fieldAddr 107 (.tmp 77) 0, none⟩,
    ⟨(some 79), .load 3 (.tmp 78), none⟩,
    ⟨(some 80), .move (.tmp 0), none⟩,
    ⟨(some 81), .nilCheck (.tmp 80), none⟩,
    ⟨(some 82), .fieldAddr 109 (.tmp 81) 2, none⟩,
    ⟨(some 83), .fieldAddr 107 (.tmp 82) 1, none⟩,
    ⟨(some 84), .load 3 (.tmp 83), none⟩,
    ⟨(some 85), .move (.tmp 0), none⟩,
    ⟨(some 86), .nilCheck (.tmp 85), none⟩,
    ⟨(some 87), .fieldAddr 109 (.tmp 86) 0, none⟩,
    ⟨(some 88), .load 22 (.tmp 87), none⟩,
    ⟨(some 89), .indexAddr 22 (.tmp 88) (.const (.int .i64 2)), none⟩,
    ⟨(some 90), .load 3 (.tmp 89), none⟩,
    ⟨(some 91), .move (.tmp 8), none⟩,
    ⟨(some 92), .buildSlice 22 4 #[(0, (.tmp 79)), (1, (.tmp 84)), (2, (.tmp 90)), (3, (.tmp 91))], none⟩,
    ⟨(some 93), .buildSlice 40 1 #[(0, (.tmp 92))], none⟩,
    ⟨(some 94), .call ⟨.builtin .append, #[(.tmp 74), (.tmp 93)], #[40, 40]⟩, none⟩,
    ⟨(some 10), .assign (.tmp 94), none⟩]) .skip) K t m := rfl

def c_pair_both_rows_6 : MC := (.seq (.ops [⟨(some 68), .move (.tmp 0), none⟩,
    ⟨(some 69), .nilCheck (.tmp 68), none⟩,
    ⟨(some 70), .fieldAddr 109 (.tmp 69) 2, none⟩,
    ⟨(some 71), .fieldAddr 107 (.tmp 70) 3, none⟩,
    ⟨(some 72), .load 3 (.tmp 71), none⟩,
    ⟨(some 73), .binOp .gtr 3 (.tmp 72) (.const (.int .i64 0)) 3, none⟩]) c_pair_both_rows_5)
@[go_sem] theorem c_pair_both_rows_6_at (rd : Option Nat) (K : Post3) (t : Fr) (m : Mem) : wpM E 67 96 rd c_pair_both_rows_6 K t m = wpM E 67 96 rd (.seq (.ops [⟨(some 68), .move (.tmp 0), none⟩,
    ⟨(some 69), .nilCheck (.tmp 68), none⟩,
    ⟨(some 70), .fieldAddr 109 (.tmp 69) 2, none⟩,
    ⟨(some 71), .fieldAddr 107 (.tmp 70) 3, none⟩,
    ⟨(some 72), .load 3 (.tmp 71), none⟩,
    ⟨(some 73), .binOp .gtr 3 (.tmp 72) (.const (.int .i64 0)) 3, none⟩]) c_pair_both_rows_5) K t m := rfl

def c_pair_both_rows_7 : MC := (.seq (.ops [⟨(some 95), .move (.tmp 10), none⟩,
    ⟨(some 2), .assign (.tmp 95), none⟩,
    ⟨(some 3), .assign (.const (.bool true)), none⟩]) .ret)
@[go_sem] theorem c_pair_both_rows_7_at (rd : Option Nat) (K : Post3) (t : Fr) (m : Mem) : wpM E 67 96 rd c_pair_both_rows_7 K t m = wpM E 67 96 rd (.seq (.ops [⟨(some 95), .move (.tmp 10), none⟩,
    ⟨(some 2), .assign (.tmp 95), none⟩,
    ⟨(some 3), .assign (.const (.bool true)), none⟩]) .ret) K t m := rfl

def c_pair_both_rows_8 : MC := (.seq c_pair_both_rows_6 c_pair_both_rows_7)
@[go_sem] theorem c_pair_both_rows_8_at (rd : Option Nat) (K : Post3) (t : Fr) (m : Mem) : wpM E 67 96 rd c_pair_both_rows_8 K t m = wpM E 67 96 rd (.seq c_pair_both_rows_6 c_pair_both_rows_7) K t m := rfl

def c_pair_both_rows_9 : MC := (.seq c_pair_both_rows_4 c_pair_both_rows_8)
@[go_sem] theorem c_pair_both_rows_9_at (rd : Option Nat) (K : Post3) (t : Fr) (m : Mem) : wpM E 67 96 rd c_pair_both_rows_9 K t m = wpM E 67 96 rd (.seq c_pair_both_rows_4 c_pair_both_rows_8) K t m := rfl

def c_pair_both_rows_10 : MC := (.seq (.ops [⟨(some 10), .assign (.const (.slice none 0 0)), none⟩]) c_pair_both_rows_9)
@[go_sem] theorem c_pair_both_rows_10_at (rd : Option Nat) (K : Post3) (t : Fr) (m : Mem) : wpM E 67 96 rd c_pair_both_rows_10 K t m = wpM E 67 96 rd (.seq (.ops [⟨(some 10), .assign (.const (.slice none 0 0)), none⟩]) c_pair_both_rows_9) K t m := rfl

def c_pair_both_rows_11 : MC := (.seq c_pair_both_rows_2 c_pair_both_rows_10)
@[go_sem] theorem c_pair_both_rows_11_at (rd : Option Nat) (K : Post3) (t : Fr) (m : Mem) : wpM E 67 96 rd c_pair_both_rows_11 K t m = wpM E 67 96 rd (.seq c_pair_both_rows_2 c_pair_both_rows_10) K t m := rfl

def c_pair_both_rows_12 : MC := (.seq (.ops [⟨(some 31), .load 27 (.tmp 5), none⟩,
    ⟨(some 32), .call ⟨.value (.func 17), #[(.tmp 31)], #[27]⟩, none⟩,
    ⟨(some 30), .move (.tmp 32), none⟩,
    ⟨(some 33), .extract (.tmp 30) 0, none⟩,
    ⟨(some 34), .extract (.tmp 30) 1, none⟩,
    ⟨(some 8), .assign (.tmp 33), none⟩,
    ⟨(some 9), .assign (.tmp 34), none⟩]) c_pair_both_rows_11)
@[go_sem] theorem c_pair_both_rows_12_at (rd : Option Nat) (K : Post3) (t : Fr) (m : Mem) : wpM E 67 96 rd c_pair_both_rows_12 K t m = wpM E 67 96 rd (.seq (.ops [⟨(some 31), .load 27 (.tmp 5), none⟩,
    ⟨(some 32), .call ⟨.value (.func 17), #[(.tmp 31)], #[27]⟩, none⟩,
    ⟨(some 30), .move (.tmp 32), none⟩,
    ⟨(some 33), .extract (.tmp 30) 0, none⟩,
    ⟨(some 34), .extract (.tmp 30) 1, none⟩,
    ⟨(some 8), .assign (.tmp 33), none⟩,
    ⟨(some 9), .assign (.tmp 34), none⟩]) c_pair_both_rows_11) K t m := rfl

def c_pair_both_rows_13 : MC := (.seq (.ops [⟨(some 26), .load 27 (.tmp 4), none⟩,
    ⟨(some 27), .call ⟨.value (.func 17), #[(.tmp 26)], #[27]⟩, none⟩,
    ⟨(some 25), .move (.tmp 27), none⟩,
    ⟨(some 28), .extract (.tmp 25) 0, none⟩,
    ⟨(some 29), .extract (.tmp 25) 1, none⟩,
    ⟨(some 6), .assign (.tmp 28), none⟩,
    ⟨(some 7), .assign (.tmp 29), none⟩]) c_pair_both_rows_12)
@[go_sem] theorem c_pair_both_rows_13_at (rd : Option Nat) (K : Post3) (t : Fr) (m : Mem) : wpM E 67 96 rd c_pair_both_rows_13 K t m = wpM E 67 96 rd (.seq (.ops [⟨(some 26), .load 27 (.tmp 4), none⟩,
    ⟨(some 27), .call ⟨.value (.func 17), #[(.tmp 26)], #[27]⟩, none⟩,
    ⟨(some 25), .move (.tmp 27), none⟩,
    ⟨(some 28), .extract (.tmp 25) 0, none⟩,
    ⟨(some 29), .extract (.tmp 25) 1, none⟩,
    ⟨(some 6), .assign (.tmp 28), none⟩,
    ⟨(some 7), .assign (.tmp 29), none⟩]) c_pair_both_rows_12) K t m := rfl

def c_pair_both_rows_14 : MC := (.seq (.ops [⟨(some 12), .move (.tmp 0), none⟩,
    ⟨(some 13), .nilCheck (.tmp 12), none⟩,
    ⟨(some 14), .fieldAddr 109 (.tmp 13) 1, none⟩,
    ⟨(some 15), .fieldAddr 107 (.tmp 14) 2, none⟩,
    ⟨(some 16), .call ⟨.value (.func 37), #[(.tmp 15)], #[71]⟩, none⟩,
    ⟨(some 17), .move (.tmp 0), none⟩,
    ⟨(some 18), .nilCheck (.tmp 17), none⟩,
    ⟨(some 19), .fieldAddr 109 (.tmp 18) 2, none⟩,
    ⟨(some 20), .fieldAddr 107 (.tmp 19) 2, none⟩,
    ⟨(some 21), .call ⟨.value (.func 37), #[(.tmp 20)], #[71]⟩, none⟩,
    ⟨(some 22), .call ⟨.value (.func 15), #[(.tmp 16), (.tmp 21)], #[27, 27]⟩, none⟩,
    ⟨(some 11), .move (.tmp 22), none⟩,
    ⟨(some 23), .extract (.tmp 11) 0, none⟩,
    ⟨(some 24), .extract (.tmp 11) 1, none⟩,
    ⟨(some 4), .alloc 27, none⟩,
    ⟨(some 5), .alloc 27, none⟩,
    ⟨none, .store 27 (.tmp 4) (.tmp 23), none⟩,
    ⟨none, .store 27 (.tmp 5) (.tmp 24), none⟩]) c_pair_both_rows_13)
@[go_sem] theorem c_pair_both_rows_14_at (rd : Option Nat) (K : Post3) (t : Fr) (m : Mem) : wpM E 67 96 rd c_pair_both_rows_14 K t m = wpM E 67 96 rd (.seq (.ops [⟨(some 12), .move (.tmp 0), none⟩,
    ⟨(some 13), .nilCheck (.tmp 12), none⟩,
    ⟨(some 14), .fieldAddr 109 (.tmp 13) 1, none⟩,
    ⟨(some 15), .fieldAddr 107 (.tmp 14) 2, none⟩,
    ⟨(some 16), .call ⟨.value (.func 37), #[(.tmp 15)], #[71]⟩, none⟩,
    ⟨(some 17), .move (.tmp 0), none⟩,
    ⟨(some 18), .nilCheck (.tmp 17), none⟩,
    ⟨(some 19), .fieldAddr 109 (.tmp 18) 2, none⟩,
    ⟨(some 20), .fieldAddr 107 (.tmp 19) 2, none⟩,
    ⟨(some 21), .call ⟨.value (.func 37), #[(.tmp 20)], #[71]⟩, none⟩,
    ⟨(some 22), .call ⟨.value (.func 15), #[(.tmp 16), (.tmp 21)], #[27, 27]⟩, none⟩,
    ⟨(some 11), .move (.tmp 22), none⟩,
    ⟨(some 23), .extract (.tmp 11) 0, none⟩,
    ⟨(some 24), .extract (.tmp 11) 1, none⟩,
    ⟨(some 4), .alloc 27, none⟩,
    ⟨(some 5), .alloc 27, none⟩,
    ⟨none, .store 27 (.tmp 4) (.tmp 23), none⟩,
    ⟨none, .store 27 (.tmp 5) (.tmp 24), none⟩]) c_pair_both_rows_13) K t m := rfl

def c_pair_both_rows_15 : MC := (.seq (.ops [⟨(some 2), .assign (.const (.slice none 0 0)), none⟩,
    ⟨(some 3), .assign (.const (.bool false)), none⟩]) c_pair_both_rows_14)
@[go_sem] theorem c_pair_both_rows_15_at (rd : Option Nat) (K : Post3) (t : Fr) (m : Mem) : wpM E 67 96 rd c_pair_both_rows_15 K t m = wpM E 67 96 rd (.seq (.ops [⟨(some 2), .assign (.const (.slice none 0 0)), none⟩,
    ⟨(some 3), .assign (.const (.bool false)), none⟩]) c_pair_both_rows_14) K t m := rfl

@[go_sem] theorem some67 : (E.fn 67).isSome = true := by kernel_rfl
set_option maxRecDepth 100000 in
theorem fn_pair_both_rows : FnIs E 67 96 [.tmp 2, .tmp 3] c_pair_both_rows_15 := ⟨by kernel_rfl, by kernel_rfl⟩

/-! (*sheaf/pair.side).add -/
abbrev F_pair_side_add : FuncId := 68
def c_pair_side_add_0 : MC := (.seq (.ops [⟨(some 14), .move (.tmp 0), none⟩,
    ⟨(some 15), .nilCheck (.tmp 14), none⟩,
    ⟨(some 16), .fieldAddr 107 (.tmp 15) 2, none⟩,
    ⟨(some 17), .move (.tmp 1), none⟩,
    ⟨(some 18), .call ⟨.value (.func 39), #[(.tmp 17), (.const (.int .i64 9))], #[22, 3]⟩, none⟩,
    ⟨(some 19), .call ⟨.value (.func 36), #[(.tmp 16), (.tmp 18)], #[71, 3]⟩, none⟩]) (.ops [⟨(some 20), .move (.tmp 0), none⟩,
    ⟨(some 21), .nilCheck (.tmp 20), none⟩,
    ⟨(some 22), .fieldAddr 107 (.tmp 21) 3, none⟩,
    ⟨(some 23), .load 3 (.tmp 22), none⟩,
    ⟨(some 24), .binOp .add 3 (.tmp 23) (.const (.int .i64 1)) 3, none⟩,
    ⟨(some 25), .nilCheck (.tmp 20), none⟩,
    ⟨(some 26), .fieldAddr 107 (.tmp 25) 3, none⟩,
    ⟨none, .store 3 (.tmp 26) (.tmp 24), none⟩]))
@[go_sem] theorem c_pair_side_add_0_at (rd : Option Nat) (K : Post3) (t : Fr) (m : Mem) : wpM E 68 27 rd c_pair_side_add_0 K t m = wpM E 68 27 rd (.seq (.ops [⟨(some 14), .move (.tmp 0), none⟩,
    ⟨(some 15), .nilCheck (.tmp 14), none⟩,
    ⟨(some 16), .fieldAddr 107 (.tmp 15) 2, none⟩,
    ⟨(some 17), .move (.tmp 1), none⟩,
    ⟨(some 18), .call ⟨.value (.func 39), #[(.tmp 17), (.const (.int .i64 9))], #[22, 3]⟩, none⟩,
    ⟨(some 19), .call ⟨.value (.func 36), #[(.tmp 16), (.tmp 18)], #[71, 3]⟩, none⟩]) (.ops [⟨(some 20), .move (.tmp 0), none⟩,
    ⟨(some 21), .nilCheck (.tmp 20), none⟩,
    ⟨(some 22), .fieldAddr 107 (.tmp 21) 3, none⟩,
    ⟨(some 23), .load 3 (.tmp 22), none⟩,
    ⟨(some 24), .binOp .add 3 (.tmp 23) (.const (.int .i64 1)) 3, none⟩,
    ⟨(some 25), .nilCheck (.tmp 20), none⟩,
    ⟨(some 26), .fieldAddr 107 (.tmp 25) 3, none⟩,
    ⟨none, .store 3 (.tmp 26) (.tmp 24), none⟩])) K t m := rfl

def c_pair_side_add_1 : MC := (.seq (.ops [⟨(some 4), .move (.tmp 0), none⟩,
    ⟨(some 5), .move (.tmp 0), none⟩,
    ⟨(some 6), .move (.tmp 1), none⟩,
    ⟨(some 7), .call ⟨.value (.func 39), #[(.tmp 6), (.const (.int .i64 1))], #[22, 3]⟩, none⟩,
    ⟨(some 8), .move (.tmp 1), none⟩,
    ⟨(some 9), .call ⟨.value (.func 39), #[(.tmp 8), (.const (.int .i64 7))], #[22, 3]⟩, none⟩,
    ⟨(some 10), .nilCheck (.tmp 4), none⟩,
    ⟨(some 11), .fieldAddr 107 (.tmp 10) 0, none⟩,
    ⟨none, .store 3 (.tmp 11) (.tmp 7), none⟩,
    ⟨(some 12), .nilCheck (.tmp 5), none⟩,
    ⟨(some 13), .fieldAddr 107 (.tmp 12) 1, none⟩,
    ⟨none, .store 3 (.tmp 13) (.tmp 9), none⟩]) c_pair_side_add_0)
@[go_sem] theorem c_pair_side_add_1_at (rd : Option Nat) (K : Post3) (t : Fr) (m : Mem) : wpM E 68 27 rd c_pair_side_add_1 K t m = wpM E 68 27 rd (.seq (.ops [⟨(some 4), .move (.tmp 0), none⟩,
    ⟨(some 5), .move (.tmp 0), none⟩,
    ⟨(some 6), .move (.tmp 1), none⟩,
    ⟨(some 7), .call ⟨.value (.func 39), #[(.tmp 6), (.const (.int .i64 1))], #[22, 3]⟩, none⟩,
    ⟨(some 8), .move (.tmp 1), none⟩,
    ⟨(some 9), .call ⟨.value (.func 39), #[(.tmp 8), (.const (.int .i64 7))], #[22, 3]⟩, none⟩,
    ⟨(some 10), .nilCheck (.tmp 4), none⟩,
    ⟨(some 11), .fieldAddr 107 (.tmp 10) 0, none⟩,
    ⟨none, .store 3 (.tmp 11) (.tmp 7), none⟩,
    ⟨(some 12), .nilCheck (.tmp 5), none⟩,
    ⟨(some 13), .fieldAddr 107 (.tmp 12) 1, none⟩,
    ⟨none, .store 3 (.tmp 13) (.tmp 9), none⟩]) c_pair_side_add_0) K t m := rfl

@[go_sem] theorem some68 : (E.fn 68).isSome = true := by kernel_rfl
set_option maxRecDepth 100000 in
theorem fn_pair_side_add : FnIs E 68 27 [] c_pair_side_add_1 := ⟨by kernel_rfl, by kernel_rfl⟩

end
end Go.Proofs.Ytjmppooebppecaa.W
