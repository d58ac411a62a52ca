/-
  Compact code, printed by a program of mine (wip/dev/AbsPrint.lean).
-/
import Derived.Test.YtkbjkmhmkefckaaTypes
set_option linter.unusedVariables false
namespace Go.Proofs.Ytkbjkmhmkefckaa.W
open Go.Abs

/-! sheaf/sheafbook.Same[byte] -/
abbrev F_sheafbook_Same_byte : FuncId := 11
def c_sheafbook_Same_byte_0 : MC := (.seq (.ops [⟨(some 4), .assign (.const (.bool false)), none⟩]) .ret)
@[go_sem] theorem c_sheafbook_Same_byte_0_at (rd : Option Nat) (K : Post3) (t : Fr) (m : Mem) : wpM E 11 26 rd c_sheafbook_Same_byte_0 K t m = wpM E 11 26 rd (.seq (.ops [⟨(some 4), .assign (.const (.bool false)), none⟩]) .ret) K t m := rfl

def c_sheafbook_Same_byte_1 : MC := (.cond (.tmp 10) c_sheafbook_Same_byte_0 .skip)
@[go_sem] theorem c_sheafbook_Same_byte_1_at (rd : Option Nat) (K : Post3) (t : Fr) (m : Mem) : wpM E 11 26 rd c_sheafbook_Same_byte_1 K t m = wpM E 11 26 rd (.cond (.tmp 10) c_sheafbook_Same_byte_0 .skip) K t m := rfl

def c_sheafbook_Same_byte_2 : MC := (.seq (.ops [⟨(some 6), .move (.tmp 0), none⟩,
    ⟨(some 7), .call ⟨.builtin .len, #[(.tmp 6)], #[22]⟩, none⟩,
    ⟨(some 8), .move (.tmp 1), none⟩,
    ⟨(some 9), .call ⟨.builtin .len, #[(.tmp 8)], #[22]⟩, none⟩,
    ⟨(some 10), .binOp .neq 3 (.tmp 7) (.tmp 9) 3, none⟩]) c_sheafbook_Same_byte_1)
@[go_sem] theorem c_sheafbook_Same_byte_2_at (rd : Option Nat) (K : Post3) (t : Fr) (m : Mem) : wpM E 11 26 rd c_sheafbook_Same_byte_2 K t m = wpM E 11 26 rd (.seq (.ops [⟨(some 6), .move (.tmp 0), none⟩,
    ⟨(some 7), .call ⟨.builtin .len, #[(.tmp 6)], #[22]⟩, none⟩,
    ⟨(some 8), .move (.tmp 1), none⟩,
    ⟨(some 9), .call ⟨.builtin .len, #[(.tmp 8)], #[22]⟩, none⟩,
    ⟨(some 10), .binOp .neq 3 (.tmp 7) (.tmp 9) 3, none⟩]) c_sheafbook_Same_byte_1) K t m := rfl

def c_sheafbook_Same_byte_3 : MC := (.cond (.tmp 14) .skip (.exit 0))
@[go_sem] theorem c_sheafbook_Same_byte_3_at (rd : Option Nat) (K : Post3) (t : Fr) (m : Mem) : wpM E 11 26 rd c_sheafbook_Same_byte_3 K t m = wpM E 11 26 rd (.cond (.tmp 14) .skip (.exit 0)) K t m := rfl

def c_sheafbook_Same_byte_4 : MC := (.seq (.ops [⟨(some 11), .move (.tmp 5), none⟩,
    ⟨(some 12), .move (.tmp 0), none⟩,
    ⟨(some 13), .call ⟨.builtin .len, #[(.tmp 12)], #[22]⟩, none⟩,
    ⟨(some 14), .binOp .lss 3 (.tmp 11) (.tmp 13) 3, none⟩]) c_sheafbook_Same_byte_3)
@[go_sem] theorem c_sheafbook_Same_byte_4_at (rd : Option Nat) (K : Post3) (t : Fr) (m : Mem) : wpM E 11 26 rd c_sheafbook_Same_byte_4 K t m = wpM E 11 26 rd (.seq (.ops [⟨(some 11), .move (.tmp 5), none⟩,
    ⟨(some 12), .move (.tmp 0), none⟩,
    ⟨(some 13), .call ⟨.builtin .len, #[(.tmp 12)], #[22]⟩, none⟩,
    ⟨(some 14), .binOp .lss 3 (.tmp 11) (.tmp 13) 3, none⟩]) c_sheafbook_Same_byte_3) K t m := rfl

def c_sheafbook_Same_byte_5 : MC := (.seq (.ops [⟨(some 4), .assign (.const (.bool false)), none⟩]) .ret)
@[go_sem] theorem c_sheafbook_Same_byte_5_at (rd : Option Nat) (K : Post3) (t : Fr) (m : Mem) : wpM E 11 26 rd c_sheafbook_Same_byte_5 K t m = wpM E 11 26 rd (.seq (.ops [⟨(some 4), .assign (.const (.bool false)), none⟩]) .ret) K t m := rfl

def c_sheafbook_Same_byte_6 : MC := (.cond (.tmp 25) c_sheafbook_Same_byte_5 .skip)
@[go_sem] theorem c_sheafbook_Same_byte_6_at (rd : Option Nat) (K : Post3) (t : Fr) (m : Mem) : wpM E 11 26 rd c_sheafbook_Same_byte_6 K t m = wpM E 11 26 rd (.cond (.tmp 25) c_sheafbook_Same_byte_5 .skip) K t m := rfl

def c_sheafbook_Same_byte_7 : MC := (.seq (.ops [⟨(some 17), .move (.tmp 0), none⟩,
    ⟨(some 18), .move (.tmp 5), none⟩,
    ⟨(some 19), .indexAddr 22 (.tmp 17) (.tmp 18), none⟩,
    ⟨(some 20), .load 5 (.tmp 19), none⟩,
    ⟨(some 21), .move (.tmp 1), none⟩,
    ⟨(some 22), .move (.tmp 5), none⟩,
    ⟨(some 23), .indexAddr 22 (.tmp 21) (.tmp 22), none⟩,
    ⟨(some 24), .load 5 (.tmp 23), none⟩,
    ⟨(some 25), .binOp .neq 5 (.tmp 20) (.tmp 24) 5, none⟩]) c_sheafbook_Same_byte_6)
@[go_sem] theorem c_sheafbook_Same_byte_7_at (rd : Option Nat) (K : Post3) (t : Fr) (m : Mem) : wpM E 11 26 rd c_sheafbook_Same_byte_7 K t m = wpM E 11 26 rd (.seq (.ops [⟨(some 17), .move (.tmp 0), none⟩,
    ⟨(some 18), .move (.tmp 5), none⟩,
    ⟨(some 19), .indexAddr 22 (.tmp 17) (.tmp 18), none⟩,
    ⟨(some 20), .load 5 (.tmp 19), none⟩,
    ⟨(some 21), .move (.tmp 1), none⟩,
    ⟨(some 22), .move (.tmp 5), none⟩,
    ⟨(some 23), .indexAddr 22 (.tmp 21) (.tmp 22), none⟩,
    ⟨(some 24), .load 5 (.tmp 23), none⟩,
    ⟨(some 25), .binOp .neq 5 (.tmp 20) (.tmp 24) 5, none⟩]) c_sheafbook_Same_byte_6) K t m := rfl

def c_sheafbook_Same_byte_8 : MC := (.block 1 c_sheafbook_Same_byte_7)
@[go_sem] theorem c_sheafbook_Same_byte_8_at (rd : Option Nat) (K : Post3) (t : Fr) (m : Mem) : wpM E 11 26 rd c_sheafbook_Same_byte_8 K t m = wpM E 11 26 rd (.block 1 c_sheafbook_Same_byte_7) K t m := rfl

def c_sheafbook_Same_byte_9 : MC := (.seq c_sheafbook_Same_byte_8 (.ops [⟨(some 15), .move (.tmp 5), none⟩,
    ⟨(some 16), .binOp .add 3 (.tmp 15) (.const (.int .i64 1)) 3, none⟩,
    ⟨(some 5), .assign (.tmp 16), none⟩]))
@[go_sem] theorem c_sheafbook_Same_byte_9_at (rd : Option Nat) (K : Post3) (t : Fr) (m : Mem) : wpM E 11 26 rd c_sheafbook_Same_byte_9 K t m = wpM E 11 26 rd (.seq c_sheafbook_Same_byte_8 (.ops [⟨(some 15), .move (.tmp 5), none⟩,
    ⟨(some 16), .binOp .add 3 (.tmp 15) (.const (.int .i64 1)) 3, none⟩,
    ⟨(some 5), .assign (.tmp 16), none⟩])) K t m := rfl

def c_sheafbook_Same_byte_10 : MC := (.seq c_sheafbook_Same_byte_4 c_sheafbook_Same_byte_9)
@[go_sem] theorem c_sheafbook_Same_byte_10_at (rd : Option Nat) (K : Post3) (t : Fr) (m : Mem) : wpM E 11 26 rd c_sheafbook_Same_byte_10 K t m = wpM E 11 26 rd (.seq c_sheafbook_Same_byte_4 c_sheafbook_Same_byte_9) K t m := rfl

def c_sheafbook_Same_byte_11 : MC := (.loop c_sheafbook_Same_byte_10)
theorem c_sheafbook_Same_byte_11_at (rd : Option Nat) (K : Post3) (t : Fr) (m : Mem) : wpM E 11 26 rd c_sheafbook_Same_byte_11 K t m = wpM E 11 26 rd (.loop c_sheafbook_Same_byte_10) K t m := rfl

def c_sheafbook_Same_byte_12 : MC := (.block 0 c_sheafbook_Same_byte_11)
theorem c_sheafbook_Same_byte_12_at (rd : Option Nat) (K : Post3) (t : Fr) (m : Mem) : wpM E 11 26 rd c_sheafbook_Same_byte_12 K t m = wpM E 11 26 rd (.block 0 c_sheafbook_Same_byte_11) K t m := rfl

def c_sheafbook_Same_byte_13 : MC := (.seq (.ops [⟨(some 5), .assign (.const (.int .i64 0)), none⟩]) c_sheafbook_Same_byte_12)
@[go_sem] theorem c_sheafbook_Same_byte_13_at (rd : Option Nat) (K : Post3) (t : Fr) (m : Mem) : wpM E 11 26 rd c_sheafbook_Same_byte_13 K t m = wpM E 11 26 rd (.seq (.ops [⟨(some 5), .assign (.const (.int .i64 0)), none⟩]) c_sheafbook_Same_byte_12) K t m := rfl

def c_sheafbook_Same_byte_14 : MC := (.seq (.ops [⟨(some 4), .assign (.const (.bool true)), none⟩]) .ret)
@[go_sem] theorem c_sheafbook_Same_byte_14_at (rd : Option Nat) (K : Post3) (t : Fr) (m : Mem) : wpM E 11 26 rd c_sheafbook_Same_byte_14 K t m = wpM E 11 26 rd (.seq (.ops [⟨(some 4), .assign (.const (.bool true)), none⟩]) .ret) K t m := rfl

def c_sheafbook_Same_byte_15 : MC := (.seq c_sheafbook_Same_byte_13 c_sheafbook_Same_byte_14)
@[go_sem] theorem c_sheafbook_Same_byte_15_at (rd : Option Nat) (K : Post3) (t : Fr) (m : Mem) : wpM E 11 26 rd c_sheafbook_Same_byte_15 K t m = wpM E 11 26 rd (.seq c_sheafbook_Same_byte_13 c_sheafbook_Same_byte_14) K t m := rfl

def c_sheafbook_Same_byte_16 : MC := (.seq c_sheafbook_Same_byte_2 c_sheafbook_Same_byte_15)
@[go_sem] theorem c_sheafbook_Same_byte_16_at (rd : Option Nat) (K : Post3) (t : Fr) (m : Mem) : wpM E 11 26 rd c_sheafbook_Same_byte_16 K t m = wpM E 11 26 rd (.seq c_sheafbook_Same_byte_2 c_sheafbook_Same_byte_15) K t m := rfl

def c_sheafbook_Same_byte_17 : MC := (.seq (.ops [⟨(some 4), .assign (.const (.bool false)), none⟩]) c_sheafbook_Same_byte_16)
@[go_sem] theorem c_sheafbook_Same_byte_17_at (rd : Option Nat) (K : Post3) (t : Fr) (m : Mem) : wpM E 11 26 rd c_sheafbook_Same_byte_17 K t m = wpM E 11 26 rd (.seq (.ops [⟨(some 4), .assign (.const (.bool false)), none⟩]) c_sheafbook_Same_byte_16) K t m := rfl

@[go_sem] theorem some11 : (E.fn 11).isSome = true := by kernel_rfl
set_option maxRecDepth 100000 in
theorem fn_sheafbook_Same_byte : FnIs E 11 26 [.tmp 4] c_sheafbook_Same_byte_17 := ⟨by kernel_rfl, by kernel_rfl⟩

/-! sheaf/sheafbook.Same[int] -/
abbrev F_sheafbook_Same_int : FuncId := 12
def c_sheafbook_Same_int_0 : MC := (.seq (.ops [⟨(some 4), .assign (.const (.bool false)), none⟩]) .ret)
@[go_sem] theorem c_sheafbook_Same_int_0_at (rd : Option Nat) (K : Post3) (t : Fr) (m : Mem) : wpM E 12 26 rd c_sheafbook_Same_int_0 K t m = wpM E 12 26 rd (.seq (.ops [⟨(some 4), .assign (.const (.bool false)), none⟩]) .ret) K t m := rfl

def c_sheafbook_Same_int_1 : MC := (.cond (.tmp 10) c_sheafbook_Same_int_0 .skip)
@[go_sem] theorem c_sheafbook_Same_int_1_at (rd : Option Nat) (K : Post3) (t : Fr) (m : Mem) : wpM E 12 26 rd c_sheafbook_Same_int_1 K t m = wpM E 12 26 rd (.cond (.tmp 10) c_sheafbook_Same_int_0 .skip) K t m := rfl

def c_sheafbook_Same_int_2 : MC := (.seq (.ops [⟨(some 6), .move (.tmp 0), none⟩,
    ⟨(some 7), .call ⟨.builtin .len, #[(.tmp 6)], #[24]⟩, none⟩,
    ⟨(some 8), .move (.tmp 1), none⟩,
    ⟨(some 9), .call ⟨.builtin .len, #[(.tmp 8)], #[24]⟩, none⟩,
    ⟨(some 10), .binOp .neq 3 (.tmp 7) (.tmp 9) 3, none⟩]) c_sheafbook_Same_int_1)
@[go_sem] theorem c_sheafbook_Same_int_2_at (rd : Option Nat) (K : Post3) (t : Fr) (m : Mem) : wpM E 12 26 rd c_sheafbook_Same_int_2 K t m = wpM E 12 26 rd (.seq (.ops [⟨(some 6), .move (.tmp 0), none⟩,
    ⟨(some 7), .call ⟨.builtin .len, #[(.tmp 6)], #[24]⟩, none⟩,
    ⟨(some 8), .move (.tmp 1), none⟩,
    ⟨(some 9), .call ⟨.builtin .len, #[(.tmp 8)], #[24]⟩, none⟩,
    ⟨(some 10), .binOp .neq 3 (.tmp 7) (.tmp 9) 3, none⟩]) c_sheafbook_Same_int_1) K t m := rfl

def c_sheafbook_Same_int_3 : MC := (.cond (.tmp 14) .skip (.exit 0))
@[go_sem] theorem c_sheafbook_Same_int_3_at (rd : Option Nat) (K : Post3) (t : Fr) (m : Mem) : wpM E 12 26 rd c_sheafbook_Same_int_3 K t m = wpM E 12 26 rd (.cond (.tmp 14) .skip (.exit 0)) K t m := rfl

def c_sheafbook_Same_int_4 : MC := (.seq (.ops [⟨(some 11), .move (.tmp 5), none⟩,
    ⟨(some 12), .move (.tmp 0), none⟩,
    ⟨(some 13), .call ⟨.builtin .len, #[(.tmp 12)], #[24]⟩, none⟩,
    ⟨(some 14), .binOp .lss 3 (.tmp 11) (.tmp 13) 3, none⟩]) c_sheafbook_Same_int_3)
@[go_sem] theorem c_sheafbook_Same_int_4_at (rd : Option Nat) (K : Post3) (t : Fr) (m : Mem) : wpM E 12 26 rd c_sheafbook_Same_int_4 K t m = wpM E 12 26 rd (.seq (.ops [⟨(some 11), .move (.tmp 5), none⟩,
    ⟨(some 12), .move (.tmp 0), none⟩,
    ⟨(some 13), .call ⟨.builtin .len, #[(.tmp 12)], #[24]⟩, none⟩,
    ⟨(some 14), .binOp .lss 3 (.tmp 11) (.tmp 13) 3, none⟩]) c_sheafbook_Same_int_3) K t m := rfl

def c_sheafbook_Same_int_5 : MC := (.seq (.ops [⟨(some 4), .assign (.const (.bool false)), none⟩]) .ret)
@[go_sem] theorem c_sheafbook_Same_int_5_at (rd : Option Nat) (K : Post3) (t : Fr) (m : Mem) : wpM E 12 26 rd c_sheafbook_Same_int_5 K t m = wpM E 12 26 rd (.seq (.ops [⟨(some 4), .assign (.const (.bool false)), none⟩]) .ret) K t m := rfl

def c_sheafbook_Same_int_6 : MC := (.cond (.tmp 25) c_sheafbook_Same_int_5 .skip)
@[go_sem] theorem c_sheafbook_Same_int_6_at (rd : Option Nat) (K : Post3) (t : Fr) (m : Mem) : wpM E 12 26 rd c_sheafbook_Same_int_6 K t m = wpM E 12 26 rd (.cond (.tmp 25) c_sheafbook_Same_int_5 .skip) K t m := rfl

def c_sheafbook_Same_int_7 : MC := (.seq (.ops [⟨(some 17), .move (.tmp 0), none⟩,
    ⟨(some 18), .move (.tmp 5), none⟩,
    ⟨(some 19), .indexAddr 24 (.tmp 17) (.tmp 18), none⟩,
    ⟨(some 20), .load 3 (.tmp 19), none⟩,
    ⟨(some 21), .move (.tmp 1), none⟩,
    ⟨(some 22), .move (.tmp 5), none⟩,
    ⟨(some 23), .indexAddr 24 (.tmp 21) (.tmp 22), none⟩,
    ⟨(some 24), .load 3 (.tmp 23), none⟩,
    ⟨(some 25), .binOp .neq 3 (.tmp 20) (.tmp 24) 3, none⟩]) c_sheafbook_Same_int_6)
@[go_sem] theorem c_sheafbook_Same_int_7_at (rd : Option Nat) (K : Post3) (t : Fr) (m : Mem) : wpM E 12 26 rd c_sheafbook_Same_int_7 K t m = wpM E 12 26 rd (.seq (.ops [⟨(some 17), .move (.tmp 0), none⟩,
    ⟨(some 18), .move (.tmp 5), none⟩,
    ⟨(some 19), .indexAddr 24 (.tmp 17) (.tmp 18), none⟩,
    ⟨(some 20), .load 3 (.tmp 19), none⟩,
    ⟨(some 21), .move (.tmp 1), none⟩,
    ⟨(some 22), .move (.tmp 5), none⟩,
    ⟨(some 23), .indexAddr 24 (.tmp 21) (.tmp 22), none⟩,
    ⟨(some 24), .load 3 (.tmp 23), none⟩,
    ⟨(some 25), .binOp .neq 3 (.tmp 20) (.tmp 24) 3, none⟩]) c_sheafbook_Same_int_6) K t m := rfl

def c_sheafbook_Same_int_8 : MC := (.block 1 c_sheafbook_Same_int_7)
@[go_sem] theorem c_sheafbook_Same_int_8_at (rd : Option Nat) (K : Post3) (t : Fr) (m : Mem) : wpM E 12 26 rd c_sheafbook_Same_int_8 K t m = wpM E 12 26 rd (.block 1 c_sheafbook_Same_int_7) K t m := rfl

def c_sheafbook_Same_int_9 : MC := (.seq c_sheafbook_Same_int_8 (.ops [⟨(some 15), .move (.tmp 5), none⟩,
    ⟨(some 16), .binOp .add 3 (.tmp 15) (.const (.int .i64 1)) 3, none⟩,
    ⟨(some 5), .assign (.tmp 16), none⟩]))
@[go_sem] theorem c_sheafbook_Same_int_9_at (rd : Option Nat) (K : Post3) (t : Fr) (m : Mem) : wpM E 12 26 rd c_sheafbook_Same_int_9 K t m = wpM E 12 26 rd (.seq c_sheafbook_Same_int_8 (.ops [⟨(some 15), .move (.tmp 5), none⟩,
    ⟨(some 16), .binOp .add 3 (.tmp 15) (.const (.int .i64 1)) 3, none⟩,
    ⟨(some 5), .assign (.tmp 16), none⟩])) K t m := rfl

def c_sheafbook_Same_int_10 : MC := (.seq c_sheafbook_Same_int_4 c_sheafbook_Same_int_9)
@[go_sem] theorem c_sheafbook_Same_int_10_at (rd : Option Nat) (K : Post3) (t : Fr) (m : Mem) : wpM E 12 26 rd c_sheafbook_Same_int_10 K t m = wpM E 12 26 rd (.seq c_sheafbook_Same_int_4 c_sheafbook_Same_int_9) K t m := rfl

def c_sheafbook_Same_int_11 : MC := (.loop c_sheafbook_Same_int_10)
theorem c_sheafbook_Same_int_11_at (rd : Option Nat) (K : Post3) (t : Fr) (m : Mem) : wpM E 12 26 rd c_sheafbook_Same_int_11 K t m = wpM E 12 26 rd (.loop c_sheafbook_Same_int_10) K t m := rfl

def c_sheafbook_Same_int_12 : MC := (.block 0 c_sheafbook_Same_int_11)
theorem c_sheafbook_Same_int_12_at (rd : Option Nat) (K : Post3) (t : Fr) (m : Mem) : wpM E 12 26 rd c_sheafbook_Same_int_12 K t m = wpM E 12 26 rd (.block 0 c_sheafbook_Same_int_11) K t m := rfl

def c_sheafbook_Same_int_13 : MC := (.seq (.ops [⟨(some 5), .assign (.const (.int .i64 0)), none⟩]) c_sheafbook_Same_int_12)
@[go_sem] theorem c_sheafbook_Same_int_13_at (rd : Option Nat) (K : Post3) (t : Fr) (m : Mem) : wpM E 12 26 rd c_sheafbook_Same_int_13 K t m = wpM E 12 26 rd (.seq (.ops [⟨(some 5), .assign (.const (.int .i64 0)), none⟩]) c_sheafbook_Same_int_12) K t m := rfl

def c_sheafbook_Same_int_14 : MC := (.seq (.ops [⟨(some 4), .assign (.const (.bool true)), none⟩]) .ret)
@[go_sem] theorem c_sheafbook_Same_int_14_at (rd : Option Nat) (K : Post3) (t : Fr) (m : Mem) : wpM E 12 26 rd c_sheafbook_Same_int_14 K t m = wpM E 12 26 rd (.seq (.ops [⟨(some 4), .assign (.const (.bool true)), none⟩]) .ret) K t m := rfl

def c_sheafbook_Same_int_15 : MC := (.seq c_sheafbook_Same_int_13 c_sheafbook_Same_int_14)
@[go_sem] theorem c_sheafbook_Same_int_15_at (rd : Option Nat) (K : Post3) (t : Fr) (m : Mem) : wpM E 12 26 rd c_sheafbook_Same_int_15 K t m = wpM E 12 26 rd (.seq c_sheafbook_Same_int_13 c_sheafbook_Same_int_14) K t m := rfl

def c_sheafbook_Same_int_16 : MC := (.seq c_sheafbook_Same_int_2 c_sheafbook_Same_int_15)
@[go_sem] theorem c_sheafbook_Same_int_16_at (rd : Option Nat) (K : Post3) (t : Fr) (m : Mem) : wpM E 12 26 rd c_sheafbook_Same_int_16 K t m = wpM E 12 26 rd (.seq c_sheafbook_Same_int_2 c_sheafbook_Same_int_15) K t m := rfl

def c_sheafbook_Same_int_17 : MC := (.seq (.ops [⟨(some 4), .assign (.const (.bool false)), none⟩]) c_sheafbook_Same_int_16)
@[go_sem] theorem c_sheafbook_Same_int_17_at (rd : Option Nat) (K : Post3) (t : Fr) (m : Mem) : wpM E 12 26 rd c_sheafbook_Same_int_17 K t m = wpM E 12 26 rd (.seq (.ops [⟨(some 4), .assign (.const (.bool false)), none⟩]) c_sheafbook_Same_int_16) K t m := rfl

@[go_sem] theorem some12 : (E.fn 12).isSome = true := by kernel_rfl
set_option maxRecDepth 100000 in
theorem fn_sheafbook_Same_int : FnIs E 12 26 [.tmp 4] c_sheafbook_Same_int_17 := ⟨by kernel_rfl, by kernel_rfl⟩

/-! sheaf/sheafbook.Within -/
abbrev F_sheafbook_Within : FuncId := 14
def c_sheafbook_Within_0 : MC := (.cond (.tmp 14) (.ops [⟨(some 15), .move (.tmp 0), none⟩,
    ⟨(some 16), .move (.tmp 2), none⟩,
    ⟨(some 17), .binOp .add 3 (.tmp 15) (.tmp 16) 3, none⟩,
    ⟨(some 18), .move (.tmp 1), none⟩,
    ⟨(some 19), .binOp .sub 3 (.tmp 17) (.tmp 18) 3, none⟩,
    ⟨(some 20), .binOp .add 3 (.tmp 19) (.const (.int .i64 1)) 3, none⟩,
    ⟨(some 0), .assign (.tmp 20), none⟩]) .skip)
@[go_sem] theorem c_sheafbook_Within_0_at (rd : Option Nat) (K : Post3) (t : Fr) (m : Mem) : wpM E 14 24 rd c_sheafbook_Within_0 K t m = wpM E 14 24 rd (.cond (.tmp 14) (.ops [⟨(some 15), .move (.tmp 0), none⟩,
    ⟨(some 16), .move (.tmp 2), none⟩,
    ⟨(some 17), .binOp .add 3 (.tmp 15) (.tmp 16) 3, none⟩,
    ⟨(some 18), .move (.tmp 1), none⟩,
    ⟨(some 19), .binOp .sub 3 (.tmp 17) (.tmp 18) 3, none⟩,
    ⟨(some 20), .binOp .add 3 (.tmp 19) (.const (.int .i64 1)) 3, none⟩,
    ⟨(some 0), .assign (.tmp 20), none⟩]) .skip) K t m := rfl

def c_sheafbook_Within_1 : MC := (.seq (.ops [⟨(some 13), .move (.tmp 0), none⟩,
    ⟨(some 14), .binOp .lss 3 (.tmp 13) (.const (.int .i64 0)) 3, none⟩]) c_sheafbook_Within_0)
@[go_sem] theorem c_sheafbook_Within_1_at (rd : Option Nat) (K : Post3) (t : Fr) (m : Mem) : wpM E 14 24 rd c_sheafbook_Within_1 K t m = wpM E 14 24 rd (.seq (.ops [⟨(some 13), .move (.tmp 0), none⟩,
    ⟨(some 14), .binOp .lss 3 (.tmp 13) (.const (.int .i64 0)) 3, none⟩]) c_sheafbook_Within_0) K t m := rfl

def c_sheafbook_Within_2 : MC := (.seq (.ops [⟨(some 21), .move (.tmp 1), none⟩,
    ⟨(some 22), .move (.tmp 0), none⟩,
    ⟨(some 23), .binOp .add 3 (.tmp 21) (.tmp 22) 3, none⟩,
    ⟨(some 6), .assign (.tmp 23), none⟩]) .ret)
@[go_sem] theorem c_sheafbook_Within_2_at (rd : Option Nat) (K : Post3) (t : Fr) (m : Mem) : wpM E 14 24 rd c_sheafbook_Within_2 K t m = wpM E 14 24 rd (.seq (.ops [⟨(some 21), .move (.tmp 1), none⟩,
    ⟨(some 22), .move (.tmp 0), none⟩,
    ⟨(some 23), .binOp .add 3 (.tmp 21) (.tmp 22) 3, none⟩,
    ⟨(some 6), .assign (.tmp 23), none⟩]) .ret) K t m := rfl

def c_sheafbook_Within_3 : MC := (.seq c_sheafbook_Within_1 c_sheafbook_Within_2)
@[go_sem] theorem c_sheafbook_Within_3_at (rd : Option Nat) (K : Post3) (t : Fr) (m : Mem) : wpM E 14 24 rd c_sheafbook_Within_3 K t m = wpM E 14 24 rd (.seq c_sheafbook_Within_1 c_sheafbook_Within_2) K t m := rfl

def c_sheafbook_Within_4 : MC := (.seq (.ops [⟨(some 7), .move (.tmp 0), none⟩,
    ⟨(some 8), .move (.tmp 2), none⟩,
    ⟨(some 9), .move (.tmp 1), none⟩,
    ⟨(some 10), .binOp .sub 3 (.tmp 8) (.tmp 9) 3, none⟩,
    ⟨(some 11), .binOp .add 3 (.tmp 10) (.const (.int .i64 1)) 3, none⟩,
    ⟨(some 12), .binOp .rem 3 (.tmp 7) (.tmp 11) 3, none⟩,
    ⟨(some 0), .assign (.tmp 12), none⟩]) c_sheafbook_Within_3)
@[go_sem] theorem c_sheafbook_Within_4_at (rd : Option Nat) (K : Post3) (t : Fr) (m : Mem) : wpM E 14 24 rd c_sheafbook_Within_4 K t m = wpM E 14 24 rd (.seq (.ops [⟨(some 7), .move (.tmp 0), none⟩,
    ⟨(some 8), .move (.tmp 2), none⟩,
    ⟨(some 9), .move (.tmp 1), none⟩,
    ⟨(some 10), .binOp .sub 3 (.tmp 8) (.tmp 9) 3, none⟩,
    ⟨(some 11), .binOp .add 3 (.tmp 10) (.const (.int .i64 1)) 3, none⟩,
    ⟨(some 12), .binOp .rem 3 (.tmp 7) (.tmp 11) 3, none⟩,
    ⟨(some 0), .assign (.tmp 12), none⟩]) c_sheafbook_Within_3) K t m := rfl

def c_sheafbook_Within_5 : MC := (.seq (.ops [⟨(some 6), .assign (.const (.int .i64 0)), none⟩]) c_sheafbook_Within_4)
@[go_sem] theorem c_sheafbook_Within_5_at (rd : Option Nat) (K : Post3) (t : Fr) (m : Mem) : wpM E 14 24 rd c_sheafbook_Within_5 K t m = wpM E 14 24 rd (.seq (.ops [⟨(some 6), .assign (.const (.int .i64 0)), none⟩]) c_sheafbook_Within_4) K t m := rfl

@[go_sem] theorem some14 : (E.fn 14).isSome = true := by kernel_rfl
set_option maxRecDepth 100000 in
theorem fn_sheafbook_Within : FnIs E 14 24 [.tmp 6] c_sheafbook_Within_5 := ⟨by kernel_rfl, by kernel_rfl⟩

/-! sheaf/sheafbook.Roomy[byte] -/
abbrev F_sheafbook_Roomy_byte : FuncId := 15
def c_sheafbook_Roomy_byte_0 : MC := (.cond (.tmp 19) .skip (.exit 0))
@[go_sem] theorem c_sheafbook_Roomy_byte_0_at (rd : Option Nat) (K : Post3) (t : Fr) (m : Mem) : wpM E 15 27 rd c_sheafbook_Roomy_byte_0 K t m = wpM E 15 27 rd (.cond (.tmp 19) .skip (.exit 0)) K t m := rfl

def c_sheafbook_Roomy_byte_1 : MC := (.seq (.ops [⟨(some 16), .move (.tmp 6), none⟩,
    ⟨(some 17), .move (.tmp 5), none⟩,
    ⟨(some 18), .call ⟨.builtin .len, #[(.tmp 17)], #[22]⟩, none⟩,
    ⟨(some 19), .binOp .lss 3 (.tmp 16) (.tmp 18) 3, none⟩]) c_sheafbook_Roomy_byte_0)
@[go_sem] theorem c_sheafbook_Roomy_byte_1_at (rd : Option Nat) (K : Post3) (t : Fr) (m : Mem) : wpM E 15 27 rd c_sheafbook_Roomy_byte_1 K t m = wpM E 15 27 rd (.seq (.ops [⟨(some 16), .move (.tmp 6), none⟩,
    ⟨(some 17), .move (.tmp 5), none⟩,
    ⟨(some 18), .call ⟨.builtin .len, #[(.tmp 17)], #[22]⟩, none⟩,
    ⟨(some 19), .binOp .lss 3 (.tmp 16) (.tmp 18) 3, none⟩]) c_sheafbook_Roomy_byte_0) K t m := rfl

def c_sheafbook_Roomy_byte_2 : MC := (.block 1 (.ops [⟨(some 22), .move (.tmp 5), none⟩,
    ⟨(some 23), .move (.tmp 6), none⟩,
    ⟨(some 24), .move (.tmp 1), none⟩,
    ⟨(some 25), .indexAddr 22 (.tmp 22) (.tmp 23), none⟩,
    ⟨none, .store 5 (.tmp 25) (.tmp 24), none⟩]))
@[go_sem] theorem c_sheafbook_Roomy_byte_2_at (rd : Option Nat) (K : Post3) (t : Fr) (m : Mem) : wpM E 15 27 rd c_sheafbook_Roomy_byte_2 K t m = wpM E 15 27 rd (.block 1 (.ops [⟨(some 22), .move (.tmp 5), none⟩,
    ⟨(some 23), .move (.tmp 6), none⟩,
    ⟨(some 24), .move (.tmp 1), none⟩,
    ⟨(some 25), .indexAddr 22 (.tmp 22) (.tmp 23), none⟩,
    ⟨none, .store 5 (.tmp 25) (.tmp 24), none⟩])) K t m := rfl

def c_sheafbook_Roomy_byte_3 : MC := (.seq c_sheafbook_Roomy_byte_2 (.ops [⟨(some 20), .move (.tmp 6), none⟩,
    ⟨(some 21), .binOp .add 3 (.tmp 20) (.const (.int .i64 1)) 3, none⟩,
    ⟨(some 6), .assign (.tmp 21), none⟩]))
@[go_sem] theorem c_sheafbook_Roomy_byte_3_at (rd : Option Nat) (K : Post3) (t : Fr) (m : Mem) : wpM E 15 27 rd c_sheafbook_Roomy_byte_3 K t m = wpM E 15 27 rd (.seq c_sheafbook_Roomy_byte_2 (.ops [⟨(some 20), .move (.tmp 6), none⟩,
    ⟨(some 21), .binOp .add 3 (.tmp 20) (.const (.int .i64 1)) 3, none⟩,
    ⟨(some 6), .assign (.tmp 21), none⟩])) K t m := rfl

def c_sheafbook_Roomy_byte_4 : MC := (.seq c_sheafbook_Roomy_byte_1 c_sheafbook_Roomy_byte_3)
@[go_sem] theorem c_sheafbook_Roomy_byte_4_at (rd : Option Nat) (K : Post3) (t : Fr) (m : Mem) : wpM E 15 27 rd c_sheafbook_Roomy_byte_4 K t m = wpM E 15 27 rd (.seq c_sheafbook_Roomy_byte_1 c_sheafbook_Roomy_byte_3) K t m := rfl

def c_sheafbook_Roomy_byte_5 : MC := (.loop c_sheafbook_Roomy_byte_4)
theorem c_sheafbook_Roomy_byte_5_at (rd : Option Nat) (K : Post3) (t : Fr) (m : Mem) : wpM E 15 27 rd c_sheafbook_Roomy_byte_5 K t m = wpM E 15 27 rd (.loop c_sheafbook_Roomy_byte_4) K t m := rfl

def c_sheafbook_Roomy_byte_6 : MC := (.block 0 c_sheafbook_Roomy_byte_5)
theorem c_sheafbook_Roomy_byte_6_at (rd : Option Nat) (K : Post3) (t : Fr) (m : Mem) : wpM E 15 27 rd c_sheafbook_Roomy_byte_6 K t m = wpM E 15 27 rd (.block 0 c_sheafbook_Roomy_byte_5) K t m := rfl

def c_sheafbook_Roomy_byte_7 : MC := (.seq (.ops [⟨(some 14), .move (.tmp 0), none⟩,
    ⟨(some 15), .call ⟨.builtin .len, #[(.tmp 14)], #[22]⟩, none⟩,
    ⟨(some 6), .assign (.tmp 15), none⟩]) c_sheafbook_Roomy_byte_6)
@[go_sem] theorem c_sheafbook_Roomy_byte_7_at (rd : Option Nat) (K : Post3) (t : Fr) (m : Mem) : wpM E 15 27 rd c_sheafbook_Roomy_byte_7 K t m = wpM E 15 27 rd (.seq (.ops [⟨(some 14), .move (.tmp 0), none⟩,
    ⟨(some 15), .call ⟨.builtin .len, #[(.tmp 14)], #[22]⟩, none⟩,
    ⟨(some 6), .assign (.tmp 15), none⟩]) c_sheafbook_Roomy_byte_6) K t m := rfl

def c_sheafbook_Roomy_byte_8 : MC := (.seq (.ops [⟨(some 26), .move (.tmp 5), none⟩,
    ⟨(some 4), .assign (.tmp 26), none⟩]) .ret)
@[go_sem] theorem c_sheafbook_Roomy_byte_8_at (rd : Option Nat) (K : Post3) (t : Fr) (m : Mem) : wpM E 15 27 rd c_sheafbook_Roomy_byte_8 K t m = wpM E 15 27 rd (.seq (.ops [⟨(some 26), .move (.tmp 5), none⟩,
    ⟨(some 4), .assign (.tmp 26), none⟩]) .ret) K t m := rfl

def c_sheafbook_Roomy_byte_9 : MC := (.seq c_sheafbook_Roomy_byte_7 c_sheafbook_Roomy_byte_8)
@[go_sem] theorem c_sheafbook_Roomy_byte_9_at (rd : Option Nat) (K : Post3) (t : Fr) (m : Mem) : wpM E 15 27 rd c_sheafbook_Roomy_byte_9 K t m = wpM E 15 27 rd (.seq c_sheafbook_Roomy_byte_7 c_sheafbook_Roomy_byte_8) K t m := rfl

def c_sheafbook_Roomy_byte_10 : MC := (.seq (.ops [⟨(some 11), .move (.tmp 5), none⟩,
    ⟨(some 12), .move (.tmp 0), none⟩,
    ⟨(some 13), .call ⟨.builtin .copy, #[(.tmp 11), (.tmp 12)], #[22, 22]⟩, none⟩]) c_sheafbook_Roomy_byte_9)
@[go_sem] theorem c_sheafbook_Roomy_byte_10_at (rd : Option Nat) (K : Post3) (t : Fr) (m : Mem) : wpM E 15 27 rd c_sheafbook_Roomy_byte_10 K t m = wpM E 15 27 rd (.seq (.ops [⟨(some 11), .move (.tmp 5), none⟩,
    ⟨(some 12), .move (.tmp 0), none⟩,
    ⟨(some 13), .call ⟨.builtin .copy, #[(.tmp 11), (.tmp 12)], #[22, 22]⟩, none⟩]) c_sheafbook_Roomy_byte_9) K t m := rfl

def c_sheafbook_Roomy_byte_11 : MC := (.seq (.ops [⟨(some 7), .move (.tmp 0), none⟩,
    ⟨(some 8), .call ⟨.builtin .len, #[(.tmp 7)], #[22]⟩, none⟩,
    ⟨(some 9), .binOp .add 3 (.tmp 8) (.const (.int .i64 80)) 3, none⟩,
    ⟨(some 10), .makeSlice 22 (.tmp 9) (.tmp 9), none⟩,
    ⟨(some 5), .assign (.tmp 10), none⟩]) c_sheafbook_Roomy_byte_10)
@[go_sem] theorem c_sheafbook_Roomy_byte_11_at (rd : Option Nat) (K : Post3) (t : Fr) (m : Mem) : wpM E 15 27 rd c_sheafbook_Roomy_byte_11 K t m = wpM E 15 27 rd (.seq (.ops [⟨(some 7), .move (.tmp 0), none⟩,
    ⟨(some 8), .call ⟨.builtin .len, #[(.tmp 7)], #[22]⟩, none⟩,
    ⟨(some 9), .binOp .add 3 (.tmp 8) (.const (.int .i64 80)) 3, none⟩,
    ⟨(some 10), .makeSlice 22 (.tmp 9) (.tmp 9), none⟩,
    ⟨(some 5), .assign (.tmp 10), none⟩]) c_sheafbook_Roomy_byte_10) K t m := rfl

def c_sheafbook_Roomy_byte_12 : MC := (.seq (.ops [⟨(some 4), .assign (.const (.slice none 0 0)), none⟩]) c_sheafbook_Roomy_byte_11)
@[go_sem] theorem c_sheafbook_Roomy_byte_12_at (rd : Option Nat) (K : Post3) (t : Fr) (m : Mem) : wpM E 15 27 rd c_sheafbook_Roomy_byte_12 K t m = wpM E 15 27 rd (.seq (.ops [⟨(some 4), .assign (.const (.slice none 0 0)), none⟩]) c_sheafbook_Roomy_byte_11) K t m := rfl

@[go_sem] theorem some15 : (E.fn 15).isSome = true := by kernel_rfl
set_option maxRecDepth 100000 in
theorem fn_sheafbook_Roomy_byte : FnIs E 15 27 [.tmp 4] c_sheafbook_Roomy_byte_12 := ⟨by kernel_rfl, by kernel_rfl⟩

/-! sheaf/sheafbook.Intact[byte] -/
abbrev F_sheafbook_Intact_byte : FuncId := 19
def c_sheafbook_Intact_byte_0 : MC := (.seq (.ops [⟨(some 6), .assign (.const (.bool false)), none⟩]) .ret)
@[go_sem] theorem c_sheafbook_Intact_byte_0_at (rd : Option Nat) (K : Post3) (t : Fr) (m : Mem) : wpM E 19 37 rd c_sheafbook_Intact_byte_0 K t m = wpM E 19 37 rd (.seq (.ops [⟨(some 6), .assign (.const (.bool false)), none⟩]) .ret) K t m := rfl

def c_sheafbook_Intact_byte_1 : MC := (.cond (.tmp 22) c_sheafbook_Intact_byte_0 .skip)
@[go_sem] theorem c_sheafbook_Intact_byte_1_at (rd : Option Nat) (K : Post3) (t : Fr) (m : Mem) : wpM E 19 37 rd c_sheafbook_Intact_byte_1 K t m = wpM E 19 37 rd (.cond (.tmp 22) c_sheafbook_Intact_byte_0 .skip) K t m := rfl

def c_sheafbook_Intact_byte_2 : MC := (.seq (.ops [⟨(some 8), .move (.tmp 0), none⟩,
    ⟨(some 9), .call ⟨.builtin .len, #[(.tmp 8)], #[22]⟩, none⟩,
    ⟨(some 10), .move (.tmp 1), none⟩,
    ⟨(some 11), .call ⟨.builtin .len, #[(.tmp 10)], #[22]⟩, none⟩,
    ⟨(some 12), .binOp .add 3 (.tmp 11) (.const (.int .i64 80)) 3, none⟩,
    ⟨(some 13), .binOp .neq 3 (.tmp 9) (.tmp 12) 3, none⟩,
    ⟨(some 14), .move (.tmp 13), none⟩,
    ⟨(some 15), .move (.tmp 0), (some (some 14, false))⟩,
    ⟨(some 16), .move (.tmp 1), (some (some 14, false))⟩,
    ⟨(some 17), .call ⟨.builtin .len, #[(.tmp 16)], #[22]⟩, (some (some 14, false))⟩,
    ⟨(some 18), .slice 22 (.tmp 15) none (some (.tmp 17)) none, (some (some 14, false))⟩,
    ⟨(some 19), .move (.tmp 1), (some (some 14, false))⟩,
    ⟨(some 20), .call ⟨.value (.func 11), #[(.tmp 18), (.tmp 19)], #[22, 22]⟩, (some (some 14, false))⟩,
    ⟨(some 21), .unOp .not 4 (.tmp 20), (some (some 14, false))⟩,
    ⟨(some 22), .pick (.tmp 14) (.const (.bool true)) (.tmp 21), none⟩]) c_sheafbook_Intact_byte_1)
@[go_sem] theorem c_sheafbook_Intact_byte_2_at (rd : Option Nat) (K : Post3) (t : Fr) (m : Mem) : wpM E 19 37 rd c_sheafbook_Intact_byte_2 K t m = wpM E 19 37 rd (.seq (.ops [⟨(some 8), .move (.tmp 0), none⟩,
    ⟨(some 9), .call ⟨.builtin .len, #[(.tmp 8)], #[22]⟩, none⟩,
    ⟨(some 10), .move (.tmp 1), none⟩,
    ⟨(some 11), .call ⟨.builtin .len, #[(.tmp 10)], #[22]⟩, none⟩,
    ⟨(some 12), .binOp .add 3 (.tmp 11) (.const (.int .i64 80)) 3, none⟩,
    ⟨(some 13), .binOp .neq 3 (.tmp 9) (.tmp 12) 3, none⟩,
    ⟨(some 14), .move (.tmp 13), none⟩,
    ⟨(some 15), .move (.tmp 0), (some (some 14, false))⟩,
    ⟨(some 16), .move (.tmp 1), (some (some 14, false))⟩,
    ⟨(some 17), .call ⟨.builtin .len, #[(.tmp 16)], #[22]⟩, (some (some 14, false))⟩,
    ⟨(some 18), .slice 22 (.tmp 15) none (some (.tmp 17)) none, (some (some 14, false))⟩,
    ⟨(some 19), .move (.tmp 1), (some (some 14, false))⟩,
    ⟨(some 20), .call ⟨.value (.func 11), #[(.tmp 18), (.tmp 19)], #[22, 22]⟩, (some (some 14, false))⟩,
    ⟨(some 21), .unOp .not 4 (.tmp 20), (some (some 14, false))⟩,
    ⟨(some 22), .pick (.tmp 14) (.const (.bool true)) (.tmp 21), none⟩]) c_sheafbook_Intact_byte_1) K t m := rfl

def c_sheafbook_Intact_byte_3 : MC := (.cond (.tmp 28) .skip (.exit 0))
@[go_sem] theorem c_sheafbook_Intact_byte_3_at (rd : Option Nat) (K : Post3) (t : Fr) (m : Mem) : wpM E 19 37 rd c_sheafbook_Intact_byte_3 K t m = wpM E 19 37 rd (.cond (.tmp 28) .skip (.exit 0)) K t m := rfl

def c_sheafbook_Intact_byte_4 : MC := (.seq (.ops [⟨(some 25), .move (.tmp 7), none⟩,
    ⟨(some 26), .move (.tmp 0), none⟩,
    ⟨(some 27), .call ⟨.builtin .len, #[(.tmp 26)], #[22]⟩, none⟩,
    ⟨(some 28), .binOp .lss 3 (.tmp 25) (.tmp 27) 3, none⟩]) c_sheafbook_Intact_byte_3)
@[go_sem] theorem c_sheafbook_Intact_byte_4_at (rd : Option Nat) (K : Post3) (t : Fr) (m : Mem) : wpM E 19 37 rd c_sheafbook_Intact_byte_4 K t m = wpM E 19 37 rd (.seq (.ops [⟨(some 25), .move (.tmp 7), none⟩,
    ⟨(some 26), .move (.tmp 0), none⟩,
    ⟨(some 27), .call ⟨.builtin .len, #[(.tmp 26)], #[22]⟩, none⟩,
    ⟨(some 28), .binOp .lss 3 (.tmp 25) (.tmp 27) 3, none⟩]) c_sheafbook_Intact_byte_3) K t m := rfl

def c_sheafbook_Intact_byte_5 : MC := (.seq (.ops [⟨(some 6), .assign (.const (.bool false)), none⟩]) .ret)
@[go_sem] theorem c_sheafbook_Intact_byte_5_at (rd : Option Nat) (K : Post3) (t : Fr) (m : Mem) : wpM E 19 37 rd c_sheafbook_Intact_byte_5 K t m = wpM E 19 37 rd (.seq (.ops [⟨(some 6), .assign (.const (.bool false)), none⟩]) .ret) K t m := rfl

def c_sheafbook_Intact_byte_6 : MC := (.cond (.tmp 36) c_sheafbook_Intact_byte_5 .skip)
@[go_sem] theorem c_sheafbook_Intact_byte_6_at (rd : Option Nat) (K : Post3) (t : Fr) (m : Mem) : wpM E 19 37 rd c_sheafbook_Intact_byte_6 K t m = wpM E 19 37 rd (.cond (.tmp 36) c_sheafbook_Intact_byte_5 .skip) K t m := rfl

def c_sheafbook_Intact_byte_7 : MC := (.seq (.ops [⟨(some 31), .move (.tmp 0), none⟩,
    ⟨(some 32), .move (.tmp 7), none⟩,
    ⟨(some 33), .indexAddr 22 (.tmp 31) (.tmp 32), none⟩,
    ⟨(some 34), .load 5 (.tmp 33), none⟩,
    ⟨(some 35), .move (.tmp 2), none⟩,
    ⟨(some 36), .binOp .neq 5 (.tmp 34) (.tmp 35) 5, none⟩]) c_sheafbook_Intact_byte_6)
@[go_sem] theorem c_sheafbook_Intact_byte_7_at (rd : Option Nat) (K : Post3) (t : Fr) (m : Mem) : wpM E 19 37 rd c_sheafbook_Intact_byte_7 K t m = wpM E 19 37 rd (.seq (.ops [⟨(some 31), .move (.tmp 0), none⟩,
    ⟨(some 32), .move (.tmp 7), none⟩,
    ⟨(some 33), .indexAddr 22 (.tmp 31) (.tmp 32), none⟩,
    ⟨(some 34), .load 5 (.tmp 33), none⟩,
    ⟨(some 35), .move (.tmp 2), none⟩,
    ⟨(some 36), .binOp .neq 5 (.tmp 34) (.tmp 35) 5, none⟩]) c_sheafbook_Intact_byte_6) K t m := rfl

def c_sheafbook_Intact_byte_8 : MC := (.block 1 c_sheafbook_Intact_byte_7)
@[go_sem] theorem c_sheafbook_Intact_byte_8_at (rd : Option Nat) (K : Post3) (t : Fr) (m : Mem) : wpM E 19 37 rd c_sheafbook_Intact_byte_8 K t m = wpM E 19 37 rd (.block 1 c_sheafbook_Intact_byte_7) K t m := rfl

def c_sheafbook_Intact_byte_9 : MC := (.seq c_sheafbook_Intact_byte_8 (.ops [⟨(some 29), .move (.tmp 7), none⟩,
    ⟨(some 30), .binOp .add 3 (.tmp 29) (.const (.int .i64 1)) 3, none⟩,
    ⟨(some 7), .assign (.tmp 30), none⟩]))
@[go_sem] theorem c_sheafbook_Intact_byte_9_at (rd : Option Nat) (K : Post3) (t : Fr) (m : Mem) : wpM E 19 37 rd c_sheafbook_Intact_byte_9 K t m = wpM E 19 37 rd (.seq c_sheafbook_Intact_byte_8 (.ops [⟨(some 29), .move (.tmp 7), none⟩,
    ⟨(some 30), .binOp .add 3 (.tmp 29) (.const (.int .i64 1)) 3, none⟩,
    ⟨(some 7), .assign (.tmp 30), none⟩])) K t m := rfl

def c_sheafbook_Intact_byte_10 : MC := (.seq c_sheafbook_Intact_byte_4 c_sheafbook_Intact_byte_9)
@[go_sem] theorem c_sheafbook_Intact_byte_10_at (rd : Option Nat) (K : Post3) (t : Fr) (m : Mem) : wpM E 19 37 rd c_sheafbook_Intact_byte_10 K t m = wpM E 19 37 rd (.seq c_sheafbook_Intact_byte_4 c_sheafbook_Intact_byte_9) K t m := rfl

def c_sheafbook_Intact_byte_11 : MC := (.loop c_sheafbook_Intact_byte_10)
theorem c_sheafbook_Intact_byte_11_at (rd : Option Nat) (K : Post3) (t : Fr) (m : Mem) : wpM E 19 37 rd c_sheafbook_Intact_byte_11 K t m = wpM E 19 37 rd (.loop c_sheafbook_Intact_byte_10) K t m := rfl

def c_sheafbook_Intact_byte_12 : MC := (.block 0 c_sheafbook_Intact_byte_11)
theorem c_sheafbook_Intact_byte_12_at (rd : Option Nat) (K : Post3) (t : Fr) (m : Mem) : wpM E 19 37 rd c_sheafbook_Intact_byte_12 K t m = wpM E 19 37 rd (.block 0 c_sheafbook_Intact_byte_11) K t m := rfl

def c_sheafbook_Intact_byte_13 : MC := (.seq (.ops [⟨(some 23), .move (.tmp 1), none⟩,
    ⟨(some 24), .call ⟨.builtin .len, #[(.tmp 23)], #[22]⟩, none⟩,
    ⟨(some 7), .assign (.tmp 24), none⟩]) c_sheafbook_Intact_byte_12)
@[go_sem] theorem c_sheafbook_Intact_byte_13_at (rd : Option Nat) (K : Post3) (t : Fr) (m : Mem) : wpM E 19 37 rd c_sheafbook_Intact_byte_13 K t m = wpM E 19 37 rd (.seq (.ops [⟨(some 23), .move (.tmp 1), none⟩,
    ⟨(some 24), .call ⟨.builtin .len, #[(.tmp 23)], #[22]⟩, none⟩,
    ⟨(some 7), .assign (.tmp 24), none⟩]) c_sheafbook_Intact_byte_12) K t m := rfl

def c_sheafbook_Intact_byte_14 : MC := (.seq (.ops [⟨(some 6), .assign (.const (.bool true)), none⟩]) .ret)
@[go_sem] theorem c_sheafbook_Intact_byte_14_at (rd : Option Nat) (K : Post3) (t : Fr) (m : Mem) : wpM E 19 37 rd c_sheafbook_Intact_byte_14 K t m = wpM E 19 37 rd (.seq (.ops [⟨(some 6), .assign (.const (.bool true)), none⟩]) .ret) K t m := rfl

def c_sheafbook_Intact_byte_15 : MC := (.seq c_sheafbook_Intact_byte_13 c_sheafbook_Intact_byte_14)
@[go_sem] theorem c_sheafbook_Intact_byte_15_at (rd : Option Nat) (K : Post3) (t : Fr) (m : Mem) : wpM E 19 37 rd c_sheafbook_Intact_byte_15 K t m = wpM E 19 37 rd (.seq c_sheafbook_Intact_byte_13 c_sheafbook_Intact_byte_14) K t m := rfl

def c_sheafbook_Intact_byte_16 : MC := (.seq c_sheafbook_Intact_byte_2 c_sheafbook_Intact_byte_15)
@[go_sem] theorem c_sheafbook_Intact_byte_16_at (rd : Option Nat) (K : Post3) (t : Fr) (m : Mem) : wpM E 19 37 rd c_sheafbook_Intact_byte_16 K t m = wpM E 19 37 rd (.seq c_sheafbook_Intact_byte_2 c_sheafbook_Intact_byte_15) K t m := rfl

def c_sheafbook_Intact_byte_17 : MC := (.seq (.ops [⟨(some 6), .assign (.const (.bool false)), none⟩]) c_sheafbook_Intact_byte_16)
@[go_sem] theorem c_sheafbook_Intact_byte_17_at (rd : Option Nat) (K : Post3) (t : Fr) (m : Mem) : wpM E 19 37 rd c_sheafbook_Intact_byte_17 K t m = wpM E 19 37 rd (.seq (.ops [⟨(some 6), .assign (.const (.bool false)), none⟩]) c_sheafbook_Intact_byte_16) K t m := rfl

@[go_sem] theorem some19 : (E.fn 19).isSome = true := by kernel_rfl
set_option maxRecDepth 100000 in
theorem fn_sheafbook_Intact_byte : FnIs E 19 37 [.tmp 6] c_sheafbook_Intact_byte_17 := ⟨by kernel_rfl, by kernel_rfl⟩

/-! bytes.Equal -/
abbrev F_bytes_Equal : FuncId := 21
def c_bytes_Equal_0 : MC := (.seq (.ops [⟨(some 5), .move (.tmp 0), none⟩,
    ⟨(some 6), .convert 22 9 (.tmp 5), none⟩,
    ⟨(some 7), .move (.tmp 1), none⟩,
    ⟨(some 8), .convert 22 9 (.tmp 7), none⟩,
    ⟨(some 9), .binOp .eql 9 (.tmp 6) (.tmp 8) 9, none⟩,
    ⟨(some 4), .assign (.tmp 9), none⟩]) .ret)
@[go_sem] theorem c_bytes_Equal_0_at (rd : Option Nat) (K : Post3) (t : Fr) (m : Mem) : wpM E 21 10 rd c_bytes_Equal_0 K t m = wpM E 21 10 rd (.seq (.ops [⟨(some 5), .move (.tmp 0), none⟩,
    ⟨(some 6), .convert 22 9 (.tmp 5), none⟩,
    ⟨(some 7), .move (.tmp 1), none⟩,
    ⟨(some 8), .convert 22 9 (.tmp 7), none⟩,
    ⟨(some 9), .binOp .eql 9 (.tmp 6) (.tmp 8) 9, none⟩,
    ⟨(some 4), .assign (.tmp 9), none⟩]) .ret) K t m := rfl

def c_bytes_Equal_1 : MC := (.seq (.ops [⟨(some 4), .assign (.const (.bool false)), none⟩]) c_bytes_Equal_0)
@[go_sem] theorem c_bytes_Equal_1_at (rd : Option Nat) (K : Post3) (t : Fr) (m : Mem) : wpM E 21 10 rd c_bytes_Equal_1 K t m = wpM E 21 10 rd (.seq (.ops [⟨(some 4), .assign (.const (.bool false)), none⟩]) c_bytes_Equal_0) K t m := rfl

@[go_sem] theorem some21 : (E.fn 21).isSome = true := by kernel_rfl
set_option maxRecDepth 100000 in
theorem fn_bytes_Equal : FnIs E 21 10 [.tmp 4] c_bytes_Equal_1 := ⟨by kernel_rfl, by kernel_rfl⟩

end Go.Proofs.Ytkbjkmhmkefckaa.W
